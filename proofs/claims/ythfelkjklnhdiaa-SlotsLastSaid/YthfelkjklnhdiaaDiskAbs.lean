/- A disk of sectors: what it holds, as lists of bytes; what its calls do. No program in sight. -/
import Derived.Test.YthfelkjklnhdiaaOps4
namespace Bx
open Go Go.RowKit
/-- l, with vs from q on. -/
def putL (l : List UInt8) (q : Nat) (vs : List UInt8) : List UInt8 := l.take q ++ vs ++ l.drop (q + vs.length)
theorem putL_length {l vs : List UInt8} {q : Nat} (h : q + vs.length ≤ l.length) : (putL l q vs).length = l.length := by
  simp [putL]; omega
theorem putL_get {l vs : List UInt8} {q : Nat} (h : q + vs.length ≤ l.length) (j : Nat) : (putL l q vs)[j]? = if q ≤ j ∧ j < q + vs.length then vs[j - q]? else l[j]? := by
  unfold putL
  have hq : (l.take q).length = q := by rw [List.length_take]; omega
  by_cases h1 : j < q
  · rw [if_neg (by omega), List.append_assoc, List.getElem?_append_left (by omega), List.getElem?_take, if_pos h1]
  · by_cases h2 : j < q + vs.length
    · rw [if_pos ⟨by omega, h2⟩, List.append_assoc, List.getElem?_append_right (by omega), hq, List.getElem?_append_left (by omega)]
    · rw [if_neg (by omega), List.getElem?_append_right (by rw [List.length_append]; omega), List.length_append, hq, List.getElem?_drop]
      congr 1; omega
theorem putL_nil (l : List UInt8) (q : Nat) : putL l q [] = l := by simp [putL]
/-- Sector a of l. -/
def secL (size : Nat) (l : List UInt8) (a : Nat) : List UInt8 := (l.drop (a * size)).take size
theorem secL_length {size a : Nat} {l : List UInt8} (h : a * size + size ≤ l.length) : (secL size l a).length = size := by
  simp [secL]; omega
theorem secL_get {size a j : Nat} {l : List UInt8} : (secL size l a)[j]? = if j < size then l[a * size + j]? else none := by
  unfold secL
  rw [List.getElem?_take]
  split
  · rw [List.getElem?_drop]
  · rfl
theorem secL_same {size a : Nat} {l vs : List UInt8} (hv : vs.length = size) (h : a * size + size ≤ l.length) : secL size (putL l (a * size) vs) a = vs := by
  apply List.ext_getElem?
  intro j
  rw [secL_get]
  split
  · rw [putL_get (by omega), if_pos ⟨by omega, by omega⟩]; congr 1; omega
  · rw [List.getElem?_eq_none (by omega)]
theorem mul_apart {size a c j : Nat} (hac : a ≠ c) (hj : j < size) : ¬ (c * size ≤ a * size + j ∧ a * size + j < c * size + size) := by
  rintro ⟨h1, h2⟩
  rcases Nat.lt_or_gt_of_ne hac with h | h
  · have : (a + 1) * size ≤ c * size := Nat.mul_le_mul_right _ h
    rw [Nat.add_mul, Nat.one_mul] at this; omega
  · have : (c + 1) * size ≤ a * size := Nat.mul_le_mul_right _ h
    rw [Nat.add_mul, Nat.one_mul] at this; omega
theorem secL_other {size a c : Nat} {l vs : List UInt8} (hv : vs.length = size) (h : c * size + size ≤ l.length) (hac : a ≠ c) : secL size (putL l (c * size) vs) a = secL size l a := by
  apply List.ext_getElem?
  intro j
  rw [secL_get, secL_get]
  split
  · rw [putL_get (by omega), if_neg (by rw [hv]; exact mul_apart hac (by assumption))]
  · rfl
/-- A pending write: its sector, its bytes, and where they lie. -/
structure Pnd where
  a : Nat
  b : List UInt8
  box : Nat
def applyP (size : Nat) (l : List UInt8) (p : Pnd) : List UInt8 := putL l (p.a * size) p.b
def allP (size : Nat) (l : List UInt8) (ps : List Pnd) : List UInt8 := ps.foldl (applyP size) l
theorem allP_push (size : Nat) (l : List UInt8) (ps : List Pnd) (p : Pnd) : allP size l (ps ++ [p]) = applyP size (allP size l ps) p := by
  simp [allP, List.foldl_append]
theorem mul_room {a many size : Nat} (h : a < many) : a * size + size ≤ many * size := by
  have : (a + 1) * size ≤ many * size := Nat.mul_le_mul_right _ h
  rw [Nat.add_mul, Nat.one_mul] at this; exact this
/-- Each pending write is one of a sector that is there, of its size. -/
def PsOk (many size : Nat) (ps : List Pnd) : Prop := ∀ p ∈ ps, p.a < many ∧ p.b.length = size
theorem allP_length {many size : Nat} : ∀ {ps : List Pnd} {l : List UInt8}, PsOk many size ps → l.length = many * size → (allP size l ps).length = many * size
  | [], _, _, h => h
  | p :: ps, l, hp, h => by
    have h1 := hp p (List.mem_cons_self ..)
    have h2 := mul_room (size := size) h1.1
    exact allP_length (ps := ps) (fun q hq => hp q (List.mem_cons_of_mem _ hq)) (by show (putL l (p.a * size) p.b).length = _; rw [putL_length (by omega)]; exact h)
def lastAux (k : Int) : List Pnd → Option Int
  | [] => none
  | p :: ps => if (p.a : Int) = k then some (ps.length : Int) else lastAux k ps
/-- The place of the last pending write of a sector. -/
def lastIdx (ps : List Pnd) (k : Int) : Option Int := lastAux k ps.reverse
theorem lastIdx_push (ps : List Pnd) (p : Pnd) (k : Int) : lastIdx (ps ++ [p]) k = if k = (p.a : Int) then some (ps.length : Int) else lastIdx ps k := by
  unfold lastIdx
  rw [List.reverse_append]
  show (if (p.a : Int) = k then _ else _) = _
  by_cases h : k = (p.a : Int)
  · rw [if_pos h.symm, if_pos h]; simp
  · rw [if_neg (Ne.symm h), if_neg h]; rfl
theorem last_rev {many size a : Nat} {l : List UInt8} (hl : l.length = many * size) : ∀ (r : List Pnd), PsOk many size r.reverse →
    (lastAux (a : Int) r = none → secL size (allP size l r.reverse) a = secL size l a) ∧
    (∀ i, lastAux (a : Int) r = some i → ∃ (j : Nat) (p : Pnd), i = (j : Int) ∧ r.reverse[j]? = some p ∧ secL size (allP size l r.reverse) a = p.b)
  | [], _ => ⟨fun _ => rfl, fun i h => by cases h⟩
  | p :: r, hp => by
    have hrev : (p :: r).reverse = r.reverse ++ [p] := by simp
    rw [hrev] at hp ⊢
    have hp1 : PsOk many size r.reverse := fun q hq => hp q (List.mem_append_left _ hq)
    have hpp := hp p (by simp)
    have hroom := mul_room (size := size) hpp.1
    have hlen := allP_length (l := l) hp1 hl
    obtain ⟨ih1, ih2⟩ := last_rev (a := a) hl r hp1
    rw [allP_push]
    unfold lastAux
    by_cases h : (p.a : Int) = (a : Int)
    · have ha : p.a = a := by omega
      rw [if_pos h]
      refine ⟨fun h => absurd h (by simp), fun i hi => ?_⟩
      injection hi with hi
      refine ⟨r.length, p, hi.symm, by simp, ?_⟩
      rw [← ha]
      exact secL_same hpp.2 (by omega)
    · rw [if_neg h]
      have hne : a ≠ p.a := by omega
      have hsec : secL size (applyP size (allP size l r.reverse) p) a = secL size (allP size l r.reverse) a := secL_other hpp.2 (by omega) hne
      rw [hsec]
      refine ⟨ih1, fun i hi => ?_⟩
      obtain ⟨j, q, h1, h2, h3⟩ := ih2 i hi
      exact ⟨j, q, h1, by rw [List.getElem?_append_left (List.getElem?_eq_some_iff.1 h2).1]; exact h2, h3⟩
theorem last_spec {many size a : Nat} {l : List UInt8} {ps : List Pnd} (hl : l.length = many * size) (hp : PsOk many size ps) :
    (lastIdx ps (a : Int) = none → secL size (allP size l ps) a = secL size l a) ∧
    (∀ i, lastIdx ps (a : Int) = some i → ∃ (j : Nat) (p : Pnd), i = (j : Int) ∧ ps[j]? = some p ∧ secL size (allP size l ps) a = p.b) := by
  have := last_rev (a := a) hl ps.reverse (by rw [List.reverse_reverse]; exact hp)
  rw [List.reverse_reverse] at this
  exact this
/-- Whether a call that is OK takes the disk down. -/
structure Flg where
  down : Bool
  breaks : Bool
  left : Int
def Flg.cnt (g : Flg) : Flg := if g.breaks = false then g else if g.left - 1 = 0 then ⟨true, false, g.left - 1⟩ else ⟨g.down, true, g.left - 1⟩
def Flg.ok (g : Flg) : Prop := -9223372036854775808 ≤ g.left ∧ g.left ≤ 9223372036854775807 ∧ (g.breaks = true → 1 ≤ g.left)
theorem Flg.cnt_ok {g : Flg} (h : g.ok) : g.cnt.ok := by
  obtain ⟨h1, h2, h3⟩ := h
  unfold Flg.cnt
  cases hb : g.breaks with
  | false => rw [if_pos rfl]; exact ⟨h1, h2, by rw [hb]; intro h; cases h⟩
  | true =>
    have := h3 hb
    rw [if_neg (by simp)]
    split
    · exact ⟨by show _ ≤ g.left - 1; omega, by show g.left - 1 ≤ _; omega, fun h => by cases h⟩
    · exact ⟨by show _ ≤ g.left - 1; omega, by show g.left - 1 ≤ _; omega, fun _ => by show 1 ≤ g.left - 1; omega⟩
end Bx
