/- Slots and ticks: layer 18's data and what it computes, and the plain laws on them. No program in sight. -/
import Derived.Test.YtcfadhjiijngmaaPlanData
namespace Bx
open Go Go.RowKit
structure Slt where
  frame : Int
  window : Int
  off : Int
deriving DecidableEq
def Slt.cells (s : Slt) : List Value := [.int .i64 s.frame, .int .i64 s.window, .int .i64 s.off]
def Slt.zero : Slt := ⟨0, 0, 0⟩
theorem Slt.eqL (x y : Slt) : Bx.eqL x.cells y.cells = decide (x = y) := by
  cases x; cases y; simp [Slt.cells, Bx.eqL, eq1, Bool.decide_and]
theorem Slt.neL (x y : Slt) : (!Bx.eqL x.cells y.cells) = decide (¬ x = y) := by
  rw [Slt.eqL]; by_cases h : x = y <;> simp [h]
theorem Slt.one (xs : List Slt) : (xs.map Slt.cells).flatten.all Value.oneCell' = true := by
  induction xs with
  | nil => rfl
  | cons x xs ih => simp only [List.map_cons, List.flatten_cons, List.all_append, ih, Bool.and_true]; rfl

/-- What a plan that may be has. -/
structure Pln.Ok (p : Pln) : Prop where
  mem : 1 ≤ p.mem ∧ p.mem ≤ 4096
  psl : 1 ≤ p.ps.length ∧ p.ps.length ≤ 8
  wsl : 1 ≤ p.ws.length ∧ p.ws.length ≤ 32
  csl : p.cs.length ≤ 16
  part : ∀ i x, p.ps[i]? = some x → partErr p.mem (p.ps.take i) x = 0
  win : ∀ x ∈ p.ws, -1 ≤ x.1 ∧ x.1 < (p.ps.length : Int) ∧ 1 ≤ x.2 ∧ x.2 ≤ 1000
  dr : p.drained = true
  chan : ∀ c ∈ p.cs, chanErr p.ps.length c = 0
theorem Pln.ok_of {p : Pln} (h : p.err = 0) : p.Ok := by
  unfold Pln.err at h
  by_cases hn : p.numBad = true
  · rw [if_pos hn] at h; omega
  rw [if_neg hn] at h
  by_cases h1 : firstErr p.partAt p.ps.length ≠ 0
  · rw [if_pos h1] at h; exact absurd h h1
  rw [if_neg h1] at h
  by_cases h2 : firstErr p.winAt p.ws.length ≠ 0
  · rw [if_pos h2] at h; exact absurd h h2
  rw [if_neg h2] at h
  by_cases h3 : p.drained = false
  · rw [if_pos h3] at h; omega
  rw [if_neg h3] at h
  simp only [Pln.numBad, decide_eq_true_eq] at hn
  refine ⟨by omega, by omega, by omega, by omega, fun i x hx => ?_, fun x hx => ?_, by simpa using h3, fun c hc => ?_⟩
  · have := firstErr_zero (Classical.not_not.1 h1) i (List.getElem?_eq_some_iff.1 hx).1
    unfold Pln.partAt at this
    rw [hx] at this
    exact this
  · obtain ⟨i, hi⟩ := List.mem_iff_getElem?.1 hx
    have := firstErr_zero (Classical.not_not.1 h2) i (List.getElem?_eq_some_iff.1 hi).1
    unfold Pln.winAt winErr at this
    rw [hi] at this
    simp only at this
    split at this
    · omega
    · split at this
      · omega
      · omega
  · obtain ⟨i, hi⟩ := List.mem_iff_getElem?.1 hc
    have := firstErr_zero h i (List.getElem?_eq_some_iff.1 hi).1
    unfold Pln.chanAt at this
    rw [hi] at this
    exact this
/-- The ticks aheadT of window k. -/
def aheadT (ws : List (Int × Int)) (k : Nat) : Int := ticksOf (fun _ => true) (ws.take k)
theorem aheadT_succ {ws : List (Int × Int)} {k : Nat} {x : Int × Int} (h : ws[k]? = some x) (hx : 1 ≤ x.2 ∧ x.2 ≤ 1000) : aheadT ws (k + 1) = aheadT ws k + x.2 := by
  unfold aheadT
  rw [ticksOf_take h, if_pos rfl]
  unfold tk; omega
theorem aheadT_bd {ws : List (Int × Int)} (k : Nat) : 0 ≤ aheadT ws k ∧ aheadT ws k ≤ 1000 * (ws.length : Int) := ticksOf_take_bd _ _ _
theorem aheadT_le {ws : List (Int × Int)} (hw : ∀ x ∈ ws, 1 ≤ x.2 ∧ x.2 ≤ 1000) {i j : Nat} (hij : i ≤ j) : aheadT ws i ≤ aheadT ws j := by
  induction j with
  | zero => rw [show i = 0 by omega]; exact Int.le_refl _
  | succ j ih =>
    by_cases e : i = j + 1
    · rw [e]; exact Int.le_refl _
    · have h1 := ih (by omega)
      cases hx : ws[j]? with
      | none =>
        have : ws.take (j + 1) = ws.take j := by
          rw [List.take_of_length_le (by have := List.getElem?_eq_none_iff.1 hx; omega), List.take_of_length_le (by have := List.getElem?_eq_none_iff.1 hx; omega)]
        unfold aheadT at h1 ⊢; rw [this]; exact h1
      | some x =>
        have h2 := hw x (List.mem_of_getElem? hx)
        rw [aheadT_succ hx h2]; omega
theorem aheadT_all (ws : List (Int × Int)) : aheadT ws ws.length = ticksOf (fun _ => true) ws := by unfold aheadT; rw [List.take_length]
/-- The window in which off ticks behind the frame's begin lie. -/
def winOf (ws : List (Int × Int)) (off : Int) : Nat → Nat
  | 0 => 0
  | k + 1 => if aheadT ws (k + 1) ≤ off then k + 1 else winOf ws off k
theorem winOf_spec {ws : List (Int × Int)} {off : Int} (h0 : 0 ≤ off) : ∀ n : Nat, aheadT ws (winOf ws off n) ≤ off ∧ winOf ws off n ≤ n ∧ ∀ k, winOf ws off n < k → k ≤ n → off < aheadT ws k
  | 0 => ⟨by show aheadT ws 0 ≤ off; unfold aheadT; simpa [ticksOf] using h0, Nat.le_refl _, fun k h1 h2 => absurd h1 (by show ¬ 0 < k; omega)⟩
  | n + 1 => by
    unfold winOf
    by_cases h : aheadT ws (n + 1) ≤ off
    · rw [if_pos h]; exact ⟨h, Nat.le_refl _, fun k h1 h2 => by omega⟩
    · rw [if_neg h]
      obtain ⟨h1, h2, h3⟩ := winOf_spec h0 n
      refine ⟨h1, by omega, fun k hk hn => ?_⟩
      by_cases e : k = n + 1
      · rw [e]; omega
      · exact h3 k hk (by omega)
theorem win_unique {ws : List (Int × Int)} (hw : ∀ x ∈ ws, 1 ≤ x.2 ∧ x.2 ≤ 1000) {off : Int} {i j : Nat} (h1 : aheadT ws i ≤ off) (h2 : off < aheadT ws (i + 1)) (h3 : aheadT ws j ≤ off) (h4 : off < aheadT ws (j + 1)) : i = j := by
  rcases Nat.lt_trichotomy i j with h | h | h
  · have := aheadT_le hw (i := i + 1) (j := j) (by omega); omega
  · exact h
  · have := aheadT_le hw (i := j + 1) (j := i) (by omega); omega
theorem aheadT_ge {ws : List (Int × Int)} (hw : ∀ x ∈ ws, 1 ≤ x.2 ∧ x.2 ≤ 1000) : ∀ k : Nat, k ≤ ws.length → (k : Int) ≤ aheadT ws k
  | 0, _ => by unfold aheadT; simp [ticksOf]
  | k + 1, hk => by
    obtain ⟨x, hx⟩ : ∃ x, ws[k]? = some x := ⟨ws[k], List.getElem?_eq_getElem (by omega)⟩
    have h1 := hw x (List.mem_of_getElem? hx)
    have h2 := aheadT_ge hw k (by omega)
    rw [aheadT_succ hx h1]; omega
theorem Pln.Ok.ticks {p : Pln} (h : p.Ok) : ∀ x ∈ p.ws, 1 ≤ x.2 ∧ x.2 ≤ 1000 := fun x hx => ⟨(h.win x hx).2.2.1, (h.win x hx).2.2.2⟩
theorem Pln.Ok.frame_eq {p : Pln} : p.frame = aheadT p.ws p.ws.length := (aheadT_all _).symm
theorem Pln.Ok.frame_bd {p : Pln} (h : p.Ok) : 1 ≤ p.frame ∧ p.frame ≤ 32000 := by
  have h1 := aheadT_ge h.ticks p.ws.length (Nat.le_refl _)
  have h2 := aheadT_bd (ws := p.ws) p.ws.length
  have h3 := h.wsl
  rw [Pln.Ok.frame_eq]; omega
/-- The slot of a tick: P18.1. -/
def Pln.win (p : Pln) (n : Int) : Nat := winOf p.ws (n % p.frame) (p.ws.length - 1)
def Pln.slot (p : Pln) (n : Int) : Slt := ⟨n / p.frame, (p.win n : Int), n % p.frame - aheadT p.ws (p.win n)⟩
theorem Pln.Ok.win_spec {p : Pln} (h : p.Ok) (n : Int) : p.win n < p.ws.length ∧ aheadT p.ws (p.win n) ≤ n % p.frame ∧ n % p.frame < aheadT p.ws (p.win n + 1) := by
  have hf := h.frame_bd
  have h0 : 0 ≤ n % p.frame := Int.emod_nonneg _ (by omega)
  have hl : n % p.frame < p.frame := Int.emod_lt_of_pos _ (by omega)
  have hw := h.wsl
  obtain ⟨h1, h2, h3⟩ := winOf_spec (ws := p.ws) h0 (p.ws.length - 1)
  refine ⟨by show winOf _ _ _ < _; omega, h1, ?_⟩
  show n % p.frame < aheadT p.ws (winOf p.ws (n % p.frame) (p.ws.length - 1) + 1)
  by_cases e : winOf p.ws (n % p.frame) (p.ws.length - 1) = p.ws.length - 1
  · rw [e, show p.ws.length - 1 + 1 = p.ws.length by omega, ← Pln.Ok.frame_eq]; exact hl
  · exact h3 _ (by omega) (by omega)
theorem Pln.Ok.slot_eq {p : Pln} (h : p.Ok) {n : Int} {k : Nat} (h1 : aheadT p.ws k ≤ n % p.frame) (h2 : n % p.frame < aheadT p.ws (k + 1)) : p.slot n = ⟨n / p.frame, (k : Int), n % p.frame - aheadT p.ws k⟩ := by
  obtain ⟨_, g1, g2⟩ := h.win_spec n
  have := win_unique h.ticks g1 g2 h1 h2
  unfold Pln.slot
  rw [this]
def isTick (n : Int) : Bool := decide (0 ≤ n ∧ n ≤ 1099511627776)
def Pln.at_ (p : Pln) (n : Int) : Slt × Int := if p.err ≠ 0 then (Slt.zero, p.err) else if n < 0 ∨ 1099511627776 < n then (Slt.zero, 6) else (p.slot n, 0)
def Pln.winp (p : Pln) (k : Int) : Int := match p.ws[k.toNat]? with | none => 0 | some x => x.1
def Pln.wint (p : Pln) (k : Int) : Int := match p.ws[k.toNat]? with | none => 0 | some x => x.2
def Pln.owner (p : Pln) (n : Int) : Int × Int := if (p.at_ n).2 ≠ 0 then (0, (p.at_ n).2) else (p.winp (p.at_ n).1.window, 0)
/-- The tick of a slot: P18.2. -/
def Pln.tickN (p : Pln) (s : Slt) : Int := s.frame * p.frame + aheadT p.ws s.window.toNat + s.off
def Pln.tickBad (p : Pln) (s : Slt) : Bool := decide (s.frame < 0 ∨ 1099511627776 < s.frame ∨ s.off < 0 ∨ 1099511627776 < s.off ∨ s.window < 0 ∨ (p.ws.length : Int) ≤ s.window)
def Pln.tick (p : Pln) (s : Slt) : Int × Int :=
  if p.err ≠ 0 then (0, p.err) else if p.tickBad s = true then (0, 6)
  else if p.tickN s < 0 ∨ 1099511627776 < p.tickN s ∨ p.slot (p.tickN s) ≠ s then (0, 6) else (p.tickN s, 0)
def Pln.next (p : Pln) (n : Int) : Int × Int := if (p.at_ n).2 ≠ 0 then (0, (p.at_ n).2) else (n - (p.at_ n).1.off + p.wint (p.at_ n).1.window, 0)
def Pln.follow (p : Pln) (s : Slt) : Slt := if s.window + 1 < (p.ws.length : Int) then ⟨s.frame, s.window + 1, 0⟩ else ⟨s.frame + 1, 0, 0⟩
/-- The slots with which windows begin: P18.3. -/
def Pln.go (p : Pln) (to : Int) : Nat → Int → Slt → List Slt
  | 0, _, _ => []
  | k + 1, n, s => if n < to ∧ isTick n = true then s :: p.go to k (n + p.wint s.window) (p.follow s) else []
def Pln.begins (p : Pln) (a to : Int) : List Slt :=
  if (p.at_ a).2 ≠ 0 then []
  else if 0 < (p.at_ a).1.off then p.go to 1000 (a + (p.wint (p.at_ a).1.window - (p.at_ a).1.off)) (p.follow (p.at_ a).1)
  else p.go to 1000 a (p.at_ a).1
theorem Pln.wint_eq {p : Pln} {k : Nat} {x : Int × Int} (h : p.ws[k]? = some x) : p.wint (k : Int) = x.2 := by
  unfold Pln.wint; rw [Int.toNat_natCast, h]
theorem Pln.winp_eq {p : Pln} {k : Nat} {x : Int × Int} (h : p.ws[k]? = some x) : p.winp (k : Int) = x.1 := by
  unfold Pln.winp; rw [Int.toNat_natCast, h]
end Bx
