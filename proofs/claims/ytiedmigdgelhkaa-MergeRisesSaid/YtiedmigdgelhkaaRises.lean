/- The plain law of chapter 29: what is drained rises, and is told or counted; no program in sight. -/
import Derived.Test.YtiedmigdgelhkaaRingData
import Derived.Test.YtiedmigdgelhkaaMerge7
namespace Bx
open Go Go.RowKit Go.Proofs.Ytiedmigdgelhkaa

def wt (x : Ent) : Int := if x.e.kind = 7 then x.e.a else 1
def Rg.items (r : Rg) : List Ent := r.l ++ (if r.hasGap = true then [r.gap] else [])
def wsum (p : Int) : List Ent → Int
  | [] => 0
  | x :: xs => (if x.e.part = p then wt x else 0) + wsum p xs
def wall (p : Int) : List Rg → Int
  | [] => 0
  | r :: l => wsum p r.items + wall p l
def cnt : List Rg → Nat
  | [] => 0
  | r :: l => r.items.length + cnt l
structure XI (p lo hi : Int) (x : Ent) : Prop where
  lb : lo < x.stamp
  ub : x.stamp < hi
  part : x.e.part = p
  a0 : 0 ≤ x.e.a
  a1 : x.e.a < hi
structure RI (p lo hi : Int) (r : Rg) : Prop where
  is : r.is = true
  all : ∀ x ∈ r.items, XI p lo hi x
  up : r.items.Pairwise fun x y => x.stamp < y.stamp
def pt (n i : Nat) : Int := if i + 1 = n then -1 else (i : Int)
structure LI (n : Nat) (lo hi : Int) (l : List Rg) : Prop where
  len : l.length = n
  ri : ∀ (i : Nat) (r : Rg), l[i]? = some r → RI (pt n i) lo hi r
  ne : ∀ (i j : Nat) (r s : Rg), i ≠ j → l[i]? = some r → l[j]? = some s → ∀ x ∈ r.items, ∀ y ∈ s.items, x.stamp ≠ y.stamp
def Rise : Int → List Ent → Int → Prop
  | lo, [], lo' => lo' = lo
  | lo, x :: xs, lo' => lo < x.stamp ∧ Rise x.stamp xs lo'

theorem wsum_append (p : Int) : ∀ xs ys : List Ent, wsum p (xs ++ ys) = wsum p xs + wsum p ys
  | [], ys => by simp [wsum]
  | x :: xs, ys => by simp only [List.cons_append, wsum, wsum_append p xs ys]; omega
theorem wsum_nn {p : Int} : ∀ {xs : List Ent}, (∀ x ∈ xs, 0 ≤ x.e.a) → 0 ≤ wsum p xs
  | [], _ => by simp [wsum]
  | x :: xs, h => by
    have h1 := wsum_nn (p := p) (xs := xs) fun y hy => h y (List.mem_cons_of_mem _ hy)
    have h2 := h x (List.mem_cons_self ..)
    simp only [wsum, wt]
    split <;> (try split) <;> omega
theorem wall_nn {p : Int} : ∀ {l : List Rg}, (∀ r ∈ l, ∀ x ∈ r.items, 0 ≤ x.e.a) → 0 ≤ wall p l
  | [], _ => by simp [wall]
  | r :: l, h => by
    have h1 := wall_nn (p := p) (l := l) fun y hy => h y (List.mem_cons_of_mem _ hy)
    have h2 := wsum_nn (p := p) (h r (List.mem_cons_self ..))
    simp only [wall]; omega
theorem LI.nn {n : Nat} {lo hi : Int} {l : List Rg} (h : LI n lo hi l) (p : Int) : 0 ≤ wall p l := wall_nn fun r hr x hx => by
  obtain ⟨i, hi⟩ := List.mem_iff_getElem?.1 hr
  exact ((h.ri i r hi).all x hx).a0
theorem wall_set {p : Int} : ∀ {l : List Rg} {i : Nat} {r : Rg}, l[i]? = some r → ∀ s : Rg, wall p (l.set i s) = wall p l - wsum p r.items + wsum p s.items
  | [], _, _, h, _ => by simp at h
  | r :: l, 0, _, h, s => by simp at h; subst h; simp only [List.set_cons_zero, wall]; omega
  | r :: l, i + 1, _, h, s => by
    have := wall_set (p := p) (l := l) (i := i) (by simpa using h) s
    simp only [List.set_cons_succ, wall, this]; omega
theorem cnt_set : ∀ {l : List Rg} {i : Nat} {r : Rg}, l[i]? = some r → ∀ s : Rg, cnt (l.set i s) + r.items.length = cnt l + s.items.length
  | [], _, _, h, _ => by simp at h
  | r :: l, 0, _, h, s => by simp at h; subst h; simp only [List.set_cons_zero, cnt]; omega
  | r :: l, i + 1, _, h, s => by
    have := cnt_set (l := l) (i := i) (by simpa using h) s
    simp only [List.set_cons_succ, cnt]; omega
theorem wall_zero {p : Int} : ∀ {l : List Rg}, cnt l = 0 → wall p l = 0
  | [], _ => rfl
  | r :: l, h => by
    simp only [cnt] at h
    have h1 := wall_zero (p := p) (l := l) (by omega)
    have h2 : r.items = [] := List.eq_nil_of_length_eq_zero (by omega)
    simp [wall, h1, h2, wsum]
theorem cnt_zero : ∀ {l : List Rg}, cnt l = 0 → ∀ r ∈ l, r.items = []
  | [], _, r, hr => nomatch hr
  | s :: l, h, r, hr => by
    simp only [cnt] at h
    rcases List.mem_cons.1 hr with rfl | hr
    · exact List.eq_nil_of_length_eq_zero (by omega)
    · exact cnt_zero (l := l) (by omega) r hr
theorem Rg.head_items {r : Rg} (h : r.is = true) {x : Ent} {t : List Ent} (hi : r.items = x :: t) : r.head = (x.stamp, true) := by
  unfold Rg.items at hi
  unfold Rg.head
  rw [if_pos h]
  cases hl : r.l with
  | nil =>
    rw [hl] at hi
    simp only [List.nil_append] at hi
    split at hi
    · rename_i hg; cases hi; simp only [if_pos hg]
    · cases hi
  | cons y l => rw [hl] at hi; cases hi; rfl
theorem Rg.head_none {r : Rg} (h : r.is = true) (hi : r.items = []) : r.head.2 = false := by
  unfold Rg.items at hi
  unfold Rg.head
  rw [if_pos h]
  obtain ⟨h1, h2⟩ := List.append_eq_nil_iff.1 hi
  rw [h1]
  simp only
  split at h2
  · cases h2
  · rename_i hg; rw [if_neg hg]
theorem Rg.take_items {r : Rg} (h : r.is = true) {x : Ent} {t : List Ent} (hi : r.items = x :: t) : ∃ s : Rg, r.take = (x, s, true) ∧ s.items = t ∧ s.is = true := by
  have hh := Rg.head_items h hi
  unfold Rg.items at hi
  have his := h
  simp only [Rg.is, decide_eq_true_eq] at his
  cases hl : r.l with
  | nil =>
    rw [hl] at hi
    simp only [List.nil_append] at hi
    split at hi
    · cases hi
      refine ⟨_, Rg.take_gap (by rw [hh]) hl, by simp [Rg.items, Rg.hasGap, Ent.zero, Evt.zero], ?_⟩
      simp only [Rg.is, decide_eq_true_eq]
      exact ⟨his.1, his.2.1, by simp; omega, .inl trivial⟩
    · cases hi
  | cons y l =>
    rw [hl] at hi
    cases hi
    refine ⟨_, Rg.take_cons h hl, rfl, ?_⟩
    simp only [Rg.is, decide_eq_true_eq]
    rw [hl] at his
    exact ⟨his.1, his.2.1, by have := his.2.2.1; simp at this ⊢; omega, his.2.2.2⟩
theorem leastUp_spec (l : List Rg) : ∀ k : Nat, k ≤ l.length →
    ((leastUp l k).1 = -1 ∧ ∀ i r, i < k → l[i]? = some r → r.head.2 = false) ∨
    ∃ i r, i < k ∧ l[i]? = some r ∧ leastUp l k = ((i : Int), r.head.1) ∧ r.head.2 = true ∧ ∀ j s, j < k → l[j]? = some s → s.head.2 = true → r.head.1 ≤ s.head.1
  | 0, _ => .inl ⟨rfl, fun i r h => absurd h (by omega)⟩
  | k + 1, hk => by
    obtain ⟨m, hm⟩ : ∃ m, l[k]? = some m := ⟨l[k], List.getElem?_eq_getElem (by omega)⟩
    rw [leastUp_succ hm]
    rcases leastUp_spec l k (by omega) with ⟨h1, h2⟩ | ⟨i, r, h1, h2, h3, h4, h5⟩
    · by_cases hh : m.head.2 = true
      · rw [if_pos ⟨hh, .inl (by omega)⟩]
        refine .inr ⟨k, m, by omega, hm, rfl, hh, fun j s hj hs hs2 => ?_⟩
        by_cases e : j = k
        · subst e; rw [hm] at hs; cases hs; omega
        · rw [h2 j s (by omega) hs] at hs2; cases hs2
      · rw [if_neg (by simp [hh])]
        refine .inl ⟨h1, fun i r hi hr => ?_⟩
        by_cases e : i = k
        · subst e; rw [hm] at hr; cases hr; simpa using hh
        · exact h2 i r (by omega) hr
    · right
      by_cases hh : m.head.2 = true ∧ m.head.1 < r.head.1
      · rw [if_pos ⟨hh.1, .inr (by rw [h3]; exact hh.2)⟩]
        refine ⟨k, m, by omega, hm, rfl, hh.1, fun j s hj hs hs2 => ?_⟩
        by_cases e : j = k
        · subst e; rw [hm] at hs; cases hs; omega
        · have := h5 j s (by omega) hs hs2; omega
      · rw [if_neg (by rw [h3]; simp only; rintro ⟨a, b | b⟩; omega; exact hh ⟨a, b⟩)]
        refine ⟨i, r, by omega, h2, h3, h4, fun j s hj hs hs2 => ?_⟩
        by_cases e : j = k
        · subst e; rw [hm] at hs; cases hs
          by_cases hb : m.head.1 < r.head.1
          · exact absurd ⟨hs2, hb⟩ hh
          · omega
        · exact h5 j s (by omega) hs hs2
theorem drain_step {n : Nat} {lo hi : Int} {l : List Rg} (h : LI n lo hi l) (hc : cnt l ≠ 0) :
    ∃ (i : Nat) (r : Rg) (x : Ent) (s : Rg), i < n ∧ firstOf l = (i : Int) ∧ l[i]? = some r ∧ r.take = (x, s, true) ∧ lo < x.stamp ∧ XI (pt n i) lo hi x ∧ LI n x.stamp hi (l.set i s) ∧
      (∀ p, wall p l = wall p (l.set i s) + (if x.e.part = p then wt x else 0)) ∧ cnt (l.set i s) + 1 = cnt l := by
  rcases leastUp_spec l l.length (Nat.le_refl _) with ⟨_, h2⟩ | ⟨i, r, h1, h2, h3, h4, h5⟩
  · exfalso
    apply hc
    have : ∀ l : List Rg, (∀ r ∈ l, r.items = []) → cnt l = 0 := by
      intro l
      induction l with
      | nil => intro _; rfl
      | cons r l ih => intro h; simp only [cnt, h r (List.mem_cons_self ..), ih fun s hs => h s (List.mem_cons_of_mem _ hs)]; rfl
    apply this
    intro r hr
    obtain ⟨i, hi⟩ := List.mem_iff_getElem?.1 hr
    have hn := h2 i r (List.getElem?_eq_some_iff.1 hi).1 hi
    cases he : r.items with
    | nil => rfl
    | cons x t => rw [Rg.head_items (h.ri i r hi).is he] at hn; cases hn
  · have hri := h.ri i r h2
    cases he : r.items with
    | nil => rw [Rg.head_none hri.is he] at h4; cases h4
    | cons x t =>
      obtain ⟨s, hs, hst, hsi⟩ := Rg.take_items hri.is he
      have hX := hri.all x (by rw [he]; exact List.mem_cons_self ..)
      have hup := hri.up
      rw [he] at hup
      obtain ⟨hup1, hup2⟩ := List.pairwise_cons.1 hup
      have hhd := Rg.head_items hri.is he
      refine ⟨i, r, x, s, by rw [← h.len]; exact h1, congrArg Prod.fst h3, h2, hs, hX.lb, hX, ⟨by simpa using h.len, ?_, ?_⟩, ?_, ?_⟩
      · intro j q hj
        by_cases e : j = i
        · subst e
          rw [List.getElem?_set_self h1] at hj
          cases hj
          refine ⟨hsi, fun y hy => ?_, by rw [hst]; exact hup2⟩
          rw [hst] at hy
          have hY := hri.all y (by rw [he]; exact List.mem_cons_of_mem _ hy)
          exact ⟨hup1 y hy, hY.ub, hY.part, hY.a0, hY.a1⟩
        · rw [List.getElem?_set_ne (Ne.symm e)] at hj
          have hq := h.ri j q hj
          refine ⟨hq.is, fun y hy => ?_, hq.up⟩
          have hY := hq.all y hy
          refine ⟨?_, hY.ub, hY.part, hY.a0, hY.a1⟩
          cases he2 : q.items with
          | nil => rw [he2] at hy; cases hy
          | cons z t2 =>
            have hz : z ∈ q.items := by rw [he2]; exact List.mem_cons_self ..
            have hxz := h.ne i j r q (Ne.symm e) h2 hj x (by rw [he]; exact List.mem_cons_self ..) z hz
            have hle := h5 j q (List.getElem?_eq_some_iff.1 hj).1 hj (by rw [Rg.head_items hq.is he2])
            rw [hhd, Rg.head_items hq.is he2] at hle
            have hzu := hq.up
            rw [he2] at hzu hy
            rcases List.mem_cons.1 hy with rfl | hy
            · simp only at hle; omega
            · have := (List.pairwise_cons.1 hzu).1 y hy
              simp only at hle; omega
      · intro a b q q2 hab ha hb y hy z hz
        have hsub : ∀ (c : Nat) (m : Rg), (l.set i s)[c]? = some m → ∃ m' : Rg, l[c]? = some m' ∧ ∀ y ∈ m.items, y ∈ m'.items := by
          intro c m hm
          by_cases e : c = i
          · subst e
            rw [List.getElem?_set_self h1] at hm
            cases hm
            exact ⟨r, h2, fun y hy => by rw [hst] at hy; rw [he]; exact List.mem_cons_of_mem _ hy⟩
          · rw [List.getElem?_set_ne (Ne.symm e)] at hm
            exact ⟨m, hm, fun _ h => h⟩
        obtain ⟨m1, g1, k1⟩ := hsub a q ha
        obtain ⟨m2, g2, k2⟩ := hsub b q2 hb
        exact h.ne a b m1 m2 hab g1 g2 y (k1 y hy) z (k2 z hz)
      · intro p
        rw [wall_set h2 s, hst, he, wsum]
        omega
      · have := cnt_set h2 s
        rw [hst, he] at this
        simp at this
        omega
theorem drain_none {n : Nat} {lo hi : Int} {l : List Rg} (h : LI n lo hi l) (hc : cnt l = 0) : ∀ k, drainN k l = ([], l) := by
  apply drainN_neg
  rcases leastUp_spec l l.length (Nat.le_refl _) with ⟨h1, _⟩ | ⟨i, r, h1, h2, h3, h4, h5⟩
  · unfold firstOf; omega
  · rw [Rg.head_none (h.ri i r h2).is (cnt_zero hc r (List.mem_of_getElem? h2))] at h4; cases h4
/-- What is drained rises; each one is of a partition; what was held is told, or held. -/
theorem drain_law {n : Nat} {hi : Int} : ∀ (k : Nat) {lo : Int} {l : List Rg}, LI n lo hi l →
    ∃ lo', LI n lo' hi (drainN k l).2 ∧ Rise lo (drainN k l).1 lo' ∧ (∀ x ∈ (drainN k l).1, ∃ i, i < n ∧ XI (pt n i) lo hi x) ∧
      (∀ p, wall p l = wall p (drainN k l).2 + wsum p (drainN k l).1) ∧ (cnt l ≤ k → cnt (drainN k l).2 = 0)
  | 0, lo, l, h => ⟨lo, h, rfl, fun x hx => (nomatch hx), fun p => by simp [drainN, wsum], fun hk => by show cnt l = 0; omega⟩
  | k + 1, lo, l, h => by
    by_cases hc : cnt l = 0
    · rw [drain_none h hc]
      exact ⟨lo, h, rfl, fun x hx => (nomatch hx), fun p => by simp [wsum], fun _ => hc⟩
    · obtain ⟨i, r, x, s, h0, h1, h2, h3, h4, h5, h6, h7, h8⟩ := drain_step h hc
      have hd := drainN_yes h1 h2 (by rw [h3]) k
      rw [h3] at hd
      simp only at hd
      obtain ⟨lo', g1, g2, g3, g4, g5⟩ := drain_law k h6
      rw [hd]
      refine ⟨lo', g1, ⟨h4, g2⟩, fun y hy => ?_, fun p => ?_, fun hk => g5 (by omega)⟩
      · rcases List.mem_cons.1 hy with rfl | hy
        · exact ⟨i, h0, h5⟩
        · obtain ⟨j, hj, hY⟩ := g3 y hy
          exact ⟨j, hj, ⟨by have := hY.lb; omega, hY.ub, hY.part, hY.a0, hY.a1⟩⟩
      · have := h7 p
        have := g4 p
        simp only [wsum]; omega
theorem Rg.held_items {r : Rg} (h : r.is = true) : r.held = (r.items.length : Int) := by
  unfold Rg.held Rg.items
  rw [if_pos h]
  split <;> simp
theorem heldUp_take (l : List Rg) (h : ∀ r ∈ l, r.is = true) : ∀ k : Nat, k ≤ l.length → heldUp l k = (cnt (l.take k) : Int)
  | 0, _ => rfl
  | k + 1, hk => by
    obtain ⟨m, hm⟩ : ∃ m, l[k]? = some m := ⟨l[k], List.getElem?_eq_getElem (by omega)⟩
    have ha : ∀ a b : List Rg, cnt (a ++ b) = cnt a + cnt b := by
      intro a b
      induction a with
      | nil => simp [cnt]
      | cons r a ih => simp only [List.cons_append, cnt, ih]; omega
    rw [heldUp_succ hm, heldUp_take l h k (by omega), List.take_add_one, ha, hm, Rg.held_items (h m (List.mem_of_getElem? hm))]
    simp [cnt]
theorem LI.held {n : Nat} {lo hi : Int} {l : List Rg} (h : LI n lo hi l) : heldOf l = (cnt l : Int) := by
  unfold heldOf
  rw [heldUp_take l (fun r hr => by obtain ⟨i, hi⟩ := List.mem_iff_getElem?.1 hr; exact (h.ri i r hi).is) _ (Nat.le_refl _), List.take_length]
theorem put_items {r : Rg} {x : Ent} (hr : r.is = true) (hx : x.e.is = true) (hp : x.e.kind ≠ 7) :
    (r.put1 x).is = true ∧ ((r.put1 x).items = r.items ++ [x] ∨ (r.put1 x).items = r.items ++ [x.gapOf] ∨
      (1 ≤ r.gap.e.a ∧ r.items = r.l ++ [r.gap] ∧ (r.put1 x).items = r.l ++ [{ r.gap with e := { r.gap.e with a := min (r.gap.e.a + 1) 4294967295 } }])) := by
  have his := hr
  simp only [Rg.is, decide_eq_true_eq] at his
  obtain ⟨i1, i2, i3, i4⟩ := his
  unfold Rg.put1
  by_cases hg : r.hasGap = true
  · have hga := Rg.is_gap hr hg
    rw [if_pos hg]
    have hit : r.items = r.l ++ [r.gap] := by unfold Rg.items; rw [if_pos hg]
    split
    · rename_i h2
      refine ⟨?_, .inl ?_⟩
      · simp only [Rg.is, decide_eq_true_eq]
        exact ⟨i1, i2, by simp; omega, .inl trivial⟩
      · rw [hit]; simp [Rg.items, Rg.hasGap, Ent.zero, Evt.zero]
    · refine ⟨?_, .inr (.inr ⟨hga.1, hit, ?_⟩)⟩
      · simp only [Rg.is, decide_eq_true_eq]
        refine ⟨i1, i2, i3, .inr ?_⟩
        rcases i4 with h | h
        · rw [h] at hga; exact absurd hga.1 (by decide)
        · simp only [Ent.isGap, Evt.is, decide_eq_true_eq] at h ⊢; omega
      · have hgg : Rg.hasGap ⟨r.room, r.l, { r.gap with e := { r.gap.e with a := min (r.gap.e.a + 1) 4294967295 } }⟩ = true := by
          simp only [Rg.hasGap, decide_eq_true_eq]; omega
        unfold Rg.items
        rw [if_pos hgg]
  · rw [if_neg hg]
    have hit : r.items = r.l := by unfold Rg.items; rw [if_neg hg, List.append_nil]
    split
    · rename_i h2
      refine ⟨?_, .inl ?_⟩
      · simp only [Rg.is, decide_eq_true_eq]
        exact ⟨i1, i2, by simp; omega, i4⟩
      · rw [hit]
        show (r.l ++ [x]) ++ (if Rg.hasGap ⟨r.room, r.l ++ [x], r.gap⟩ = true then _ else _) = _
        rw [if_neg (by exact hg), List.append_nil]
    · refine ⟨?_, .inr (.inl ?_)⟩
      · simp only [Rg.is, decide_eq_true_eq]
        refine ⟨i1, i2, i3, .inr ?_⟩
        simp only [Evt.is, decide_eq_true_eq] at hx
        unfold Ent.isGap
        rw [decide_eq_true_eq]
        refine ⟨?_, rfl, Int.le_refl 1, rfl, rfl⟩
        unfold Evt.is
        rw [decide_eq_true_eq]
        show (1 : Int) ≤ 7 ∧ (7 : Int) ≤ 8 ∧ 0 ≤ x.e.tick ∧ x.e.tick ≤ 1099511627776 ∧ -1 ≤ x.e.part ∧ x.e.part ≤ 31 ∧ (0 : Int) ≤ 1 ∧ (1 : Int) ≤ 4294967295 ∧ (0 : Int) ≤ 0 ∧ (0 : Int) ≤ 4294967295
        omega
      · rw [hit]
        simp [Rg.items, Rg.hasGap, Ent.gapOf]
theorem put_RI {p lo hi : Int} {r : Rg} (h : RI p lo hi r) (hlo : lo < hi) (h1 : 1 ≤ hi) (hhi : hi ≤ 4294967294) (hx : (entOf hi p).e.is = true) :
    RI p lo (hi + 1) (r.put1 (entOf hi p)) ∧ (∀ q, wsum q (r.put1 (entOf hi p)).items = wsum q r.items + (if p = q then 1 else 0)) ∧
      ∀ y ∈ (r.put1 (entOf hi p)).items, y.stamp = hi ∨ ∃ z ∈ r.items, z.stamp = y.stamp := by
  obtain ⟨hi1, hcase⟩ := put_items h.is hx (by show (3 : Int) ≠ 7; omega)
  have hup : ∀ z : Ent, XI p lo hi z → XI p lo (hi + 1) z := fun z hz => ⟨hz.lb, by have := hz.ub; omega, hz.part, hz.a0, by have := hz.a1; omega⟩
  rcases hcase with e | e | ⟨g1, e1, e⟩
  · refine ⟨⟨hi1, fun y hy => ?_, ?_⟩, fun q => ?_, fun y hy => ?_⟩
    · rw [e] at hy
      rcases List.mem_append.1 hy with hy | hy
      · exact hup y (h.all y hy)
      · rw [List.mem_singleton.1 hy]
        exact ⟨hlo, by show hi < hi + 1; omega, rfl, Int.le_refl 0, by show (0 : Int) < hi + 1; omega⟩
    · rw [e, List.pairwise_append]
      exact ⟨h.up, List.pairwise_singleton _ _, fun a ha b hb => by rw [List.mem_singleton.1 hb]; exact (h.all a ha).ub⟩
    · rw [e, wsum_append]; simp [wsum, entOf, wt]
    · rw [e] at hy
      rcases List.mem_append.1 hy with hy | hy
      · exact .inr ⟨y, hy, rfl⟩
      · rw [List.mem_singleton.1 hy]; exact .inl rfl
  · refine ⟨⟨hi1, fun y hy => ?_, ?_⟩, fun q => ?_, fun y hy => ?_⟩
    · rw [e] at hy
      rcases List.mem_append.1 hy with hy | hy
      · exact hup y (h.all y hy)
      · rw [List.mem_singleton.1 hy]
        exact ⟨hlo, by show hi < hi + 1; omega, rfl, by show (0 : Int) ≤ 1; omega, by show (1 : Int) < hi + 1; omega⟩
    · rw [e, List.pairwise_append]
      exact ⟨h.up, List.pairwise_singleton _ _, fun a ha b hb => by rw [List.mem_singleton.1 hb]; exact (h.all a ha).ub⟩
    · rw [e, wsum_append]; simp [wsum, entOf, wt, Ent.gapOf]
    · rw [e] at hy
      rcases List.mem_append.1 hy with hy | hy
      · exact .inr ⟨y, hy, rfl⟩
      · rw [List.mem_singleton.1 hy]; exact .inl rfl
  · have hG := h.all r.gap (by rw [e1]; simp)
    have hm : min (r.gap.e.a + 1) 4294967295 = r.gap.e.a + 1 := by have := hG.a1; omega
    rw [hm] at e
    have h7 : r.gap.e.kind = 7 := by
      have his := h.is
      simp only [Rg.is, decide_eq_true_eq] at his
      rcases his.2.2.2 with h0 | h0
      · rw [h0] at g1; exact absurd g1 (by decide)
      · simp only [Ent.isGap, decide_eq_true_eq] at h0; exact h0.2.1
    refine ⟨⟨hi1, fun y hy => ?_, ?_⟩, fun q => ?_, fun y hy => ?_⟩
    · rw [e] at hy
      rcases List.mem_append.1 hy with hy | hy
      · exact hup y (h.all y (by rw [e1]; exact List.mem_append_left _ hy))
      · rw [List.mem_singleton.1 hy]
        exact ⟨hG.lb, by have := hG.ub; show r.gap.stamp < hi + 1; omega, hG.part, by show 0 ≤ r.gap.e.a + 1; omega, by have := hG.a1; show r.gap.e.a + 1 < hi + 1; omega⟩
    · have := h.up
      rw [e1, List.pairwise_append] at this
      rw [e, List.pairwise_append]
      exact ⟨this.1, List.pairwise_singleton _ _, fun a ha b hb => by rw [List.mem_singleton.1 hb]; exact this.2.2 a ha r.gap (by simp)⟩
    · rw [e, e1, wsum_append, wsum_append]
      simp only [wsum, wt, hG.part, h7]
      split <;> simp <;> omega
    · rw [e] at hy
      rcases List.mem_append.1 hy with hy | hy
      · exact .inr ⟨y, by rw [e1]; exact List.mem_append_left _ hy, rfl⟩
      · rw [List.mem_singleton.1 hy]; exact .inr ⟨r.gap, by rw [e1]; simp, rfl⟩
theorem offer_fits {l : List Rg} {x : Ent} (h : (offer l x).2 = 0) : -1 ≤ x.e.part ∧ x.e.part < (l.length : Int) - 1 := by
  obtain ⟨i, r, h1, h2, h3, _⟩ := offer_ok h
  have := (List.getElem?_eq_some_iff.1 h3).1
  unfold offerAt at h2
  split at h2
  · rename_i e; omega
  · rename_i e; omega
theorem offer_law {n : Nat} {lo hi p : Int} {l : List Rg} (h : LI n lo hi l) (hlo : lo < hi) (h1 : 1 ≤ hi) (hhi : hi ≤ 4294967294) (hn : n ≤ 32) (hp : -1 ≤ p) (hpn : p < (n : Int) - 1) :
    (offer l (entOf hi p)).2 = 0 ∧ LI n lo (hi + 1) (offer l (entOf hi p)).1 ∧ ∀ q, wall q (offer l (entOf hi p)).1 = wall q l + (if p = q then 1 else 0) := by
  have hx : (entOf hi p).e.is = true := by
    unfold Evt.is
    rw [decide_eq_true_eq]
    show (1 : Int) ≤ 3 ∧ (3 : Int) ≤ 8 ∧ (0 : Int) ≤ 5 ∧ (5 : Int) ≤ 1099511627776 ∧ -1 ≤ p ∧ p ≤ 31 ∧ (0 : Int) ≤ 0 ∧ (0 : Int) ≤ 4294967295 ∧ (0 : Int) ≤ 0 ∧ (0 : Int) ≤ 4294967295
    omega
  obtain ⟨i, hi', hin, hpt⟩ : ∃ i : Nat, offerAt l.length (entOf hi p) = (i : Int) ∧ i < n ∧ pt n i = p := by
    have hoa : offerAt l.length (entOf hi p) = if p = -1 then (l.length : Int) - 1 else p := rfl
    rw [hoa, h.len]
    unfold pt
    by_cases e : p = -1
    · rw [if_pos e]
      exact ⟨n - 1, by omega, by omega, by rw [if_pos (by omega)]; omega⟩
    · rw [if_neg e]
      exact ⟨p.toNat, by omega, by omega, by rw [if_neg (by omega)]; omega⟩
  obtain ⟨r, hr⟩ : ∃ r, l[i]? = some r := ⟨l[i]'(by rw [h.len]; exact hin), List.getElem?_eq_getElem _⟩
  have hri := h.ri i r hr
  rw [hpt] at hri
  obtain ⟨k1, k2, k3⟩ := put_RI hri hlo h1 hhi hx
  have hput : r.put (entOf hi p) = (r.put1 (entOf hi p), 0) := if_pos ⟨hri.is, hx⟩
  have ho := offer_at (l := l) (x := entOf hi p) (i := i) (r := r) (by rw [h.len]; simp only [entOf]; omega) hi' hr
  rw [hput] at ho
  rw [if_neg (by simp)] at ho
  rw [ho]
  have hil : i < l.length := (List.getElem?_eq_some_iff.1 hr).1
  refine ⟨rfl, ⟨by simpa using h.len, ?_, ?_⟩, fun q => ?_⟩
  · intro j s hj
    simp only at hj
    by_cases e : j = i
    · subst e
      rw [List.getElem?_set_self hil] at hj
      cases hj
      rw [hpt]; exact k1
    · rw [List.getElem?_set_ne (Ne.symm e)] at hj
      have hs := h.ri j s hj
      exact ⟨hs.is, fun y hy => by have hY := hs.all y hy; exact ⟨hY.lb, by have := hY.ub; omega, hY.part, hY.a0, by have := hY.a1; omega⟩, hs.up⟩
  · have key : ∀ b s2, b ≠ i → l[b]? = some s2 → ∀ y ∈ (r.put1 (entOf hi p)).items, ∀ z ∈ s2.items, y.stamp ≠ z.stamp := by
      intro b s2 hb hs2 y hy z hz
      rcases k3 y hy with e | ⟨z0, hz0, e⟩
      · have := ((h.ri b s2 hs2).all z hz).ub; omega
      · rw [← e]; exact h.ne i b r s2 (Ne.symm hb) hr hs2 z0 hz0 z hz
    intro a b s1 s2 hab ha hb y hy z hz
    simp only at ha hb
    by_cases ea : a = i
    · subst ea
      rw [List.getElem?_set_self hil] at ha
      cases ha
      rw [List.getElem?_set_ne hab] at hb
      exact key b s2 (Ne.symm hab) hb y hy z hz
    · rw [List.getElem?_set_ne (Ne.symm ea)] at ha
      by_cases eb : b = i
      · subst eb
        rw [List.getElem?_set_self hil] at hb
        cases hb
        exact Ne.symm (key a s1 ea ha z hz y hy)
      · rw [List.getElem?_set_ne (Ne.symm eb)] at hb
        exact h.ne a b s1 s2 hab ha hb y hy z hz
  · simp only
    rw [wall_set hr, k2 q]; omega
theorem LI.start {n : Nat} {l : List Rg} (hl : l.length = n) (h : ∀ r ∈ l, ∃ m : Int, r = ⟨m, [], Ent.zero⟩ ∧ 2 ≤ m ∧ m ≤ 64) : LI n 0 1 l ∧ cnt l = 0 := by
  have hit : ∀ r ∈ l, r.is = true ∧ r.items = [] := by
    intro r hr
    obtain ⟨m, rfl, h1, h2⟩ := h r hr
    refine ⟨?_, by simp [Rg.items, Rg.hasGap, Ent.zero, Evt.zero]⟩
    simp only [Rg.is, decide_eq_true_eq]
    exact ⟨h1, h2, by simp; omega, .inl trivial⟩
  refine ⟨⟨hl, fun i r hi => ?_, fun i j r s _ hi hj x hx => ?_⟩, ?_⟩
  · obtain ⟨h1, h2⟩ := hit r (List.mem_of_getElem? hi)
    exact ⟨h1, (fun x hx => by rw [h2] at hx; cases hx), by rw [h2]; exact List.Pairwise.nil⟩
  · rw [(hit r (List.mem_of_getElem? hi)).2] at hx; cases hx
  · clear hl h
    induction l with
    | nil => rfl
    | cons r l ih =>
      simp only [cnt, (hit r (List.mem_cons_self ..)).2, ih fun s hs => hit s (List.mem_cons_of_mem _ hs)]
      rfl
theorem LI.lens {n : Nat} {lo hi : Int} {l : List Rg} (h : LI n lo hi l) : ∀ r ∈ l, r.l.length ≤ 1000000 := by
  intro r hr
  obtain ⟨i, hi⟩ := List.mem_iff_getElem?.1 hr
  have := Rg.is_len (h.ri i r hi).is
  omega
theorem LI.cnt_le {n : Nat} {lo hi : Int} {l : List Rg} (h : LI n lo hi l) : cnt l ≤ 65 * n := by
  have hb := heldUp_bd l l.length
  have := h.held
  unfold heldOf at this
  rw [h.len] at hb this
  omega
end Bx
