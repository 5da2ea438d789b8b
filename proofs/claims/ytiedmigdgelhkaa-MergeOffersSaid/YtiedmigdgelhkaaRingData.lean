/- Entries and rings: the data of layers 4, 26 and 29, as lists of cells; what the functions of layer 4, 26 compute. -/
import Derived.Test.YtiedmigdgelhkaaEq
namespace Bx
open Go Go.RowKit

structure Evt where
  seq : Int
  tick : Int
  part : Int
  kind : Int
  a : Int
  b : Int
deriving DecidableEq
structure Ent where
  stamp : Int
  e : Evt
deriving DecidableEq
structure Rg where
  room : Int
  l : List Ent
  gap : Ent
deriving DecidableEq

def Evt.cells (x : Evt) : List Value := [.int .u64 x.seq, .int .i64 x.tick, .int .i64 x.part, .int .i64 x.kind, .int .i64 x.a, .int .i64 x.b]
def Ent.cells (x : Ent) : List Value := [.int .u64 x.stamp, .int .u64 x.e.seq, .int .i64 x.e.tick, .int .i64 x.e.part, .int .i64 x.e.kind, .int .i64 x.e.a, .int .i64 x.e.b]
def Evt.zero : Evt := ⟨0, 0, 0, 0, 0, 0⟩
def Ent.zero : Ent := ⟨0, Evt.zero⟩
theorem Ent.cells_length (x : Ent) : x.cells.length = 7 := rfl

/-- Is: P4.1. -/
def Evt.is (x : Evt) : Bool := decide (1 ≤ x.kind ∧ x.kind ≤ 8 ∧ 0 ≤ x.tick ∧ x.tick ≤ 1099511627776 ∧ -1 ≤ x.part ∧ x.part ≤ 31 ∧ 0 ≤ x.a ∧ x.a ≤ 4294967295 ∧ 0 ≤ x.b ∧ x.b ≤ 4294967295)
def Ent.isGap (x : Ent) : Bool := decide (x.e.is = true ∧ x.e.kind = 7 ∧ 1 ≤ x.e.a ∧ x.e.seq = 0 ∧ x.e.b = 0)
def Rg.is (r : Rg) : Bool := decide (2 ≤ r.room ∧ r.room ≤ 64 ∧ (r.l.length : Int) ≤ r.room ∧ (r.gap = Ent.zero ∨ r.gap.isGap = true))
def Rg.hasGap (r : Rg) : Bool := decide (r.gap.e.a ≠ 0)

def Rg.cl (r : Rg) (ao : Option Addr) (c : Nat) : List Value :=
  [.int .i64 r.room, .slice ao r.l.length c, .int .u64 r.gap.stamp, .int .u64 r.gap.e.seq, .int .i64 r.gap.e.tick, .int .i64 r.gap.e.part, .int .i64 r.gap.e.kind, .int .i64 r.gap.e.a, .int .i64 r.gap.e.b]
def Rg.zero : Rg := ⟨0, [], Ent.zero⟩
def Ent.gapOf (x : Ent) : Ent := ⟨x.stamp, ⟨0, x.e.tick, x.e.part, 7, 1, 0⟩⟩
/-- Put: P26.2. -/
def Rg.put1 (r : Rg) (x : Ent) : Rg :=
  if r.hasGap = true then
    if (r.l.length : Int) + 2 ≤ r.room then ⟨r.room, r.l ++ [r.gap, x], Ent.zero⟩
    else ⟨r.room, r.l, { r.gap with e := { r.gap.e with a := min (r.gap.e.a + 1) 4294967295 } }⟩
  else if (r.l.length : Int) + 1 ≤ r.room then ⟨r.room, r.l ++ [x], r.gap⟩
  else ⟨r.room, r.l, x.gapOf⟩
def Rg.put (r : Rg) (x : Ent) : Rg × Int := if r.is = true ∧ x.e.is = true then (r.put1 x, 0) else (Rg.zero, 1)
/-- Take: P26.3: the first entry, or the gap, and the ring without it. -/
def Rg.head (r : Rg) : Int × Bool :=
  if r.is = true then
    match r.l with
    | x :: _ => (x.stamp, true)
    | [] => if r.hasGap = true then (r.gap.stamp, true) else (0, false)
  else (0, false)
def Rg.take (r : Rg) : Ent × Rg × Bool :=
  if r.is = true then
    match r.l with
    | x :: l => (x, ⟨r.room, l, r.gap⟩, true)
    | [] => if r.hasGap = true then (r.gap, ⟨r.room, [], Ent.zero⟩, true) else (Ent.zero, r, false)
  else (Ent.zero, r, false)
/-- The entries of a ring lie at ao, in blocks of F. -/
def RgS (F : Nat → Prop) (w : World) (r : Rg) (ao : Option Addr) (c : Nat) : Prop := r.l.length ≤ c ∧ c ≤ maxLen ∧ Sl F w 7 ao (r.l.map Ent.cells)

theorem Rg.head_is {r : Rg} (h : r.head.2 = true) : r.is = true := by
  unfold Rg.head at h
  split at h
  · assumption
  · cases h
theorem Rg.take_no {r : Rg} (h : r.head.2 = false) : r.take = (Ent.zero, r, false) := by
  unfold Rg.head at h
  unfold Rg.take
  split
  · rename_i hi
    rw [if_pos hi] at h
    cases hl : r.l with
    | nil =>
      rw [hl] at h
      simp only at h ⊢
      split
      · rename_i hg; rw [if_pos hg] at h; cases h
      · rfl
    | cons x l => rw [hl] at h; cases h
  · rfl
theorem Rg.take_gap {r : Rg} (h : r.head.2 = true) (hl : r.l = []) : r.take = (r.gap, ⟨r.room, [], Ent.zero⟩, true) := by
  have hi := Rg.head_is h
  unfold Rg.head at h
  rw [if_pos hi, hl] at h
  unfold Rg.take
  rw [if_pos hi, hl]
  simp only at h ⊢
  split
  · rfl
  · rename_i hg; rw [if_neg hg] at h; cases h
theorem Rg.take_cons {r : Rg} {x : Ent} {l : List Ent} (hi : r.is = true) (hl : r.l = x :: l) : r.take = (x, ⟨r.room, l, r.gap⟩, true) := by
  unfold Rg.take
  rw [if_pos hi, hl]
theorem Rg.is_len {r : Rg} (h : r.is = true) : r.l.length ≤ 64 ∧ 2 ≤ r.room ∧ r.room ≤ 64 ∧ (r.l.length : Int) ≤ r.room := by
  simp only [Rg.is, decide_eq_true_eq] at h
  omega
theorem Rg.is_gap {r : Rg} (h : r.is = true) (hg : r.hasGap = true) : 1 ≤ r.gap.e.a ∧ r.gap.e.a ≤ 4294967295 := by
  simp only [Rg.is, Rg.hasGap, decide_eq_true_eq] at h hg
  rcases h.2.2.2 with h | h
  · rw [h] at hg; exact absurd rfl hg
  · simp only [Ent.isGap, Evt.is, decide_eq_true_eq] at h; omega
theorem Ent.one (xs : List Ent) : (xs.map Ent.cells).flatten.all Value.oneCell' = true := by
  induction xs with
  | nil => rfl
  | cons x xs ih => simp only [List.map_cons, List.flatten_cons, List.all_append, ih, Bool.and_true]; rfl
/-- Offer: P29.1. -/
def offerAt (n : Nat) (x : Ent) : Int := if x.e.part = -1 then (n : Int) - 1 else x.e.part
def offer (l : List Rg) (x : Ent) : List Rg × Int :=
  if (x.e.part ≠ -1 ∧ (l.length : Int) - 1 ≤ x.e.part) ∨ offerAt l.length x < 0 then ([], 1)
  else match l[(offerAt l.length x).toNat]? with
    | none => ([], 1)
    | some r => if (r.put x).2 ≠ 0 then ([], (r.put x).2) else (l.set (offerAt l.length x).toNat (r.put x).1, 0)
theorem offer_at {l : List Rg} {x : Ent} {i : Nat} {r : Rg} (h1 : ¬ (x.e.part ≠ -1 ∧ (l.length : Int) - 1 ≤ x.e.part)) (h2 : offerAt l.length x = (i : Int)) (h3 : l[i]? = some r) :
    offer l x = if (r.put x).2 ≠ 0 then ([], (r.put x).2) else (l.set i (r.put x).1, 0) := by
  unfold offer
  rw [if_neg (by rw [h2]; intro h; rcases h with h | h; exact h1 h; omega), h2, Int.toNat_natCast, h3]
theorem offer_no {l : List Rg} {x : Ent} (h : (x.e.part ≠ -1 ∧ (l.length : Int) - 1 ≤ x.e.part) ∨ offerAt l.length x < 0) : offer l x = ([], 1) := by
  unfold offer
  rw [if_pos h]
/-- First: P29.2: the place of the least head so far, and that head. -/
def leastUp (l : List Rg) : Nat → Int × Int
  | 0 => (-1, 0)
  | k + 1 =>
    match l[k]? with
    | none => leastUp l k
    | some r => if r.head.2 = true ∧ ((leastUp l k).1 < 0 ∨ r.head.1 < (leastUp l k).2) then ((k : Int), r.head.1) else leastUp l k
def firstOf (l : List Rg) : Int := (leastUp l l.length).1
/-- Held: P29.2. -/
def Rg.held (r : Rg) : Int := if r.is = true then (r.l.length : Int) + (if r.hasGap = true then 1 else 0) else 0
def heldUp (l : List Rg) : Nat → Int
  | 0 => 0
  | k + 1 => heldUp l k + (match l[k]? with | none => 0 | some r => r.held)
def heldOf (l : List Rg) : Int := heldUp l l.length
theorem Rg.held_bd (r : Rg) : 0 ≤ r.held ∧ r.held ≤ 65 := by
  unfold Rg.held
  split
  · rename_i h; have := r.l.length; simp only [Rg.is, decide_eq_true_eq] at h; split <;> omega
  · omega
theorem heldUp_bd (l : List Rg) : ∀ k : Nat, 0 ≤ heldUp l k ∧ heldUp l k ≤ 65 * (k : Int)
  | 0 => by simp [heldUp]
  | k + 1 => by
    have := heldUp_bd l k
    unfold heldUp
    split
    · omega
    · rename_i r _; have := r.held_bd; omega
theorem leastUp_bd (l : List Rg) : ∀ k : Nat, -1 ≤ (leastUp l k).1 ∧ (leastUp l k).1 < (k : Int)
  | 0 => by simp [leastUp]
  | k + 1 => by
    have := leastUp_bd l k
    unfold leastUp
    split
    · omega
    · split
      · simp only; omega
      · omega
theorem leastUp_succ {l : List Rg} {k : Nat} {r : Rg} (h : l[k]? = some r) : leastUp l (k + 1) = if r.head.2 = true ∧ ((leastUp l k).1 < 0 ∨ r.head.1 < (leastUp l k).2) then ((k : Int), r.head.1) else leastUp l k := by
  simp only [leastUp, h]
theorem heldUp_succ {l : List Rg} {k : Nat} {r : Rg} (h : l[k]? = some r) : heldUp l (k + 1) = heldUp l k + r.held := by
  simp only [heldUp, h]
/-- Drain: P29.2. -/
def drainN : Nat → List Rg → List Ent × List Rg
  | 0, l => ([], l)
  | k + 1, l =>
    if firstOf l < 0 then ([], l)
    else match l[(firstOf l).toNat]? with
      | none => ([], l)
      | some r => if r.take.2.2 = true then (r.take.1 :: (drainN k (l.set (firstOf l).toNat r.take.2.1)).1, (drainN k (l.set (firstOf l).toNat r.take.2.1)).2) else ([], l)
def drainRoom (l : List Rg) (most : Int) : Nat := (max 0 (min (min most 1000) (heldOf l))).toNat
theorem drainN_neg {l : List Rg} (h : firstOf l < 0) : ∀ k, drainN k l = ([], l)
  | 0 => rfl
  | k + 1 => by unfold drainN; rw [if_pos h]
theorem drainN_no {l : List Rg} {i : Nat} {r : Rg} (h : firstOf l = (i : Int)) (hr : l[i]? = some r) (ht : r.take.2.2 = false) : ∀ k, drainN k l = ([], l)
  | 0 => rfl
  | k + 1 => by unfold drainN; rw [if_neg (by omega), h, Int.toNat_natCast, hr]; simp only [ht]; rfl
theorem drainN_yes {l : List Rg} {i : Nat} {r : Rg} (h : firstOf l = (i : Int)) (hr : l[i]? = some r) (ht : r.take.2.2 = true) (k : Nat) :
    drainN (k + 1) l = (r.take.1 :: (drainN k (l.set i r.take.2.1)).1, (drainN k (l.set i r.take.2.1)).2) := by
  rw [drainN, if_neg (by omega), h, Int.toNat_natCast, hr]
  simp only [ht, if_true]
theorem Rg.take_len (r : Rg) : r.take.2.1.l.length ≤ r.l.length := by
  unfold Rg.take
  split
  · split
    · rename_i h; rw [h]; simp
    · split <;> simp
  · simp
theorem firstOf_bd (l : List Rg) : -1 ≤ firstOf l ∧ firstOf l < (l.length : Int) := leastUp_bd l l.length
/-- Big: too much to be looked at. -/
def bigRs (l : List Rg) : Bool := decide (40 < l.length) || l.any (fun r => decide (200 < r.l.length))
theorem bigRs_yes {l : List Rg} (h : 40 < l.length ∨ ∃ r, r ∈ l ∧ 200 < r.l.length) : bigRs l = true := by
  simp only [bigRs, Bool.or_eq_true, decide_eq_true_eq, List.any_eq_true]
  exact h
theorem bigRs_no {l : List Rg} (h : bigRs l = false) : l.length ≤ 40 ∧ ∀ r ∈ l, r.l.length ≤ 200 := by
  simp only [bigRs, Bool.or_eq_false_iff, decide_eq_false_iff_not, List.any_eq_false] at h
  refine ⟨by omega, fun r hr => ?_⟩
  have := h.2 r hr
  simpa using this
theorem Rg.ext' {r s : Rg} (h1 : r.room = s.room) (h2 : r.l = s.l) (h3 : r.gap = s.gap) : r = s := by
  cases r; cases s; simp_all
/-- A ring, and where its entries lie. -/
structure RgM where
  r : Rg
  ao : Option Addr
  c : Nat
def RgM.cl (m : RgM) : List Value := m.r.cl m.ao m.c
theorem RgM.set_r {ms : List RgM} {k : Nat} {m : RgM} (h : ms[k]? = some m) (a : Option Addr) (c : Nat) : (ms.map RgM.r).set k (RgM.mk m.r a c).r = ms.map RgM.r := by
  apply List.ext_getElem?
  intro i
  by_cases hi : i = k
  · subst hi
    have hlt := (List.getElem?_eq_some_iff.1 h).1
    rw [List.getElem?_set_self (by simpa using hlt), List.getElem?_map, h]
    rfl
  · rw [List.getElem?_set_ne (Ne.symm hi)]
def RgsS (F : Nat → Prop) (w : World) (ao : Option Addr) (ms : List RgM) : Prop := Sl F w 9 ao (ms.map RgM.cl) ∧ ∀ m ∈ ms, RgS F w m.r m.ao m.c
/-- Rings in a row of the call's own, whose entries lie in other blocks of its own. -/
def RgsO (T B : Nat) (w : World) (v : Value) (ms : List RgM) : Prop := Own B w T 9 v (ms.map RgM.cl) ∧ ∀ m ∈ ms, RgS (fun b => B ≤ b ∧ v.ownBlock ≠ some b) w m.r m.ao m.c
theorem RgM.one (ms : List RgM) : (ms.map RgM.cl).flatten.all Value.oneCell' = true := by
  induction ms with
  | nil => rfl
  | cons x xs ih => simp only [List.map_cons, List.flatten_cons, List.all_append, ih, Bool.and_true]; rfl
theorem Ent.eqL (x y : Ent) : Bx.eqL x.cells y.cells = decide (x = y) := by
  cases x with | mk s e => cases e; cases y with | mk s' e' => cases e'; simp [Ent.cells, Bx.eqL, eq1, Bool.decide_and]
theorem Ent.neL (x y : Ent) : (!Bx.eqL x.cells y.cells) = decide (¬ x = y) := by
  rw [Ent.eqL]; by_cases h : x = y <;> simp [h]
theorem RgsS.mono {F G : Nat → Prop} {w : World} {ao : Option Addr} {ms : List RgM} (h : RgsS F w ao ms) (hfg : ∀ b, b < w.heap.size → F b → G b) : RgsS G w ao ms :=
  ⟨h.1.mono hfg, fun m hm => ⟨(h.2 m hm).1, (h.2 m hm).2.1, (h.2 m hm).2.2.mono hfg⟩⟩
theorem RgsS.keep0 {F : Nat → Prop} {w w' : World} {ao : Option Addr} {ms : List RgM} (h : RgsS F w ao ms) (k : Kp0 w w') : RgsS F w' ao ms :=
  ⟨h.1.keep0 k, fun m hm => ⟨(h.2 m hm).1, (h.2 m hm).2.1, (h.2 m hm).2.2.keep0 k⟩⟩
theorem RgsS.any {F : Nat → Prop} {w : World} {ao : Option Addr} {ms : List RgM} (h : RgsS F w ao ms) : RgsS (fun _ => True) w ao ms := h.mono fun _ _ _ => trivial
@[reducible] def RgsS.here {F : Nat → Prop} {w : World} {ao : Option Addr} {ms : List RgM} (_h : RgsS F w ao ms) (W : World) : Prop := RgsS F W ao ms
end Bx
