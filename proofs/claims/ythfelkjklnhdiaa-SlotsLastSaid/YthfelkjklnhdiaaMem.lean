/- Memory: blocks known whole, slices that read as lists of elements, rows of the call's own; the operations that make or write memory. Any program. -/
import Derived.Test.YthfelkjklnhdiaaOps
import Derived.Laws.MakeOwn
import Derived.Laws.AppendOwn
import Derived.Maps.AppendAt
namespace Bx
open Go Go.RowKit

/-- w' is w with new blocks, and with writes to blocks of M alone. -/
structure Kp (M : Nat → Prop) (w w' : World) : Prop where
  os : w'.os = w.os
  tape : w'.tape = w.tape
  output : w'.output = w.output
  size : w.heap.size ≤ w'.heap.size
  block : ∀ k, k < w.heap.size → ¬ M k → w'.heap[k]? = w.heap[k]?
def nob : Nat → Prop := fun _ => False
abbrev Kp0 (w w' : World) : Prop := Kp nob w w'

theorem Kp.refl (M : Nat → Prop) (w : World) : Kp M w w := ⟨rfl, rfl, rfl, Nat.le_refl _, fun _ _ _ => rfl⟩
theorem Kp.mono {M M' : Nat → Prop} {a b : World} (h : Kp M a b) (hm : ∀ k, k < a.heap.size → M k → M' k) : Kp M' a b :=
  ⟨h.os, h.tape, h.output, h.size, fun k hk hn => h.block k hk fun hm' => hn (hm k hk hm')⟩
theorem Kp.trans {M : Nat → Prop} {a b c : World} (h : Kp M a b) (k : Kp M b c) : Kp M a c :=
  ⟨k.os.trans h.os, k.tape.trans h.tape, k.output.trans h.output, Nat.le_trans h.size k.size, fun i hi hn => (k.block i (Nat.lt_of_lt_of_le hi h.size) hn).trans (h.block i hi hn)⟩
/-- Behind writes to blocks that were not there yet. -/
theorem Kp.trans' {M M' : Nat → Prop} {a b c : World} (h : Kp M a b) (k : Kp M' b c) (hm : ∀ i, i < a.heap.size → M' i → M i) : Kp M a c :=
  ⟨k.os.trans h.os, k.tape.trans h.tape, k.output.trans h.output, Nat.le_trans h.size k.size, fun i hi hn => (k.block i (Nat.lt_of_lt_of_le hi h.size) fun hh => hn (hm i hi hh)).trans (h.block i hi hn)⟩
theorem Kp.keep0 {M : Nat → Prop} {a b c : World} (h : Kp M a b) (k : Kp nob b c) : Kp M a c := h.trans (k.mono fun _ _ h => h.elim)
theorem Kp.below {a b : World} (h : Kp0 a b) : Below a.heap.size a b := ⟨h.os, h.tape, h.output, h.size, fun k hk => h.block k hk fun h => h⟩
theorem Kp.alloc (w : World) (o : Obj) (M : Nat → Prop) : Kp M w (w.alloc o) := ⟨rfl, rfl, rfl, by simp, fun k hk _ => Below.heap_alloc w o k hk⟩
theorem Kp.drew (w : World) (M : Nat → Prop) : Kp M w w.drew := ⟨rfl, rfl, rfl, Nat.le_refl _, fun _ _ _ => rfl⟩
theorem Kp.of0 {M : Nat → Prop} {a b : World} (h : Kp0 a b) : Kp M a b := h.mono fun _ _ h => h.elim

theorem Kp.transo {M : Nat → Prop} {a c d : World} {B : Nat} {u : Value} (h : Kp M a c) (k : Kp (fun b => u.ownBlock = some b ∧ B ≤ b) c d) (hb : a.heap.size ≤ B) : Kp M a d := h.trans' k fun i hi he => absurd hi (by have := he.2; omega)
theorem Kp.transb {M : Nat → Prop} {a c d : World} {b : Nat} (h : Kp M a c) (k : Kp (· = b) c d) (hb : a.heap.size ≤ b) : Kp M a d := h.trans' k fun i hi he => absurd hi (by have he' : i = b := he; omega)
/-- Block b is just the cells l of element type t, none frozen. -/
def Blk (w : World) (b : Nat) (t : TypeId) (l : List Value) : Prop := w.heap[b]? = some (.cells l.toArray t (0, 0))

section
variable {M : Nat → Prop} {w w' : World} {b : Nat} {t : TypeId} {l : List Value}
@[reducible] def Blk.here (_h : Blk w b t l) (W : World) : Prop := Blk W b t l
theorem Blk.lt (h : Blk w b t l) : b < w.heap.size := by
  rcases Nat.lt_or_ge b w.heap.size with hlt | hge
  · exact hlt
  · unfold Blk at h; rw [Array.getElem?_eq_none hge] at h; cases h
theorem Blk.keep (h : Blk w b t l) (k : Kp M w w') (hn : ¬ M b) : Blk w' b t l := (k.block b h.lt hn).trans h
theorem Blk.keep0 (h : Blk w b t l) (k : Kp0 w w') : Blk w' b t l := h.keep k fun h => h
theorem Blk.cell (h : Blk w b t l) (q : Nat) : w.cell? ⟨b, q, none⟩ = l[q]? := by
  unfold Blk at h
  simp [World.cell?, h]
theorem Blk.ld (h : Blk w b t l) {q : Nat} {v : Value} (hq : l[q]? = some v) : w.cell? ⟨b, q, none⟩ = some v := (h.cell q).trans hq
theorem Blk.cells (h : Blk w b t l) {q : Nat} {l' : List Value} (hq : (l.drop q).take l'.length = l') : CellsAt w b q l' := by
  intro j v hj
  rw [h.cell]
  have hlt : j < l'.length := (List.getElem?_eq_some_iff.1 hj).1
  have : ((l.drop q).take l'.length)[j]? = some v := by rw [hq]; exact hj
  rw [List.getElem?_take, if_pos hlt, List.getElem?_drop] at this
  exact this
theorem Blk.sub (h : Blk w b t l) (q m : Nat) (hm : q + m ≤ l.length) : CellsAt w b q ((l.drop q).take m) := by
  intro j v hj
  rw [List.getElem?_take] at hj
  split at hj
  · rw [List.getElem?_drop] at hj; rw [h.cell]; exact hj
  · cases hj
theorem Blk.keepb {b' : Nat} (h : Blk w b t l) (k : Kp (· = b') w w') (hn : b ≠ b') : Blk w' b t l := h.keep k hn
theorem Blk.new (w : World) (l : List Value) : Blk (w.alloc (.cells l.toArray t)) w.heap.size t l := heap_alloc_new w _
theorem Blk.inj {t' : TypeId} {l' : List Value} (h : Blk w b t l) (h' : Blk w b t' l') : t = t' ∧ l = l' := by
  unfold Blk at h h'
  rw [h] at h'
  injection h' with h'
  injection h' with h1 h2
  exact ⟨h2, by simpa using h1⟩
end

theorem CellsAt.sub {w : World} {b q : Nat} {l l' : List Value} (h : CellsAt w b q l) (j : Nat) (hl : (l.drop j).take l'.length = l') : CellsAt w b (q + j) l' := by
  intro i v hi
  have hlt : i < l'.length := (List.getElem?_eq_some_iff.1 hi).1
  have : ((l.drop j).take l'.length)[i]? = some v := by rw [hl]; exact hi
  rw [List.getElem?_take, if_pos hlt, List.getElem?_drop] at this
  rw [Nat.add_assoc]
  exact h _ _ this
theorem CellsAt.one {w : World} {b q : Nat} {l : List Value} (h : CellsAt w b q l) (j : Nat) {v : Value} (hl : l[j]? = some v) : w.cell? ⟨b, q + j, none⟩ = some v := h j v hl
theorem CellsAt.same {w w' : World} {b q : Nat} {l : List Value} (h : CellsAt w b q l) (hb : w'.heap[b]? = w.heap[b]?) : CellsAt w' b q l := fun j v hj => (World.cell?_of_block (w := w) (a := ⟨b, q + j, none⟩) hb).trans (h j v hj)

theorem CellsAt.keep {M : Nat → Prop} {w w' : World} {b q : Nat} {l : List Value} (h : CellsAt w b q l) (k : Kp M w w') (hn : ¬ M b) : CellsAt w' b q l := by
  intro j v hj
  have hc := h j v hj
  have hlt : b < w.heap.size := World.block_lt_of_cell? w ⟨b, q + j, none⟩ hc
  exact (World.cell?_of_block (w := w) (a := ⟨b, q + j, none⟩) (k.block b hlt hn)).trans hc
theorem CellsAt.keep0 {w w' : World} {b q : Nat} {l : List Value} (h : CellsAt w b q l) (k : Kp0 w w') : CellsAt w' b q l := h.keep k fun h => h
theorem CellsAt.keepb {w w' : World} {b b' q : Nat} {l : List Value} (h : CellsAt w b q l) (k : Kp (· = b') w w') (hn : b ≠ b') : CellsAt w' b q l := h.keep k hn
@[reducible] def CellsAt.here {w : World} {b q : Nat} {l : List Value} (_h : CellsAt w b q l) (W : World) : Prop := CellsAt W b q l
/-- The blocks of F that are there are as they were. -/
def Fix (F : Nat → Prop) (w w' : World) : Prop := w.heap.size ≤ w'.heap.size ∧ ∀ b, F b → b < w.heap.size → w'.heap[b]? = w.heap[b]?
theorem Kp.fix {M F : Nat → Prop} {w w' : World} (h : Kp M w w') (hd : ∀ b, F b → b < w.heap.size → ¬ M b) : Fix F w w' := ⟨h.size, fun b hb hl => h.block b hl (hd b hb hl)⟩
theorem Kp.fix0 {F : Nat → Prop} {w w' : World} (h : Kp0 w w') : Fix F w w' := h.fix fun _ _ _ h => h
theorem Fix.refl (F : Nat → Prop) (w : World) : Fix F w w := ⟨Nat.le_refl _, fun _ _ _ => rfl⟩
theorem Fix.trans {F : Nat → Prop} {a b c : World} (h : Fix F a b) (k : Fix F b c) : Fix F a c :=
  ⟨Nat.le_trans h.1 k.1, fun i hi hl => (k.2 i hi (Nat.lt_of_lt_of_le hl h.1)).trans (h.2 i hi hl)⟩

/-- A slice's address ao reads as the elements es, of sz cells each, in blocks of F. -/
def Sl (F : Nat → Prop) (w : World) (sz : Nat) (ao : Option Addr) (es : List (List Value)) : Prop :=
  (∀ e ∈ es, e.length = sz) ∧ (es ≠ [] → Ad ao ∧ F (ablk ao) ∧ ablk ao < w.heap.size ∧ ∀ i e, es[i]? = some e → CellsAt w (ablk ao) (aoff ao + i * sz) e)

section
variable {F G : Nat → Prop} {w w' : World} {sz : Nat} {ao : Option Addr} {es : List (List Value)}
@[reducible] def Sl.here (_h : Sl F w sz ao es) (W : World) : Prop := Sl F W sz ao es
theorem Sl.nil (F : Nat → Prop) (w : World) (sz : Nat) (ao : Option Addr) : Sl F w sz ao [] := ⟨fun _ h => (nomatch h), fun h => (h rfl).elim⟩
theorem Sl.len (h : Sl F w sz ao es) {i : Nat} {e : List Value} (hi : es[i]? = some e) : e.length = sz := h.1 e (List.mem_of_getElem? hi)
theorem Sl.isNone (h : Sl F w sz ao es) (hn : ao.isNone = true) : es = [] := by
  cases hes : es with
  | nil => rfl
  | cons e l =>
    have := (h.2 (by rw [hes]; simp)).1
    rw [this] at hn
    cases hn
theorem Sl.ne {i : Nat} {e : List Value} (hi : es[i]? = some e) : es ≠ [] := by rintro rfl; simp at hi
theorem Sl.ad (h : Sl F w sz ao es) {i : Nat} {e : List Value} (hi : es[i]? = some e) : Ad ao := (h.2 (Sl.ne hi)).1
theorem Sl.ad' (h : Sl F w sz ao es) (hi : 0 < es.length) : Ad ao := (h.2 (by intro e; subst e; simp at hi)).1
theorem Sl.at_ (h : Sl F w sz ao es) {i : Nat} {e : List Value} (hi : es[i]? = some e) : CellsAt w (ablk ao) (aoff ao + i * sz) e := (h.2 (Sl.ne hi)).2.2.2 i e hi
theorem Sl.ld (h : Sl F w sz ao es) {i j : Nat} {e : List Value} {v : Value} (hi : es[i]? = some e) (hj : e[j]? = some v) : w.cell? ⟨ablk ao, aoff ao + i * sz + j, none⟩ = some v := h.at_ hi j v hj
theorem Sl.mono (h : Sl F w sz ao es) (hfg : ∀ b, b < w.heap.size → F b → G b) : Sl G w sz ao es := ⟨h.1, fun hn => ⟨(h.2 hn).1, hfg _ (h.2 hn).2.2.1 (h.2 hn).2.1, (h.2 hn).2.2⟩⟩
theorem Sl.keep (h : Sl F w sz ao es) (k : Fix F w w') : Sl F w' sz ao es :=
  ⟨h.1, fun hn => ⟨(h.2 hn).1, (h.2 hn).2.1, Nat.lt_of_lt_of_le (h.2 hn).2.2.1 k.1, fun i e hi => ((h.2 hn).2.2.2 i e hi).same (k.2 _ (h.2 hn).2.1 (h.2 hn).2.2.1)⟩⟩
theorem Sl.old (h : Sl F w sz ao es) : Sl (fun b => b < w.heap.size) w sz ao es := ⟨h.1, fun hn => ⟨(h.2 hn).1, (h.2 hn).2.2.1, (h.2 hn).2.2⟩⟩
theorem Sl.bd (h : Sl F w sz ao es) : Sl (fun b => F b ∧ b < w.heap.size) w sz ao es := ⟨h.1, fun hn => ⟨(h.2 hn).1, ⟨(h.2 hn).2.1, (h.2 hn).2.2.1⟩, (h.2 hn).2.2⟩⟩
theorem Sl.keepb {b' : Nat} (h : Sl F w sz ao es) (k : Kp (· = b') w w') (hn : ¬ F b') : Sl F w' sz ao es := h.keep (k.fix fun b hb _ e => hn (e ▸ hb))
theorem Sl.keep0 (h : Sl F w sz ao es) (k : Kp0 w w') : Sl F w' sz ao es := h.keep k.fix0
/-- s[k:], and s[k:m]. -/
theorem Sl.drop (h : Sl F w sz ao es) (k cap : Nat) (hk : k ≤ es.length) (hc : es.length ≤ cap) : Sl F w sz (if cap = k then ao else ao.map (·.add (k * sz))) (es.drop k) := by
  refine ⟨fun e he => h.1 e (List.mem_of_mem_drop he), fun hn => ?_⟩
  have hlt : k < es.length := by
    rcases Nat.lt_or_ge k es.length with h' | h'
    · exact h'
    · exact (hn (List.drop_eq_nil_of_le h')).elim
  rw [if_neg (by omega)]
  have hne : es ≠ [] := by intro e; subst e; simp at hlt
  obtain ⟨h1, h2, h3, h4⟩ := h.2 hne
  have hao : ao.map (·.add (k * sz)) = some ⟨ablk ao, aoff ao + k * sz, none⟩ := by
    rw [h1]; simp [ablk, aoff, Addr.add_lit]
  rw [hao]
  refine ⟨rfl, h2, h3, fun i e hi => ?_⟩
  rw [List.getElem?_drop] at hi
  have := h4 _ e hi
  simp only [ablk, aoff] at this ⊢
  rw [Nat.add_mul, ← Nat.add_assoc] at this
  exact this
theorem Sl.take (h : Sl F w sz ao es) (k : Nat) : Sl F w sz ao (es.take k) := by
  refine ⟨fun e he => h.1 e (List.mem_of_mem_take he), fun hn => ?_⟩
  have hne : es ≠ [] := by intro e; subst e; simp at hn
  obtain ⟨h1, h2, h3, h4⟩ := h.2 hne
  refine ⟨h1, h2, h3, fun i e hi => h4 i e ?_⟩
  rw [List.getElem?_take] at hi
  split at hi
  · exact hi
  · cases hi
end

theorem flatten_len {α : Type} {sz : Nat} : ∀ {es : List (List α)}, (∀ e ∈ es, e.length = sz) → es.flatten.length = es.length * sz
  | [], _ => by simp
  | e :: es, h => by
    rw [List.flatten_cons, List.length_append, flatten_len (fun x hx => h x (List.mem_cons_of_mem _ hx)), h e List.mem_cons_self, List.length_cons, Nat.add_mul]
    omega

/-- A block that is just the elements. -/
theorem Sl.ofBlk {w : World} {b : Nat} {t : TypeId} {sz : Nat} {es : List (List Value)} (h : Blk w b t es.flatten) (hl : ∀ e ∈ es, e.length = sz) : Sl (· = b) w sz (some ⟨b, 0, none⟩) es := by
  refine ⟨hl, fun hn => ⟨rfl, rfl, h.lt, fun i x hi => ?_⟩⟩
  simp only [ablk, aoff, Nat.zero_add]
  refine h.cells ?_
  have key : ∀ (es : List (List Value)) (i : Nat), (∀ x ∈ es, x.length = sz) → es[i]? = some x → (es.flatten.drop (i * sz)).take x.length = x := by
    intro es
    induction es with
    | nil => intro i _ hi; simp at hi
    | cons y es ih =>
      intro i hy hi
      have hyl := hy y List.mem_cons_self
      cases i with
      | zero =>
        simp at hi; subst hi
        rw [Nat.zero_mul, List.drop_zero, List.flatten_cons, List.take_left]
      | succ i =>
        rw [List.getElem?_cons_succ] at hi
        have h := ih i (fun z hz => hy z (List.mem_cons_of_mem _ hz)) hi
        rw [List.flatten_cons, Nat.add_mul, Nat.one_mul, List.drop_append, List.drop_eq_nil_of_le (by omega), List.nil_append, hyl, Nat.add_sub_cancel]
        exact h
  exact key es i hl hi

theorem getElem?_flatten {α : Type} {sz : Nat} (hsz : 0 < sz) : ∀ {es : List (List α)}, (∀ e ∈ es, e.length = sz) → ∀ j : Nat, es.flatten[j]? = (es[j / sz]?).bind fun e => e[j % sz]?
  | [], _, j => by simp
  | e :: es, h, j => by
    have he : e.length = sz := h e List.mem_cons_self
    rw [List.flatten_cons, List.getElem?_append]
    split
    · rename_i hlt
      rw [he] at hlt
      rw [Nat.div_eq_of_lt hlt, Nat.mod_eq_of_lt hlt]
      rfl
    · rename_i hge
      rw [he] at hge ⊢
      rw [getElem?_flatten hsz (fun x hx => h x (List.mem_cons_of_mem _ hx)) (j - sz)]
      have h1 : j / sz = (j - sz) / sz + 1 := by
        rw [← Nat.add_div_right _ hsz]; congr 1; omega
      have h2 : (j - sz) % sz = j % sz := by rw [← Nat.mod_eq_sub_mod (by omega)]
      rw [h1, h2]
      rfl

theorem Sl.flatCells {F : Nat → Prop} {w : World} {sz : Nat} {ao : Option Addr} {es : List (List Value)} (h : Sl F w sz ao es) (hsz : 0 < sz) {j : Nat} {v : Value} (hj : es.flatten[j]? = some v) :
    w.cell? ⟨ablk ao, aoff ao + j, none⟩ = some v := by
  rw [getElem?_flatten hsz h.1] at hj
  cases he : es[j / sz]? with
  | none => rw [he] at hj; cases hj
  | some e =>
    rw [he] at hj
    have := h.ld he (j := j % sz) (v := v) hj
    have h1 : aoff ao + j / sz * sz + j % sz = aoff ao + j := by
      have := Nat.div_add_mod j sz
      rw [Nat.mul_comm] at this
      omega
    rw [h1] at this
    exact this

/-- A slice value of the call's own: nothing, without room; or the head of a block from base on, whose first cells are the elements. -/
def Own (base : Nat) (w : World) (e sz : Nat) (v : Value) (es : List (List Value)) : Prop :=
  (∀ x ∈ es, x.length = sz) ∧ ((es = [] ∧ ∃ ao, v = .slice ao 0 0) ∨
    ∃ g cap rest, v = .slice (some ⟨g, 0, none⟩) es.length cap ∧ base ≤ g ∧ Blk w g e (es.flatten ++ rest) ∧ es.length ≤ cap ∧ cap ≤ maxLen ∧ (es.flatten ++ rest).length = cap * sz)

def obl : Value → Nat → Prop := fun v b => v.ownBlock = some b

section
variable {base : Nat} {w w' : World} {e sz : Nat} {v : Value} {es : List (List Value)}
@[reducible] def Own.here (_h : Own base w e sz v es) (W : World) : Prop := Own base W e sz v es
theorem Own.none_ (base : Nat) (w : World) (e sz : Nat) (ao : Option Addr) : Own base w e sz (.slice ao 0 0) [] := ⟨fun _ h => (nomatch h), .inl ⟨rfl, ao, rfl⟩⟩
theorem Own.keep {M : Nat → Prop} (h : Own base w e sz v es) (k : Kp M w w') (hn : ∀ b, base ≤ b → v.ownBlock = some b → ¬ M b) : Own base w' e sz v es := by
  refine ⟨h.1, ?_⟩
  rcases h.2 with h1 | ⟨g, cap, rest, rfl, hg, hb, r⟩
  · exact .inl h1
  · exact .inr ⟨g, cap, rest, rfl, hg, hb.keep k (hn g hg rfl), r⟩
theorem Own.keep0 (h : Own base w e sz v es) (k : Kp0 w w') : Own base w' e sz v es := h.keep k fun _ _ _ h => h
theorem Own.keepb {b' : Nat} (h : Own base w e sz v es) (k : Kp (· = b') w w') (hn : ∀ b, base ≤ b → v.ownBlock = some b → b ≠ b') : Own base w' e sz v es := h.keep k hn
theorem Own.mono {base' : Nat} (h : Own base w e sz v es) (hb : base' ≤ base) : Own base' w e sz v es := by
  refine ⟨h.1, ?_⟩
  rcases h.2 with h1 | ⟨g, cap, rest, rfl, hg, r⟩
  · exact .inl h1
  · exact .inr ⟨g, cap, rest, rfl, Nat.le_trans hb hg, r⟩
/-- Behind an append to another row of the call's own, or to one that is older. -/
theorem Blk.keepo {b : Nat} {t : TypeId} {l : List Value} {B : Nat} {u : Value} (h : Blk w b t l) (k : Kp (fun b => u.ownBlock = some b ∧ B ≤ b) w w') (hn : ∀ x, x = b → x < w.heap.size → u.ownBlock = some x → ¬ B ≤ x) : Blk w' b t l :=
  h.keep k fun hm => hn b rfl h.lt hm.1 hm.2
theorem CellsAt.keepo {b q : Nat} {l : List Value} {B : Nat} {u : Value} (h : CellsAt w b q l) (k : Kp (fun b => u.ownBlock = some b ∧ B ≤ b) w w') (hn : ∀ x, x = b → x < w.heap.size → u.ownBlock = some x → ¬ B ≤ x) : CellsAt w' b q l := by
  intro j v hj
  have hc := h j v hj
  have hlt : b < w.heap.size := World.block_lt_of_cell? w ⟨b, q + j, none⟩ hc
  exact (World.cell?_of_block (w := w) (a := ⟨b, q + j, none⟩) (k.block b hlt fun hm => hn b rfl hlt hm.1 hm.2)).trans hc
theorem Own.keepo {B : Nat} {u : Value} (h : Own base w e sz v es) (k : Kp (fun b => u.ownBlock = some b ∧ B ≤ b) w w') (hn : ∀ b, base ≤ b → v.ownBlock = some b → u.ownBlock = some b → ¬ B ≤ b) : Own base w' e sz v es :=
  h.keep k fun b hb hv hm => hn b hb hv hm.1 hm.2
theorem Sl.keepo {F : Nat → Prop} {ao : Option Addr} {B : Nat} {u : Value} (h : Sl F w sz ao es) (k : Kp (fun b => u.ownBlock = some b ∧ B ≤ b) w w') (hn : ∀ b, F b → b < w.heap.size → u.ownBlock = some b → ¬ B ≤ b) : Sl F w' sz ao es :=
  h.keep (k.fix fun b hb hl hm => hn b hb hl hm.1 hm.2)
theorem Own.sl (h : Own base w e sz v es) : ∃ ao c, v = .slice ao es.length c ∧ es.length ≤ c ∧ c ≤ maxLen ∧ Sl (fun b => base ≤ b) w sz ao es := by
  rcases h.2 with ⟨rfl, ao, rfl⟩ | ⟨g, cap, rest, rfl, hg, hb, h1, h2, h3⟩
  · exact ⟨ao, 0, rfl, Nat.le_refl _, Nat.zero_le _, Sl.nil _ _ _ _⟩
  · refine ⟨_, cap, rfl, h1, h2, h.1, fun hn => ⟨rfl, hg, hb.lt, fun i x hi => ?_⟩⟩
    simp only [ablk, aoff, Nat.zero_add]
    have hlen := h.1 x (List.mem_of_getElem? hi)
    refine hb.cells ?_
    rw [hlen]
    clear hb h3 h2 h1 hn
    have key : ∀ (es : List (List Value)) (i : Nat), (∀ x ∈ es, x.length = sz) → es[i]? = some x → ((es.flatten ++ rest).drop (i * sz)).take sz = x := by
      intro es
      induction es with
      | nil => intro i _ hi; simp at hi
      | cons y es ih =>
        intro i hy hi
        have hyl := hy y List.mem_cons_self
        cases i with
        | zero =>
          simp at hi; subst hi
          rw [Nat.zero_mul, List.drop_zero, List.flatten_cons, List.append_assoc, ← hyl, List.take_left]
        | succ i =>
          rw [List.getElem?_cons_succ] at hi
          rw [← ih i (fun z hz => hy z (List.mem_cons_of_mem _ hz)) hi, List.flatten_cons, List.append_assoc, Nat.add_mul, Nat.one_mul, Nat.add_comm, ← hyl, List.drop_append, List.drop_eq_nil_of_le (by omega)]
          simp
    exact key es i h.1 hi
end

section
variable {P : Program} {n : Nat} {f : Fr} {w : World} {o : Oper} {N : Fr → World → Prop}

theorem Stp_val {v : Value} {w' : World} (h : (execOp (ev f) o).run P w = .ok (.value v) w') (hn : N (upo f o.dst v) w') : Stp P n o f w N := by
  intro hd a ha
  unfold Oper.wp
  rw [ha.eval, h]
  exact ⟨_, ha.put hd v, hn⟩
theorem Stp_skp {w' : World} (h : (execOp (ev f) o).run P w = .ok .skip w') (hn : N (upo f o.dst undef) w') : Stp P n o f w N := by
  intro hd a ha
  unfold Oper.wp
  rw [ha.eval, h]
  exact ⟨_, ha.put hd undef, hn⟩

theorem Stp_box {t : Nat} {x : Operand} {v : Value} {l : List Value} (ho : o.op = .box t x) (hx : ev f x = v) (hl : v.cells.toList = l)
    (h : ∀ b w', b = w.heap.size → w'.heap.size = b + 1 → Kp0 w w' → Blk w' b t l → N (upo f o.dst (.pointer (some ⟨b, 0, none⟩))) w') : Stp P n o f w N := by
  subst hx
  have hc : (ev f x).cells = l.toArray := by rw [← hl]
  refine Stp_val (v := .pointer (some ⟨w.heap.size, 0, none⟩)) (w' := w.alloc (.cells l.toArray t)) ?_ (h _ _ rfl (by simp) (Kp.alloc _ _ _) (Blk.new _ _))
  simp [execOp, ho, Instr.box, newVar, newRow, hc]

def zeroOf (P : Program) (t : Nat) : Option (List Value) := ((P.info? t).bind (·.zero)).map (·.cells.toList)
theorem zeroOf_spec {t : Nat} {l : List Value} (h : zeroOf P t = some l) : ∃ inf v, P.info? t = some inf ∧ inf.zero = some v ∧ v.cells = l.toArray := by
  unfold zeroOf at h
  cases h1 : P.info? t with
  | none => rw [h1] at h; cases h
  | some inf =>
    rw [h1] at h
    cases h2 : inf.zero with
    | none => simp [h2] at h
    | some v =>
      simp [h2] at h
      exact ⟨inf, v, rfl, h2, by rw [← h]⟩

theorem Stp_alloc {t : Nat} {l : List Value} (hz : zeroOf P t = some l) (ho : o.op = .alloc t)
    (h : ∀ b w', b = w.heap.size → w'.heap.size = b + 1 → Kp0 w w' → Blk w' b t l → N (upo f o.dst (.pointer (some ⟨b, 0, none⟩))) w') : Stp P n o f w N := by
  obtain ⟨inf, v, h1, h2, h3⟩ := zeroOf_spec hz
  refine Stp_val (v := .pointer (some ⟨w.heap.size, 0, none⟩)) (w' := w.alloc (.cells l.toArray t)) ?_ (h _ _ rfl (by simp) (Kp.alloc _ _ _) (Blk.new _ _))
  simp [execOp, ho, Instr.alloc, zeroValue, typeInfo, h1, h2, newVar, newRow, h3]

/-- The cells of a block behind a store of vs at q. -/
def putAt (l : List Value) (q : Nat) (vs : List Value) : List Value := l.take q ++ vs ++ l.drop (q + vs.length)
theorem putAt_length {l vs : List Value} {q : Nat} (h : q + vs.length ≤ l.length) : (putAt l q vs).length = l.length := by
  simp [putAt]; omega
theorem putAt_all {l vs : List Value} (h : vs.length = l.length) : putAt l 0 vs = vs := by
  simp [putAt, h]
theorem putAt_one (l : List Value) (q : Nat) (v : Value) (h : q < l.length) : putAt l q [v] = l.set q v := by
  rw [List.set_eq_take_append_cons_drop, if_pos h]
  simp [putAt]
theorem putAt_get_ne {l vs : List Value} {q j : Nat} (h : q + vs.length ≤ l.length) (hj : j < q ∨ q + vs.length ≤ j) : (putAt l q vs)[j]? = l[j]? := by
  unfold putAt
  rw [List.append_assoc]
  rcases hj with hj | hj
  · rw [List.getElem?_append_left (by rw [List.length_take]; omega), List.getElem?_take, if_pos hj]
  · rw [List.getElem?_append_right (by rw [List.length_take]; omega), List.length_take, List.getElem?_append_right (by omega), List.getElem?_drop]
    congr 1
    omega
theorem putAt_get {l vs : List Value} {q j : Nat} (h : q + vs.length ≤ l.length) (hj : j < vs.length) : (putAt l q vs)[q + j]? = vs[j]? := by
  unfold putAt
  rw [List.append_assoc, List.getElem?_append_right (by rw [List.length_take]; omega), List.length_take, List.getElem?_append_left (by omega)]
  congr 1
  omega

theorem run_storeBlk {b q : Nat} {t : TypeId} {l vs : List Value} (hb : Blk w b t l) (hq : q + vs.length ≤ l.length) (h1 : vs.all Value.oneCell' = true) :
    (storeCells ⟨b, q, none⟩ vs).run P w = .ok () (w.setRow b (putAt l q vs).toArray) := by
  have := run_storeCells_at P b q t vs 0 l.toArray w hb (by simpa using hq) (by simpa using h1)
  simpa [putAt] using this

theorem Kp.setRow (w : World) (b : Nat) (cs : Array Value) : Kp (· = b) w (w.setRow b cs) :=
  ⟨rfl, rfl, rfl, by simp [World.setRow], fun k _ hk => setRow_other w b k cs hk⟩

def sizeIs (P : Program) (t size : Nat) : Bool := match P.info? t with | some inf => inf.size == size | none => false
theorem sizeIs_run {t size : Nat} (h : sizeIs P t size = true) (w : World) : (Go.sizeOf t).run P w = .ok size w := by
  unfold sizeIs at h
  cases h3 : P.info? t with
  | none => rw [h3] at h; cases h
  | some inf =>
    rw [h3] at h
    have : inf.size = size := by simpa using h
    simp [Go.sizeOf, typeInfo, h3, this]

theorem Stp_store {t t' size b q : Nat} {x y : Operand} {l vs : List Value} (hb : Blk w b t' l) (hs : sizeIs P t size = true) (ho : o.op = .store t x y) (hx : ev f x = .pointer (some ⟨b, q, none⟩))
    (hy : (ev f y).cells.toList = vs) (hl : vs.length = size) (hq : q + vs.length ≤ l.length) (h1 : vs.all Value.oneCell' = true)
    (h : ∀ w', w'.heap.size = w.heap.size → Kp (· = b) w w' → Blk w' b t' (putAt l q vs) → N (upo f o.dst undef) w') : Stp P n o f w N := by
  have hsz : (ev f y).cells.size = size := by rw [← hl, ← hy]; simp
  refine Stp_skp (w' := w.setRow b (putAt l q vs).toArray) ?_ (h _ (by simp [World.setRow]) (Kp.setRow _ _ _) (setRow_heap w b l.toArray _ t' (0, 0) hb))
  simp [execOp, ho, hx, Instr.storeAt, Instr.sureAddr, storeVar, sizeIs_run hs, hsz, hy, run_storeBlk hb hq h1]

/-! ### make, append -/


def elemOk (P : Program) (t e size bytes : Nat) : Bool :=
  (match P.underlying t with | some (.slice e') => e' == e | _ => false) &&
  (match P.info? e with | some inf => (inf.size == size) && (inf.bytes == bytes) && (match inf.zero with | some z => z.cells.size == size | none => false) | none => false)
theorem elemOk_spec {t e size bytes : Nat} (h : elemOk P t e size bytes = true) : ∃ inf z, P.underlying t = some (.slice e) ∧ P.info? e = some inf ∧ inf.size = size ∧ inf.bytes = bytes ∧ inf.zero = some z ∧ z.cells.size = size := by
  unfold elemOk at h
  rw [Bool.and_eq_true] at h
  obtain ⟨ha, hb⟩ := h
  cases h1 : P.underlying t with
  | none => rw [h1] at ha; cases ha
  | some d =>
    cases d with
    | slice e' =>
      rw [h1] at ha
      cases h2 : P.info? e with
      | none => rw [h2] at hb; cases hb
      | some inf =>
        rw [h2] at hb
        cases h3 : inf.zero with
        | none => simp [h3] at hb
        | some z =>
          simp [h3] at hb ha
          exact ⟨inf, z, by rw [ha], rfl, hb.1.1, hb.1.2, h3, hb.2⟩
    | _ => rw [h1] at ha; cases ha

theorem oneCell_mem {vs : List Value} (h : vs.all Value.oneCell' = true) : ∀ u ∈ vs, u.oneCell' = true := by simpa using h

theorem run_append {base t ty e size bytes : Nat} (hek : elemOk P t e size bytes = true) (hsz : 0 < size) {v : Value} {es : List (List Value)} (hown : Own base w e size v es)
    {F : Nat → Prop} {ao : Option Addr} {c : Nat} {ys : List (List Value)} (hr : Sl F w size ao ys) (h1 : ys.flatten.all Value.oneCell' = true)
    (h63 : es.length + ys.length ≤ maxLen) (hby : (es.length + ys.length) * bytes ≤ 140737488355328) (hbase : base ≤ w.heap.size) :
    ∃ v' w', (Builtin.append_ #[t, t] ty #[v, .slice ao ys.length c]).run P w = .ok v' w' ∧ Own base w' e size v' (es ++ ys) ∧ Kp (fun b => v.ownBlock = some b ∧ base ≤ b) w w' ∧
      ((v' = v ∧ w' = w ∧ ys = []) ∨ v'.ownBlock = v.ownBlock ∨ v'.ownBlock = some w.heap.size) := by
  obtain ⟨inf, z, ht, hi, hs1, hs2, hz, hzs⟩ := elemOk_spec hek
  subst hs1; subst hs2
  have hall : ∀ x ∈ es ++ ys, x.length = inf.size := fun x hx => (List.mem_append.1 hx).elim (hown.1 x) (hr.1 x)
  by_cases hy : ys = []
  · subst hy
    have hv : (Builtin.append_ #[t, t] ty #[v, .slice ao 0 c]).run P w = .ok v w := by
      have hfc : ∀ a, (Builtin.firstCells inf.size 0 (.slice a 0 c)).run P w = .ok #[] w := by
        intro a; cases a <;> simp [Builtin.firstCells, loadCells, loadCellsFrom]
      rcases hown.2 with ⟨rfl, a, rfl⟩ | ⟨g, cap, rest, rfl, _, _, hlc, _⟩
      · cases a <;> simp [Builtin.append_, run_underlying ht, Go.sizeOf, typeInfo, hi, Builtin.lenOf, hfc, storeCells]
      · simp [Builtin.append_, run_underlying ht, Go.sizeOf, typeInfo, hi, Builtin.lenOf, hfc, storeCells, hlc]
    exact ⟨v, w, by simpa using hv, by simpa using hown, Kp.refl _ _, .inl ⟨rfl, rfl, rfl⟩⟩
  · obtain ⟨had, _, _, _⟩ := hr.2 hy
    have hcells : ∀ j u, ys.flatten[j]? = some u → w.cell? ((⟨ablk ao, aoff ao, none⟩ : Addr).add j) = some u := fun j u hj => by
      rw [Addr.add_lit]; exact hr.flatCells hsz hj
    rw [had]
    have hpos : 0 < ys.length := List.length_pos_iff.2 hy
    have hcase : (∃ a, v = .slice (some a) 0 0 ∧ es = []) ∨ w.ownsRow base e inf.size v es.length es.flatten := by
      rcases hown.2 with ⟨h0, a, rfl⟩ | ⟨g, cap, rest, rfl, hg, hb, hlc, hcm, hcs⟩
      · cases a with
        | none => right; subst h0; exact World.ownsRow_nil _ _ _ _
        | some a => left; exact ⟨a, rfl, h0⟩
      · right
        refine ⟨flatten_len hown.1, .inr ⟨g, cap, _, rfl, hg, hb, hlc, hcm, by simpa using hcs, ?_⟩⟩
        rw [← flatten_len hown.1]
        simp
    rcases hcase with ⟨a, rfl, rfl⟩ | hrow
    · have hr' := run_append_grow (P := P) w t ty e inf z ht hi hz a 0 0 [] (by simp) (by simp) ⟨ablk ao, aoff ao, none⟩ ys.length c ys.flatten (flatten_len hr.1) hcells (by omega)
        (by simp only [maxLen, List.length_nil] at h63; omega) (growslice_fits (by omega) (by simpa using hby))
      refine ⟨_, _, hr', ?_, ?_, .inr (.inr rfl)⟩
      · have hge := grownCap_ge w (0 + ys.length) 0 e
        have hle := grownCap_le_maxLen w (0 + ys.length) 0 e (by simpa using h63)
        refine ⟨hall, .inr ⟨_, _, (Builtin.zeroCells z.cells (grownCap w (0 + ys.length) 0 e - (0 + ys.length))).toList, by simp, hbase, ?_, by simpa using hge, hle, ?_⟩⟩
        · have := heap_alloc_new w.drew (.cells (([] : List Value).toArray ++ ys.flatten.toArray ++ Builtin.zeroCells z.cells (grownCap w (0 + ys.length) 0 e - (0 + ys.length))) e)
          unfold Blk
          rw [show w.heap.size = w.drew.heap.size from rfl, this]
          simp
        · simp only [List.nil_append, List.length_append, Array.length_toList, size_zeroCells, hzs, flatten_len hr.1, ← Nat.add_mul]
          congr 1
          omega
      · exact (Kp.drew w _).trans (Kp.alloc _ _ _)
    · obtain ⟨v', w', hrun, hown', hg, _, hat⟩ := run_append_own_at (P := P) w base t ty e inf z inf.size inf.bytes ht hi hz rfl rfl hzs hsz v es.length es.flatten hrow
        ⟨ablk ao, aoff ao, none⟩ ys.length c ys.flatten (flatten_len hr.1) hcells (oneCell_mem h1) h63 hby hbase
      refine ⟨v', w', hrun, ⟨hall, ?_⟩, ⟨hg.os, hg.tape, hg.output, hg.size, fun k hk hn => hg.block k hk fun he => hn ⟨he.symm, (hrow.lt k he.symm).1⟩⟩, .inr hat⟩
      rcases hown'.2 with ⟨h1, h2⟩ | ⟨g, cap, cur, h1, h2, h3, h4, h5, h6, h7⟩
      · omega
      · right
        refine ⟨g, cap, cur.toList.drop ((es.length + ys.length) * inf.size), by rw [h1, List.length_append], h2, ?_, by rw [List.length_append]; exact h4, h5, ?_⟩
        · unfold Blk
          rw [h3]
          have : (es ++ ys).flatten = cur.toList.take ((es.length + ys.length) * inf.size) := by rw [h7]; simp
          rw [this, List.take_append_drop]
        · have : (es ++ ys).flatten = cur.toList.take ((es.length + ys.length) * inf.size) := by rw [h7]; simp
          rw [this, List.take_append_drop]
          simpa using h6

theorem Stp_append {base t e size bytes : Nat} {x y : Operand} {v : Value} {es : List (List Value)} {F : Nat → Prop} {ao : Option Addr} {l c : Nat} {ys : List (List Value)}
    (hown : Own base w e size v es) (hr : Sl F w size ao ys) (hek : elemOk P t e size bytes = true) (hsz : Nat.blt 0 size = true) (ho : o.op = .call { callee := .builtin .append, args := #[x, y], argTypes := #[t, t] })
    (hx : ev f x = v) (hy : ev f y = .slice ao l c) (hl : l = ys.length) (h1 : ys.flatten.all Value.oneCell' = true)
    (h63 : es.length + ys.length ≤ maxLen) (hby : (es.length + ys.length) * bytes ≤ 140737488355328) (hbase : base ≤ w.heap.size)
    (h : ∀ v' w', Own base w' e size v' (es ++ ys) → Kp (fun b => v.ownBlock = some b ∧ base ≤ b) w w' → ((v' = v ∧ w' = w ∧ ys = []) ∨ v'.ownBlock = v.ownBlock ∨ v'.ownBlock = some w.heap.size) → N (upo f o.dst v') w') : Stp P n o f w N := by
  subst hl
  obtain ⟨v', w', h2, h3, h4, h5⟩ := run_append (ty := o.type) (c := c) hek (by simpa using hsz) hown hr h1 h63 hby hbase
  refine Stp_val (v := v') (w' := w') ?_ (h v' w' h3 h4 h5)
  simp [execOp, ho, resolve, invoke, builtin, hx, hy, h2]

/-- An append within the capacity: the same row. -/
theorem Stp_appendIn {base t e size bytes : Nat} {x y : Operand} {g n' cap : Nat} {es : List (List Value)} {F : Nat → Prop} {ao : Option Addr} {l c : Nat} {ys : List (List Value)}
    (hown : Own base w e size (.slice (some ⟨g, 0, none⟩) n' cap) es) (hr : Sl F w size ao ys) (hek : elemOk P t e size bytes = true) (hsz : Nat.blt 0 size = true) (ho : o.op = .call { callee := .builtin .append, args := #[x, y], argTypes := #[t, t] })
    (hx : ev f x = .slice (some ⟨g, 0, none⟩) n' cap) (hy : ev f y = .slice ao l c) (hn : n' = es.length) (hl : l = ys.length) (h1 : ys.flatten.all Value.oneCell' = true) (hroom : es.length + ys.length ≤ cap)
    (h : ∀ w', w'.heap.size = w.heap.size → Own base w' e size (.slice (some ⟨g, 0, none⟩) (es.length + ys.length) cap) (es ++ ys) → Kp (· = g) w w' → N (upo f o.dst (.slice (some ⟨g, 0, none⟩) (es.length + ys.length) cap)) w') : Stp P n o f w N := by
  subst hl; subst hn
  have hsz' : 0 < size := by simpa using hsz
  obtain ⟨inf, z, ht, hi, hs1, hs2, hz, hzs⟩ := elemOk_spec hek
  by_cases hyn : ys = []
  · subst hyn
    have hfc : ∀ a, (Builtin.firstCells inf.size 0 (.slice a 0 c)).run P w = .ok #[] w := by
      intro a; cases a <;> simp [Builtin.firstCells, loadCells, loadCellsFrom]
    have hle : es.length ≤ cap := by simpa using hroom
    refine Stp_val (v := .slice (some ⟨g, 0, none⟩) es.length cap) (w' := w) ?_ (by simpa using h w rfl (by simpa using hown) (Kp.refl _ _))
    simp [execOp, ho, resolve, invoke, builtin, hx, hy, Builtin.append_, run_underlying ht, Go.sizeOf, typeInfo, hi, Builtin.lenOf, hfc, storeCells, hle]
  · obtain ⟨had, _, _, _⟩ := hr.2 hyn
    have hpos : 0 < ys.length := List.length_pos_iff.2 hyn
    rcases hown.2 with ⟨h0, a, hv⟩ | ⟨g', cap', rest, hv, hg, hb, hlc, hcm, hcs⟩
    · injection hv with _ _ hv
      omega
    · injection hv with hv1 _ hv3
      injection hv1 with hv1
      injection hv1 with hv1
      subst hv1; subst hv3; subst hs1
      have hcells : ∀ j u, ys.flatten[j]? = some u → w.cell? ((⟨ablk ao, aoff ao, none⟩ : Addr).add j) = some u := fun j u hj => by
        rw [Addr.add_lit]; exact hr.flatCells hsz' hj
      have hfit : es.length * inf.size + ys.flatten.length ≤ (es.flatten ++ rest).toArray.size := by
        rw [List.size_toArray, hcs, flatten_len hr.1, ← Nat.add_mul]; exact Nat.mul_le_mul_right _ hroom
      have hrun := run_append_room (P := P) w t o.type e inf ht hi g es.length cap _ hb ⟨ablk ao, aoff ao, none⟩ ys.length c ys.flatten (flatten_len hr.1) hcells (oneCell_mem h1) hroom hfit
      have hnew : ((es.flatten ++ rest).toArray.toList.take (es.length * inf.size) ++ ys.flatten ++ (es.flatten ++ rest).toArray.toList.drop (es.length * inf.size + ys.flatten.length)) =
          (es ++ ys).flatten ++ rest.drop ys.flatten.length := by
        have hfl := flatten_len hown.1
        simp only [List.flatten_append]
        rw [← hfl, List.take_left, List.drop_append, List.drop_eq_nil_of_le (by omega), show es.flatten.length + ys.flatten.length - es.flatten.length = ys.flatten.length from by omega, List.nil_append]
      rw [hnew] at hrun
      refine Stp_val (v := .slice (some ⟨g, 0, none⟩) (es.length + ys.length) cap) (w' := w.setRow g ((es ++ ys).flatten ++ rest.drop ys.flatten.length).toArray) ?_ (h _ (by simp [World.setRow]) ?_ (Kp.setRow _ _ _))
      · simp only [execOp, ho, resolve, invoke, builtin, hx, hy, List.map_toArray, List.map_cons, List.map_nil, Sem.run_bind, Sem.run_pure, Result.andThen_ok]
        rw [had, hrun]
        rfl
      · refine ⟨fun x hx => (List.mem_append.1 hx).elim (hown.1 x) (hr.1 x), .inr ⟨g, cap, rest.drop ys.flatten.length, by rw [List.length_append], hg, setRow_heap w g _ _ e (0, 0) hb, by rw [List.length_append]; exact hroom, hcm, ?_⟩⟩
        simp only [List.flatten_append, List.length_append, List.length_drop, List.size_toArray, flatten_len hown.1, flatten_len hr.1] at hfit hcs ⊢
        omega

theorem Stp_makeSlice {t e size bytes : Nat} {x y : Operand} {kl kc : IntKind} {a b : Int} {l c : Nat} (hek : elemOk P t e size bytes = true) (ho : o.op = .makeSlice t x y) (hx : ev f x = .int kl a) (hy : ev f y = .int kc b)
    (ha : a = (l : Int)) (hb : b = (c : Int)) (hlc : l ≤ c) (hby : bytes * c ≤ 281474976710656) (h63 : c ≤ maxLen) {z : List Value} (hz : zeroOf P e = some z)
    (h : ∀ g w', g = w.heap.size → w'.heap.size = g + 1 → Kp0 w w' → Blk w' g e (List.replicate c z).flatten → N (upo f o.dst (.slice (some ⟨g, 0, none⟩) l c)) w') : Stp P n o f w N := by
  subst ha; subst hb
  obtain ⟨inf, z', ht, hi, hs1, hs2, hzz, hzs⟩ := elemOk_spec hek
  obtain ⟨inf2, z2, hi2, hz2, hz3⟩ := zeroOf_spec hz
  rw [hi] at hi2; cases hi2
  rw [hzz] at hz2; cases hz2
  have hb' : (inf.bytes : Int) * (c : Int) ≤ 281474976710656 := by
    have h : ((inf.bytes * c : Nat) : Int) ≤ 281474976710656 := by rw [hs2]; omega
    rwa [Int.natCast_mul] at h
  have hr := run_make (P := P) w t e inf z' ht hi hzz kl kc l c (by omega) (by omega) hb' (by simp only [maxLen] at h63; omega)
  simp only [Int.toNat_natCast] at hr
  have hm : madeCells z'.cells (c * inf.size) = (List.replicate c z).flatten.toArray := by
    apply Array.ext'
    apply List.ext_getElem?
    intro j
    rw [hz3] at hzs
    have hzl : z.length = inf.size := by rw [hs1]; simpa using hzs
    simp only [madeCells, hz3, Array.toList_map, Array.toList_range, List.getElem?_map]
    rcases Nat.eq_zero_or_pos inf.size with h0 | hpos
    · have hz0 : z = [] := List.eq_nil_of_length_eq_zero (by omega)
      simp [h0, hz0]
    · rw [getElem?_flatten hpos (by intro x hx; rw [List.eq_of_mem_replicate hx]; exact hzl)]
      by_cases hj : j < c * inf.size
      · have h1 : j / inf.size < c := Nat.div_lt_of_lt_mul (by rw [Nat.mul_comm]; exact hj)
        have h2 : j % inf.size < z.length := by rw [hzl]; exact Nat.mod_lt _ hpos
        simp [List.getElem?_range hj, h1, hzl, Nat.mod_lt _ hpos]
      · have h1 : ¬ j / inf.size < c := by
          intro h; exact hj ((Nat.div_lt_iff_lt_mul hpos).1 h)
        rw [List.getElem?_eq_none (by simpa using hj)]
        simp [h1]
  rw [hm] at hr
  refine Stp_val ?_ (h _ _ rfl (by simp) (Kp.alloc w _ _) (Blk.new w _))
  simp [execOp, ho, hx, hy, hr]


theorem Own.sls {base : Nat} {w : World} {e sz : Nat} {ao : Option Addr} {n c : Nat} {es : List (List Value)} (h : Own base w e sz (.slice ao n c) es) : Sl (fun b => base ≤ b) w sz ao es := by
  obtain ⟨a, q, hv, _, _, hs⟩ := h.sl
  injection hv with h1 h2 h3
  subst h1
  exact hs
theorem Own.blk {base : Nat} {w : World} {e sz : Nat} {v : Value} {es : List (List Value)} (h : Own base w e sz v es) (hn : es ≠ []) : ∀ b, v.ownBlock = some b → b < w.heap.size ∧ base ≤ b := by
  intro b he
  rcases h.2 with ⟨h0, _⟩ | ⟨g, cap, rest, rfl, hg, hbl, _⟩
  · exact (hn h0).elim
  · have : g = b := by simpa [Value.ownBlock] using he
    have := hbl.lt
    omega
theorem Own.made {base : Nat} {w : World} {b e sz c : Nat} {z : List Value} (h : Blk w b e (List.replicate c z).flatten) (hz : z.length = sz) (hb : base ≤ b) (hc : c ≤ maxLen) : Own base w e sz (.slice (some ⟨b, 0, none⟩) 0 c) [] :=
  ⟨fun _ h => (nomatch h), .inr ⟨b, c, _, rfl, hb, h, Nat.zero_le _, hc, by simp [hz]⟩⟩
/-- What is owned lies in blocks that are there: a new block is none of them. -/
theorem Own.ne_fresh {base : Nat} {w : World} {e sz : Nat} {v : Value} {es : List (List Value)} (h : Own base w e sz v es) {b : Nat} (hb : w.heap.size ≤ b) (hbase : base ≤ b) : es ≠ [] → v.ownBlock ≠ some b := by
  intro hn he
  rcases h.2 with ⟨h0, _⟩ | ⟨g, cap, rest, rfl, hg, hbl, _⟩
  · exact hn h0
  · have : g = b := by simpa [Value.ownBlock] using he
    have := hbl.lt
    omega

/-! ### A store into an element of a row of the call's own -/

theorem Own.len {base : Nat} {e sz : Nat} {v : Value} {es : List (List Value)} (h : Own base w e sz v es) : ∃ ao c, v = .slice ao es.length c := by
  obtain ⟨ao, c, h, _⟩ := h.sl
  exact ⟨ao, c, h⟩

theorem flatten_split {es : List (List Value)} {sz i : Nat} (h : ∀ x ∈ es, x.length = sz) (hi : i < es.length) (rest : List Value) (off : Nat) (vs : List Value) (hf : off + vs.length ≤ sz) :
    putAt (es.flatten ++ rest) (i * sz + off) vs = (es.set i (putAt (es[i]) off vs)).flatten ++ rest := by
  induction es generalizing i with
  | nil => simp at hi
  | cons y es ih =>
    have hyl := h y List.mem_cons_self
    cases i with
    | zero =>
      simp only [List.getElem_cons_zero, List.set_cons_zero, List.flatten_cons, Nat.zero_mul, Nat.zero_add, List.append_assoc]
      unfold putAt
      rw [List.take_append_of_le_length (by omega), List.drop_append_of_le_length (by omega)]
      simp only [List.append_assoc]
    | succ i =>
      have hi' : i < es.length := by simpa using hi
      have := ih (fun x hx => h x (List.mem_cons_of_mem _ hx)) hi'
      simp only [List.getElem_cons_succ, List.set_cons_succ, List.flatten_cons, List.append_assoc]
      rw [← this]
      have h1 : (i + 1) * sz + off = y.length + (i * sz + off) := by rw [Nat.add_mul]; omega
      unfold putAt
      rw [h1, List.take_append, List.drop_append]
      rw [List.take_of_length_le (by omega), show y.length + (i * sz + off) - y.length = i * sz + off from by omega]
      rw [List.drop_eq_nil_of_le (by omega), show y.length + (i * sz + off) + vs.length - y.length = i * sz + off + vs.length from by omega]
      simp

theorem Stp_storeOwn {base t e size sz : Nat} {x y : Operand} {v : Value} {ao : Option Addr} {l c : Nat} {es : List (List Value)} {ec vs : List Value} (i off : Nat) (hown : Own base w e sz v es) (hv : v = .slice ao l c) (hi : es[i]? = some ec) (hs : sizeIs P t size = true) (ho : o.op = .store t x y)
    (hx : ev f x = .pointer (some ⟨ablk ao, aoff ao + i * sz + off, none⟩)) (hy : (ev f y).cells.toList = vs) (hl : vs.length = size) (hq : off + vs.length ≤ sz) (h1 : vs.all Value.oneCell' = true)
    (h : ∀ w', w'.heap.size = w.heap.size → Kp (fun b => v.ownBlock = some b ∧ base ≤ b) w w' → Own base w' e sz v (es.set i (putAt ec off vs)) → N (upo f o.dst undef) w') : Stp P n o f w N := by
  obtain ⟨hlt, hec⟩ := List.getElem?_eq_some_iff.1 hi
  rcases hown.2 with ⟨he, _⟩ | ⟨g, cap, rest, hv', hg, hb, hlc, hcm, hcs⟩
  · subst he; simp at hlt
  · rw [hv] at hv'
    injection hv' with h2 h3 h4
    subst h2; subst h3; subst h4
    have hil : i * sz + sz ≤ (es.flatten ++ rest).length := by
      rw [List.length_append, flatten_len hown.1]
      have : i * sz + sz ≤ es.length * sz := by rw [← Nat.succ_mul]; exact Nat.mul_le_mul_right _ hlt
      omega
    refine Stp_store (q := i * sz + off) hb hs ho (hx.trans (by simp [ablk, aoff])) hy hl (by omega) h1 ?_
    intro w' hz hk hb'
    rw [flatten_split hown.1 hlt rest off vs hq] at hb'
    rw [hec] at hb'
    have hlen : ∀ x ∈ es.set i (putAt ec off vs), x.length = sz := by
      intro x hx
      rcases List.mem_or_eq_of_mem_set hx with hx | hx
      · exact hown.1 x hx
      · rw [hx, putAt_length (by rw [hown.1 ec (List.mem_of_getElem? hi)]; exact hq)]
        exact hown.1 ec (List.mem_of_getElem? hi)
    refine h w' hz (hk.mono fun k _ hk => by subst hk; rw [hv]; exact ⟨rfl, hg⟩) ⟨hlen, .inr ⟨g, _, rest, by rw [hv]; simp, hg, hb', by simpa using hlc, hcm, ?_⟩⟩
    rw [List.length_append, flatten_len hlen, List.length_set, ← flatten_len hown.1, ← List.length_append]
    exact hcs

/-! ### Structs and slices built at once -/

theorem fold_put (off : Nat) : ∀ (vs : List Value) (k : Nat) (cs : Array Value), off + k + vs.length ≤ cs.size →
    ((vs.zipIdx k).foldl (fun (cs : Array Value) (x : Value × Nat) => cs.setIfInBounds (off + x.2) x.1) cs) = (putAt cs.toList (off + k) vs).toArray
  | [], k, cs, h => by simp [putAt]
  | v :: vs, k, cs, h => by
    rw [List.zipIdx_cons, List.foldl_cons, fold_put off vs (k + 1) _ (by simp at h ⊢; omega)]
    simp only [List.length_cons] at h
    have hlt : off + k < cs.toList.length := by simp; omega
    congr 1
    simp only [Array.toList_setIfInBounds]
    generalize cs.toList = l at hlt
    unfold putAt
    rw [← Nat.add_assoc, List.set_eq_take_append_cons_drop, if_pos hlt]
    have h1 : (List.take (off + k) l).length = off + k := by rw [List.length_take]; omega
    have h2 : (List.take (off + k) l ++ v :: List.drop (off + k + 1) l).take (off + k + 1) = List.take (off + k) l ++ [v] := by
      rw [List.take_append, h1, List.take_of_length_le (by omega), show off + k + 1 - (off + k) = 1 from by omega]
      simp
    have h3 : (List.take (off + k) l ++ v :: List.drop (off + k + 1) l).drop (off + k + 1 + vs.length) = l.drop (off + k + (v :: vs).length) := by
      rw [List.drop_append, h1, List.drop_eq_nil_of_le (by omega), show off + k + 1 + vs.length - (off + k) = vs.length + 1 from by omega, List.nil_append, List.drop_succ_cons, List.drop_drop, List.length_cons]
      congr 1
      omega
    rw [h2, h3]
    simp

def fillL (place : Nat → Option (Nat × Nat)) : List Value → List (Nat × List Value) → Option (List Value)
  | z, [] => some z
  | z, (i, vs) :: r =>
    match place i with
    | some (off, size) => cond (Nat.beq vs.length size && Nat.ble (off + vs.length) z.length) (fillL place (putAt z off vs) r) none
    | none => none

theorem fill_eq (place : Nat → Option (Nat × Nat)) : ∀ (parts : List (Nat × Value)) (z l : List Value), fillL place z (parts.map fun p => (p.1, p.2.cells.toList)) = some l → Instr.fill place z.toArray parts = some l.toArray
  | [], z, l, h => by simp [fillL] at h; subst h; rfl
  | (i, v) :: r, z, l, h => by
    simp only [List.map_cons, fillL] at h
    unfold Instr.fill
    cases hp : place i with
    | none => rw [hp] at h; cases h
    | some os =>
      obtain ⟨off, size⟩ := os
      rw [hp] at h
      simp only at h ⊢
      cases hc : (Nat.beq v.cells.toList.length size && Nat.ble (off + v.cells.toList.length) z.length) with
      | false => rw [hc] at h; cases h
      | true =>
        rw [hc] at h
        simp only [Bool.and_eq_true, Nat.beq_eq, Nat.ble_eq, Array.length_toList] at hc
        have h1 : ¬ ((v.cells.size ≠ size || off + v.cells.size > z.toArray.size) = true) := by
          simp [hc.1]; omega
        rw [if_neg h1]
        have hf := fold_put off v.cells.toList 0 z.toArray (by simpa using hc.2)
        have hz : v.cells.zipIdx.foldl (fun (cs : Array Value) (x : Value × Nat) => cs.setIfInBounds (off + x.2) x.1) z.toArray = (putAt z off v.cells.toList).toArray := by
          rw [← Array.foldl_toList, Array.toList_zipIdx, hf]
          simp
        have := fill_eq place r (putAt z off v.cells.toList) l h
        rw [← this, ← hz]

def placesOf (P : Program) (t : Nat) : Option (List (Nat × Nat)) :=
  match P.underlying t with
  | some (.struct fs) => fs.toList.mapM fun f => (P.info? f.type).map fun i => (f.offset, i.size)
  | _ => none

theorem run_places : ∀ (fs : List Field) (pl : List (Nat × Nat)), (fs.mapM fun f => (P.info? f.type).map fun i => (f.offset, i.size)) = some pl → ∀ (w : World),
    (fs.mapM fun f => (do pure (f.offset, ← Go.sizeOf f.type) : Sem (Nat × Nat))).run P w = .ok pl w
  | [], pl, h, w => by simp at h; subst h; rfl
  | f :: fs, pl, h, w => by
    rw [List.mapM_cons] at h ⊢
    cases hi : P.info? f.type with
    | none => simp [hi] at h
    | some inf =>
      cases hr : (fs.mapM fun f => (P.info? f.type).map fun i => (f.offset, i.size)) with
      | none => simp [hi, hr] at h
      | some r =>
        simp [hi, hr] at h
        subst h
        have := run_places fs r hr w
        simp only [Sem.run_bind, Go.sizeOf, typeInfo, run_program, Result.andThen_ok, hi, Sem.run_pure] at this ⊢
        rw [this]
        rfl

theorem Ev_build {t : Nat} {pl : List (Nat × Nat)} {z l : List Value} {parts : List (Nat × Operand)} {ps : List (Nat × List Value)} (hp : placesOf P t = some pl) (hz : zeroOf P t = some z) (ho : o.op = .build t parts.toArray)
    (hv : (parts.map fun p => (p.1, (ev f p.2).cells.toList)) = ps) (hf : fillL (pl[·]?) z ps = some l) : Ev P o f w (.agg l.toArray) := by
  subst hv
  obtain ⟨inf, v, h1, h2, h3⟩ := zeroOf_spec hz
  unfold placesOf at hp
  cases hu : P.underlying t with
  | none => rw [hu] at hp; cases hp
  | some d =>
    rw [hu] at hp
    cases d with
    | struct fs =>
      simp only at hp
      have hr := run_places fs.toList pl hp w
      have hfl := fill_eq (fun i => pl[i]?) (parts.map fun p => (p.1, ev f p.2)) z l (by simpa [Function.comp_def] using hf)
      unfold Ev execOp
      simp only [ho, Instr.build, Sem.run_bind, zeroValue, typeInfo, run_program, Result.andThen_ok, h1, h2, Sem.run_pure, run_underlying hu, h3, Array.mapM_eq_mapM_toList, Sem.run_map, hr]
      simp only [Result.andThen_ok, List.getElem?_toArray, List.map_toArray, hfl]
      rfl
    | _ => cases hp

theorem made_cells {z : List Value} {size : Nat} (hzl : z.length = size) (c : Nat) : madeCells z.toArray (c * size) = (List.replicate c z).flatten.toArray := by
  apply Array.ext'
  apply List.ext_getElem?
  intro j
  simp only [madeCells, Array.toList_map, Array.toList_range, List.getElem?_map]
  rcases Nat.eq_zero_or_pos size with h0 | hpos
  · have hz0 : z = [] := List.eq_nil_of_length_eq_zero (by omega)
    simp [h0, hz0]
  · rw [getElem?_flatten hpos (by intro x hx; rw [List.eq_of_mem_replicate hx]; exact hzl)]
    by_cases hj : j < c * size
    · have h1 : j / size < c := Nat.div_lt_of_lt_mul (by rw [Nat.mul_comm]; exact hj)
      have h2 : j % size < z.length := by rw [hzl]; exact Nat.mod_lt _ hpos
      simp [List.getElem?_range hj, h1, hzl, Nat.mod_lt _ hpos]
    · have h1 : ¬ j / size < c := by
        intro h; exact hj ((Nat.div_lt_iff_lt_mul hpos).1 h)
      rw [List.getElem?_eq_none (by simpa using hj)]
      simp [h1]

theorem Stp_buildSlice {t e size bytes len : Nat} {z l : List Value} {parts : List (Nat × Operand)} {ps : List (Nat × List Value)} (hek : elemOk P t e size bytes = true) (hz : zeroOf P e = some z) (ho : o.op = .buildSlice t len parts.toArray)
    (hv : (parts.map fun p => (p.1, (ev f p.2).cells.toList)) = ps) (hsm : Nat.ble (len * size) 16777216 = true) (hf : fillL (fun i => some (i * size, size)) (List.replicate len z).flatten ps = some l)
    (h : ∀ g w', g = w.heap.size → w'.heap.size = g + 1 → Kp0 w w' → Blk w' g e l → N (upo f o.dst (.slice (some ⟨g, 0, none⟩) len len)) w') : Stp P n o f w N := by
  subst hv
  obtain ⟨inf, z', ht, hi, hs1, hs2, hzz, hzs⟩ := elemOk_spec hek
  obtain ⟨inf2, z2, hi2, hz2, hz3⟩ := zeroOf_spec hz
  rw [hi] at hi2; cases hi2
  rw [hzz] at hz2; cases hz2
  have hzl : z.length = inf.size := by rw [hz3] at hzs; rw [hs1]; simpa using hzs
  have hm := made_cells hzl len
  have hle : ¬ len * size > 2 ^ 24 := by simpa using hsm
  have hfl := fill_eq (fun i => some (i * size, size)) (parts.map fun p => (p.1, ev f p.2)) _ l (by simpa [Function.comp_def] using hf)
  refine Stp_val ?_ (h _ _ rfl (by simp) (Kp.alloc w _ _) (Blk.new w l))
  unfold execOp
  simp only [ho, Instr.buildSlice, Sem.run_bind, run_underlying ht, Result.andThen_ok, Go.sizeOf, typeInfo, run_program, hi, Sem.run_pure, hs1, Sem.run_ite, if_neg hle]
  by_cases h0 : len * size = 0
  · have hnil : (List.replicate len z).flatten = [] := by
      apply List.eq_nil_of_length_eq_zero
      simp [hzl, hs1, h0]
    rw [hnil] at hfl
    simp [h0, Array.range_zero', hfl, newRow]
  · rw [hs1] at hm
    simp only [h0, if_false, zeroValue, typeInfo, Sem.run_bind, run_program, Result.andThen_ok, hi, hzz, Sem.run_pure, hz3]
    rw [show (Array.range (len * size)).map (fun x => z.toArray[x % z.toArray.size]!) = madeCells z.toArray (len * size) from rfl, hm]
    simp [hfl, newRow]

end
end Bx
