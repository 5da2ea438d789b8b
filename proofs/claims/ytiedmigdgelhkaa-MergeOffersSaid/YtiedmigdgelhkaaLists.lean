/- Rows of rules that are asked through function values: what such a row promises in a world, and how long. Any program. -/
import Derived.Test.YtiedmigdgelhkaaPlanData
namespace Bx
open Go Go.RowKit
theorem Fix.sub {F G : Nat → Prop} {w w' : World} (h : Fix G w w') (hs : ∀ b, F b → b < w.heap.size → G b) : Fix F w w' := ⟨h.1, fun b hb hl => h.2 b (hs b hb hl) hl⟩
theorem Blk.fix {D : Nat → Prop} {w w' : World} {b : Nat} {t : TypeId} {l : List Value} (h : Blk w b t l) (k : Fix D w w') (hb : D b) : Blk w' b t l := (k.2 b hb h.lt).trans h
/-- The row of a list stands in blocks of D, and each rule, asked with j in block bat, tells what it is to tell, as long as the blocks of D are as they are. -/
def LstOK (P : Program) (T3 : Nat) (D : Nat → Prop) (w : World) (bat : Nat) (l : Lst) : Prop :=
  (∀ b, D b → b < w.heap.size ∧ b ≠ bat) ∧ Sl D w 2 (some ⟨l.blk, 0, none⟩) (l.rules.map Rule.cl) ∧ l.rules.length ≤ 100 ∧ l.many ≤ 1000000 ∧
    ∀ (k : Nat) (r : Rule), l.rules[k]? = some r → r.err ≠ 0 ∧ (∀ args w, (callFunc r.fn args).run P w = .ok (.enter r.fn args) w) ∧
      ∀ w2, Fix D w w2 → ∀ j, j < l.many → Blk w2 bat T3 [.int .i64 (j : Int)] → Calls P r.fn r.caps.toArray w2 (Ret fun v w3 => Kp0 w2 w3 ∧ v = .bool (r.bad j))
section
variable {P : Program} {T3 bat : Nat} {D D' : Nat → Prop} {w w' : World} {l : Lst}
theorem LstOK.fix (h : LstOK P T3 D w bat l) (k : Fix D w w') : LstOK P T3 D w' bat l :=
  ⟨fun b hb => ⟨Nat.lt_of_lt_of_le (h.1 b hb).1 k.1, (h.1 b hb).2⟩, h.2.1.keep k, h.2.2.1, h.2.2.2.1, fun i r hr => ⟨(h.2.2.2.2 i r hr).1, (h.2.2.2.2 i r hr).2.1, fun w2 k2 => (h.2.2.2.2 i r hr).2.2 w2 (k.trans k2)⟩⟩
theorem LstOK.keep0 (h : LstOK P T3 D w bat l) (k : Kp0 w w') : LstOK P T3 D w' bat l := h.fix k.fix0
theorem LstOK.keepb {b' : Nat} (h : LstOK P T3 D w bat l) (k : Kp (· = b') w w') (hb : ¬ D b') : LstOK P T3 D w' bat l :=
  h.fix (k.fix fun _ hb' _ e => hb (e ▸ hb'))
theorem LstOK.up (h : LstOK P T3 D w bat l) (hd : ∀ b, D b → D' b) (hs : ∀ b, D' b → b < w.heap.size ∧ b ≠ bat) : LstOK P T3 D' w bat l :=
  ⟨hs, h.2.1.mono fun b _ hb' => hd b hb', h.2.2.1, h.2.2.2.1, fun i r hr => ⟨(h.2.2.2.2 i r hr).1, (h.2.2.2.2 i r hr).2.1, fun w2 k2 => (h.2.2.2.2 i r hr).2.2 w2 (k2.sub fun b hb' _ => hd b hb')⟩⟩
@[reducible] def LstOK.here (_h : LstOK P T3 D w bat l) (W : World) : Prop := LstOK P T3 D W bat l
end
theorem lst1 (l : Lst) {r1 : Rule} (h : l.rules = [r1]) (j : Nat) : lstAt l j = if r1.bad j = true then r1.err else 0 := by
  unfold lstAt; rw [h]; simp [firstErr, ruleAt]
theorem lst2 (l : Lst) {r1 r2 : Rule} (h : l.rules = [r1, r2]) (h1 : r1.err ≠ 0) (j : Nat) : lstAt l j = if r1.bad j = true then r1.err else if r2.bad j = true then r2.err else 0 := by
  unfold lstAt; rw [h]
  simp only [List.length_cons, List.length_nil, firstErr, ruleAt]
  cases hb : r1.bad j <;> simp [hb, h1]
theorem lst3 (l : Lst) {r1 r2 r3 : Rule} (h : l.rules = [r1, r2, r3]) (h1 : r1.err ≠ 0) (h2 : r2.err ≠ 0) (j : Nat) :
    lstAt l j = if r1.bad j = true then r1.err else if r2.bad j = true then r2.err else if r3.bad j = true then r3.err else 0 := by
  unfold lstAt; rw [h]
  simp only [List.length_cons, List.length_nil, firstErr, ruleAt]
  cases hb : r1.bad j <;> cases hc : r2.bad j <;> simp [hb, hc, h1, h2]
theorem lst4 (l : Lst) {r1 r2 r3 r4 : Rule} (h : l.rules = [r1, r2, r3, r4]) (h1 : r1.err ≠ 0) (h2 : r2.err ≠ 0) (h3 : r3.err ≠ 0) (j : Nat) :
    lstAt l j = if r1.bad j = true then r1.err else if r2.bad j = true then r2.err else if r3.bad j = true then r3.err else if r4.bad j = true then r4.err else 0 := by
  unfold lstAt; rw [h]
  simp only [List.length_cons, List.length_nil, firstErr, ruleAt]
  cases hb : r1.bad j <;> cases hc : r2.bad j <;> cases hd : r3.bad j <;> simp [hb, hc, hd, h1, h2, h3]
end Bx
