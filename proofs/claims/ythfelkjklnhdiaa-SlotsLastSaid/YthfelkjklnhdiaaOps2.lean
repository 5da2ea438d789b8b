/- More rules for operations: an element of an array by its address; an array built; a pointer that is not nil. Any program. -/
import Derived.Test.YthfelkjklnhdiaaMem
namespace Bx
open Go Go.RowKit
section
variable {P : Program} {n : Nat} {f : Fr} {w : World} {o : Oper} {N : Fr → World → Prop}

def arrOk (P : Program) (t e size m : Nat) : Bool :=
  match P.underlying t with
  | some (.array m' e') => (m' == m) && (e' == e) && (match P.info? e with | some inf => inf.size == size | none => false)
  | _ => false
theorem arrOk_spec {t e size m : Nat} (h : arrOk P t e size m = true) : ∃ inf, P.underlying t = some (.array m e) ∧ P.info? e = some inf ∧ inf.size = size := by
  unfold arrOk at h
  cases h1 : P.underlying t with
  | none => rw [h1] at h; cases h
  | some d =>
    rw [h1] at h
    cases d with
    | array m' e' =>
      cases h3 : P.info? e with
      | none => simp [h3] at h
      | some inf =>
        simp [h3] at h
        exact ⟨inf, by rw [h.1.1, h.1.2], rfl, h.2⟩
    | _ => simp at h
/-- The address of an element of an array that begins at q in block b. -/
theorem Ev_idxArr {t e size m b q : Nat} {x y : Operand} {k : IntKind} {z : Int} (i : Nat) (hs : arrOk P t e size m = true) (ho : o.op = .indexAddr t x y) (hx : ev f x = .pointer (some ⟨b, q, none⟩))
    (hy : ev f y = .int k z) (hz : z = (i : Int)) (hi : i < m) : Ev P o f w (.pointer (some ⟨b, q + i * size, none⟩)) := by
  obtain ⟨inf, h1, h2, h3⟩ := arrOk_spec hs
  subst hz
  have hlt : (i : Int) < (m : Int) := by omega
  simp [Ev, execOp, ho, Instr.indexAt, hx, hy, asIntOf, run_underlying h1, hi, Go.sizeOf, typeInfo, h2, h3, Addr.add_lit, Instr.sureAddr]
theorem Ev_nilCheck {x : Operand} {b q : Nat} (ho : o.op = .nilCheck x) (hx : ev f x = .pointer (some ⟨b, q, none⟩)) : Ev P o f w (.pointer (some ⟨b, q, none⟩)) := by
  simp [Ev, execOp, ho, hx]
theorem Ev_buildArr {t e size m : Nat} {z l : List Value} {parts : List (Nat × Operand)} {ps : List (Nat × List Value)} (ha : arrOk P t e size m = true) (hz : zeroOf P t = some z) (ho : o.op = .build t parts.toArray)
    (hv : (parts.map fun p => (p.1, (ev f p.2).cells.toList)) = ps) (hf : fillL (fun i => some (i * size, size)) z ps = some l) : Ev P o f w (.agg l.toArray) := by
  subst hv
  obtain ⟨inf, v, h1, h2, h3⟩ := zeroOf_spec hz
  obtain ⟨inf2, hu, hi, hs⟩ := arrOk_spec ha
  have hfl := fill_eq (fun i => some (i * size, size)) (parts.map fun p => (p.1, ev f p.2)) z l (by simpa [Function.comp_def] using hf)
  unfold Ev execOp
  simp only [ho, Instr.build, Sem.run_bind, zeroValue, typeInfo, run_program, Result.andThen_ok, h1, h2, Sem.run_pure, run_underlying hu, h3, Go.sizeOf, hi, hs]
  simp only [Result.andThen_ok, List.map_toArray, hfl]
  rfl
end
end Bx
