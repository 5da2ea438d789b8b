/- The statement MajorWhole: in as many ticks as a frame has each window begins once, in the order of the frame, wherever they begin; for every input. -/
import Derived.Test.YtcfadhjiijngmaaRows
import Derived.Test.YtcfadhjiijngmaaPlanOpen
import Derived.Test.YtcfadhjiijngmaaMajor8
namespace Go.Proofs.Ytcfadhjiijngmaa
open Go Go.RowKit Bx Go.Proofs
open Go.ChangeShapes Go.WideShapes Go.ChangeAt
set_option maxRecDepth 100000 in
theorem whole_lifted (os : Os) (started : os.Started) (H : Type) (enc : TypeId × Value → H) :
    ReturnsInHanded {} Try.checked os 5 .any (Rows.majorWholeSpec.pre6 enc Try.prog Try.f5 Rows.majorWholeRow.domain false) (Rows.majorWholeSpec.post enc Try.prog Try.f5 false true false false) := by
  refine returnsInHanded_of_change (C := Try.checked) own' started (by kernel_rfl) Try.func5
    (ChangeSpec.witness6 (enc := enc) (C := Try.checked) false ⟨#[], #[.agg #[.int .i64 0, .slice none 0 0, .slice none 0 0, .slice none 0 0], .int .i64 0], []⟩ 8 (by kernel_rfl) (by kernel_rfl) (by kernel_rfl) (by kernel_rfl)) ?_
  intro W base args ds gs before hval0 hW _ _
  have hval : ∀ (j : Nat) t v, Try.f5.params[j]? = some t → args[j]? = some v → Value.okWide Try.prog W .any base t v := hval0
  obtain ⟨p, q, hA0, hV, rfl, _, _⟩ := id hW
  have hA : DataW.TrodAll enc Try.prog W 0 (fun _ => true) true Try.f5.params.toList args.toList ds p := hA0
  rw [Try.params5] at hA hval
  obtain ⟨v0, v1, d0, d1, p0, p1, rfl, rfl, rfl, h0, h1⟩ := trodAll_two hA
  obtain ⟨rfl, rfl⟩ := trodVars_none hV
  obtain ⟨c0, rfl, R0⟩ := arg_agg (ts := [3, 22, 23, 24]) (hval 0 26 v0 rfl rfl) h0 (by kernel_rfl)
  obtain ⟨p, rfl, hP⟩ := rd_plan R0
  obtain ⟨n, rfl, hn⟩ := arg_int (hval 1 3 v1 rfl rfl) h1 Try.underlying3
  refine (whole_c (n := n) hP).mono fun e W' he => ?_
  obtain ⟨v, rfl, hK, rfl⟩ := he.val
  exact ⟨_, rfl, law_post laidOut' hW rfl (by rw [Try.params5]; kernel_rfl) rfl Try.underlying4 rfl hK⟩
theorem whole_holds : Rows.MajorWholeSaid :=
  OpenClaim.holds_of_wide 5 Try.f5 rfl rfl rfl rfl rfl rfl rfl ⟨rfl, rfl, rfl, rfl, rfl⟩ rfl rfl rfl rfl rfl (by kernel_rfl) Try.func5 (by kernel_rfl)
    (of_decide_eq_true (by kernel_rfl)) (by unfold Func.isWrapper; rw [if_neg (by decide +kernel)]; exact ⟨rfl, rfl⟩)
    (fun os started H enc _ => whole_lifted os started H enc)
end Go.Proofs.Ytcfadhjiijngmaa