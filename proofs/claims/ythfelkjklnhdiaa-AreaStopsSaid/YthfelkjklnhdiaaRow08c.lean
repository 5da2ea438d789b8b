/- The statement AreaStops: where the disk goes down, each sector has all of what was put in it, or nothing; those that have are the first ones; for every input. -/
import Derived.Test.YthfelkjklnhdiaaRows
import Derived.Test.YthfelkjklnhdiaaKnob
import Derived.Test.YthfelkjklnhdiaaArea10
namespace Go.Proofs.Ythfelkjklnhdiaa
open Go Go.RowKit Bx Go.Proofs
open Go.ChangeShapes Go.WideShapes Go.ChangeAt
set_option maxRecDepth 100000 in
theorem stops_lifted (os : Os) (started : os.Started) (H : Type) (enc : TypeId × Value → H) :
    ReturnsInHanded {} Try.checked os 5 .any (Rows.areaStopsSpec.pre6 enc Try.prog Try.f5 Rows.areaStopsRow.domain false) (Rows.areaStopsSpec.post enc Try.prog Try.f5 false true false false) := by
  refine returnsInHanded_of_change (C := Try.checked) own' started (by kernel_rfl) Try.func5
    (ChangeSpec.witness6 (enc := enc) (C := Try.checked) false ⟨#[], #[.int .i64 0, .int .i64 0, .int .i64 0, .int .i64 0, .int .i64 0, .int .u8 0], []⟩ 8 (by kernel_rfl) (by kernel_rfl) (by kernel_rfl) (by kernel_rfl)) ?_
  intro W base args ds gs before hval0 hW _ _
  have hval : ∀ (j : Nat) t v, Try.f5.params[j]? = some t → args[j]? = some v → Value.okWide Try.prog W .any base t v := hval0
  obtain ⟨p, q, hA0, hV, rfl, _, _⟩ := id hW
  have hA : DataW.TrodAll enc Try.prog W 0 (fun _ => true) true Try.f5.params.toList args.toList ds p := hA0
  rw [Try.params5] at hA hval
  obtain ⟨v0, v1, v2, v3, v4, v5, d0, d1, d2, d3, d4, d5, p0, p1, p2, p3, p4, p5, rfl, rfl, rfl, h0, h1, h2, h3, h4, h5⟩ := trodAll_n6 hA
  obtain ⟨rfl, rfl⟩ := trodVars_none hV
  obtain ⟨many, rfl, hmany⟩ := arg_int (hval 0 3 v0 rfl rfl) h0 Try.underlying3
  obtain ⟨size, rfl, hsize⟩ := arg_int (hval 1 3 v1 rfl rfl) h1 Try.underlying3
  obtain ⟨wide, rfl, hwide⟩ := arg_int (hval 2 3 v2 rfl rfl) h2 Try.underlying3
  obtain ⟨at_, rfl, hat_⟩ := arg_int (hval 3 3 v3 rfl rfl) h3 Try.underlying3
  obtain ⟨left, rfl, hleft⟩ := arg_int (hval 4 3 v4 rfl rfl) h4 Try.underlying3
  obtain ⟨x5, rfl, hx5⟩ := arg_int (hval 5 5 v5 rfl rfl) h5 Try.underlying5
  obtain ⟨c, rfl⟩ := u8_of (wfu8 hx5)
  refine (stops_c (wf64' hleft).2).mono fun e W' he => ?_
  obtain ⟨v, rfl, hK, rfl⟩ := he.val
  exact ⟨_, rfl, law_post laidOut' hW rfl (by rw [Try.params5]; kernel_rfl) rfl Try.underlying4 rfl hK⟩
theorem stops_holds : Rows.AreaStopsSaid :=
  OpenClaim.holds_of_wide 5 Try.f5 rfl rfl rfl rfl rfl rfl rfl ⟨rfl, rfl, rfl, rfl, rfl⟩ rfl rfl rfl rfl rfl (by kernel_rfl) Try.func5 (by kernel_rfl)
    (of_decide_eq_true (by kernel_rfl)) (by unfold Func.isWrapper; rw [if_neg (by decide +kernel)]; exact ⟨rfl, rfl⟩)
    (fun os started H enc _ => stops_lifted os started H enc)
end Go.Proofs.Ythfelkjklnhdiaa