/- The statement AreaKeeps: what is put is got again, and all other bytes of the disk are as they were; for every input. -/
import Derived.Test.YthfelkjklnhdiaaRows
import Derived.Test.YthfelkjklnhdiaaKnob
import Derived.Test.YthfelkjklnhdiaaArea8
namespace Go.Proofs.Ythfelkjklnhdiaa
open Go Go.RowKit Bx Go.Proofs
open Go.ChangeShapes Go.WideShapes Go.ChangeAt
set_option maxRecDepth 100000 in
theorem keeps_lifted (os : Os) (started : os.Started) (H : Type) (enc : TypeId × Value → H) :
    ReturnsInHanded {} Try.checked os 3 .any (Rows.areaKeepsSpec.pre6 enc Try.prog Try.f3 Rows.areaKeepsRow.domain false) (Rows.areaKeepsSpec.post enc Try.prog Try.f3 false true false false) := by
  refine returnsInHanded_of_change (C := Try.checked) own' started (by kernel_rfl) Try.func3
    (ChangeSpec.witness6 (enc := enc) (C := Try.checked) false ⟨#[], #[.int .i64 0, .int .i64 0, .int .i64 0, .int .i64 0, .int .i64 0, .string ⟨#[]⟩, .int .i64 0, .string ⟨#[]⟩], []⟩ 8 (by kernel_rfl) (by kernel_rfl) (by kernel_rfl) (by kernel_rfl)) ?_
  intro W base args ds gs before hval0 hW _ _
  have hval : ∀ (j : Nat) t v, Try.f3.params[j]? = some t → args[j]? = some v → Value.okWide Try.prog W .any base t v := hval0
  obtain ⟨p, q, hA0, hV, rfl, _, _⟩ := id hW
  have hA : DataW.TrodAll enc Try.prog W 0 (fun _ => true) true Try.f3.params.toList args.toList ds p := hA0
  rw [Try.params3] at hA hval
  obtain ⟨v0, v1, v2, v3, v4, v5, v6, v7, d0, d1, d2, d3, d4, d5, d6, d7, p0, p1, p2, p3, p4, p5, p6, p7, rfl, rfl, rfl, h0, h1, h2, h3, h4, h5, h6, h7⟩ := trodAll_n8 hA
  obtain ⟨rfl, rfl⟩ := trodVars_none hV
  obtain ⟨many, rfl, hmany⟩ := arg_int (hval 0 3 v0 rfl rfl) h0 Try.underlying3
  obtain ⟨size, rfl, hsize⟩ := arg_int (hval 1 3 v1 rfl rfl) h1 Try.underlying3
  obtain ⟨fr, rfl, hfr⟩ := arg_int (hval 2 3 v2 rfl rfl) h2 Try.underlying3
  obtain ⟨wide, rfl, hwide⟩ := arg_int (hval 3 3 v3 rfl rfl) h3 Try.underlying3
  obtain ⟨at_, rfl, hat_⟩ := arg_int (hval 4 3 v4 rfl rfl) h4 Try.underlying3
  obtain ⟨m, rfl, hm⟩ := arg_str (hval 5 9 v5 rfl rfl) h5 Try.underlying9
  obtain ⟨first, rfl, hfirst⟩ := arg_int (hval 6 3 v6 rfl rfl) h6 Try.underlying3
  obtain ⟨c, rfl, hc⟩ := arg_str (hval 7 9 v7 rfl rfl) h7 Try.underlying9
  refine (keeps_c).mono fun e W' he => ?_
  obtain ⟨v, rfl, hK, rfl⟩ := he.val
  exact ⟨_, rfl, law_post laidOut' hW rfl (by rw [Try.params3]; kernel_rfl) rfl Try.underlying4 rfl hK⟩
theorem keeps_holds : Rows.AreaKeepsSaid :=
  OpenClaim.holds_of_wide 3 Try.f3 rfl rfl rfl rfl rfl rfl rfl ⟨rfl, rfl, rfl, rfl, rfl⟩ rfl rfl rfl rfl rfl (by kernel_rfl) Try.func3 (by kernel_rfl)
    (of_decide_eq_true (by kernel_rfl)) (by unfold Func.isWrapper; rw [if_neg (by decide +kernel)]; exact ⟨rfl, rfl⟩)
    (fun os started H enc _ => keeps_lifted os started H enc)
end Go.Proofs.Ythfelkjklnhdiaa