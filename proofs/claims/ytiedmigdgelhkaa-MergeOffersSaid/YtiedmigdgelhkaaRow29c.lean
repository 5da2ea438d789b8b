/- The statement MergeOffers: a plan has just these rings; an entry goes just there, or is refused; for every input. -/
import Derived.Test.YtiedmigdgelhkaaRows
import Derived.Test.YtiedmigdgelhkaaPlanOpen
import Derived.Test.YtiedmigdgelhkaaRingOpen
import Derived.Test.YtiedmigdgelhkaaMerge12
namespace Go.Proofs.Ytiedmigdgelhkaa
open Go Go.RowKit Bx Go.Proofs
open Go.ChangeShapes Go.WideShapes Go.ChangeAt
set_option maxRecDepth 100000 in
theorem offers_lifted (os : Os) (started : os.Started) (H : Type) (enc : TypeId × Value → H) :
    ReturnsInHanded {} Try.checked os 5 .any (Rows.mergeOffersSpec.pre6 enc Try.prog Try.f5 Rows.mergeOffersRow.domain false) (Rows.mergeOffersSpec.post enc Try.prog Try.f5 false true false false) := by
  refine returnsInHanded_of_change (C := Try.checked) own' started (by kernel_rfl) Try.func5
    (ChangeSpec.witness6 (enc := enc) (C := Try.checked) false ⟨#[], #[.agg #[.int .i64 0, .slice none 0 0, .slice none 0 0, .slice none 0 0], .slice none 0 0, .agg #[.int .u64 0, .int .u64 0, .int .i64 0, .int .i64 0, .int .i64 0, .int .i64 0, .int .i64 0]], []⟩ 8 (by kernel_rfl) (by kernel_rfl) (by kernel_rfl) (by kernel_rfl)) ?_
  intro W base args ds gs before hval0 hW _ _
  have hval : ∀ (j : Nat) t v, Try.f5.params[j]? = some t → args[j]? = some v → Value.okWide Try.prog W .any base t v := hval0
  obtain ⟨p, q, hA0, hV, rfl, _, _⟩ := id hW
  have hA : DataW.TrodAll enc Try.prog W 0 (fun _ => true) true Try.f5.params.toList args.toList ds p := hA0
  rw [Try.params5] at hA hval
  obtain ⟨v0, v1, v2, d0, d1, d2, p0, p1, p2, rfl, rfl, rfl, h0, h1, h2⟩ := trodAll_three hA
  obtain ⟨rfl, rfl⟩ := trodVars_none hV
  obtain ⟨c0, rfl, R0⟩ := arg_agg (ts := [3, 47, 48, 49]) (hval 0 51 v0 rfl rfl) h0 (by kernel_rfl)
  obtain ⟨p, rfl, hP⟩ := rd_plan R0
  obtain ⟨ao, c, ms, es1, hS⟩ := rd_rings (arg_one (hval 1 24 v1 rfl rfl) h1 und_24)
  cases es1
  obtain ⟨c2, rfl, R2⟩ := arg_agg (ts := [27, 29]) (hval 2 31 v2 rfl rfl) h2 (by kernel_rfl)
  obtain ⟨x, rfl, _⟩ := rd_ent R2
  refine (offers_c (c := c) (x := x) hP rfl hS).mono fun e W' he => ?_
  obtain ⟨v, rfl, hK, rfl⟩ := he.val
  exact ⟨_, rfl, law_post laidOut' hW rfl (by rw [Try.params5]; kernel_rfl) rfl Try.underlying4 rfl hK⟩
theorem offers_holds : Rows.MergeOffersSaid :=
  OpenClaim.holds_of_wide 5 Try.f5 rfl rfl rfl rfl rfl rfl rfl ⟨rfl, rfl, rfl, rfl, rfl⟩ rfl rfl rfl rfl rfl (by kernel_rfl) Try.func5 (by kernel_rfl)
    (of_decide_eq_true (by kernel_rfl)) (by unfold Func.isWrapper; rw [if_neg (by decide +kernel)]; exact ⟨rfl, rfl⟩)
    (fun os started H enc _ => offers_lifted os started H enc)
end Go.Proofs.Ytiedmigdgelhkaa