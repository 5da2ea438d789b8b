/- The statement MergeOwn: the entries of a partition are told the same, whatever is offered to the others; for every input. -/
import Derived.Test.YtiedmigdgelhkaaRows
import Derived.Test.YtiedmigdgelhkaaRingOpen
import Derived.Test.YtiedmigdgelhkaaMerge7
namespace Go.Proofs.Ytiedmigdgelhkaa
open Go Go.RowKit Bx Go.Proofs Go.ChangeShapes Go.WideShapes Go.ChangeAt
set_option maxRecDepth 100000 in
theorem own_lifted (os : Os) (started : os.Started) (H : Type) (enc : TypeId × Value → H) :
    ReturnsInHanded {} Try.checked os 4 .any (Rows.mergeOwnSpec.pre6 enc Try.prog Try.f4 Rows.mergeOwnRow.domain false) (Rows.mergeOwnSpec.post enc Try.prog Try.f4 false true false false) := by
  refine returnsInHanded_of_change (C := Try.checked) own' started (by kernel_rfl) Try.func4
    (ChangeSpec.witness6 (enc := enc) (C := Try.checked) false ⟨#[], #[.slice none 0 0, .agg Ent.zero.cells.toArray, .agg Ent.zero.cells.toArray], []⟩ 8 (by kernel_rfl) (by kernel_rfl) (by kernel_rfl) (by kernel_rfl)) ?_
  intro W base args ds gs before hval0 hW _ _
  have hval : ∀ (j : Nat) t v, Try.f4.params[j]? = some t → args[j]? = some v → Value.okWide Try.prog W .any base t v := hval0
  obtain ⟨p, q, hA0, hV, rfl, _, _⟩ := id hW
  have hA : DataW.TrodAll enc Try.prog W 0 (fun _ => true) true Try.f4.params.toList args.toList ds p := hA0
  rw [Try.params4] at hA hval
  obtain ⟨v0, v1, v2, d0, d1, d2, p0, p1, p2, rfl, rfl, rfl, h0, h1, h2⟩ := trodAll_three hA
  obtain ⟨rfl, rfl⟩ := trodVars_none hV
  have R0 := arg_one (hval 0 24 v0 rfl rfl) h0 und_24
  obtain ⟨ao, c, ms, e0, hS⟩ := rd_rings R0
  cases e0
  obtain ⟨c1, rfl, R1⟩ := arg_agg (ts := [27, 29]) (hval 1 31 v1 rfl rfl) h1 (by kernel_rfl)
  obtain ⟨x, rfl, _⟩ := rd_ent R1
  obtain ⟨c2, rfl, R2⟩ := arg_agg (ts := [27, 29]) (hval 2 31 v2 rfl rfl) h2 (by kernel_rfl)
  obtain ⟨y, rfl, _⟩ := rd_ent R2
  refine (own_c (c := c) (x := x) (y := y) rfl hS).mono fun e W' he => ?_
  obtain ⟨v, rfl, hK, rfl⟩ := he.val
  exact ⟨_, rfl, law_post laidOut' hW rfl (by rw [Try.params4]; kernel_rfl) rfl Try.underlying4 rfl hK⟩
theorem own_holds : Rows.MergeOwnSaid :=
  OpenClaim.holds_of_wide 4 Try.f4 rfl rfl rfl rfl rfl rfl rfl ⟨rfl, rfl, rfl, rfl, rfl⟩ rfl rfl rfl rfl rfl (by kernel_rfl) Try.func4 (by kernel_rfl)
    (of_decide_eq_true (by kernel_rfl)) (by unfold Func.isWrapper; rw [if_neg (by decide +kernel)]; exact ⟨rfl, rfl⟩)
    (fun os started H enc _ => own_lifted os started H enc)
end Go.Proofs.Ytiedmigdgelhkaa
