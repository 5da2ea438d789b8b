/- The statement MergeRises: what is drained has stamps that rise, each entry offered is told or counted in a gap of its partition, and what is held is the rest; for every input. -/
import Derived.Test.YtiedmigdgelhkaaRows
import Derived.Test.YtiedmigdgelhkaaRingOpen
import Derived.Test.YtiedmigdgelhkaaMerge8
namespace Go.Proofs.Ytiedmigdgelhkaa
open Go Go.RowKit Bx Go.Proofs Go.ChangeShapes Go.WideShapes Go.ChangeAt
section
variable {H : Type} {enc : TypeId × Value → H} {w : World} {cs : List Value}
theorem rd_ints (h : Rd enc Try.prog w 22 cs) : ∃ (ao : Option Addr) (c : Nat) (xs : List Int), cs = [.slice ao xs.length c] ∧ Sl (fun _ => True) w 1 ao (xs.map I1) := by
  obtain ⟨ao, c, xs, h1, h2, h3, h4, _⟩ := h.sliceOf I1 (fun _ => True) und_22 (sz := 1) (by kernel_rfl) (by decide) (fun c0 h0 => by obtain ⟨n, rfl, _⟩ := h0.int Try.underlying3; exact ⟨n, rfl, trivial⟩)
  exact ⟨ao, c, xs, h1, h4⟩
theorem rd_steps (h : Rd enc Try.prog w 23 cs) : ∃ (ao : Option Addr) (c : Nat) (xs : List (Int × Int)), cs = [.slice ao xs.length c] ∧ Sl (fun _ => True) w 2 ao (xs.map I2) := by
  obtain ⟨ao, c, xs, h1, h2, h3, h4, _⟩ := h.sliceOf I2 (fun _ => True) und_23 (sz := 2) (by kernel_rfl) (by decide) (fun c0 h0 => by
    obtain ⟨_, _, rfl, _, a0, _, _, rfl, _, a1, rfl⟩ := h0.struct (ts := [3, 3]) (by kernel_rfl)
    obtain ⟨n, rfl, _⟩ := a0.int Try.underlying3
    obtain ⟨m, rfl, _⟩ := a1.int Try.underlying3
    exact ⟨(n, m), rfl, trivial⟩)
  exact ⟨ao, c, xs, h1, h4⟩
end
set_option maxRecDepth 100000 in
theorem rises_lifted (os : Os) (started : os.Started) (H : Type) (enc : TypeId × Value → H) :
    ReturnsInHanded {} Try.checked os 3 .any (Rows.mergeRisesSpec.pre6 enc Try.prog Try.f3 Rows.mergeRisesRow.domain false) (Rows.mergeRisesSpec.post enc Try.prog Try.f3 false true false false) := by
  refine returnsInHanded_of_change (C := Try.checked) own' started (by kernel_rfl) Try.func3
    (ChangeSpec.witness6 (enc := enc) (C := Try.checked) false ⟨#[], #[.slice none 0 0, .slice none 0 0], []⟩ 8 (by kernel_rfl) (by kernel_rfl) (by kernel_rfl) (by kernel_rfl)) ?_
  intro W base args ds gs before hval0 hW _ _
  have hval : ∀ (j : Nat) t v, Try.f3.params[j]? = some t → args[j]? = some v → Value.okWide Try.prog W .any base t v := hval0
  obtain ⟨p, q, hA0, hV, rfl, _, _⟩ := id hW
  have hA : DataW.TrodAll enc Try.prog W 0 (fun _ => true) true Try.f3.params.toList args.toList ds p := hA0
  rw [Try.params3] at hA hval
  obtain ⟨v0, v1, d0, d1, p0, p1, rfl, rfl, rfl, h0, h1⟩ := trodAll_two hA
  obtain ⟨rfl, rfl⟩ := trodVars_none hV
  obtain ⟨ao, c, xs, e0, hx⟩ := rd_ints (arg_one (hval 0 22 v0 rfl rfl) h0 und_22)
  cases e0
  obtain ⟨bo, d, ys, e1, hy⟩ := rd_steps (arg_one (hval 1 23 v1 rfl rfl) h1 und_23)
  cases e1
  refine (rises_c (c := c) (d := d) rfl rfl hx hy).mono fun e W' he => ?_
  obtain ⟨v, rfl, hK, rfl⟩ := he.val
  exact ⟨_, rfl, law_post laidOut' hW rfl (by rw [Try.params3]; kernel_rfl) rfl Try.underlying4 rfl hK⟩
theorem rises_holds : Rows.MergeRisesSaid :=
  OpenClaim.holds_of_wide 3 Try.f3 rfl rfl rfl rfl rfl rfl rfl ⟨rfl, rfl, rfl, rfl, rfl⟩ rfl rfl rfl rfl rfl (by kernel_rfl) Try.func3 (by kernel_rfl)
    (of_decide_eq_true (by kernel_rfl)) (by unfold Func.isWrapper; rw [if_neg (by decide +kernel)]; exact ⟨rfl, rfl⟩)
    (fun os started H enc _ => rises_lifted os started H enc)
end Go.Proofs.Ytiedmigdgelhkaa
