/- The statement MajorBack: each tick has one slot, of which it is the tick, and each slot one tick, of which it is the slot; for every input. -/
import Derived.Test.YtcfadhjiijngmaaRows
import Derived.Test.YtcfadhjiijngmaaPlanOpen
import Derived.Test.YtcfadhjiijngmaaMajorData
import Derived.Test.YtcfadhjiijngmaaMajor7
namespace Go.Proofs.Ytcfadhjiijngmaa
open Go Go.RowKit Bx Go.Proofs
open Go.ChangeShapes Go.WideShapes Go.ChangeAt
theorem rd_slot {H : Type} {enc : TypeId × Value → H} {w : World} {cs : List Value} (h : Rd enc Try.prog w 29 cs) : ∃ x : Slt, cs = x.cells ∧ True := by
  obtain ⟨_, _, rfl, _, h0, _, _, rfl, _, h1, _, _, rfl, _, h2, rfl⟩ := h.struct (ts := [3, 3, 3]) (by kernel_rfl)
  obtain ⟨n0, rfl, g0⟩ := h0.int Try.underlying3
  obtain ⟨n1, rfl, g1⟩ := h1.int Try.underlying3
  obtain ⟨n2, rfl, g2⟩ := h2.int Try.underlying3
  exact ⟨⟨n0, n1, n2⟩, rfl, trivial⟩
set_option maxRecDepth 100000 in
theorem back_lifted (os : Os) (started : os.Started) (H : Type) (enc : TypeId × Value → H) :
    ReturnsInHanded {} Try.checked os 4 .any (Rows.majorBackSpec.pre6 enc Try.prog Try.f4 Rows.majorBackRow.domain false) (Rows.majorBackSpec.post enc Try.prog Try.f4 false true false false) := by
  refine returnsInHanded_of_change (C := Try.checked) own' started (by kernel_rfl) Try.func4
    (ChangeSpec.witness6 (enc := enc) (C := Try.checked) false ⟨#[], #[.agg #[.int .i64 0, .slice none 0 0, .slice none 0 0, .slice none 0 0], .int .i64 0, .agg #[.int .i64 0, .int .i64 0, .int .i64 0]], []⟩ 8 (by kernel_rfl) (by kernel_rfl) (by kernel_rfl) (by kernel_rfl)) ?_
  intro W base args ds gs before hval0 hW _ _
  have hval : ∀ (j : Nat) t v, Try.f4.params[j]? = some t → args[j]? = some v → Value.okWide Try.prog W .any base t v := hval0
  obtain ⟨p, q, hA0, hV, rfl, _, _⟩ := id hW
  have hA : DataW.TrodAll enc Try.prog W 0 (fun _ => true) true Try.f4.params.toList args.toList ds p := hA0
  rw [Try.params4] at hA hval
  obtain ⟨v0, v1, v2, d0, d1, d2, p0, p1, p2, rfl, rfl, rfl, h0, h1, h2⟩ := trodAll_three hA
  obtain ⟨rfl, rfl⟩ := trodVars_none hV
  obtain ⟨c0, rfl, R0⟩ := arg_agg (ts := [3, 22, 23, 24]) (hval 0 26 v0 rfl rfl) h0 (by kernel_rfl)
  obtain ⟨p, rfl, hP⟩ := rd_plan R0
  obtain ⟨n, rfl, hn⟩ := arg_int (hval 1 3 v1 rfl rfl) h1 Try.underlying3
  obtain ⟨c2, rfl, R2⟩ := arg_agg (ts := [3, 3, 3]) (hval 2 29 v2 rfl rfl) h2 (by kernel_rfl)
  obtain ⟨s, rfl, _⟩ := rd_slot R2
  refine (back_c (n := n) (s := s) hP).mono fun e W' he => ?_
  obtain ⟨v, rfl, hK, rfl⟩ := he.val
  exact ⟨_, rfl, law_post laidOut' hW rfl (by rw [Try.params4]; kernel_rfl) rfl Try.underlying4 rfl hK⟩
theorem back_holds : Rows.MajorBackSaid :=
  OpenClaim.holds_of_wide 4 Try.f4 rfl rfl rfl rfl rfl rfl rfl ⟨rfl, rfl, rfl, rfl, rfl⟩ rfl rfl rfl rfl rfl (by kernel_rfl) Try.func4 (by kernel_rfl)
    (of_decide_eq_true (by kernel_rfl)) (by unfold Func.isWrapper; rw [if_neg (by decide +kernel)]; exact ⟨rfl, rfl⟩)
    (fun os started H enc _ => back_lifted os started H enc)
end Go.Proofs.Ytcfadhjiijngmaa