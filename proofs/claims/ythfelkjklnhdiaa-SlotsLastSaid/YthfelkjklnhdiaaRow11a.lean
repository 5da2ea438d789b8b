/- The statement SlotsLast: what was written last is read, if each Epoch is greater by one than that ahead; for every input. -/
import Derived.Test.YthfelkjklnhdiaaRows
import Derived.Test.YthfelkjklnhdiaaKnob
import Derived.Test.YthfelkjklnhdiaaSlot7
namespace Go.Proofs.Ythfelkjklnhdiaa
open Go Go.RowKit Bx Go.Proofs
open Go.ChangeShapes Go.WideShapes Go.ChangeAt
section
variable {H : Type} {enc : TypeId × Value → H} {w : World} {cs : List Value}
theorem rd_u64s (h : Rd enc Try.prog w 43 cs) : ∃ (ao : Option Addr) (c : Nat) (vs : List Nat), cs = [.slice ao vs.length c] ∧ Sl (fun _ => True) w 1 ao (vs.map U64) ∧ ∀ x ∈ vs, x < 18446744073709551616 := by
  obtain ⟨ao, c, xs, h1, _, _, h4, h5⟩ := h.sliceOf U64 (fun x => x < 18446744073709551616) und_43 (sz := 1) (by kernel_rfl) (by decide) (fun c0 h0 => by
    obtain ⟨n, rfl, hn⟩ := h0.int Try.underlying42
    have hw := wfu64 hn
    exact ⟨n.toNat, by show [Value.int .u64 n] = [Value.int .u64 ((n.toNat : Nat) : Int)]; rw [Int.toNat_of_nonneg hw.1], by omega⟩)
  exact ⟨ao, c, xs, h1, h4, h5⟩
end
set_option maxRecDepth 100000 in
theorem last_lifted (os : Os) (started : os.Started) (H : Type) (enc : TypeId × Value → H) :
    ReturnsInHanded {} Try.checked os 6 .any (Rows.slotsLastSpec.pre6 enc Try.prog Try.f6 Rows.slotsLastRow.domain false) (Rows.slotsLastSpec.post enc Try.prog Try.f6 false true false false) := by
  refine returnsInHanded_of_change (C := Try.checked) own' started (by kernel_rfl) Try.func6
    (ChangeSpec.witness6 (enc := enc) (C := Try.checked) false ⟨#[], #[.int .i64 0, .int .u64 0, .slice none 0 0], []⟩ 8 (by kernel_rfl) (by kernel_rfl) (by kernel_rfl) (by kernel_rfl)) ?_
  intro W base args ds gs before hval0 hW _ _
  have hval : ∀ (j : Nat) t v, Try.f6.params[j]? = some t → args[j]? = some v → Value.okWide Try.prog W .any base t v := hval0
  obtain ⟨p, q, hA0, hV, rfl, _, _⟩ := id hW
  have hA : DataW.TrodAll enc Try.prog W 0 (fun _ => true) true Try.f6.params.toList args.toList ds p := hA0
  rw [Try.params6] at hA hval
  obtain ⟨v0, v1, v2, d0, d1, d2, p0, p1, p2, rfl, rfl, rfl, h0, h1, h2⟩ := trodAll_three hA
  obtain ⟨rfl, rfl⟩ := trodVars_none hV
  obtain ⟨n, rfl, hn⟩ := arg_int (hval 0 3 v0 rfl rfl) h0 Try.underlying3
  obtain ⟨x1, rfl, hx1⟩ := arg_int (hval 1 42 v1 rfl rfl) h1 Try.underlying42
  obtain ⟨e, rfl⟩ : ∃ y : Nat, x1 = (y : Int) := ⟨x1.toNat, by have := wfu64 hx1; omega⟩
  have hb_e := wfu64 hx1
  obtain ⟨ao, c, vs, es2, hV, hb⟩ := rd_u64s (arg_one (hval 2 43 v2 rfl rfl) h2 und_43)
  cases es2
  refine (last_c hV hb (by omega)).mono fun e W' he => ?_
  obtain ⟨v, rfl, hK, rfl⟩ := he.val
  exact ⟨_, rfl, law_post laidOut' hW rfl (by rw [Try.params6]; kernel_rfl) rfl Try.underlying4 rfl hK⟩
theorem last_holds : Rows.SlotsLastSaid :=
  OpenClaim.holds_of_wide 6 Try.f6 rfl rfl rfl rfl rfl rfl rfl ⟨rfl, rfl, rfl, rfl, rfl⟩ rfl rfl rfl rfl rfl (by kernel_rfl) Try.func6 (by kernel_rfl)
    (of_decide_eq_true (by kernel_rfl)) (by unfold Func.isWrapper; rw [if_neg (by decide +kernel)]; exact ⟨rfl, rfl⟩)
    (fun os started H enc _ => last_lifted os started H enc)
end Go.Proofs.Ythfelkjklnhdiaa