/- Plans as arguments: what their cells are. -/
import Derived.Test.YtiedmigdgelhkaaOpen
import Derived.Test.YtiedmigdgelhkaaTypes
import Derived.Test.YtiedmigdgelhkaaPlanData
import Derived.Test.YtiedmigdgelhkaaRingOpen
namespace Go.Proofs.Ytiedmigdgelhkaa
open Go Go.RowKit Bx Go.Proofs

open Go.ChangeShapes Go.WideShapes Go.ChangeAt
section
variable {H : Type} {enc : TypeId × Value → H} {w : World} {cs : List Value}
theorem wf64 {n : Int} (h : (Lit.int .i64 n).wf = true) : i64r n := by
  unfold i64r
  simp [Lit.wf, IntKind.min, IntKind.max, IntKind.signed, IntKind.bits] at h
  omega
theorem wfu32 {n : Int} (h : (Lit.int .u32 n).wf = true) : 0 ≤ n ∧ n ≤ 4294967295 := by
  simp [Lit.wf, IntKind.min, IntKind.max, IntKind.signed, IntKind.bits] at h
  omega
theorem rd_u32s (h : Rd enc Try.prog w 63 cs) : ∃ (ao : Option Addr) (c : Nat) (xs : List Int), cs = [.slice ao xs.length c] ∧ xs.length ≤ c ∧ c ≤ maxLen ∧ Sl (fun _ => True) w 1 ao (xs.map U1) ∧ ∀ n ∈ xs, 0 ≤ n ∧ n ≤ 4294967295 :=
  h.sliceOf U1 (fun n => 0 ≤ n ∧ n ≤ 4294967295) und_63 (sz := 1) (by kernel_rfl) (by decide) (fun c0 h0 => by obtain ⟨n, rfl, hn⟩ := h0.int Try.underlying104; exact ⟨n, rfl, wfu32 hn⟩)
theorem rd_part (h : Rd enc Try.prog w 65 cs) : ∃ m : PrtM, cs = m.cl ∧ PrtS (fun _ => True) w m := by
  obtain ⟨_, _, rfl, _, h0, _, _, rfl, _, h1, _, _, rfl, _, h2, _, _, rfl, _, h3, _, _, rfl, _, h4, _, _, rfl, _, h5, rfl⟩ := h.struct (ts := [3, 3, 3, 63, 3, 3]) (by kernel_rfl)
  obtain ⟨n0, rfl, g0⟩ := h0.int Try.underlying3
  obtain ⟨n1, rfl, g1⟩ := h1.int Try.underlying3
  obtain ⟨n2, rfl, g2⟩ := h2.int Try.underlying3
  obtain ⟨ao, c, xs, rfl, l1, l2, hS, hx⟩ := rd_u32s h3
  obtain ⟨n4, rfl, g4⟩ := h4.int Try.underlying3
  obtain ⟨n5, rfl, g5⟩ := h5.int Try.underlying3
  exact ⟨⟨⟨n0, n1, n2, xs, n4, n5⟩, ao, c⟩, rfl, ⟨wf64 g0, wf64 g1, wf64 g2, wf64 g4, wf64 g5, hx⟩, l1, l2, hS⟩
theorem rd_window (h : Rd enc Try.prog w 88 cs) : ∃ x : Int × Int, cs = I2 x ∧ (i64r x.1 ∧ i64r x.2) := by
  obtain ⟨_, _, rfl, _, h0, _, _, rfl, _, h1, rfl⟩ := h.struct (ts := [3, 3]) (by kernel_rfl)
  obtain ⟨n0, rfl, g0⟩ := h0.int Try.underlying3
  obtain ⟨n1, rfl, g1⟩ := h1.int Try.underlying3
  exact ⟨(n0, n1), rfl, wf64 g0, wf64 g1⟩
theorem rd_chan (h : Rd enc Try.prog w 91 cs) : ∃ x : Chn, cs = x.cells ∧ x.ok := by
  obtain ⟨_, _, rfl, _, h0, _, _, rfl, _, h1, _, _, rfl, _, h2, _, _, rfl, _, h3, _, _, rfl, _, h4, rfl⟩ := h.struct (ts := [3, 3, 3, 3, 3]) (by kernel_rfl)
  obtain ⟨n0, rfl, g0⟩ := h0.int Try.underlying3
  obtain ⟨n1, rfl, g1⟩ := h1.int Try.underlying3
  obtain ⟨n2, rfl, g2⟩ := h2.int Try.underlying3
  obtain ⟨n3, rfl, g3⟩ := h3.int Try.underlying3
  obtain ⟨n4, rfl, g4⟩ := h4.int Try.underlying3
  exact ⟨⟨n0, n1, n2, n3, n4⟩, rfl, wf64 g0, wf64 g1, wf64 g2, wf64 g3, wf64 g4⟩
theorem rd_plan (h : Rd enc Try.prog w 51 cs) : ∃ p : PlnM, cs = p.cl ∧ PlnS (fun _ => True) w p := by
  obtain ⟨_, _, rfl, _, h0, _, _, rfl, _, h1, _, _, rfl, _, h2, _, _, rfl, _, h3, rfl⟩ := h.struct (ts := [3, 47, 48, 49]) (by kernel_rfl)
  obtain ⟨n0, rfl, g0⟩ := h0.int Try.underlying3
  obtain ⟨pa, pc, ps, rfl, a1, a2, a3, a4⟩ := h1.sliceOf PrtM.cl (PrtS (fun _ => True) w) und_47 (sz := 6) (by kernel_rfl) (by decide) (fun c0 => rd_part)
  obtain ⟨wa, wc, ws, rfl, b1, b2, b3, b4⟩ := h2.sliceOf I2 (fun x => i64r x.1 ∧ i64r x.2) und_48 (sz := 2) (by kernel_rfl) (by decide) (fun c0 => rd_window)
  obtain ⟨ca, cc, xs, rfl, c1, c2, c3, c4⟩ := h3.sliceOf Chn.cells Chn.ok und_49 (sz := 5) (by kernel_rfl) (by decide) (fun c0 => rd_chan)
  exact ⟨⟨n0, ps, ws, xs, pa, wa, ca, pc, wc, cc⟩, rfl, a3, b3, c3, a4, wf64 g0, b4, c4, ⟨a1, a2⟩, ⟨b1, b2⟩, ⟨c1, c2⟩⟩
end
end Go.Proofs.Ytiedmigdgelhkaa