/- Events, entries and rings as arguments: what their cells are. -/
import Derived.Test.YtiedmigdgelhkaaOpen
import Derived.Test.YtiedmigdgelhkaaTypes
import Derived.Test.YtiedmigdgelhkaaRingData
namespace Go.Proofs.Ytiedmigdgelhkaa
open Go Go.RowKit Bx Go.Proofs
section
variable {H : Type} {enc : TypeId × Value → H} {w : World} {cs : List Value}
theorem rd_ent (h : Rd enc Try.prog w 31 cs) : ∃ x : Ent, cs = x.cells ∧ True := by
  obtain ⟨_, _, rfl, _, h0, _, _, rfl, _, h1, rfl⟩ := h.struct (ts := [27, 29]) (by kernel_rfl)
  obtain ⟨s, rfl, _⟩ := h0.int Try.underlying27
  obtain ⟨_, _, rfl, _, a0, _, _, rfl, _, a1, _, _, rfl, _, a2, _, _, rfl, _, a3, _, _, rfl, _, a4, _, _, rfl, _, a5, rfl⟩ := h1.struct (ts := [27, 3, 3, 3, 3, 3]) (by kernel_rfl)
  obtain ⟨b0, rfl, _⟩ := a0.int Try.underlying27
  obtain ⟨b1, rfl, _⟩ := a1.int Try.underlying3
  obtain ⟨b2, rfl, _⟩ := a2.int Try.underlying3
  obtain ⟨b3, rfl, _⟩ := a3.int Try.underlying3
  obtain ⟨b4, rfl, _⟩ := a4.int Try.underlying3
  obtain ⟨b5, rfl, _⟩ := a5.int Try.underlying3
  exact ⟨⟨s, b0, b1, b2, b3, b4, b5⟩, rfl, trivial⟩
theorem rd_ents (h : Rd enc Try.prog w 26 cs) : ∃ (ao : Option Addr) (c : Nat) (xs : List Ent), cs = [.slice ao xs.length c] ∧ xs.length ≤ c ∧ c ≤ maxLen ∧ Sl (fun _ => True) w 7 ao (xs.map Ent.cells) := by
  obtain ⟨ao, c, xs, h1, h2, h3, h4, _⟩ := h.sliceOf Ent.cells (fun _ => True) und_26 (sz := 7) (by kernel_rfl) (by decide) (fun c0 => rd_ent)
  exact ⟨ao, c, xs, h1, h2, h3, h4⟩
theorem rd_ring (h : Rd enc Try.prog w 33 cs) : ∃ m : RgM, cs = m.cl ∧ RgS (fun _ => True) w m.r m.ao m.c := by
  obtain ⟨_, _, rfl, _, h0, _, _, rfl, _, h1, _, _, rfl, _, h2, rfl⟩ := h.struct (ts := [3, 26, 31]) (by kernel_rfl)
  obtain ⟨n, rfl, _⟩ := h0.int Try.underlying3
  obtain ⟨ao, c, xs, rfl, l1, l2, hS⟩ := rd_ents h1
  obtain ⟨x, rfl, _⟩ := rd_ent h2
  exact ⟨⟨⟨n, xs, x⟩, ao, c⟩, rfl, l1, l2, hS⟩
theorem rd_rings (h : Rd enc Try.prog w 24 cs) : ∃ (ao : Option Addr) (c : Nat) (ms : List RgM), cs = [.slice ao ms.length c] ∧ RgsS (fun _ => True) w ao ms := by
  obtain ⟨ao, c, ms, h1, h2, h3, h4, h5⟩ := h.sliceOf RgM.cl (fun m => RgS (fun _ => True) w m.r m.ao m.c) und_24 (sz := 9) (by kernel_rfl) (by decide) (fun c0 => rd_ring)
  exact ⟨ao, c, ms, h1, h4, h5⟩
end
theorem own' : ownKnob Try.prog.godebug = none := by kernel_rfl
theorem laidOut' : laidOutB Try.prog = true := by kernel_rfl
end Go.Proofs.Ytiedmigdgelhkaa
