/-
  No cell of these rows narrows 'for every input' (looked for: loops, veiled, ifaces, maps, wideKeys, modest, calm, conditions, laid).
  DERIVED. THE GIVEN ROWS OF THIS SEAT. 7 by the template 'for every input the law returns true; each argument reads behind the call as it read before'; 0 by the template 'total and deterministic' (their statements: YtcfadhjiijngmaaTotals.lean).
  GIVEN WITH THE SEED: the statements are not yours to turn. If you find one false, say at which input.
  Laid BY PROGRAM, IN A SANDBOX (cutbox-rows.mjs): the forced cells as the released guide's own fill.sh prints them over the translation 6f4ea736c2e4bf5b… (all of the seat's roots in one cut). By AI agents, Wed Nov 11 2026. No macro, syntax, notation, axiom, sorry.
-/
import Derived.Test.YtcfadhjiijngmaaChecked
import GoSem.Claim
import GoSem.ClaimJoined
import GoSem.ClaimMapViews
import Derived.JoinedTies
import Derived.KernelRfl
namespace Go.Proofs.Ytcfadhjiijngmaa
/- THE CELL 'sum', in the pinned program and in every row, IS THE sha256 OF THE DUMP (.gsa) THAT YtcfadhjiijngmaaProg.lean LOADS. Nothing in Lean hashes anything: it is a label: what it is worth is what the hold of that sum in a sandbox is worth. -/
noncomputable def Try.pinned : Pinned := { name := "ytcfadhjiijngmaa", sum := "6f4ea736c2e4bf5b559bf3e73759361a27567931b40d31bb3b33f51a659318ec", checked := Try.checked }
namespace Rows
def none {H : Type} : Left H := { results := [], args := [] }

/-- 'blackboxlaw18.MajorSlots': WHATEVER THE INPUT: true; the input reads as it did. -/
def majorSlotsSpec : ChangeSpec := { name := "majorSlots", fn := fun _ => fun
  | [d1, d2] => { results := [.lit (.bool true)], args := [d1, d2] }
  | _ => none }
def majorSlotsRow : OpenClaim := { program := "ytcfadhjiijngmaa", sum := "6f4ea736c2e4bf5b559bf3e73759361a27567931b40d31bb3b33f51a659318ec", func := "blackbox/blackboxlaw18.MajorSlots", spec := "majorSlots", unfollowed := true, recurses := true, apart := false }
def MajorSlotsSaid : Prop := majorSlotsRow.holds Try.pinned (OpenSpec.ofChange majorSlotsSpec)

/-- ITS FALSE NEIGHBOUR: 'it returns false'. Refute it at one input. -/
def majorSlotsWrong : ChangeSpec := { name := "majorSlots", fn := fun _ => fun
  | [d1, d2] => { results := [.lit (.bool false)], args := [d1, d2] }
  | _ => none }
def MajorSlotsWrongFalsely : Prop := majorSlotsRow.holds Try.pinned (OpenSpec.ofChange majorSlotsWrong)

/-- 'blackboxlaw18.MajorBack': WHATEVER THE INPUT: true; the input reads as it did. -/
def majorBackSpec : ChangeSpec := { name := "majorBack", fn := fun _ => fun
  | [d1, d2, d3] => { results := [.lit (.bool true)], args := [d1, d2, d3] }
  | _ => none }
def majorBackRow : OpenClaim := { program := "ytcfadhjiijngmaa", sum := "6f4ea736c2e4bf5b559bf3e73759361a27567931b40d31bb3b33f51a659318ec", func := "blackbox/blackboxlaw18.MajorBack", spec := "majorBack", unfollowed := true, recurses := true, apart := false }
def MajorBackSaid : Prop := majorBackRow.holds Try.pinned (OpenSpec.ofChange majorBackSpec)

/-- ITS FALSE NEIGHBOUR: 'it returns false'. Refute it at one input. -/
def majorBackWrong : ChangeSpec := { name := "majorBack", fn := fun _ => fun
  | [d1, d2, d3] => { results := [.lit (.bool false)], args := [d1, d2, d3] }
  | _ => none }
def MajorBackWrongFalsely : Prop := majorBackRow.holds Try.pinned (OpenSpec.ofChange majorBackWrong)

/-- 'blackboxlaw18.MajorWhole': WHATEVER THE INPUT: true; the input reads as it did. -/
def majorWholeSpec : ChangeSpec := { name := "majorWhole", fn := fun _ => fun
  | [d1, d2] => { results := [.lit (.bool true)], args := [d1, d2] }
  | _ => none }
def majorWholeRow : OpenClaim := { program := "ytcfadhjiijngmaa", sum := "6f4ea736c2e4bf5b559bf3e73759361a27567931b40d31bb3b33f51a659318ec", func := "blackbox/blackboxlaw18.MajorWhole", spec := "majorWhole", unfollowed := true, recurses := true, apart := false }
def MajorWholeSaid : Prop := majorWholeRow.holds Try.pinned (OpenSpec.ofChange majorWholeSpec)

/-- ITS FALSE NEIGHBOUR: 'it returns false'. Refute it at one input. -/
def majorWholeWrong : ChangeSpec := { name := "majorWhole", fn := fun _ => fun
  | [d1, d2] => { results := [.lit (.bool false)], args := [d1, d2] }
  | _ => none }
def MajorWholeWrongFalsely : Prop := majorWholeRow.holds Try.pinned (OpenSpec.ofChange majorWholeWrong)

/-- 'blackboxlaw27.HyperPorts': WHATEVER THE INPUT: true; the input reads as it did. -/
def hyperPortsSpec : ChangeSpec := { name := "hyperPorts", fn := fun _ => fun
  | [d1, d2, d3] => { results := [.lit (.bool true)], args := [d1, d2, d3] }
  | _ => none }
def hyperPortsRow : OpenClaim := { program := "ytcfadhjiijngmaa", sum := "6f4ea736c2e4bf5b559bf3e73759361a27567931b40d31bb3b33f51a659318ec", func := "blackbox/blackboxlaw27.HyperPorts", spec := "hyperPorts", unfollowed := true, recurses := true, apart := false }
def HyperPortsSaid : Prop := hyperPortsRow.holds Try.pinned (OpenSpec.ofChange hyperPortsSpec)

/-- ITS FALSE NEIGHBOUR: 'it returns false'. Refute it at one input. -/
def hyperPortsWrong : ChangeSpec := { name := "hyperPorts", fn := fun _ => fun
  | [d1, d2, d3] => { results := [.lit (.bool false)], args := [d1, d2, d3] }
  | _ => none }
def HyperPortsWrongFalsely : Prop := hyperPortsRow.holds Try.pinned (OpenSpec.ofChange hyperPortsWrong)

/-- 'blackboxlaw27.HyperKeeps': WHATEVER THE INPUT: true; the input reads as it did. -/
def hyperKeepsSpec : ChangeSpec := { name := "hyperKeeps", fn := fun _ => fun
  | [d1, d2, d3, d4, d5, d6, d7, d8] => { results := [.lit (.bool true)], args := [d1, d2, d3, d4, d5, d6, d7, d8] }
  | _ => none }
def hyperKeepsRow : OpenClaim := { program := "ytcfadhjiijngmaa", sum := "6f4ea736c2e4bf5b559bf3e73759361a27567931b40d31bb3b33f51a659318ec", func := "blackbox/blackboxlaw27.HyperKeeps", spec := "hyperKeeps", unfollowed := true, recurses := true, apart := false }
def HyperKeepsSaid : Prop := hyperKeepsRow.holds Try.pinned (OpenSpec.ofChange hyperKeepsSpec)

/-- ITS FALSE NEIGHBOUR: 'it returns false'. Refute it at one input. -/
def hyperKeepsWrong : ChangeSpec := { name := "hyperKeeps", fn := fun _ => fun
  | [d1, d2, d3, d4, d5, d6, d7, d8] => { results := [.lit (.bool false)], args := [d1, d2, d3, d4, d5, d6, d7, d8] }
  | _ => none }
def HyperKeepsWrongFalsely : Prop := hyperKeepsRow.holds Try.pinned (OpenSpec.ofChange hyperKeepsWrong)

/-- 'blackboxlaw27.HyperOwn': WHATEVER THE INPUT: true; the input reads as it did. -/
def hyperOwnSpec : ChangeSpec := { name := "hyperOwn", fn := fun _ => fun
  | [d1, d2, d3, d4, d5, d6, d7, d8, d9] => { results := [.lit (.bool true)], args := [d1, d2, d3, d4, d5, d6, d7, d8, d9] }
  | _ => none }
def hyperOwnRow : OpenClaim := { program := "ytcfadhjiijngmaa", sum := "6f4ea736c2e4bf5b559bf3e73759361a27567931b40d31bb3b33f51a659318ec", func := "blackbox/blackboxlaw27.HyperOwn", spec := "hyperOwn", unfollowed := true, recurses := true, apart := false }
def HyperOwnSaid : Prop := hyperOwnRow.holds Try.pinned (OpenSpec.ofChange hyperOwnSpec)

/-- ITS FALSE NEIGHBOUR: 'it returns false'. Refute it at one input. -/
def hyperOwnWrong : ChangeSpec := { name := "hyperOwn", fn := fun _ => fun
  | [d1, d2, d3, d4, d5, d6, d7, d8, d9] => { results := [.lit (.bool false)], args := [d1, d2, d3, d4, d5, d6, d7, d8, d9] }
  | _ => none }
def HyperOwnWrongFalsely : Prop := hyperOwnRow.holds Try.pinned (OpenSpec.ofChange hyperOwnWrong)

/-- 'blackboxlaw27.HyperHears': WHATEVER THE INPUT: true; the input reads as it did. -/
def hyperHearsSpec : ChangeSpec := { name := "hyperHears", fn := fun _ => fun
  | [d1, d2, d3] => { results := [.lit (.bool true)], args := [d1, d2, d3] }
  | _ => none }
def hyperHearsRow : OpenClaim := { program := "ytcfadhjiijngmaa", sum := "6f4ea736c2e4bf5b559bf3e73759361a27567931b40d31bb3b33f51a659318ec", func := "blackbox/blackboxlaw27.HyperHears", spec := "hyperHears", unfollowed := true, recurses := true, apart := false }
def HyperHearsSaid : Prop := hyperHearsRow.holds Try.pinned (OpenSpec.ofChange hyperHearsSpec)

/-- ITS FALSE NEIGHBOUR: 'it returns false'. Refute it at one input. -/
def hyperHearsWrong : ChangeSpec := { name := "hyperHears", fn := fun _ => fun
  | [d1, d2, d3] => { results := [.lit (.bool false)], args := [d1, d2, d3] }
  | _ => none }
def HyperHearsWrongFalsely : Prop := hyperHearsRow.holds Try.pinned (OpenSpec.ofChange hyperHearsWrong)

/- THE SECOND FORM. 'bulk': how many values and letters a reading holds, each counted each time it is reached (what is shared counts as often as it is met; a slice's spare places count too). A statement '..UptoSaid' is the law's where the arguments, and the package variables that the reading takes, are together of bulk at most 1048576: NARROWER than '..Said'. Prove '..Said' where nothing that the law and all that it calls make is longer than what came in: it says more and counts as full. Else prove '..UptoSaid'. A law counts once. -/
mutual
def uptoBulk {H : Type} : DataW H → Nat
  | .lit (.string bytes) => bytes.length + 1
  | .lit _ => 1
  | .nil => 1
  | .ptr d => uptoBulk d + 1
  | .slice elems spare => uptoBulkAll elems + uptoBulkAll spare + 1
  | .agg parts => uptoBulkAll parts + 1
  | .iface _ d => uptoBulk d + 1
  | .map entries => uptoBulkEntries entries + 1
  | .held _ => 1
def uptoBulkAll {H : Type} : List (DataW H) → Nat
  | [] => 0
  | d :: r => uptoBulk d + uptoBulkAll r
def uptoBulkEntries {H : Type} : List (Lit × DataW H) → Nat
  | [] => 0
  | x :: r => uptoBulkEntry x + uptoBulkEntries r
def uptoBulkEntry {H : Type} : Lit × DataW H → Nat
  | (.string bytes, d) => bytes.length + uptoBulk d + 1
  | (_, d) => uptoBulk d + 1
 end
def uptoSmall : (H : Type) → List (DataW H) → Bool := fun _ ds => decide (uptoBulkAll ds ≤ 1048576)
def OpenSpec.upto (s : _root_.Go.ChangeSpec) : _root_.Go.OpenSpec := { _root_.Go.OpenSpec.ofChange s with cond := some uptoSmall }

/-- 'blackboxlaw18.MajorSlots', WHERE WHAT IT READS IS OF BULK AT MOST 1048576: true; the input reads as it did. -/
def majorSlotsUptoRow : OpenClaim := { program := "ytcfadhjiijngmaa", sum := "6f4ea736c2e4bf5b559bf3e73759361a27567931b40d31bb3b33f51a659318ec", func := "blackbox/blackboxlaw18.MajorSlots", spec := "majorSlots", unfollowed := true, recurses := true, apart := false, narrowed := true }
def MajorSlotsUptoSaid : Prop := majorSlotsUptoRow.holds Try.pinned (OpenSpec.upto majorSlotsSpec)

/-- 'blackboxlaw18.MajorBack', WHERE WHAT IT READS IS OF BULK AT MOST 1048576: true; the input reads as it did. -/
def majorBackUptoRow : OpenClaim := { program := "ytcfadhjiijngmaa", sum := "6f4ea736c2e4bf5b559bf3e73759361a27567931b40d31bb3b33f51a659318ec", func := "blackbox/blackboxlaw18.MajorBack", spec := "majorBack", unfollowed := true, recurses := true, apart := false, narrowed := true }
def MajorBackUptoSaid : Prop := majorBackUptoRow.holds Try.pinned (OpenSpec.upto majorBackSpec)

/-- 'blackboxlaw18.MajorWhole', WHERE WHAT IT READS IS OF BULK AT MOST 1048576: true; the input reads as it did. -/
def majorWholeUptoRow : OpenClaim := { program := "ytcfadhjiijngmaa", sum := "6f4ea736c2e4bf5b559bf3e73759361a27567931b40d31bb3b33f51a659318ec", func := "blackbox/blackboxlaw18.MajorWhole", spec := "majorWhole", unfollowed := true, recurses := true, apart := false, narrowed := true }
def MajorWholeUptoSaid : Prop := majorWholeUptoRow.holds Try.pinned (OpenSpec.upto majorWholeSpec)

/-- 'blackboxlaw27.HyperPorts', WHERE WHAT IT READS IS OF BULK AT MOST 1048576: true; the input reads as it did. -/
def hyperPortsUptoRow : OpenClaim := { program := "ytcfadhjiijngmaa", sum := "6f4ea736c2e4bf5b559bf3e73759361a27567931b40d31bb3b33f51a659318ec", func := "blackbox/blackboxlaw27.HyperPorts", spec := "hyperPorts", unfollowed := true, recurses := true, apart := false, narrowed := true }
def HyperPortsUptoSaid : Prop := hyperPortsUptoRow.holds Try.pinned (OpenSpec.upto hyperPortsSpec)

/-- 'blackboxlaw27.HyperKeeps', WHERE WHAT IT READS IS OF BULK AT MOST 1048576: true; the input reads as it did. -/
def hyperKeepsUptoRow : OpenClaim := { program := "ytcfadhjiijngmaa", sum := "6f4ea736c2e4bf5b559bf3e73759361a27567931b40d31bb3b33f51a659318ec", func := "blackbox/blackboxlaw27.HyperKeeps", spec := "hyperKeeps", unfollowed := true, recurses := true, apart := false, narrowed := true }
def HyperKeepsUptoSaid : Prop := hyperKeepsUptoRow.holds Try.pinned (OpenSpec.upto hyperKeepsSpec)

/-- 'blackboxlaw27.HyperOwn', WHERE WHAT IT READS IS OF BULK AT MOST 1048576: true; the input reads as it did. -/
def hyperOwnUptoRow : OpenClaim := { program := "ytcfadhjiijngmaa", sum := "6f4ea736c2e4bf5b559bf3e73759361a27567931b40d31bb3b33f51a659318ec", func := "blackbox/blackboxlaw27.HyperOwn", spec := "hyperOwn", unfollowed := true, recurses := true, apart := false, narrowed := true }
def HyperOwnUptoSaid : Prop := hyperOwnUptoRow.holds Try.pinned (OpenSpec.upto hyperOwnSpec)

/-- 'blackboxlaw27.HyperHears', WHERE WHAT IT READS IS OF BULK AT MOST 1048576: true; the input reads as it did. -/
def hyperHearsUptoRow : OpenClaim := { program := "ytcfadhjiijngmaa", sum := "6f4ea736c2e4bf5b559bf3e73759361a27567931b40d31bb3b33f51a659318ec", func := "blackbox/blackboxlaw27.HyperHears", spec := "hyperHears", unfollowed := true, recurses := true, apart := false, narrowed := true }
def HyperHearsUptoSaid : Prop := hyperHearsUptoRow.holds Try.pinned (OpenSpec.upto hyperHearsSpec)

end Rows
end Go.Proofs.Ytcfadhjiijngmaa
