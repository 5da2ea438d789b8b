/-
  No cell of these rows narrows 'for every input' (looked for: loops, veiled, ifaces, maps, wideKeys, modest, calm, conditions, laid).
  DERIVED. THE GIVEN ROWS OF THIS SEAT. 5 by the template 'for every input the law returns true; each argument reads behind the call as it read before'; 0 by the template 'total and deterministic' (their statements: YthfelkjklnhdiaaTotals.lean).
  GIVEN WITH THE SEED: the statements are not yours to turn. If you find one false, say at which input.
  Laid BY PROGRAM, IN A SANDBOX (cutbox-rows.mjs): the forced cells as the released guide's own fill.sh prints them over the translation d40cfd6fb87fff26… (all of the seat's roots in one cut). By AI agents, Wed Nov 11 2026. No macro, syntax, notation, axiom, sorry.
-/
import Derived.Test.YthfelkjklnhdiaaChecked
import GoSem.Claim
import GoSem.ClaimJoined
import GoSem.ClaimMapViews
import Derived.JoinedTies
import Derived.KernelRfl
namespace Go.Proofs.Ythfelkjklnhdiaa
/- THE CELL 'sum', in the pinned program and in every row, IS THE sha256 OF THE DUMP (.gsa) THAT YthfelkjklnhdiaaProg.lean LOADS. Nothing in Lean hashes anything: it is a label: what it is worth is what the hold of that sum in a sandbox is worth. -/
noncomputable def Try.pinned : Pinned := { name := "ythfelkjklnhdiaa", sum := "d40cfd6fb87fff266ee16b0430f99b6016bfef7d081f3b2c53f72f8f3cea85ed", checked := Try.checked }
namespace Rows
def none {H : Type} : Left H := { results := [], args := [] }

/-- 'blackboxlaw08.AreaKeeps': WHATEVER THE INPUT: true; the input reads as it did. -/
def areaKeepsSpec : ChangeSpec := { name := "areaKeeps", fn := fun _ => fun
  | [d1, d2, d3, d4, d5, d6, d7, d8] => { results := [.lit (.bool true)], args := [d1, d2, d3, d4, d5, d6, d7, d8] }
  | _ => none }
def areaKeepsRow : OpenClaim := { program := "ythfelkjklnhdiaa", sum := "d40cfd6fb87fff266ee16b0430f99b6016bfef7d081f3b2c53f72f8f3cea85ed", func := "blackbox/blackboxlaw08.AreaKeeps", spec := "areaKeeps", inPlace := ["internal/abi.NoEscape"], unfollowed := true, recurses := true, apart := false }
def AreaKeepsSaid : Prop := areaKeepsRow.holds Try.pinned (OpenSpec.ofChange areaKeepsSpec)

/-- ITS FALSE NEIGHBOUR: 'it returns false'. Refute it at one input. -/
def areaKeepsWrong : ChangeSpec := { name := "areaKeeps", fn := fun _ => fun
  | [d1, d2, d3, d4, d5, d6, d7, d8] => { results := [.lit (.bool false)], args := [d1, d2, d3, d4, d5, d6, d7, d8] }
  | _ => none }
def AreaKeepsWrongFalsely : Prop := areaKeepsRow.holds Try.pinned (OpenSpec.ofChange areaKeepsWrong)

/-- 'blackboxlaw08.AreaJoins': WHATEVER THE INPUT: true; the input reads as it did. -/
def areaJoinsSpec : ChangeSpec := { name := "areaJoins", fn := fun _ => fun
  | [d1, d2, d3, d4, d5, d6] => { results := [.lit (.bool true)], args := [d1, d2, d3, d4, d5, d6] }
  | _ => none }
def areaJoinsRow : OpenClaim := { program := "ythfelkjklnhdiaa", sum := "d40cfd6fb87fff266ee16b0430f99b6016bfef7d081f3b2c53f72f8f3cea85ed", func := "blackbox/blackboxlaw08.AreaJoins", spec := "areaJoins", inPlace := ["internal/abi.NoEscape"], unfollowed := true, recurses := true, apart := false }
def AreaJoinsSaid : Prop := areaJoinsRow.holds Try.pinned (OpenSpec.ofChange areaJoinsSpec)

/-- ITS FALSE NEIGHBOUR: 'it returns false'. Refute it at one input. -/
def areaJoinsWrong : ChangeSpec := { name := "areaJoins", fn := fun _ => fun
  | [d1, d2, d3, d4, d5, d6] => { results := [.lit (.bool false)], args := [d1, d2, d3, d4, d5, d6] }
  | _ => none }
def AreaJoinsWrongFalsely : Prop := areaJoinsRow.holds Try.pinned (OpenSpec.ofChange areaJoinsWrong)

/-- 'blackboxlaw08.AreaStops': WHATEVER THE INPUT: true; the input reads as it did. -/
def areaStopsSpec : ChangeSpec := { name := "areaStops", fn := fun _ => fun
  | [d1, d2, d3, d4, d5, d6] => { results := [.lit (.bool true)], args := [d1, d2, d3, d4, d5, d6] }
  | _ => none }
def areaStopsRow : OpenClaim := { program := "ythfelkjklnhdiaa", sum := "d40cfd6fb87fff266ee16b0430f99b6016bfef7d081f3b2c53f72f8f3cea85ed", func := "blackbox/blackboxlaw08.AreaStops", spec := "areaStops", inPlace := ["internal/abi.NoEscape"], unfollowed := true, recurses := true, apart := false }
def AreaStopsSaid : Prop := areaStopsRow.holds Try.pinned (OpenSpec.ofChange areaStopsSpec)

/-- ITS FALSE NEIGHBOUR: 'it returns false'. Refute it at one input. -/
def areaStopsWrong : ChangeSpec := { name := "areaStops", fn := fun _ => fun
  | [d1, d2, d3, d4, d5, d6] => { results := [.lit (.bool false)], args := [d1, d2, d3, d4, d5, d6] }
  | _ => none }
def AreaStopsWrongFalsely : Prop := areaStopsRow.holds Try.pinned (OpenSpec.ofChange areaStopsWrong)

/-- 'blackboxlaw11.SlotsLast': WHATEVER THE INPUT: true; the input reads as it did. -/
def slotsLastSpec : ChangeSpec := { name := "slotsLast", fn := fun _ => fun
  | [d1, d2, d3] => { results := [.lit (.bool true)], args := [d1, d2, d3] }
  | _ => none }
def slotsLastRow : OpenClaim := { program := "ythfelkjklnhdiaa", sum := "d40cfd6fb87fff266ee16b0430f99b6016bfef7d081f3b2c53f72f8f3cea85ed", func := "blackbox/blackboxlaw11.SlotsLast", spec := "slotsLast", inPlace := ["internal/abi.NoEscape", "internal/bytealg.MakeNoZero"], unfollowed := true, recurses := true, apart := false }
def SlotsLastSaid : Prop := slotsLastRow.holds Try.pinned (OpenSpec.ofChange slotsLastSpec)

/-- ITS FALSE NEIGHBOUR: 'it returns false'. Refute it at one input. -/
def slotsLastWrong : ChangeSpec := { name := "slotsLast", fn := fun _ => fun
  | [d1, d2, d3] => { results := [.lit (.bool false)], args := [d1, d2, d3] }
  | _ => none }
def SlotsLastWrongFalsely : Prop := slotsLastRow.holds Try.pinned (OpenSpec.ofChange slotsLastWrong)

/-- 'blackboxlaw11.SlotsTorn': WHATEVER THE INPUT: true; the input reads as it did. -/
def slotsTornSpec : ChangeSpec := { name := "slotsTorn", fn := fun _ => fun
  | [d1, d2, d3, d4, d5, d6, d7] => { results := [.lit (.bool true)], args := [d1, d2, d3, d4, d5, d6, d7] }
  | _ => none }
def slotsTornRow : OpenClaim := { program := "ythfelkjklnhdiaa", sum := "d40cfd6fb87fff266ee16b0430f99b6016bfef7d081f3b2c53f72f8f3cea85ed", func := "blackbox/blackboxlaw11.SlotsTorn", spec := "slotsTorn", inPlace := ["internal/abi.NoEscape", "internal/bytealg.MakeNoZero"], unfollowed := true, recurses := true, apart := false }
def SlotsTornSaid : Prop := slotsTornRow.holds Try.pinned (OpenSpec.ofChange slotsTornSpec)

/-- ITS FALSE NEIGHBOUR: 'it returns false'. Refute it at one input. -/
def slotsTornWrong : ChangeSpec := { name := "slotsTorn", fn := fun _ => fun
  | [d1, d2, d3, d4, d5, d6, d7] => { results := [.lit (.bool false)], args := [d1, d2, d3, d4, d5, d6, d7] }
  | _ => none }
def SlotsTornWrongFalsely : Prop := slotsTornRow.holds Try.pinned (OpenSpec.ofChange slotsTornWrong)

/- THE SECOND FORM. 'bulk': how many values and letters a reading holds, each counted each time it is reached (what is shared counts as often as it is met; a slice's spare places count too). A statement '..UptoSaid' is the law's where the arguments, and the package variables that the reading takes, are together of bulk at most 1048576: NARROWER than '..Said'. Prove '..Said' where nothing that the law and all that it calls make is longer than what came in: it says more and counts as full. Else prove '..UptoSaid'. A law counts once. -/
mutual
def uptoBulk {H : Type} : DataW H → Nat
  | .lit (.string bytes) => bytes.length + 1
  | .lit _ => 1
  | .nil => 1
  | .ptr d => uptoBulk d + 1
  | .slice elems spare => uptoBulkAll elems + uptoBulkAll spare + 1
  | .agg parts => uptoBulkAll parts + 1
  | .iface _ d => uptoBulk d + 1
  | .map entries => uptoBulkEntries entries + 1
  | .held _ => 1
def uptoBulkAll {H : Type} : List (DataW H) → Nat
  | [] => 0
  | d :: r => uptoBulk d + uptoBulkAll r
def uptoBulkEntries {H : Type} : List (Lit × DataW H) → Nat
  | [] => 0
  | x :: r => uptoBulkEntry x + uptoBulkEntries r
def uptoBulkEntry {H : Type} : Lit × DataW H → Nat
  | (.string bytes, d) => bytes.length + uptoBulk d + 1
  | (_, d) => uptoBulk d + 1
 end
def uptoSmall : (H : Type) → List (DataW H) → Bool := fun _ ds => decide (uptoBulkAll ds ≤ 1048576)
def OpenSpec.upto (s : _root_.Go.ChangeSpec) : _root_.Go.OpenSpec := { _root_.Go.OpenSpec.ofChange s with cond := some uptoSmall }

/-- 'blackboxlaw08.AreaKeeps', WHERE WHAT IT READS IS OF BULK AT MOST 1048576: true; the input reads as it did. -/
def areaKeepsUptoRow : OpenClaim := { program := "ythfelkjklnhdiaa", sum := "d40cfd6fb87fff266ee16b0430f99b6016bfef7d081f3b2c53f72f8f3cea85ed", func := "blackbox/blackboxlaw08.AreaKeeps", spec := "areaKeeps", inPlace := ["internal/abi.NoEscape"], unfollowed := true, recurses := true, apart := false, narrowed := true }
def AreaKeepsUptoSaid : Prop := areaKeepsUptoRow.holds Try.pinned (OpenSpec.upto areaKeepsSpec)

/-- 'blackboxlaw08.AreaJoins', WHERE WHAT IT READS IS OF BULK AT MOST 1048576: true; the input reads as it did. -/
def areaJoinsUptoRow : OpenClaim := { program := "ythfelkjklnhdiaa", sum := "d40cfd6fb87fff266ee16b0430f99b6016bfef7d081f3b2c53f72f8f3cea85ed", func := "blackbox/blackboxlaw08.AreaJoins", spec := "areaJoins", inPlace := ["internal/abi.NoEscape"], unfollowed := true, recurses := true, apart := false, narrowed := true }
def AreaJoinsUptoSaid : Prop := areaJoinsUptoRow.holds Try.pinned (OpenSpec.upto areaJoinsSpec)

/-- 'blackboxlaw08.AreaStops', WHERE WHAT IT READS IS OF BULK AT MOST 1048576: true; the input reads as it did. -/
def areaStopsUptoRow : OpenClaim := { program := "ythfelkjklnhdiaa", sum := "d40cfd6fb87fff266ee16b0430f99b6016bfef7d081f3b2c53f72f8f3cea85ed", func := "blackbox/blackboxlaw08.AreaStops", spec := "areaStops", inPlace := ["internal/abi.NoEscape"], unfollowed := true, recurses := true, apart := false, narrowed := true }
def AreaStopsUptoSaid : Prop := areaStopsUptoRow.holds Try.pinned (OpenSpec.upto areaStopsSpec)

/-- 'blackboxlaw11.SlotsLast', WHERE WHAT IT READS IS OF BULK AT MOST 1048576: true; the input reads as it did. -/
def slotsLastUptoRow : OpenClaim := { program := "ythfelkjklnhdiaa", sum := "d40cfd6fb87fff266ee16b0430f99b6016bfef7d081f3b2c53f72f8f3cea85ed", func := "blackbox/blackboxlaw11.SlotsLast", spec := "slotsLast", inPlace := ["internal/abi.NoEscape", "internal/bytealg.MakeNoZero"], unfollowed := true, recurses := true, apart := false, narrowed := true }
def SlotsLastUptoSaid : Prop := slotsLastUptoRow.holds Try.pinned (OpenSpec.upto slotsLastSpec)

/-- 'blackboxlaw11.SlotsTorn', WHERE WHAT IT READS IS OF BULK AT MOST 1048576: true; the input reads as it did. -/
def slotsTornUptoRow : OpenClaim := { program := "ythfelkjklnhdiaa", sum := "d40cfd6fb87fff266ee16b0430f99b6016bfef7d081f3b2c53f72f8f3cea85ed", func := "blackbox/blackboxlaw11.SlotsTorn", spec := "slotsTorn", inPlace := ["internal/abi.NoEscape", "internal/bytealg.MakeNoZero"], unfollowed := true, recurses := true, apart := false, narrowed := true }
def SlotsTornUptoSaid : Prop := slotsTornUptoRow.holds Try.pinned (OpenSpec.upto slotsTornSpec)

end Rows
end Go.Proofs.Ythfelkjklnhdiaa
