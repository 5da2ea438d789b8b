/-
  No cell of these rows narrows 'for every input' (looked for: loops, veiled, ifaces, maps, wideKeys, modest, calm, conditions, laid).
  DERIVED. THE GIVEN ROWS OF THIS SEAT. 3 by the template 'for every input the law returns true; each argument reads behind the call as it read before'; 0 by the template 'total and deterministic' (their statements: YtiedmigdgelhkaaTotals.lean).
  GIVEN WITH THE SEED: the statements are not yours to turn. If you find one false, say at which input.
  Laid BY PROGRAM, IN A SANDBOX (cutbox-rows.mjs): the forced cells as the released guide's own fill.sh prints them over the translation 6a1cf774c85f9caa… (all of the seat's roots in one cut). By AI agents, Wed Nov 11 2026. No macro, syntax, notation, axiom, sorry.
-/
import Derived.Test.YtiedmigdgelhkaaChecked
import GoSem.Claim
import GoSem.ClaimJoined
import GoSem.ClaimMapViews
import Derived.JoinedTies
import Derived.KernelRfl
namespace Go.Proofs.Ytiedmigdgelhkaa
/- THE CELL 'sum', in the pinned program and in every row, IS THE sha256 OF THE DUMP (.gsa) THAT YtiedmigdgelhkaaProg.lean LOADS. Nothing in Lean hashes anything: it is a label: what it is worth is what the hold of that sum in a sandbox is worth. -/
noncomputable def Try.pinned : Pinned := { name := "ytiedmigdgelhkaa", sum := "6a1cf774c85f9caa53c2a8e0c11a3f386648cc44ccc9bcf48a0f74665ad00b37", checked := Try.checked }
namespace Rows
def none {H : Type} : Left H := { results := [], args := [] }

/-- 'blackboxlaw29.MergeRises': WHATEVER THE INPUT: true; the input reads as it did. -/
def mergeRisesSpec : ChangeSpec := { name := "mergeRises", fn := fun _ => fun
  | [d1, d2] => { results := [.lit (.bool true)], args := [d1, d2] }
  | _ => none }
def mergeRisesRow : OpenClaim := { program := "ytiedmigdgelhkaa", sum := "6a1cf774c85f9caa53c2a8e0c11a3f386648cc44ccc9bcf48a0f74665ad00b37", func := "blackbox/blackboxlaw29.MergeRises", spec := "mergeRises", unfollowed := true, recurses := true, apart := false }
def MergeRisesSaid : Prop := mergeRisesRow.holds Try.pinned (OpenSpec.ofChange mergeRisesSpec)

/-- ITS FALSE NEIGHBOUR: 'it returns false'. Refute it at one input. -/
def mergeRisesWrong : ChangeSpec := { name := "mergeRises", fn := fun _ => fun
  | [d1, d2] => { results := [.lit (.bool false)], args := [d1, d2] }
  | _ => none }
def MergeRisesWrongFalsely : Prop := mergeRisesRow.holds Try.pinned (OpenSpec.ofChange mergeRisesWrong)

/-- 'blackboxlaw29.MergeOwn': WHATEVER THE INPUT: true; the input reads as it did. -/
def mergeOwnSpec : ChangeSpec := { name := "mergeOwn", fn := fun _ => fun
  | [d1, d2, d3] => { results := [.lit (.bool true)], args := [d1, d2, d3] }
  | _ => none }
def mergeOwnRow : OpenClaim := { program := "ytiedmigdgelhkaa", sum := "6a1cf774c85f9caa53c2a8e0c11a3f386648cc44ccc9bcf48a0f74665ad00b37", func := "blackbox/blackboxlaw29.MergeOwn", spec := "mergeOwn", unfollowed := true, recurses := true, apart := false }
def MergeOwnSaid : Prop := mergeOwnRow.holds Try.pinned (OpenSpec.ofChange mergeOwnSpec)

/-- ITS FALSE NEIGHBOUR: 'it returns false'. Refute it at one input. -/
def mergeOwnWrong : ChangeSpec := { name := "mergeOwn", fn := fun _ => fun
  | [d1, d2, d3] => { results := [.lit (.bool false)], args := [d1, d2, d3] }
  | _ => none }
def MergeOwnWrongFalsely : Prop := mergeOwnRow.holds Try.pinned (OpenSpec.ofChange mergeOwnWrong)

/-- 'blackboxlaw29.MergeOffers': WHATEVER THE INPUT: true; the input reads as it did. -/
def mergeOffersSpec : ChangeSpec := { name := "mergeOffers", fn := fun _ => fun
  | [d1, d2, d3] => { results := [.lit (.bool true)], args := [d1, d2, d3] }
  | _ => none }
def mergeOffersRow : OpenClaim := { program := "ytiedmigdgelhkaa", sum := "6a1cf774c85f9caa53c2a8e0c11a3f386648cc44ccc9bcf48a0f74665ad00b37", func := "blackbox/blackboxlaw29.MergeOffers", spec := "mergeOffers", unfollowed := true, recurses := true, apart := false }
def MergeOffersSaid : Prop := mergeOffersRow.holds Try.pinned (OpenSpec.ofChange mergeOffersSpec)

/-- ITS FALSE NEIGHBOUR: 'it returns false'. Refute it at one input. -/
def mergeOffersWrong : ChangeSpec := { name := "mergeOffers", fn := fun _ => fun
  | [d1, d2, d3] => { results := [.lit (.bool false)], args := [d1, d2, d3] }
  | _ => none }
def MergeOffersWrongFalsely : Prop := mergeOffersRow.holds Try.pinned (OpenSpec.ofChange mergeOffersWrong)

/- THE SECOND FORM. 'bulk': how many values and letters a reading holds, each counted each time it is reached (what is shared counts as often as it is met; a slice's spare places count too). A statement '..UptoSaid' is the law's where the arguments, and the package variables that the reading takes, are together of bulk at most 1048576: NARROWER than '..Said'. Prove '..Said' where nothing that the law and all that it calls make is longer than what came in: it says more and counts as full. Else prove '..UptoSaid'. A law counts once. -/
mutual
def uptoBulk {H : Type} : DataW H → Nat
  | .lit (.string bytes) => bytes.length + 1
  | .lit _ => 1
  | .nil => 1
  | .ptr d => uptoBulk d + 1
  | .slice elems spare => uptoBulkAll elems + uptoBulkAll spare + 1
  | .agg parts => uptoBulkAll parts + 1
  | .iface _ d => uptoBulk d + 1
  | .map entries => uptoBulkEntries entries + 1
  | .held _ => 1
def uptoBulkAll {H : Type} : List (DataW H) → Nat
  | [] => 0
  | d :: r => uptoBulk d + uptoBulkAll r
def uptoBulkEntries {H : Type} : List (Lit × DataW H) → Nat
  | [] => 0
  | x :: r => uptoBulkEntry x + uptoBulkEntries r
def uptoBulkEntry {H : Type} : Lit × DataW H → Nat
  | (.string bytes, d) => bytes.length + uptoBulk d + 1
  | (_, d) => uptoBulk d + 1
 end
def uptoSmall : (H : Type) → List (DataW H) → Bool := fun _ ds => decide (uptoBulkAll ds ≤ 1048576)
def OpenSpec.upto (s : _root_.Go.ChangeSpec) : _root_.Go.OpenSpec := { _root_.Go.OpenSpec.ofChange s with cond := some uptoSmall }

/-- 'blackboxlaw29.MergeRises', WHERE WHAT IT READS IS OF BULK AT MOST 1048576: true; the input reads as it did. -/
def mergeRisesUptoRow : OpenClaim := { program := "ytiedmigdgelhkaa", sum := "6a1cf774c85f9caa53c2a8e0c11a3f386648cc44ccc9bcf48a0f74665ad00b37", func := "blackbox/blackboxlaw29.MergeRises", spec := "mergeRises", unfollowed := true, recurses := true, apart := false, narrowed := true }
def MergeRisesUptoSaid : Prop := mergeRisesUptoRow.holds Try.pinned (OpenSpec.upto mergeRisesSpec)

/-- 'blackboxlaw29.MergeOwn', WHERE WHAT IT READS IS OF BULK AT MOST 1048576: true; the input reads as it did. -/
def mergeOwnUptoRow : OpenClaim := { program := "ytiedmigdgelhkaa", sum := "6a1cf774c85f9caa53c2a8e0c11a3f386648cc44ccc9bcf48a0f74665ad00b37", func := "blackbox/blackboxlaw29.MergeOwn", spec := "mergeOwn", unfollowed := true, recurses := true, apart := false, narrowed := true }
def MergeOwnUptoSaid : Prop := mergeOwnUptoRow.holds Try.pinned (OpenSpec.upto mergeOwnSpec)

/-- 'blackboxlaw29.MergeOffers', WHERE WHAT IT READS IS OF BULK AT MOST 1048576: true; the input reads as it did. -/
def mergeOffersUptoRow : OpenClaim := { program := "ytiedmigdgelhkaa", sum := "6a1cf774c85f9caa53c2a8e0c11a3f386648cc44ccc9bcf48a0f74665ad00b37", func := "blackbox/blackboxlaw29.MergeOffers", spec := "mergeOffers", unfollowed := true, recurses := true, apart := false, narrowed := true }
def MergeOffersUptoSaid : Prop := mergeOffersUptoRow.holds Try.pinned (OpenSpec.upto mergeOffersSpec)

end Rows
end Go.Proofs.Ytiedmigdgelhkaa
