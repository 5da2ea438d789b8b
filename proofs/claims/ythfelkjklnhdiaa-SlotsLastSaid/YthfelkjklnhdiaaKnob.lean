/- What all rows of this seat need. -/
import Derived.Test.YthfelkjklnhdiaaOpen2
import Derived.Test.YthfelkjklnhdiaaTypes
namespace Go.Proofs.Ythfelkjklnhdiaa
open Go Go.RowKit Bx Go.Proofs
theorem own' : ownKnob Try.prog.godebug = none := by kernel_rfl
theorem laidOut' : laidOutB Try.prog = true := by kernel_rfl
end Go.Proofs.Ythfelkjklnhdiaa