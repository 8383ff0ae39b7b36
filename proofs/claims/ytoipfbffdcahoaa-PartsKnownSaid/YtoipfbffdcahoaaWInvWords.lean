-- Words that this claim's texts use, chosen by a program of this session out of the print's words for this seat. Lean checks them.
import Derived.Test.YtoipfbffdcahoaaWInv
import Derived.Test.YtoipfbffdcahoaaWFootNe
namespace Go.Proofs.YtoipfbffdcahoaaW.PrintWords
open Go.RowKit
end Go.Proofs.YtoipfbffdcahoaaW.PrintWords
namespace Go.Proofs.YtoipfbffdcahoaaW.PrintLast
section
variable {ops : Array Oper} {a : Act} {o og : Oper} {g : Nat} {t : Tmp} {u : Bool}
end
end Go.Proofs.YtoipfbffdcahoaaW.PrintLast
