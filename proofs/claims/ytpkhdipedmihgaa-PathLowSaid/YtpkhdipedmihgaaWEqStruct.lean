-- Words that this seat's claims use, chosen by a program of this session out of the print's words for this seat. Lean checks them.
import Derived.Test.YtpkhdipedmihgaaWWords
import Derived.Laws.StructEq
/-! ### 53. '==' of structs as_ one Bool -/
namespace Go.Proofs.YtpkhdipedmihgaaW.PrintWords
open Go.RowKit
section
variable {P : Program} {d : Nat} {xs ys : Array Value} {f : Field} {fs : List Field} {a b : Value} {r s : Bool} {w : World}
end
end Go.Proofs.YtpkhdipedmihgaaW.PrintWords
