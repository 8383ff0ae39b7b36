-- Words that this seat's claims use, chosen by a program of this session out of the print's words for this seat. Lean checks them.
import Derived.Test.YtpkhdipedmihgaaWInv
import Derived.Test.YtpkhdipedmihgaaWFootNe
namespace Go.Proofs.YtpkhdipedmihgaaW.PrintWords
open Go.RowKit
end Go.Proofs.YtpkhdipedmihgaaW.PrintWords
namespace Go.Proofs.YtpkhdipedmihgaaW.PrintLast
section
variable {ops : Array Oper} {a : Act} {o og : Oper} {g : Nat} {t : Tmp} {u : Bool}
end
end Go.Proofs.YtpkhdipedmihgaaW.PrintLast
