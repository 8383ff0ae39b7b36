-- Words that this seat's claims use, chosen by a program of this session out of the print's words for this seat. Lean checks them.
import Derived.Test.YtpkhdipedmihgaaWTab
/-! ### 56. Four, five, six operations that may come up next, in any order -/
namespace Go.Proofs.YtpkhdipedmihgaaW.PrintLast
section
variable {P : Program} {ops : Array Oper} {Q : Exit → Act → World → Prop} {md : Region.Mode} {S : World → Prop} {ds : List Nat} {T : Bool × List (List Nat × List Nat)}
end
end Go.Proofs.YtpkhdipedmihgaaW.PrintLast
