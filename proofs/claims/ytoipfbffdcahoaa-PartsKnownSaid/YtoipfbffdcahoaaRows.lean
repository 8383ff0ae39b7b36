/-
  No cell of these rows narrows 'for every input' (looked for: loops, veiled, ifaces, maps, wideKeys, modest, calm, conditions, laid).
  DERIVED. THE GIVEN ROWS OF THIS SEAT. 4 by the template 'for every input the law returns true; each argument reads behind the call as it read before'; 0 by the template 'total and deterministic' (their statements: YtoipfbffdcahoaaTotals.lean).
  GIVEN WITH THE SEED: the statements are not yours to turn. If you find one false, say at which input.
  Laid BY PROGRAM, IN A SANDBOX (cutbox-rows.mjs): the forced cells as the released guide's own fill.sh prints them over the translation 1fcb79696f6b6475… (all of the seat's roots in one cut). By AI agents, Wed Nov 11 2026. No macro, syntax, notation, axiom, sorry.
-/
import Derived.Test.YtoipfbffdcahoaaChecked
import GoSem.Claim
import GoSem.ClaimJoined
import GoSem.ClaimMapViews
import Derived.JoinedTies
import Derived.KernelRfl
namespace Go.Proofs.Ytoipfbffdcahoaa
/- THE CELL 'sum', in the pinned program and in every row, IS THE sha256 OF THE DUMP (.gsa) THAT YtoipfbffdcahoaaProg.lean LOADS. Nothing in Lean hashes anything: it is a label: what it is worth is what the hold of that sum in a sandbox is worth. -/
noncomputable def Try.pinned : Pinned := { name := "ytoipfbffdcahoaa", sum := "1fcb79696f6b6475ba246132ce72f57eee6eea02984784e9716f92feabb9cd85", checked := Try.checked }
namespace Rows
def none {H : Type} : Left H := { results := [], args := [] }

/-- 'watershedlaw11.PartsKnown': WHATEVER THE INPUT: true; the input reads as it did. -/
def partsKnownSpec : ChangeSpec := { name := "partsKnown", fn := fun _ => fun
  | [d] => { results := [.lit (.bool true)], args := [d] }
  | _ => none }
def partsKnownRow : OpenClaim := { program := "ytoipfbffdcahoaa", sum := "1fcb79696f6b6475ba246132ce72f57eee6eea02984784e9716f92feabb9cd85", func := "watershed/watershedlaw11.PartsKnown", spec := "partsKnown", unfollowed := true, recurses := true, apart := false }
def PartsKnownSaid : Prop := partsKnownRow.holds Try.pinned (OpenSpec.ofChange partsKnownSpec)

/-- ITS FALSE NEIGHBOUR: 'it returns false'. Refute it at one input. -/
def partsKnownWrong : ChangeSpec := { name := "partsKnown", fn := fun _ => fun
  | [d] => { results := [.lit (.bool false)], args := [d] }
  | _ => none }
def PartsKnownWrongFalsely : Prop := partsKnownRow.holds Try.pinned (OpenSpec.ofChange partsKnownWrong)

/-- 'watershedlaw11.PartsRounds': WHATEVER THE INPUT: true; the input reads as it did. -/
def partsRoundsSpec : ChangeSpec := { name := "partsRounds", fn := fun _ => fun
  | [d1, d2, d3, d4] => { results := [.lit (.bool true)], args := [d1, d2, d3, d4] }
  | _ => none }
def partsRoundsRow : OpenClaim := { program := "ytoipfbffdcahoaa", sum := "1fcb79696f6b6475ba246132ce72f57eee6eea02984784e9716f92feabb9cd85", func := "watershed/watershedlaw11.PartsRounds", spec := "partsRounds", unfollowed := true, recurses := true, apart := false }
def PartsRoundsSaid : Prop := partsRoundsRow.holds Try.pinned (OpenSpec.ofChange partsRoundsSpec)

/-- ITS FALSE NEIGHBOUR: 'it returns false'. Refute it at one input. -/
def partsRoundsWrong : ChangeSpec := { name := "partsRounds", fn := fun _ => fun
  | [d1, d2, d3, d4] => { results := [.lit (.bool false)], args := [d1, d2, d3, d4] }
  | _ => none }
def PartsRoundsWrongFalsely : Prop := partsRoundsRow.holds Try.pinned (OpenSpec.ofChange partsRoundsWrong)

/-- 'watershedlaw11.PartsTakes': WHATEVER THE INPUT: true; the input reads as it did. -/
def partsTakesSpec : ChangeSpec := { name := "partsTakes", fn := fun _ => fun
  | [d1, d2, d3, d4] => { results := [.lit (.bool true)], args := [d1, d2, d3, d4] }
  | _ => none }
def partsTakesRow : OpenClaim := { program := "ytoipfbffdcahoaa", sum := "1fcb79696f6b6475ba246132ce72f57eee6eea02984784e9716f92feabb9cd85", func := "watershed/watershedlaw11.PartsTakes", spec := "partsTakes", unfollowed := true, recurses := true, apart := false }
def PartsTakesSaid : Prop := partsTakesRow.holds Try.pinned (OpenSpec.ofChange partsTakesSpec)

/-- ITS FALSE NEIGHBOUR: 'it returns false'. Refute it at one input. -/
def partsTakesWrong : ChangeSpec := { name := "partsTakes", fn := fun _ => fun
  | [d1, d2, d3, d4] => { results := [.lit (.bool false)], args := [d1, d2, d3, d4] }
  | _ => none }
def PartsTakesWrongFalsely : Prop := partsTakesRow.holds Try.pinned (OpenSpec.ofChange partsTakesWrong)

/-- 'watershedlaw11.PartsScale': WHATEVER THE INPUT: true; the input reads as it did. -/
def partsScaleSpec : ChangeSpec := { name := "partsScale", fn := fun _ => fun
  | [d1, d2, d3, d4, d5] => { results := [.lit (.bool true)], args := [d1, d2, d3, d4, d5] }
  | _ => none }
def partsScaleRow : OpenClaim := { program := "ytoipfbffdcahoaa", sum := "1fcb79696f6b6475ba246132ce72f57eee6eea02984784e9716f92feabb9cd85", func := "watershed/watershedlaw11.PartsScale", spec := "partsScale", unfollowed := true, recurses := true, apart := false }
def PartsScaleSaid : Prop := partsScaleRow.holds Try.pinned (OpenSpec.ofChange partsScaleSpec)

/-- ITS FALSE NEIGHBOUR: 'it returns false'. Refute it at one input. -/
def partsScaleWrong : ChangeSpec := { name := "partsScale", fn := fun _ => fun
  | [d1, d2, d3, d4, d5] => { results := [.lit (.bool false)], args := [d1, d2, d3, d4, d5] }
  | _ => none }
def PartsScaleWrongFalsely : Prop := partsScaleRow.holds Try.pinned (OpenSpec.ofChange partsScaleWrong)

/- THE SECOND FORM. 'bulk': how many values and letters a reading holds, each counted each time it is reached (what is shared counts as often as it is met; a slice's spare places count too). A statement '..UptoSaid' is the law's where the arguments, and the package variables that the reading takes, are together of bulk at most 1048576: NARROWER than '..Said'. Prove '..Said' where nothing that the law and all that it calls make is longer than what came in: it says more and counts as full. Else prove '..UptoSaid'. A law counts once. -/
mutual
def uptoBulk {H : Type} : DataW H → Nat
  | .lit (.string bytes) => bytes.length + 1
  | .lit _ => 1
  | .nil => 1
  | .ptr d => uptoBulk d + 1
  | .slice elems spare => uptoBulkAll elems + uptoBulkAll spare + 1
  | .agg parts => uptoBulkAll parts + 1
  | .iface _ d => uptoBulk d + 1
  | .map entries => uptoBulkEntries entries + 1
  | .held _ => 1
def uptoBulkAll {H : Type} : List (DataW H) → Nat
  | [] => 0
  | d :: r => uptoBulk d + uptoBulkAll r
def uptoBulkEntries {H : Type} : List (Lit × DataW H) → Nat
  | [] => 0
  | x :: r => uptoBulkEntry x + uptoBulkEntries r
def uptoBulkEntry {H : Type} : Lit × DataW H → Nat
  | (.string bytes, d) => bytes.length + uptoBulk d + 1
  | (_, d) => uptoBulk d + 1
 end
def uptoSmall : (H : Type) → List (DataW H) → Bool := fun _ ds => decide (uptoBulkAll ds ≤ 1048576)
def OpenSpec.upto (s : _root_.Go.ChangeSpec) : _root_.Go.OpenSpec := { _root_.Go.OpenSpec.ofChange s with cond := some uptoSmall }

/-- 'watershedlaw11.PartsKnown', WHERE WHAT IT READS IS OF BULK AT MOST 1048576: true; the input reads as it did. -/
def partsKnownUptoRow : OpenClaim := { program := "ytoipfbffdcahoaa", sum := "1fcb79696f6b6475ba246132ce72f57eee6eea02984784e9716f92feabb9cd85", func := "watershed/watershedlaw11.PartsKnown", spec := "partsKnown", unfollowed := true, recurses := true, apart := false, narrowed := true }
def PartsKnownUptoSaid : Prop := partsKnownUptoRow.holds Try.pinned (OpenSpec.upto partsKnownSpec)

/-- 'watershedlaw11.PartsRounds', WHERE WHAT IT READS IS OF BULK AT MOST 1048576: true; the input reads as it did. -/
def partsRoundsUptoRow : OpenClaim := { program := "ytoipfbffdcahoaa", sum := "1fcb79696f6b6475ba246132ce72f57eee6eea02984784e9716f92feabb9cd85", func := "watershed/watershedlaw11.PartsRounds", spec := "partsRounds", unfollowed := true, recurses := true, apart := false, narrowed := true }
def PartsRoundsUptoSaid : Prop := partsRoundsUptoRow.holds Try.pinned (OpenSpec.upto partsRoundsSpec)

/-- 'watershedlaw11.PartsTakes', WHERE WHAT IT READS IS OF BULK AT MOST 1048576: true; the input reads as it did. -/
def partsTakesUptoRow : OpenClaim := { program := "ytoipfbffdcahoaa", sum := "1fcb79696f6b6475ba246132ce72f57eee6eea02984784e9716f92feabb9cd85", func := "watershed/watershedlaw11.PartsTakes", spec := "partsTakes", unfollowed := true, recurses := true, apart := false, narrowed := true }
def PartsTakesUptoSaid : Prop := partsTakesUptoRow.holds Try.pinned (OpenSpec.upto partsTakesSpec)

/-- 'watershedlaw11.PartsScale', WHERE WHAT IT READS IS OF BULK AT MOST 1048576: true; the input reads as it did. -/
def partsScaleUptoRow : OpenClaim := { program := "ytoipfbffdcahoaa", sum := "1fcb79696f6b6475ba246132ce72f57eee6eea02984784e9716f92feabb9cd85", func := "watershed/watershedlaw11.PartsScale", spec := "partsScale", unfollowed := true, recurses := true, apart := false, narrowed := true }
def PartsScaleUptoSaid : Prop := partsScaleUptoRow.holds Try.pinned (OpenSpec.upto partsScaleSpec)

end Rows
end Go.Proofs.Ytoipfbffdcahoaa
