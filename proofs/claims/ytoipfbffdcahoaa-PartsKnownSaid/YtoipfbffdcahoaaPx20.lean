-- Written by a program of this session: a scratch copy of the kit's printer in which some functions are external. Lean checks it.
import Derived.Test.YtoipfbffdcahoaaPx0
namespace Go.Proofs.Ytoipfbffdcahoaa.P
open Go.RowKit Go.Proofs.YtoipfbffdcahoaaW.PrintWords Go.Proofs.YtoipfbffdcahoaaW.PrintLast Go.Proofs.YtoipfbffdcahoaaW.PrintMore
attribute [local go_sem] max2_int min2_int max_two min_two max_three min_three max_four min_four   -- for this text's walks alone
set_option linter.unusedVariables false
set_option linter.unusedSimpArgs false

/-! ### rot_other: function 45 -/
def rot_other.f (a0 : Int) : Option (Int) := some (Go.bits .xor .i64 a0 1)
set_option maxHeartbeats 8000000 in
set_option maxRecDepth 100000 in
theorem rot_other.calls (a0 : Int) (r : Int) (w : World) (h : rot_other.f a0 = some r) :
    Calls Try.prog 45 #[.int .i64 a0] w fun e w' => e = .returned (.int .i64 r) ∧ Drawn0 w w' := by
  have H : (some (Go.bits .xor .i64 a0 1)) = some r := h
  clear h
  obtain rfl := Option.some.inj H
  go_enter Try.func45, Try.ntmps45
  go_wp2
  go_ret
  exact ⟨by first | rfl | (simp; done) | (simp [*]; done), by repeat (first | exact Drawn0.refl _ | apply Drawn0.step)⟩

end Go.Proofs.Ytoipfbffdcahoaa.P
