/- rot.Head: where a dart ends. -/
import Derived.Test.YtoipfbffdcahoaaPx20
import Derived.Test.YtoipfbffdcahoaaXBase
namespace Go.Proofs.Ytoipfbffdcahoaa.P
open Go.RowKit Go.Proofs.YtoipfbffdcahoaaW.PrintWords Go.Proofs.YtoipfbffdcahoaaW.PrintLast Go.Proofs.YtoipfbffdcahoaaW.PrintMore
set_option linter.unusedVariables false
set_option linter.unusedSimpArgs false

def rot_Head.f (a0_0 : Int) (l0_1 l0_2 l0_3 : List Int) (a1 : Int) : Option Int :=
  if a1 < 0 then some 0 else if Go.bits .xor .i64 a1 1 ≥ (l0_1.length : Int) then some 0 else if 0 ≤ Go.bits .xor .i64 a1 1 then some (rd l0_1 (Go.bits .xor .i64 a1 1)) else none

set_option maxHeartbeats 1000000 in
set_option maxRecDepth 100000 in
theorem rot_Head.calls (a0_0 : Int) (A0_1 : Option Addr) (c0_1 : Nat) (l0_1 : List Int) (A0_2 : Option Addr) (c0_2 : Nat) (l0_2 : List Int) (A0_3 : Option Addr) (c0_3 : Nat) (l0_3 : List Int) (a1 : Int) (r : Int) (w : World)
    (hr0_1 : Kd.C (Kd.int .i64) w A0_1 l0_1.length l0_1) (hc0_1 : l0_1.length ≤ c0_1) (hr0_2 : Kd.C (Kd.int .i64) w A0_2 l0_2.length l0_2) (hc0_2 : l0_2.length ≤ c0_2) (hr0_3 : Kd.C (Kd.int .i64) w A0_3 l0_3.length l0_3) (hc0_3 : l0_3.length ≤ c0_3) (h : rot_Head.f a0_0 l0_1 l0_2 l0_3 a1 = some r) :
    Calls Try.prog 35 #[.agg #[.int .i64 a0_0, .slice A0_1 l0_1.length c0_1, .slice A0_2 l0_2.length c0_2, .slice A0_3 l0_3.length c0_3], .int .i64 a1] w fun e w' => e = .returned (.int .i64 r) ∧ Below w.heap.size w w' := by
  unfold rot_Head.f at h
  obtain ⟨j, hj⟩ : ∃ j, Go.bits .xor .i64 a1 1 = j := ⟨_, rfl⟩
  rw [hj] at h
  have HO := Aside0.mk (show rot_other.f a1 = some j by unfold rot_other.f; rw [hj])
  clear hj
  have hu := Try.underlying25
  have HB := Aside0.mk (below_alloc (Below.refl w.heap.size w) (.cells #[.int .i64 a0_0, .slice A0_1 l0_1.length c0_1, .slice A0_2 l0_2.length c0_2, .slice A0_3 l0_3.length c0_3] 25))
  by_cases c1 : a1 < 0
  · rw [if_pos c1] at h
    obtain rfl := Option.some.inj h
    have q1 : decide (a1 < 0) = true := decide_eq_true c1
    clear h hr0_1 hr0_2 hr0_3
    go_enter Try.func35, Try.ntmps35
    go_wp2_with fail
    go_quiet (fail)
    go_wp2
    go_ret
    exact ⟨rfl, pw_below_drewN HB.out _⟩
  · rw [if_neg c1] at h
    have q1 : decide (a1 < 0) = false := decide_eq_false c1
    by_cases c2 : j ≥ (l0_1.length : Int)
    · rw [if_pos c2] at h
      obtain rfl := Option.some.inj h
      have q2 : decide ((l0_1.length : Int) ≤ j) = true := decide_eq_true c2
      clear h hr0_1 hr0_2 hr0_3
      go_enter Try.func35, Try.ntmps35
      go_wp2_with fail
      go_quiet ((go_at_call 45; (with_reducible refine (rot_other.calls a1 j _ HO.out).mono ?_); rintro e w' ⟨rfl, ⟨nd, rfl⟩⟩; (first | exact ⟨rfl, _, World.drewN_drewN _ _ _⟩ | exact ⟨rfl, _, Eq.trans (World.drewN_drewN _ _ _) (congrArg (World.drewN _) (Nat.add_assoc _ _ _))⟩)))
      go_wp2
      go_ret
      exact ⟨rfl, pw_below_drewN HB.out _⟩
    · rw [if_neg c2] at h
      have q2 : decide ((l0_1.length : Int) ≤ j) = false := decide_eq_false c2
      by_cases c3 : 0 ≤ j
      · rw [if_pos c3] at h
        obtain rfl := Option.some.inj h
        have q3 : decide ((0 : Int) ≤ j) = true := decide_eq_true c3
        have c4 : j < (l0_1.length : Int) := by omega
        have q4 : decide (j < (l0_1.length : Int)) = true := decide_eq_true c4
        obtain ⟨ad, rfl, hx⟩ := Kd.at_int hr0_1 j c3 c4
        have hx' := (HB.out.cell (World.block_lt_of_cell? w _ hx)).trans hx
        clear h hr0_1 hr0_2 hr0_3 hx
        go_enter Try.func35, Try.ntmps35
        go_wp2_with fail
        go_quiet ((go_at_call 45; (with_reducible refine (rot_other.calls a1 j _ HO.out).mono ?_); rintro e w' ⟨rfl, ⟨nd, rfl⟩⟩; (first | exact ⟨rfl, _, World.drewN_drewN _ _ _⟩ | exact ⟨rfl, _, Eq.trans (World.drewN_drewN _ _ _) (congrArg (World.drewN _) (Nat.add_assoc _ _ _))⟩)))
        go_wp2_with fail
        go_quiet ((go_at_call 45; (with_reducible refine (rot_other.calls a1 j _ HO.out).mono ?_); rintro e w' ⟨rfl, ⟨nd, rfl⟩⟩; (first | exact ⟨rfl, _, World.drewN_drewN _ _ _⟩ | exact ⟨rfl, _, Eq.trans (World.drewN_drewN _ _ _) (congrArg (World.drewN _) (Nat.add_assoc _ _ _))⟩ | exact ⟨rfl, _, (World.drewN_drewN _ _ _).trans ((congrArg (World.drewN _) (Nat.add_assoc _ _ _)).trans (World.drewN_drewN _ _ _).symm)⟩)))
        go_wp2
        go_ret
        exact ⟨rfl, pw_below_drewN (pw_below_drewN HB.out _) _⟩
      · rw [if_neg c3] at h
        cases h
end Go.Proofs.Ytoipfbffdcahoaa.P
