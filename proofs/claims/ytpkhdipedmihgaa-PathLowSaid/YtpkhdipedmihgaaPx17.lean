-- Written by a program of this session: a scratch copy of the kit's printer in which some functions are external. Lean checks it.
import Derived.Test.YtpkhdipedmihgaaPx0
import Derived.Test.YtpkhdipedmihgaaPx1
import Derived.Test.YtpkhdipedmihgaaPx2
import Derived.Test.YtpkhdipedmihgaaPx3
import Derived.Test.YtpkhdipedmihgaaYAny
namespace Go.Proofs.YtpkhdipedmihgaaW.PrintWords
open Go.RowKit
/-- The smaller of two whole numbers, as Go's min tells it. -/
def mn (a b : Int) : Int := if b < a then b else a
namespace Kd
section
variable {α : Type} {d : Kd α} {e : Nat} {w w1 : World} {base : Nat} {ok ok' : Nat → Prop} {v : Value} {xs : List α}
/-- By types alone: the rows inside are none of a block of type t. -/
theorem R_types (h : d.R e w base ok v xs) {g t : Nat} {cells : Array Value} (hb : w.heap[g]? = some (.cells cells t (0, 0))) (ht : ∀ q, q ∈ e :: d.E → q ≠ t) : d.R e w base (fun k => ok k ∧ k ≠ g) v xs :=
  R_mono (R_bound h) (fun k hk => ⟨hk.1, by
    obtain ⟨_, _, _, q, hq, cells', hc⟩ := hk
    rintro rfl
    rw [hc] at hb
    injection hb with hb
    injection hb with _ hb
    exact ht q hq hb⟩)
end
end Kd
end Go.Proofs.YtpkhdipedmihgaaW.PrintWords
namespace Go.Proofs.Ytpkhdipedmihgaa.P
open Go.RowKit Go.Proofs.YtpkhdipedmihgaaW.PrintWords Go.Proofs.YtpkhdipedmihgaaW.PrintLast Go.Proofs.YtpkhdipedmihgaaW.PrintMore
attribute [local go_sem] max2_int min2_int max_two min_two max_three min_three max_four min_four   -- for this text's walks alone
set_option linter.unusedVariables false
set_option linter.unusedSimpArgs false

/-! ### watershedlaw6_PathLow: function 10 -/
mutual
def watershedlaw6_PathLow.l0 : Nat → List Int → Int → List Int → Int → Option (Bool)
  | 0, _, _, _, _ => none
  | k + 1, x1, x5, x7, x8 => if x8 < x5 then (if 0 ≤ x8 then (if x8 < (x7.length : Int) then (watershedlaw6_PathLow.l0 k x1 x5 (x7.set (x8 : Int).toNat 1152921504606846976) (wrap64 (x8 + 1))) else (none)) else (none)) else (watershedlaw6_PathLow.l1 k x1 x5 ([] : List (S30)) x7 0)
def watershedlaw6_PathLow.l1 : Nat → List Int → Int → List (S30) → List Int → Int → Option (Bool)
  | 0, _, _, _, _, _ => none
  | k + 1, x1, x5, x6, x7, x9 => if x9 < x5 then (watershedlaw6_PathLow.l2 k x1 x5 x6 x7 x9 (wrap64 (x9 + 1))) else (watershedlaw6_PathLow.l3 k x5 x6 x7 0)
def watershedlaw6_PathLow.l2 : Nat → List Int → Int → List (S30) → List Int → Int → Int → Option (Bool)
  | 0, _, _, _, _, _, _ => none
  | k + 1, x1, x5, x6, x7, x9, x10 => if x10 < x5 then (if (wrap64 ((wrap64 (x9 * x5)) + x10)) < (x1.length : Int) then (if 0 ≤ (wrap64 ((wrap64 (x9 * x5)) + x10)) then ((watershedlaw6_within.f (rd x1 (wrap64 ((wrap64 (x9 * x5)) + x10))) 3).bind fun t487 => (if t487 > 0 then ((watershedlaw6_within.f (wrap64 (Int.tdiv (rd x1 (wrap64 ((wrap64 (x9 * x5)) + x10))) 3)) 21).bind fun t489 => (if x6.length < 5864062014805 then (watershedlaw6_PathLow.l2 k x1 x5 (x6 ++ [(⟨x9, x10, wrap64 (t489 - 10)⟩ : S30)]) x7 x9 (wrap64 (x10 + 1))) else (none))) else (watershedlaw6_PathLow.l2 k x1 x5 x6 x7 x9 (wrap64 (x10 + 1))))) else (none)) else (watershedlaw6_PathLow.l2 k x1 x5 x6 x7 x9 (wrap64 (x10 + 1)))) else (watershedlaw6_PathLow.l1 k x1 x5 x6 x7 (wrap64 (x9 + 1)))
def watershedlaw6_PathLow.l3 : Nat → Int → List (S30) → List Int → Int → Option (Bool)
  | 0, _, _, _, _ => none
  | k + 1, x5, x6, x7, x12 => if x12 < x5 then (watershedlaw6_PathLow.l4 k x5 x6 x7 x12 0) else ((path_Any.f k x5 x6 0).bind fun bt493 => (if bt493.2.2 = true then (if (bt493.2.1.length : Int) = 0 then ((watershedref6_Ints.f k bt493.1 x7).bind fun t500 => (if t500 = true then ((path_Right.f k x5 x6 0 x7).bind fun t501 => (some t501)) else (some false))) else (some false)) else (some false)))
def watershedlaw6_PathLow.l4 : Nat → Int → List (S30) → List Int → Int → Int → Option (Bool)
  | 0, _, _, _, _, _ => none
  | k + 1, x5, x6, x7, x12, x13 => if x13 < (x6.length : Int) then (if 0 ≤ x13 then (if ((rd_T30 x6 x13).f0) = x12 then (if 0 ≤ x12 then (if x12 < (x7.length : Int) then (if (rd x7 x12) = 1152921504606846976 then (watershedlaw6_PathLow.l4 k x5 x6 x7 x12 (wrap64 (x13 + 1))) else (if 0 ≤ ((rd_T30 x6 x13).f1) then (if ((rd_T30 x6 x13).f1) < (x7.length : Int) then (watershedlaw6_PathLow.l4 k x5 x6 (x7.set (((rd_T30 x6 x13).f1) : Int).toNat (mn (rd x7 ((rd_T30 x6 x13).f1)) (wrap64 ((rd x7 x12) + ((rd_T30 x6 x13).f2))))) x12 (wrap64 (x13 + 1))) else (none)) else (none))) else (none)) else (none)) else (watershedlaw6_PathLow.l4 k x5 x6 x7 x12 (wrap64 (x13 + 1)))) else (none)) else (watershedlaw6_PathLow.l3 k x5 x6 x7 (wrap64 (x12 + 1)))
end
def watershedlaw6_PathLow.f (k : Nat) (a0 : Int) (l1 : List Int) : Option (Bool) := (watershedlaw6_known.f k).bind fun t480 => (if t480 = true then ((watershedlaw6_within.f a0 12).bind fun t481 => (if 0 ≤ (wrap64 (1 + t481)) then (if (wrap64 (1 + t481) : Int).toNat ≤ 35184372088832 then (watershedlaw6_PathLow.l0 k l1 (wrap64 (1 + t481)) (List.replicate (wrap64 (1 + t481) : Int).toNat 0) 1) else (none)) else (none))) else (some false))
theorem watershedlaw6_PathLow.mono_l : ∀ k, (∀ y0 y1 y2 y3, LeO (watershedlaw6_PathLow.l0 k y0 y1 y2 y3) (watershedlaw6_PathLow.l0 (k + 1) y0 y1 y2 y3)) ∧ (∀ y0 y1 y2 y3 y4, LeO (watershedlaw6_PathLow.l1 k y0 y1 y2 y3 y4) (watershedlaw6_PathLow.l1 (k + 1) y0 y1 y2 y3 y4)) ∧ (∀ y0 y1 y2 y3 y4 y5, LeO (watershedlaw6_PathLow.l2 k y0 y1 y2 y3 y4 y5) (watershedlaw6_PathLow.l2 (k + 1) y0 y1 y2 y3 y4 y5)) ∧ (∀ y0 y1 y2 y3, LeO (watershedlaw6_PathLow.l3 k y0 y1 y2 y3) (watershedlaw6_PathLow.l3 (k + 1) y0 y1 y2 y3)) ∧ (∀ y0 y1 y2 y3 y4, LeO (watershedlaw6_PathLow.l4 k y0 y1 y2 y3 y4) (watershedlaw6_PathLow.l4 (k + 1) y0 y1 y2 y3 y4))
  | 0 => ⟨fun _ _ _ _ r h => by simp [watershedlaw6_PathLow.l0] at h, fun _ _ _ _ _ r h => by simp [watershedlaw6_PathLow.l1] at h, fun _ _ _ _ _ _ r h => by simp [watershedlaw6_PathLow.l2] at h, fun _ _ _ _ r h => by simp [watershedlaw6_PathLow.l3] at h, fun _ _ _ _ _ r h => by simp [watershedlaw6_PathLow.l4] at h⟩
  | k + 1 => by
    obtain ⟨ih0, ih1, ih2, ih3, ih4⟩ := watershedlaw6_PathLow.mono_l k
    refine ⟨?_, ?_, ?_, ?_, ?_⟩
    · intro y0 y1 y2 y3
      unfold watershedlaw6_PathLow.l0
      repeat' first
      | (with_reducible exact ih0 _ _ _ _)
      | (with_reducible exact ih1 _ _ _ _ _)
      | (with_reducible exact ih2 _ _ _ _ _ _)
      | (with_reducible exact ih3 _ _ _ _)
      | (with_reducible exact ih4 _ _ _ _ _)
      | (with_reducible exact path_Any.mono _ _ _ _)
      | (with_reducible exact path_Right.mono _ _ _ _ _)
      | (with_reducible exact watershedlaw6_known.mono _)
      | (with_reducible exact watershedref6_Ints.mono _ _ _)
      | (with_reducible exact LeO.refl _)
      | (with_reducible exact LeO.none _)
      | (with_reducible refine LeO.ite ?_ ?_)
      | (with_reducible refine LeO.bind ?_ (fun _ => ?_))
      | exact ih0 _ _ _ _
      | exact ih1 _ _ _ _ _
      | exact ih2 _ _ _ _ _ _
      | exact ih3 _ _ _ _
      | exact ih4 _ _ _ _ _
      | exact path_Any.mono _ _ _ _
      | exact path_Right.mono _ _ _ _ _
      | exact watershedlaw6_known.mono _
      | exact watershedref6_Ints.mono _ _ _
      | exact LeO.none _
      | refine LeO.ite ?_ ?_
      | refine LeO.bind ?_ (fun _ => ?_)
    · intro y0 y1 y2 y3 y4
      unfold watershedlaw6_PathLow.l1
      repeat' first
      | (with_reducible exact ih0 _ _ _ _)
      | (with_reducible exact ih1 _ _ _ _ _)
      | (with_reducible exact ih2 _ _ _ _ _ _)
      | (with_reducible exact ih3 _ _ _ _)
      | (with_reducible exact ih4 _ _ _ _ _)
      | (with_reducible exact path_Any.mono _ _ _ _)
      | (with_reducible exact path_Right.mono _ _ _ _ _)
      | (with_reducible exact watershedlaw6_known.mono _)
      | (with_reducible exact watershedref6_Ints.mono _ _ _)
      | (with_reducible exact LeO.refl _)
      | (with_reducible exact LeO.none _)
      | (with_reducible refine LeO.ite ?_ ?_)
      | (with_reducible refine LeO.bind ?_ (fun _ => ?_))
      | exact ih0 _ _ _ _
      | exact ih1 _ _ _ _ _
      | exact ih2 _ _ _ _ _ _
      | exact ih3 _ _ _ _
      | exact ih4 _ _ _ _ _
      | exact path_Any.mono _ _ _ _
      | exact path_Right.mono _ _ _ _ _
      | exact watershedlaw6_known.mono _
      | exact watershedref6_Ints.mono _ _ _
      | exact LeO.none _
      | refine LeO.ite ?_ ?_
      | refine LeO.bind ?_ (fun _ => ?_)
    · intro y0 y1 y2 y3 y4 y5
      unfold watershedlaw6_PathLow.l2
      repeat' first
      | (with_reducible exact ih0 _ _ _ _)
      | (with_reducible exact ih1 _ _ _ _ _)
      | (with_reducible exact ih2 _ _ _ _ _ _)
      | (with_reducible exact ih3 _ _ _ _)
      | (with_reducible exact ih4 _ _ _ _ _)
      | (with_reducible exact path_Any.mono _ _ _ _)
      | (with_reducible exact path_Right.mono _ _ _ _ _)
      | (with_reducible exact watershedlaw6_known.mono _)
      | (with_reducible exact watershedref6_Ints.mono _ _ _)
      | (with_reducible exact LeO.refl _)
      | (with_reducible exact LeO.none _)
      | (with_reducible refine LeO.ite ?_ ?_)
      | (with_reducible refine LeO.bind ?_ (fun _ => ?_))
      | exact ih0 _ _ _ _
      | exact ih1 _ _ _ _ _
      | exact ih2 _ _ _ _ _ _
      | exact ih3 _ _ _ _
      | exact ih4 _ _ _ _ _
      | exact path_Any.mono _ _ _ _
      | exact path_Right.mono _ _ _ _ _
      | exact watershedlaw6_known.mono _
      | exact watershedref6_Ints.mono _ _ _
      | exact LeO.none _
      | refine LeO.ite ?_ ?_
      | refine LeO.bind ?_ (fun _ => ?_)
    · intro y0 y1 y2 y3
      unfold watershedlaw6_PathLow.l3
      repeat' first
      | (with_reducible exact ih0 _ _ _ _)
      | (with_reducible exact ih1 _ _ _ _ _)
      | (with_reducible exact ih2 _ _ _ _ _ _)
      | (with_reducible exact ih3 _ _ _ _)
      | (with_reducible exact ih4 _ _ _ _ _)
      | (with_reducible exact path_Any.mono _ _ _ _)
      | (with_reducible exact path_Right.mono _ _ _ _ _)
      | (with_reducible exact watershedlaw6_known.mono _)
      | (with_reducible exact watershedref6_Ints.mono _ _ _)
      | (with_reducible exact LeO.refl _)
      | (with_reducible exact LeO.none _)
      | (with_reducible refine LeO.ite ?_ ?_)
      | (with_reducible refine LeO.bind ?_ (fun _ => ?_))
      | exact ih0 _ _ _ _
      | exact ih1 _ _ _ _ _
      | exact ih2 _ _ _ _ _ _
      | exact ih3 _ _ _ _
      | exact ih4 _ _ _ _ _
      | exact path_Any.mono _ _ _ _
      | exact path_Right.mono _ _ _ _ _
      | exact watershedlaw6_known.mono _
      | exact watershedref6_Ints.mono _ _ _
      | exact LeO.none _
      | refine LeO.ite ?_ ?_
      | refine LeO.bind ?_ (fun _ => ?_)
    · intro y0 y1 y2 y3 y4
      unfold watershedlaw6_PathLow.l4
      repeat' first
      | (with_reducible exact ih0 _ _ _ _)
      | (with_reducible exact ih1 _ _ _ _ _)
      | (with_reducible exact ih2 _ _ _ _ _ _)
      | (with_reducible exact ih3 _ _ _ _)
      | (with_reducible exact ih4 _ _ _ _ _)
      | (with_reducible exact path_Any.mono _ _ _ _)
      | (with_reducible exact path_Right.mono _ _ _ _ _)
      | (with_reducible exact watershedlaw6_known.mono _)
      | (with_reducible exact watershedref6_Ints.mono _ _ _)
      | (with_reducible exact LeO.refl _)
      | (with_reducible exact LeO.none _)
      | (with_reducible refine LeO.ite ?_ ?_)
      | (with_reducible refine LeO.bind ?_ (fun _ => ?_))
      | exact ih0 _ _ _ _
      | exact ih1 _ _ _ _ _
      | exact ih2 _ _ _ _ _ _
      | exact ih3 _ _ _ _
      | exact ih4 _ _ _ _ _
      | exact path_Any.mono _ _ _ _
      | exact path_Right.mono _ _ _ _ _
      | exact watershedlaw6_known.mono _
      | exact watershedref6_Ints.mono _ _ _
      | exact LeO.none _
      | refine LeO.ite ?_ ?_
      | refine LeO.bind ?_ (fun _ => ?_)
theorem watershedlaw6_PathLow.mono : ∀ a0 a1 k, LeO (watershedlaw6_PathLow.f k a0 a1) (watershedlaw6_PathLow.f (k + 1) a0 a1) := by
  intro a0 a1 k
  obtain ⟨ih0, ih1, ih2, ih3, ih4⟩ := watershedlaw6_PathLow.mono_l k
  unfold watershedlaw6_PathLow.f
  repeat' first
      | (with_reducible exact ih0 _ _ _ _)
      | (with_reducible exact ih1 _ _ _ _ _)
      | (with_reducible exact ih2 _ _ _ _ _ _)
      | (with_reducible exact ih3 _ _ _ _)
      | (with_reducible exact ih4 _ _ _ _ _)
      | (with_reducible exact path_Any.mono _ _ _ _)
      | (with_reducible exact path_Right.mono _ _ _ _ _)
      | (with_reducible exact watershedlaw6_known.mono _)
      | (with_reducible exact watershedref6_Ints.mono _ _ _)
      | (with_reducible exact LeO.refl _)
      | (with_reducible exact LeO.none _)
      | (with_reducible refine LeO.ite ?_ ?_)
      | (with_reducible refine LeO.bind ?_ (fun _ => ?_))
      | exact ih0 _ _ _ _
      | exact ih1 _ _ _ _ _
      | exact ih2 _ _ _ _ _ _
      | exact ih3 _ _ _ _
      | exact ih4 _ _ _ _ _
      | exact path_Any.mono _ _ _ _
      | exact path_Right.mono _ _ _ _ _
      | exact watershedlaw6_known.mono _
      | exact watershedref6_Ints.mono _ _ _
      | exact LeO.none _
      | refine LeO.ite ?_ ?_
      | refine LeO.bind ?_ (fun _ => ?_)
def watershedlaw6_PathLow.T26 : Bool × List (List Nat × List Nat) := (true, [([], []), ([], []), ([], []), ([1, 2], [1, 2]), ([3], [3]), ([4], [4]), ([], []), ([], []), ([], []), ([7, 8], [7, 8]), ([9], [9]), ([10], [10]), ([6, 11], [6, 11]), ([12], [12]), ([], []), ([], []), ([14, 15], [14, 15]), ([16], [16]), ([], []), ([], []), ([18, 19], [18, 19]), ([20], [20]), ([21], [21]), ([17, 22], [17, 22]), ([13, 23], [13, 23]), ([0, 5, 0, 1, 2, 3, 4, 5, 6, 7, 8, 9, 10, 11, 12, 13, 14, 15, 16, 17, 18, 19, 20, 21, 22, 23, 24], [0, 5]), ([25, 24, 0, 1, 2, 3, 4, 5, 6, 7, 8, 9, 10, 11, 12, 13, 14, 15, 16, 17, 18, 19, 20, 21, 22, 23, 24], [24, 25])])
def watershedlaw6_PathLow.B26 : List Nat := [0, 0, 0, 6, 14, 30, 0, 0, 0, 384, 896, 1920, 4032, 8128, 0, 0, 49152, 114688, 0, 0, 786432, 1835008, 3932160, 8372224, 16777152, 33554431, 67108863]
theorem watershedlaw6_PathLow.tab26 : rtab .any (opsOf Try.f10 26) = watershedlaw6_PathLow.T26 := by kernel_rfl
theorem watershedlaw6_PathLow.bits26 : waitsOk watershedlaw6_PathLow.T26.2 watershedlaw6_PathLow.B26 = true := by kernel_rfl
set_option maxHeartbeats 8000000 in
set_option maxRecDepth 100000 in
theorem watershedlaw6_PathLow.calls (k : Nat) (a0 : Int) (A1 : Option Addr) (c1 : Nat) (l1 : List Int) (r : Bool) (w : World) (hr1 : Kd.C (Kd.int .i64) w A1 l1.length l1) (hc1 : l1.length ≤ c1) (h : watershedlaw6_PathLow.f k a0 l1 = some r) (hr_ : r = true := by rfl) :
    Calls Try.prog 10 #[.int .i64 a0, .slice A1 l1.length c1] w fun e w' => e = .returned (.bool r) ∧ Below w.heap.size w w' := by
  have HR_ := Aside0.mk hr_
  clear hr_
  have hu30 := Try.underlying30
  have HR1 := Aside0.mk hr1
  have HC1 := Aside0.mk hc1
  clear hr1 hc1
  have HB := Aside0.mk (Below.refl w.heap.size w)
  have H : ((watershedlaw6_known.f k).bind fun t480 => (if t480 = true then ((watershedlaw6_within.f a0 12).bind fun t481 => (if 0 ≤ (wrap64 (1 + t481)) then (if (wrap64 (1 + t481) : Int).toNat ≤ 35184372088832 then (watershedlaw6_PathLow.l0 k l1 (wrap64 (1 + t481)) (List.replicate (wrap64 (1 + t481) : Int).toNat 0) 1) else (none)) else (none))) else (some false))) = some r := h
  clear h
  replace H := Option.bind_eq_some_iff.mp H
  obtain ⟨t480, A30, H⟩ := H
  replace H : (if t480 = true then ((watershedlaw6_within.f a0 12).bind fun t481 => (if 0 ≤ (wrap64 (1 + t481)) then (if (wrap64 (1 + t481) : Int).toNat ≤ 35184372088832 then (watershedlaw6_PathLow.l0 k l1 (wrap64 (1 + t481)) (List.replicate (wrap64 (1 + t481) : Int).toNat 0) 1) else (none)) else (none))) else (some false)) = some r := H
  have A3 := Aside0.mk A30
  clear A30
  by_cases c4 : t480 = true
  · subst c4
    have H1 : ((watershedlaw6_within.f a0 12).bind fun t481 => (if 0 ≤ (wrap64 (1 + t481)) then (if (wrap64 (1 + t481) : Int).toNat ≤ 35184372088832 then (watershedlaw6_PathLow.l0 k l1 (wrap64 (1 + t481)) (List.replicate (wrap64 (1 + t481) : Int).toNat 0) 1) else (none)) else (none))) = some r := by rw [if_pos rfl] at H; exact H
    clear H
    have H := H1
    clear H1
    replace H := Option.bind_eq_some_iff.mp H
    obtain ⟨t481, A50, H⟩ := H
    replace H : (if 0 ≤ (wrap64 (1 + t481)) then (if (wrap64 (1 + t481) : Int).toNat ≤ 35184372088832 then (watershedlaw6_PathLow.l0 k l1 (wrap64 (1 + t481)) (List.replicate (wrap64 (1 + t481) : Int).toNat 0) 1) else (none)) else (none)) = some r := H
    have A5 := Aside0.mk A50
    clear A50
    obtain ⟨ji6, hji6⟩ : ∃ j_ : Int, (wrap64 (1 + t481)) = j_ := ⟨_, rfl⟩
    replace H : (if 0 ≤ (ji6) then (if (ji6 : Int).toNat ≤ 35184372088832 then (watershedlaw6_PathLow.l0 k l1 ji6 (List.replicate (ji6 : Int).toNat 0) 1) else (none)) else (none)) = some r := by first | (rw [hji6] at H; exact H) | (simp only [hji6] at H ⊢; exact H)
    (try rw [hji6] at A3)
    (try rw [hji6] at A5)
    have hji6w : (IntKind.i64.wrap (1 + t481)) = ji6 := (i64_w _).trans hji6
    by_cases c7 : 0 ≤ (ji6)
    · rw [if_pos c7] at H
      have c7b0 := eq_true c7
      have c7b1 : decide (0 ≤ (ji6)) = true := decide_eq_true c7
      clear c7
      by_cases c8 : (ji6 : Int).toNat ≤ 35184372088832
      · rw [if_pos c8] at H
        have c8b0 := eq_true c8
        have c8b1 : decide ((ji6 : Int).toNat ≤ 35184372088832) = true := decide_eq_true c8
        clear c8
        obtain ⟨y482, hy482⟩ : ∃ y_ : List Int, y_ = (List.replicate (ji6 : Int).toNat 0) := ⟨_, rfl⟩
        replace H : (watershedlaw6_PathLow.l0 k l1 ji6 y482 1) = some r := by first | (rw [hy482]; with_reducible exact H) | (have H2_ := (Option.bind_some _ _).symm.trans H; rw [hy482]; with_reducible exact H2_) | (have H2_ := (Option.bind_some _ _).symm.trans H; with_reducible exact H2_) | with_reducible exact H | (rw [hy482]; exact H) | exact H
        have Ny482 := Aside0.mk hy482
        clear hy482
        have H' := Aside0.mk H
        clear H
        go_enter Try.func10, Try.ntmps10
        go_wp2_with (first | ((with_reducible refine gate_callee (f := 13) rfl ?_); refine goesL_ (some 17) rfl rfl Try.func13 (by kernel_rfl) rfl #[] rfl (by (try simp only [List.map_toArray, List.map_cons, List.map_nil]); first | done | rfl | (simp only [List.length_drop, List.length_take]; rfl)) ?_; (with_reducible refine (watershedlaw6_known.calls k  true _ A3.out).mono ?_); rintro e w9 ⟨rfl, hb⟩; refine ⟨_, rfl, ?_⟩; have n0_ := Aside0.mk (below_step (by repeat (first | (with_reducible first | exact HB.out | apply below_alloc | apply pw_below_drewN | apply below_drew1) | exact HB.out)) hb); clear HB; have HB := n0_; clear n0_; (try clear hb); (try clear hb2); (try clear hk); (try clear hi)) | ((with_reducible refine gate_callee (f := 14) rfl ?_); refine goesL_ (some 20) rfl rfl Try.func14 (by kernel_rfl) rfl #[.int .i64 a0, .int .i64 12] rfl (by (try simp only [List.map_toArray, List.map_cons, List.map_nil]); first | done | rfl | (simp only [List.length_drop, List.length_take]; rfl)) ?_; (with_reducible refine (watershedlaw6_within.calls a0 12 t481 _ A5.out).mono ?_); rintro e w' ⟨rfl, ⟨nd, rfl⟩⟩; refine ⟨_, rfl, ?_⟩) | ((with_reducible refine gate_dst (N := 23) rfl ?_); (try (refine gate_guard (by rfl) ?_; dsimp only)); refine Kd.R_make (Kd.int .i64) _ 3 rfl (N := 23) rfl 22 _ _ rfl ji6 rfl rfl Try.underlying22 (.int .i64 0) 8 info3 rfl (by decide) (by omega) 0 (ok := fun _ => True) (okp := fun _ => True) rfl (fun _ hk => hk) trivial (of_decide_eq_true (by first | (with_reducible assumption) | assumption)) (Nat.le_trans (Nat.mul_le_mul_right _ (of_decide_eq_true (by first | (with_reducible assumption) | assumption) : ji6.toNat ≤ 35184372088832)) (by omega)) (Below.refl _ _) (Nat.le_refl _) ?_; intro v483 w10 ho11 hb hg_ hnew_; clear hg_ hnew_; (first | rw [← Ny482.out] at ho11 | (simp only [Int.reduceToNat] at ho11; rw [← Ny482.out] at ho11)); have n0_ := Aside0.mk (Kd.R_lower ho11 (below_size (by repeat (first | (with_reducible first | exact HB.out | apply below_alloc | apply pw_below_drewN | apply below_drew1) | exact HB.out)))); have n1_ := Aside0.mk (below_step (by repeat (first | (with_reducible first | exact HB.out | apply below_alloc | apply pw_below_drewN | apply below_drew1) | exact HB.out)) hb); clear HB; have HO484 := n0_; have HB := n1_; clear n0_ n1_; clear hb ho11))
        go_loopg [8] k (fun kq v8 w' => ∃ (x7_1 : List Int) (x8_1 : Int), v8 = .int .i64 x8_1 ∧ Aside0 (watershedlaw6_PathLow.l0 kq l1 ji6 x7_1 x8_1 = some r) ∧ Aside0 (kq ≤ k) ∧ Aside0 (Kd.R (Kd.int .i64) 3 w' w.heap.size (fun _ => True) v483 x7_1) ∧ Aside0 (Below w.heap.size w w'))
        case atStart => exact ⟨(y482), (1), (by first | rfl | (simp; done) | (simp [*]; done)), H', ⟨Nat.le_refl _⟩, ⟨by (with_reducible repeat (first | apply Kd.R_alloc | apply Kd.R_drewN | apply Kd.R_drew)); exact HO484.out⟩, ⟨by repeat (first | (with_reducible first | exact HB.out | apply below_alloc | apply pw_below_drewN | apply below_drew1) | exact HB.out)⟩⟩
        case round =>
          clear H'
          try clear c1
          try clear p2
          try clear c4
          try clear p6
          try clear c7
          try clear c7b0
          try clear c7b1
          try clear c8
          try clear c8b0
          try clear c8b1
          try clear c10
          obtain ⟨x7_1, x8_1, rfl, HA, HK1, HO_7, HB⟩ := hrel
          cases gk with
          | zero => exact absurd HA.out (by simp [watershedlaw6_PathLow.l0])
          | succ k1 =>
            have H := HA.out
            clear HA
            simp only [watershedlaw6_PathLow.l0] at H
            by_cases c12 : x8_1 < ji6
            · rw [if_pos c12] at H
              have c12b0 : decide (x8_1 < ji6) = true := decide_eq_true c12
              clear c12
              by_cases c13 : 0 ≤ x8_1
              · rw [if_pos c13] at H
                have c13b0 : decide (0 ≤ x8_1) = true := decide_eq_true c13
                clear c13
                by_cases c14 : x8_1 < (x7_1.length : Int)
                · rw [if_pos c14] at H
                  have c14b0 : decide (x8_1 < (x7_1.length : Int)) = true := decide_eq_true c14
                  clear c14
                  obtain ⟨y485, hy485⟩ : ∃ y_ : List Int, y_ = (x7_1.set (x8_1 : Int).toNat 1152921504606846976) := ⟨_, rfl⟩
                  replace H : (watershedlaw6_PathLow.l0 k1 l1 ji6 y485 (wrap64 (x8_1 + 1))) = some r := by first | (rw [hy485]; with_reducible exact H) | (have H2_ := (Option.bind_some _ _).symm.trans H; rw [hy485]; with_reducible exact H2_) | (have H2_ := (Option.bind_some _ _).symm.trans H; with_reducible exact H2_) | with_reducible exact H | (rw [hy485]; exact H) | exact H
                  have Ny485 := Aside0.mk hy485
                  clear hy485
                  have H' := Aside0.mk H
                  clear H
                  have p15 : 0 ≤ (x8_1 : Int) := of_decide_eq_true (by first | (with_reducible assumption) | assumption)
                  have q15 : (x8_1 : Int) < ((x7_1.length : Int) : Int) := of_decide_eq_true (by first | (with_reducible assumption) | assumption)
                  obtain ⟨go15, co15, eo15, gb15, gl15, cl15, HG15⟩ := Kd.R_form HO_7.out (by omega)
                  (first | cases eo15 | (injection eo15 with ea_ en_ ec_; (first | subst ea_ | (injection ea_ with ea_; subst ea_)); subst ec_; clear en_))
                  have GB15 := Aside0.mk gb15
                  have GG15 := Aside0.mk HG15
                  clear gb15 gl15 HG15
                  obtain ⟨hx15_0, hf15_0⟩ := Kd.R_celln 0 HO_7.out (x8_1 : Int) p15 q15
                  replace p15 := eq_true p15
                  replace q15 := eq_true q15
                  have HP16 := Kd.R_putg HO_7.out (x8_1 : Int) 1152921504606846976
                  go_wp2_with (first | ((with_reducible refine gate_store (t := 3) (p := 31) rfl ?_); refine store_event (t := 3) (p := 31) (v := ?vo_w17) (w1 := (wr.setCell ⟨go15, (x8_1 : Int).toNat, none⟩ (.int .i64 1152921504606846976))) ?hg ?ho ?hn ?hr ?_; (case ho => rfl); (case hg => rfl); (case hn => rfl); (case hr => first | (go_simp; done) | (go_simp; rfl)); intro w17 hw; have hg : wr.grownBy w17 (some go15) := (by rw [hw]; exact HP16.2); have hp_ : Kd.R (Kd.int .i64) 3 w17 w.heap.size (fun _ => True) (.slice (some ⟨go15, 0, none⟩) x7_1.length co15) y485 := (by rw [hw, Ny485.out]; exact HP16.1); clear HP16; have n0_ := Aside0.mk (hp_); have n1_ := Aside0.mk ((by rw [hw]; exact below_set (HB.out) GB15.out : Below w.heap.size w w17)); clear HO_7; clear HB; have HO_7 := n0_; have HB := n1_; clear n0_ n1_; clear hg hw hp_))
                  go_roundg k1
                  case measure => have := HK1.out; omega
                  case rel => exact ⟨(y485), (wrap64 (x8_1 + 1)), (by first | rfl | (simp; done) | (simp [*]; done)), H', ⟨by have := HK1.out; omega⟩, ⟨by (with_reducible repeat (first | apply Kd.R_alloc | apply Kd.R_drewN | apply Kd.R_drew)); exact HO_7.out⟩, ⟨by repeat (first | (with_reducible first | exact HB.out | apply below_alloc | apply pw_below_drewN | apply below_drew1) | exact HB.out)⟩⟩
                · rw [if_neg c14] at H
                  exact absurd H (by simp)
              · rw [if_neg c13] at H
                exact absurd H (by simp)
            · rw [if_neg c12] at H
              have c12b0 : decide (x8_1 < ji6) = false := decide_eq_false c12
              clear c12
              have H' := Aside0.mk H
              clear H
              go_wp2
              go_loopg [6, 9] k1 (fun kq v6 v9 w' => ∃ (x6_2 : List (S30)) (x9_2 : Int), v9 = .int .i64 x9_2 ∧ Aside0 (watershedlaw6_PathLow.l1 kq l1 ji6 x6_2 x7_1 x9_2 = some r) ∧ Aside0 (kq ≤ k1) ∧ Aside0 (Kd.R k30 30 w' w.heap.size (fun _ => True) v6 x6_2) ∧ Aside0 (Kd.R (Kd.int .i64) 3 w' w.heap.size (fun _ => True) v483 x7_1) ∧ Aside0 (Below w.heap.size w w'))
              case atStart => exact ⟨(([] : List (S30))), (0), (by first | rfl | (simp; done) | (simp [*]; done)), H', ⟨Nat.le_refl _⟩, ⟨by first | exact Kd.R_nil _ _ _ _ _ | exact Kd.N_nil _ _ _ _ _ | exact Kd.V_nil _ _ _ _ _ | exact Kd.Q_nil _ _ _ _ _ | exact Kd.S_nil _ _ _ _ _⟩, ⟨by (with_reducible repeat (first | apply Kd.R_alloc | apply Kd.R_drewN | apply Kd.R_drew)); exact HO_7.out⟩, ⟨by repeat (first | (with_reducible first | exact HB.out | apply below_alloc | apply pw_below_drewN | apply below_drew1) | exact HB.out)⟩⟩
              case round =>
                clear H'
                try clear c1
                try clear p1
                try clear q1
                try clear hx1
                try clear p2
                try clear c4
                try clear p6
                try clear c7
                try clear c7b0
                try clear c7b1
                try clear c8
                try clear c8b0
                try clear c8b1
                try clear c10
                try clear c12
                try clear c12b0
                try clear c13
                try clear c13b0
                try clear c14
                try clear c14b0
                try clear p15
                try clear q15
                try clear hx15
                try clear hf15
                try clear hx15_0
                try clear p15
                try clear p2
                try clear p6
                try clear q15
                obtain ⟨x6_2, x9_2, rfl, HA, HK2, HO_6, HO_7, HB⟩ := hrel
                cases gk with
                | zero => exact absurd HA.out (by simp [watershedlaw6_PathLow.l1])
                | succ k2 =>
                  have H := HA.out
                  clear HA
                  simp only [watershedlaw6_PathLow.l1] at H
                  by_cases c18 : x9_2 < ji6
                  · rw [if_pos c18] at H
                    have c18b0 : decide (x9_2 < ji6) = true := decide_eq_true c18
                    clear c18
                    have H' := Aside0.mk H
                    clear H
                    go_wp2
                    go_loopg [6, 10] k2 (fun kq v6 v10 w' => ∃ (x6_3 : List (S30)) (x10_3 : Int), v10 = .int .i64 x10_3 ∧ Aside0 (watershedlaw6_PathLow.l2 kq l1 ji6 x6_3 x7_1 x9_2 x10_3 = some r) ∧ Aside0 (kq ≤ k2) ∧ Aside0 (Kd.R k30 30 w' w.heap.size (fun _ => True) v6 x6_3) ∧ Aside0 (Kd.R (Kd.int .i64) 3 w' w.heap.size (fun _ => True) v483 x7_1) ∧ Aside0 (Below w.heap.size w w'))
                    case atStart => exact ⟨(x6_2), (wrap64 (x9_2 + 1)), (by first | rfl | (simp; done) | (simp [*]; done)), H', ⟨Nat.le_refl _⟩, ⟨by (with_reducible repeat (first | apply Kd.R_alloc | apply Kd.R_drewN | apply Kd.R_drew)); exact HO_6.out⟩, ⟨by (with_reducible repeat (first | apply Kd.R_alloc | apply Kd.R_drewN | apply Kd.R_drew)); exact HO_7.out⟩, ⟨by repeat (first | (with_reducible first | exact HB.out | apply below_alloc | apply pw_below_drewN | apply below_drew1) | exact HB.out)⟩⟩
                    case round =>
                      clear H'
                      try clear c1
                      try clear p1
                      try clear q1
                      try clear hx1
                      try clear p2
                      try clear c4
                      try clear p6
                      try clear c7
                      try clear c7b0
                      try clear c7b1
                      try clear c8
                      try clear c8b0
                      try clear c8b1
                      try clear c10
                      try clear c12
                      try clear c12b0
                      try clear c13
                      try clear c13b0
                      try clear c14
                      try clear c14b0
                      try clear p15
                      try clear q15
                      try clear hx15
                      try clear hf15
                      try clear c18
                      try clear c18b0
                      try clear hx15_0
                      try clear p1
                      try clear p15
                      try clear p2
                      try clear p6
                      try clear q1
                      try clear q15
                      obtain ⟨x6_3, x10_3, rfl, HA, HK3, HO_6, HO_7, HB⟩ := hrel
                      cases gk with
                      | zero => exact absurd HA.out (by simp [watershedlaw6_PathLow.l2])
                      | succ k3 =>
                        have H := HA.out
                        clear HA
                        simp only [watershedlaw6_PathLow.l2] at H
                        by_cases c19 : x10_3 < ji6
                        · rw [if_pos c19] at H
                          have c19b0 : decide (x10_3 < ji6) = true := decide_eq_true c19
                          clear c19
                          by_cases c20 : (wrap64 ((wrap64 (x9_2 * ji6)) + x10_3)) < (l1.length : Int)
                          · rw [if_pos c20] at H
                            have c20b0 : decide ((wrap64 ((wrap64 (x9_2 * ji6)) + x10_3)) < (l1.length : Int)) = true := decide_eq_true c20
                            clear c20
                            obtain ⟨ji21, hji21⟩ : ∃ j_ : Int, (wrap64 ((wrap64 (x9_2 * ji6)) + x10_3)) = j_ := ⟨_, rfl⟩
                            replace H : (if 0 ≤ (ji21) then ((watershedlaw6_within.f (rd l1 (ji21)) 3).bind fun t487 => (if t487 > 0 then ((watershedlaw6_within.f (wrap64 (Int.tdiv (rd l1 (ji21)) 3)) 21).bind fun t489 => (if x6_3.length < 5864062014805 then (watershedlaw6_PathLow.l2 k3 l1 ji6 (x6_3 ++ [(⟨x9_2, x10_3, wrap64 (t489 - 10)⟩ : S30)]) x7_1 x9_2 (wrap64 (x10_3 + 1))) else (none))) else (watershedlaw6_PathLow.l2 k3 l1 ji6 x6_3 x7_1 x9_2 (wrap64 (x10_3 + 1))))) else (none)) = some r := by first | (rw [hji21] at H; exact H) | (simp only [hji21] at H ⊢; exact H)
                            (try rw [hji21] at c20b0)
                            have hji21w : (IntKind.i64.wrap ((wrap64 (x9_2 * ji6)) + x10_3)) = ji21 := (i64_w _).trans hji21
                            by_cases c22 : 0 ≤ (ji21)
                            · rw [if_pos c22] at H
                              have c22b0 : decide (0 ≤ (ji21)) = true := decide_eq_true c22
                              clear c22
                              replace H := Option.bind_eq_some_iff.mp H
                              obtain ⟨t487, A230, H⟩ := H
                              replace H : (if t487 > 0 then ((watershedlaw6_within.f (wrap64 (Int.tdiv (rd l1 (ji21)) 3)) 21).bind fun t489 => (if x6_3.length < 5864062014805 then (watershedlaw6_PathLow.l2 k3 l1 ji6 (x6_3 ++ [(⟨x9_2, x10_3, wrap64 (t489 - 10)⟩ : S30)]) x7_1 x9_2 (wrap64 (x10_3 + 1))) else (none))) else (watershedlaw6_PathLow.l2 k3 l1 ji6 x6_3 x7_1 x9_2 (wrap64 (x10_3 + 1)))) = some r := H
                              have A23 := Aside0.mk A230
                              clear A230
                              have HC24 := Aside0.mk H
                              clear H
                              have p486 : 0 ≤ ((ji21) : Int) := of_decide_eq_true (by first | (with_reducible assumption) | assumption)
                              have q486 : (ji21) < (l1.length : Int) := of_decide_eq_true (by first | (with_reducible assumption) | assumption)
                              obtain ⟨ad486, e486, hx486_0⟩ := Kd.at_int HR1.out (ji21) p486 q486
                              cases e486
                              replace hx486_0 := (HB.out.cell (World.block_lt_of_cell? w _ hx486_0)).trans hx486_0
                              replace p486 := eq_true p486
                              replace q486 := eq_true q486
                              go_upto_if 60 with (first | (go_at_call 14; (with_reducible refine (watershedlaw6_within.calls (rd l1 (ji21)) 3 t487 _ A23.out).mono ?_); rintro e w' ⟨rfl, ⟨nd, rfl⟩⟩))
                              (try simp only [Act.put, List.setIfInBounds_toArray, List.set_cons_zero, List.set_cons_succ])
                              have H := HC24.out
                              clear HC24
                              by_cases c25 : t487 > 0
                              · rw [if_pos c25] at H
                                have c25b0 : decide (0 < t487) = true := decide_eq_true c25
                                clear c25
                                (first | rw [c25b0] | (simp only [i64_w, i32_w]; rw [c25b0]) | skip)
                                replace H := Option.bind_eq_some_iff.mp H
                                obtain ⟨t489, A260, H⟩ := H
                                replace H : (if x6_3.length < 5864062014805 then (watershedlaw6_PathLow.l2 k3 l1 ji6 (x6_3 ++ [(⟨x9_2, x10_3, wrap64 (t489 - 10)⟩ : S30)]) x7_1 x9_2 (wrap64 (x10_3 + 1))) else (none)) = some r := H
                                have A26 := Aside0.mk A260
                                clear A260
                                by_cases c27 : x6_3.length < 5864062014805
                                · rw [if_pos c27] at H
                                  have LMc27 := Aside0.mk c27
                                  clear c27
                                  obtain ⟨y490, hy490⟩ : ∃ y_ : List (S30), y_ = (x6_3 ++ [(⟨x9_2, x10_3, wrap64 (t489 - 10)⟩ : S30)]) := ⟨_, rfl⟩
                                  replace H : (watershedlaw6_PathLow.l2 k3 l1 ji6 y490 x7_1 x9_2 (wrap64 (x10_3 + 1))) = some r := by first | (rw [hy490]; with_reducible exact H) | (have H2_ := (Option.bind_some _ _).symm.trans H; rw [hy490]; with_reducible exact H2_) | (have H2_ := (Option.bind_some _ _).symm.trans H; with_reducible exact H2_) | with_reducible exact H | (rw [hy490]; exact H) | exact H
                                  have Ny490 := Aside0.mk hy490
                                  clear hy490
                                  have H' := Aside0.mk H
                                  clear H
                                  have p488 : 0 ≤ ((ji21) : Int) := of_decide_eq_true (by first | (with_reducible assumption) | assumption)
                                  have q488 : (ji21) < (l1.length : Int) := of_decide_eq_true (by first | (with_reducible assumption) | assumption)
                                  obtain ⟨ad488, e488, hx488_0⟩ := Kd.at_int HR1.out (ji21) p488 q488
                                  obtain rfl : ad486 = ad488 := (by injection e488)
                                  replace hx488_0 := (HB.out.cell (World.block_lt_of_cell? w _ hx488_0)).trans hx488_0
                                  replace p488 := eq_true p488
                                  replace q488 := eq_true q488
                                  go_wp2_with (first | ((with_reducible refine gate_callee (f := 14) rfl ?_); refine goesL_ (some 69) rfl rfl Try.func14 (by kernel_rfl) rfl #[.int .i64 (wrap64 (Int.tdiv (rd l1 (ji21)) 3)), .int .i64 21] rfl (by (try simp only [List.map_toArray, List.map_cons, List.map_nil]); first | done | (simp only [hji21]; rfl) | rfl | (simp only [List.length_drop, List.length_take]; rfl)) ?_; (with_reducible refine (watershedlaw6_within.calls (wrap64 (Int.tdiv (rd l1 (ji21)) 3)) 21 t489 _ A26.out).mono ?_); rintro e w' ⟨rfl, ⟨nd, rfl⟩⟩; refine ⟨_, rfl, ?_⟩) | ((with_reducible refine gate_builtin (b := .append) (xs := #[.tmp 61, .tmp 72]) rfl ?_); (try (refine gate_guard (by rfl) ?_; dsimp only)); at_builtin; refine Kd.R_append k30 (w0 := w) w.heap.size rfl (.tmp 61) (.tmp 72) 25 30 (.agg #[(.int .i64 0), (.int .i64 0), (.int .i64 0)]) 24 rfl Try.underlying25 info30 rfl (by decide) (by omega) u6 x6_3 (⟨x9_2, x10_3, wrap64 (t489 - 10)⟩ : S30) [.int .i64 x9_2, .int .i64 x10_3, .int .i64 (wrap64 (t489 - 10))] (fun _ => True) (fun _ => False) rfl rfl ?aP (fun _ hk => hk.elim) ?aF ?aO ?aB ?aS ?aL ?_; (case aP => exact k30_mkM _ _ _ (⟨x9_2, x10_3, wrap64 (t489 - 10)⟩ : S30)); (case aB => exact (by repeat (first | (with_reducible first | exact HB.out | apply below_alloc | apply pw_below_drewN | apply below_drew1) | exact HB.out))); (case aF => exact (fun _ _ => trivial)); (case aO => exact (by (with_reducible repeat (first | apply Kd.R_alloc | apply Kd.R_drewN | apply Kd.R_drew)); exact HO_6.out)); (case aS => exact (below_size (by repeat (first | (with_reducible first | exact HB.out | apply below_alloc | apply pw_below_drewN | apply below_drew1) | exact HB.out)))); (case aL => have := LMc27.out; omega); intro v491 w28 ho hb hg hat; rw [← Ny490.out] at ho; have n0_ := Aside0.mk (Kd.R_over' (by (with_reducible repeat (first | apply Kd.R_alloc | apply Kd.R_drewN | apply Kd.R_drew)); exact HO_7.out) (Kd.R_typed (by (with_reducible repeat (first | apply Kd.R_alloc | apply Kd.R_drewN | apply Kd.R_drew)); exact HO_6.out)) (by decide) hg); have n1_ := Aside0.mk (hb); have n2_ := Aside0.mk (ho); clear HO_7; clear HB; clear HO_6; have HO_7 := n0_; have HB := n1_; have HO492 := n2_; clear n0_ n1_ n2_; clear ho hb hg hat))
                                  go_roundg k3
                                  case measure => have := HK1.out; have := HK2.out; have := HK3.out; omega
                                  case rel => exact ⟨(y490), (wrap64 (x10_3 + 1)), (by first | rfl | (simp; done) | (simp [*]; done)), H', ⟨by have := HK1.out; have := HK2.out; have := HK3.out; omega⟩, ⟨by (with_reducible repeat (first | apply Kd.R_alloc | apply Kd.R_drewN | apply Kd.R_drew)); exact HO492.out⟩, ⟨by (with_reducible repeat (first | apply Kd.R_alloc | apply Kd.R_drewN | apply Kd.R_drew)); exact HO_7.out⟩, ⟨by repeat (first | (with_reducible first | exact HB.out | apply below_alloc | apply pw_below_drewN | apply below_drew1) | exact HB.out)⟩⟩
                                · rw [if_neg c27] at H
                                  exact absurd H (by simp)
                              · rw [if_neg c25] at H
                                have c25b0 : decide (0 < t487) = false := decide_eq_false c25
                                clear c25
                                (first | rw [c25b0] | (simp only [i64_w, i32_w]; rw [c25b0]) | skip)
                                have H' := Aside0.mk H
                                clear H
                                go_wp2
                                go_roundg k3
                                case measure => have := HK1.out; have := HK2.out; have := HK3.out; omega
                                case rel => exact ⟨(x6_3), (wrap64 (x10_3 + 1)), (by first | rfl | (simp; done) | (simp [*]; done)), H', ⟨by have := HK1.out; have := HK2.out; have := HK3.out; omega⟩, ⟨by (with_reducible repeat (first | apply Kd.R_alloc | apply Kd.R_drewN | apply Kd.R_drew)); exact HO_6.out⟩, ⟨by (with_reducible repeat (first | apply Kd.R_alloc | apply Kd.R_drewN | apply Kd.R_drew)); exact HO_7.out⟩, ⟨by repeat (first | (with_reducible first | exact HB.out | apply below_alloc | apply pw_below_drewN | apply below_drew1) | exact HB.out)⟩⟩
                            · rw [if_neg c22] at H
                              exact absurd H (by simp)
                          · rw [if_neg c20] at H
                            have c20b0 : decide ((wrap64 ((wrap64 (x9_2 * ji6)) + x10_3)) < (l1.length : Int)) = false := decide_eq_false c20
                            clear c20
                            have H' := Aside0.mk H
                            clear H
                            go_wp2
                            go_roundg k3
                            case measure => have := HK1.out; have := HK2.out; have := HK3.out; omega
                            case rel => exact ⟨(x6_3), (wrap64 (x10_3 + 1)), (by first | rfl | (simp; done) | (simp [*]; done)), H', ⟨by have := HK1.out; have := HK2.out; have := HK3.out; omega⟩, ⟨by (with_reducible repeat (first | apply Kd.R_alloc | apply Kd.R_drewN | apply Kd.R_drew)); exact HO_6.out⟩, ⟨by (with_reducible repeat (first | apply Kd.R_alloc | apply Kd.R_drewN | apply Kd.R_drew)); exact HO_7.out⟩, ⟨by repeat (first | (with_reducible first | exact HB.out | apply below_alloc | apply pw_below_drewN | apply below_drew1) | exact HB.out)⟩⟩
                        · rw [if_neg c19] at H
                          have c19b0 : decide (x10_3 < ji6) = false := decide_eq_false c19
                          clear c19
                          have H' := Aside0.mk H
                          clear H
                          go_wp2
                          go_roundg k3
                          case measure => have := HK1.out; have := HK2.out; have := HK3.out; omega
                          case rel => exact ⟨(x6_3), (wrap64 (x9_2 + 1)), (by first | rfl | (simp; done) | (simp [*]; done)), H', ⟨by have := HK1.out; have := HK2.out; have := HK3.out; omega⟩, ⟨by (with_reducible repeat (first | apply Kd.R_alloc | apply Kd.R_drewN | apply Kd.R_drew)); exact HO_6.out⟩, ⟨by (with_reducible repeat (first | apply Kd.R_alloc | apply Kd.R_drewN | apply Kd.R_drew)); exact HO_7.out⟩, ⟨by repeat (first | (with_reducible first | exact HB.out | apply below_alloc | apply pw_below_drewN | apply below_drew1) | exact HB.out)⟩⟩
                  · rw [if_neg c18] at H
                    have c18b0 : decide (x9_2 < ji6) = false := decide_eq_false c18
                    clear c18
                    have H' := Aside0.mk H
                    clear H
                    go_wp2
                    go_loopg [12] k2 (fun kq v12 w' => ∃ (x7_3 : List Int) (x12_3 : Int), v12 = .int .i64 x12_3 ∧ Aside0 (watershedlaw6_PathLow.l3 kq ji6 x6_2 x7_3 x12_3 = some r) ∧ Aside0 (kq ≤ k2) ∧ Aside0 (Kd.R k30 30 w' w.heap.size (fun _ => True) u6 x6_2) ∧ Aside0 (Kd.R (Kd.int .i64) 3 w' w.heap.size (fun _ => True) v483 x7_3) ∧ Aside0 (Below w.heap.size w w'))
                    case atStart => exact ⟨(x7_1), (0), (by first | rfl | (simp; done) | (simp [*]; done)), H', ⟨Nat.le_refl _⟩, ⟨by (with_reducible repeat (first | apply Kd.R_alloc | apply Kd.R_drewN | apply Kd.R_drew)); exact HO_6.out⟩, ⟨by (with_reducible repeat (first | apply Kd.R_alloc | apply Kd.R_drewN | apply Kd.R_drew)); exact HO_7.out⟩, ⟨by repeat (first | (with_reducible first | exact HB.out | apply below_alloc | apply pw_below_drewN | apply below_drew1) | exact HB.out)⟩⟩
                    case round =>
                      clear H'
                      try clear c1
                      try clear p1
                      try clear q1
                      try clear hx1
                      try clear c2
                      try clear p2
                      try clear c4
                      try clear p4
                      try clear q4
                      try clear hx4
                      try clear p6
                      try clear c7
                      try clear c7b0
                      try clear c7b1
                      try clear c8
                      try clear c8b0
                      try clear c8b1
                      try clear c10
                      try clear c12
                      try clear c12b0
                      try clear c13
                      try clear c13b0
                      try clear c14
                      try clear c14b0
                      try clear p15
                      try clear q15
                      try clear hx15
                      try clear hf15
                      try clear c18
                      try clear c18b0
                      try clear c19
                      try clear c19b0
                      try clear c20
                      try clear c20b0
                      try clear c22
                      try clear c22b0
                      try clear c25
                      try clear c25b0
                      try clear c27
                      try clear hx15_0
                      try clear hx486_0
                      try clear hx488_0
                      try clear p1
                      try clear p15
                      try clear p2
                      try clear p486
                      try clear p488
                      try clear p6
                      try clear q1
                      try clear q15
                      try clear q486
                      try clear q488
                      obtain ⟨x7_3, x12_3, rfl, HA, HK3, HO_6, HO_7, HB⟩ := hrel
                      cases gk with
                      | zero => exact absurd HA.out (by simp [watershedlaw6_PathLow.l3])
                      | succ k3 =>
                        have H := HA.out
                        clear HA
                        simp only [watershedlaw6_PathLow.l3] at H
                        by_cases c29 : x12_3 < ji6
                        · rw [if_pos c29] at H
                          have c29b0 : decide (x12_3 < ji6) = true := decide_eq_true c29
                          clear c29
                          have H' := Aside0.mk H
                          clear H
                          go_wp2
                          go_loopg [13] k3 (fun kq v13 w' => ∃ (x7_4 : List Int) (x13_4 : Int), v13 = .int .i64 x13_4 ∧ Aside0 (watershedlaw6_PathLow.l4 kq ji6 x6_2 x7_4 x12_3 x13_4 = some r) ∧ Aside0 (kq ≤ k3) ∧ Aside0 (Kd.R k30 30 w' w.heap.size (fun _ => True) u6 x6_2) ∧ Aside0 (Kd.R (Kd.int .i64) 3 w' w.heap.size (fun _ => True) v483 x7_4) ∧ Aside0 (Below w.heap.size w w'))
                          case atStart => exact ⟨(x7_3), (0), (by first | rfl | (simp; done) | (simp [*]; done)), H', ⟨Nat.le_refl _⟩, ⟨by (with_reducible repeat (first | apply Kd.R_alloc | apply Kd.R_drewN | apply Kd.R_drew)); exact HO_6.out⟩, ⟨by (with_reducible repeat (first | apply Kd.R_alloc | apply Kd.R_drewN | apply Kd.R_drew)); exact HO_7.out⟩, ⟨by repeat (first | (with_reducible first | exact HB.out | apply below_alloc | apply pw_below_drewN | apply below_drew1) | exact HB.out)⟩⟩
                          case round =>
                            clear H'
                            try clear c1
                            try clear p1
                            try clear q1
                            try clear hx1
                            try clear c2
                            try clear p2
                            try clear c4
                            try clear p4
                            try clear q4
                            try clear hx4
                            try clear p6
                            try clear c7
                            try clear c7b0
                            try clear c7b1
                            try clear c8
                            try clear c8b0
                            try clear c8b1
                            try clear c10
                            try clear c12
                            try clear c12b0
                            try clear c13
                            try clear c13b0
                            try clear c14
                            try clear c14b0
                            try clear p15
                            try clear q15
                            try clear hx15
                            try clear hf15
                            try clear c18
                            try clear c18b0
                            try clear c19
                            try clear c19b0
                            try clear c20
                            try clear c20b0
                            try clear c22
                            try clear c22b0
                            try clear c25
                            try clear c25b0
                            try clear c27
                            try clear c29
                            try clear c29b0
                            try clear hx15_0
                            try clear hx486_0
                            try clear hx488_0
                            try clear p1
                            try clear p15
                            try clear p2
                            try clear p4
                            try clear p486
                            try clear p488
                            try clear p6
                            try clear q1
                            try clear q15
                            try clear q4
                            try clear q486
                            try clear q488
                            obtain ⟨x7_4, x13_4, rfl, HA, HK4, HO_6, HO_7, HB⟩ := hrel
                            cases gk with
                            | zero => exact absurd HA.out (by simp [watershedlaw6_PathLow.l4])
                            | succ k4 =>
                              have H := HA.out
                              clear HA
                              simp only [watershedlaw6_PathLow.l4] at H
                              by_cases c30 : x13_4 < (x6_2.length : Int)
                              · rw [if_pos c30] at H
                                have c30b0 : decide (x13_4 < (x6_2.length : Int)) = true := decide_eq_true c30
                                clear c30
                                by_cases c31 : 0 ≤ x13_4
                                · rw [if_pos c31] at H
                                  have c31b0 : decide (0 ≤ x13_4) = true := decide_eq_true c31
                                  clear c31
                                  by_cases c32 : ((rd_T30 x6_2 x13_4).f0) = x12_3
                                  · rw [if_pos c32] at H
                                    have c32b0 : (((rd_T30 x6_2 x13_4).f0) == x12_3) = true := beq_iff_eq.mpr c32
                                    have c32b1 : (((rd_T30 x6_2 x13_4).f0) != x12_3) = false := bne_eq_false_iff_eq.mpr c32
                                    clear c32
                                    by_cases c33 : 0 ≤ x12_3
                                    · rw [if_pos c33] at H
                                      have c33b0 : decide (0 ≤ x12_3) = true := decide_eq_true c33
                                      clear c33
                                      by_cases c34 : x12_3 < (x7_4.length : Int)
                                      · rw [if_pos c34] at H
                                        have c34b0 : decide (x12_3 < (x7_4.length : Int)) = true := decide_eq_true c34
                                        clear c34
                                        by_cases c35 : (rd x7_4 x12_3) = 1152921504606846976
                                        · rw [if_pos c35] at H
                                          have c35b0 : ((rd x7_4 x12_3) == 1152921504606846976) = true := beq_iff_eq.mpr c35
                                          have c35b1 : ((rd x7_4 x12_3) != 1152921504606846976) = false := bne_eq_false_iff_eq.mpr c35
                                          clear c35
                                          have H' := Aside0.mk H
                                          clear H
                                          obtain ⟨Ao36, co36, eo36⟩ := Kd.R_slice HO_6.out
                                          subst eo36
                                          have p502 : 0 ≤ (x13_4 : Int) := of_decide_eq_true (by first | (with_reducible assumption) | assumption)
                                          have q502 : x13_4 < (x6_2.length : Int) := of_decide_eq_true (by first | (with_reducible assumption) | assumption)
                                          obtain ⟨ad502, e502, hx502_0, hx502_1, hx502_2⟩ := at_T30 (Kd.R_reads' HO_6.out).2.2 x13_4 p502 q502
                                          cases e502
                                          replace p502 := eq_true p502
                                          replace q502 := eq_true q502
                                          obtain ⟨Ao37, co37, eo37⟩ := Kd.R_slice HO_7.out
                                          subst eo37
                                          have p503 : 0 ≤ (x12_3 : Int) := of_decide_eq_true (by first | (with_reducible assumption) | assumption)
                                          have q503 : x12_3 < (x7_4.length : Int) := of_decide_eq_true (by first | (with_reducible assumption) | assumption)
                                          obtain ⟨ad503, e503, hx503_0⟩ := Kd.at_int (Kd.R_reads' HO_7.out).2.2 x12_3 p503 q503
                                          cases e503
                                          replace p503 := eq_true p503
                                          replace q503 := eq_true q503
                                          go_wp2
                                          go_roundg k4
                                          case measure => have := HK1.out; have := HK2.out; have := HK3.out; have := HK4.out; omega
                                          case rel => exact ⟨(x7_4), (wrap64 (x13_4 + 1)), (by first | rfl | (simp; done) | (simp [*]; done)), H', ⟨by have := HK1.out; have := HK2.out; have := HK3.out; have := HK4.out; omega⟩, ⟨by (with_reducible repeat (first | apply Kd.R_alloc | apply Kd.R_drewN | apply Kd.R_drew)); exact HO_6.out⟩, ⟨by (with_reducible repeat (first | apply Kd.R_alloc | apply Kd.R_drewN | apply Kd.R_drew)); exact HO_7.out⟩, ⟨by repeat (first | (with_reducible first | exact HB.out | apply below_alloc | apply pw_below_drewN | apply below_drew1) | exact HB.out)⟩⟩
                                        · rw [if_neg c35] at H
                                          have c35b0 : ((rd x7_4 x12_3) == 1152921504606846976) = false := beq_eq_false_iff_ne.mpr c35
                                          have c35b1 : ((rd x7_4 x12_3) != 1152921504606846976) = true := bne_iff_ne.mpr c35
                                          by_cases c38 : 0 ≤ ((rd_T30 x6_2 x13_4).f1)
                                          · rw [if_pos c38] at H
                                            have c38b0 : decide (0 ≤ ((rd_T30 x6_2 x13_4).f1)) = true := decide_eq_true c38
                                            clear c38
                                            by_cases c39 : ((rd_T30 x6_2 x13_4).f1) < (x7_4.length : Int)
                                            · rw [if_pos c39] at H
                                              have c39b0 : decide (((rd_T30 x6_2 x13_4).f1) < (x7_4.length : Int)) = true := decide_eq_true c39
                                              clear c39
                                              obtain ⟨ji40, hji40⟩ : ∃ j_ : Int, (mn (rd x7_4 ((rd_T30 x6_2 x13_4).f1)) (wrap64 ((rd x7_4 x12_3) + ((rd_T30 x6_2 x13_4).f2)))) = j_ := ⟨_, rfl⟩
                                              replace H : (watershedlaw6_PathLow.l4 k4 ji6 x6_2 (x7_4.set (((rd_T30 x6_2 x13_4).f1) : Int).toNat (ji40)) x12_3 (wrap64 (x13_4 + 1))) = some r := by first | (rw [hji40] at H; exact H) | (simp only [hji40] at H ⊢; exact H)
                                              have hji40_ : (if (wrap64 ((rd x7_4 x12_3) + ((rd_T30 x6_2 x13_4).f2))) < (rd x7_4 ((rd_T30 x6_2 x13_4).f1)) then (wrap64 ((rd x7_4 x12_3) + ((rd_T30 x6_2 x13_4).f2))) else (rd x7_4 ((rd_T30 x6_2 x13_4).f1))) = ji40 := hji40
                                              obtain ⟨y509, hy509⟩ : ∃ y_ : List Int, y_ = (x7_4.set (((rd_T30 x6_2 x13_4).f1) : Int).toNat (ji40)) := ⟨_, rfl⟩
                                              replace H : (watershedlaw6_PathLow.l4 k4 ji6 x6_2 y509 x12_3 (wrap64 (x13_4 + 1))) = some r := by first | (rw [hy509]; with_reducible exact H) | (have H2_ := (Option.bind_some _ _).symm.trans H; rw [hy509]; with_reducible exact H2_) | (have H2_ := (Option.bind_some _ _).symm.trans H; with_reducible exact H2_) | with_reducible exact H | (rw [hy509]; exact H) | exact H
                                              have Ny509 := Aside0.mk hy509
                                              clear hy509
                                              have H' := Aside0.mk H
                                              clear H
                                              obtain ⟨Ao42, co42, eo42⟩ := Kd.R_slice HO_6.out
                                              subst eo42
                                              have p502 : 0 ≤ (x13_4 : Int) := of_decide_eq_true (by first | (with_reducible assumption) | assumption)
                                              have q502 : x13_4 < (x6_2.length : Int) := of_decide_eq_true (by first | (with_reducible assumption) | assumption)
                                              obtain ⟨ad502, e502, hx502_0, hx502_1, hx502_2⟩ := at_T30 (Kd.R_reads' HO_6.out).2.2 x13_4 p502 q502
                                              cases e502
                                              replace p502 := eq_true p502
                                              replace q502 := eq_true q502
                                              obtain ⟨Ao43, co43, eo43⟩ := Kd.R_slice HO_7.out
                                              subst eo43
                                              have p503 : 0 ≤ (x12_3 : Int) := of_decide_eq_true (by first | (with_reducible assumption) | assumption)
                                              have q503 : x12_3 < (x7_4.length : Int) := of_decide_eq_true (by first | (with_reducible assumption) | assumption)
                                              obtain ⟨ad503, e503, hx503_0⟩ := Kd.at_int (Kd.R_reads' HO_7.out).2.2 x12_3 p503 q503
                                              cases e503
                                              replace p503 := eq_true p503
                                              replace q503 := eq_true q503
                                              try go_wp2
                                              have n0_ := Aside0.mk (Kd.R_drew HO_6.out)
                                              have n1_ := Aside0.mk (Kd.R_drew HO_7.out)
                                              have n2_ := Aside0.mk (below_drew1 HB.out)
                                              clear HO_6
                                              clear HO_7
                                              clear HB
                                              have HO_6 := n0_
                                              have HO_7 := n1_
                                              have HB := n2_
                                              clear n0_ n1_ n2_
                                              have p504 : 0 ≤ (x13_4 : Int) := of_decide_eq_true (by first | (with_reducible assumption) | assumption)
                                              have q504 : x13_4 < (x6_2.length : Int) := of_decide_eq_true (by first | (with_reducible assumption) | assumption)
                                              obtain ⟨ad504, e504, hx504_0, hx504_1, hx504_2⟩ := at_T30 (Kd.R_reads' HO_6.out).2.2 x13_4 p504 q504
                                              obtain rfl : ad502 = ad504 := (by injection e504)
                                              replace p504 := eq_true p504
                                              replace q504 := eq_true q504
                                              have p505 : 0 ≤ (x13_4 : Int) := of_decide_eq_true (by first | (with_reducible assumption) | assumption)
                                              have q505 : x13_4 < (x6_2.length : Int) := of_decide_eq_true (by first | (with_reducible assumption) | assumption)
                                              obtain ⟨ad505, e505, hx505_0, hx505_1, hx505_2⟩ := at_T30 (Kd.R_reads' HO_6.out).2.2 x13_4 p505 q505
                                              obtain rfl : ad502 = ad505 := (by injection e505)
                                              replace p505 := eq_true p505
                                              replace q505 := eq_true q505
                                              have p506 : 0 ≤ (((rd_T30 x6_2 x13_4).f1) : Int) := of_decide_eq_true (by first | (with_reducible assumption) | assumption)
                                              have q506 : ((rd_T30 x6_2 x13_4).f1) < (x7_4.length : Int) := of_decide_eq_true (by first | (with_reducible assumption) | assumption)
                                              obtain ⟨ad506, e506, hx506_0⟩ := Kd.at_int (Kd.R_reads' HO_7.out).2.2 ((rd_T30 x6_2 x13_4).f1) p506 q506
                                              obtain rfl : ad503 = ad506 := (by injection e506)
                                              replace p506 := eq_true p506
                                              replace q506 := eq_true q506
                                              have p507 : 0 ≤ (x12_3 : Int) := of_decide_eq_true (by first | (with_reducible assumption) | assumption)
                                              have q507 : x12_3 < (x7_4.length : Int) := of_decide_eq_true (by first | (with_reducible assumption) | assumption)
                                              obtain ⟨ad507, e507, hx507_0⟩ := Kd.at_int (Kd.R_reads' HO_7.out).2.2 x12_3 p507 q507
                                              obtain rfl : ad503 = ad507 := (by injection e507)
                                              replace p507 := eq_true p507
                                              replace q507 := eq_true q507
                                              have p508 : 0 ≤ (x13_4 : Int) := of_decide_eq_true (by first | (with_reducible assumption) | assumption)
                                              have q508 : x13_4 < (x6_2.length : Int) := of_decide_eq_true (by first | (with_reducible assumption) | assumption)
                                              obtain ⟨ad508, e508, hx508_0, hx508_1, hx508_2⟩ := at_T30 (Kd.R_reads' HO_6.out).2.2 x13_4 p508 q508
                                              obtain rfl : ad502 = ad508 := (by injection e508)
                                              replace p508 := eq_true p508
                                              replace q508 := eq_true q508
                                              have p41 : 0 ≤ (((rd_T30 x6_2 x13_4).f1) : Int) := of_decide_eq_true (by first | (with_reducible assumption) | assumption)
                                              have q41 : (((rd_T30 x6_2 x13_4).f1) : Int) < ((x7_4.length : Int) : Int) := of_decide_eq_true (by first | (with_reducible assumption) | assumption)
                                              obtain ⟨go41, co41, eo41, gb41, gl41, cl41, HG41⟩ := Kd.R_form HO_7.out (by omega)
                                              (first | cases eo41 | (injection eo41 with ea_ en_ ec_; (first | subst ea_ | (injection ea_ with ea_; subst ea_)); subst ec_; clear en_))
                                              have GB41 := Aside0.mk gb41
                                              have GG41 := Aside0.mk HG41
                                              clear gb41 gl41 HG41
                                              (first | simp only [add_plain] at hx503_0 | skip)
                                              (first | simp only [add_plain] at hx506_0 | skip)
                                              (first | simp only [add_plain] at hx507_0 | skip)
                                              obtain ⟨hx41_0, hf41_0⟩ := Kd.R_celln 0 HO_7.out (((rd_T30 x6_2 x13_4).f1) : Int) p41 q41
                                              replace p41 := eq_true p41
                                              replace q41 := eq_true q41
                                              have HP45 := Kd.R_putn HO_7.out (((rd_T30 x6_2 x13_4).f1) : Int) ji40
                                              rw [← Ny509.out] at HP45
                                              have HQ45 := Aside0.mk HP45
                                              clear HP45
                                              refine start_ (n := 27) (S := fun w' => w'.cell? (ad502.add ((x13_4).toNat * 3)) = some (.int .i64 ((rd_T30 x6_2 x13_4).f0)) ∧ w'.cell? ⟨(ad502.add ((x13_4).toNat * 3)).block, (ad502.add ((x13_4).toNat * 3)).off + 1, none⟩ = some (.int .i64 ((rd_T30 x6_2 x13_4).f1)) ∧ w'.cell? ⟨(ad502.add ((x13_4).toNat * 3)).block, (ad502.add ((x13_4).toNat * 3)).off + 2, none⟩ = some (.int .i64 ((rd_T30 x6_2 x13_4).f2)) ∧ w'.cell? (ad502.add ((x13_4).toNat * 3)) = some (.int .i64 ((rd_T30 x6_2 x13_4).f0)) ∧ w'.cell? ⟨(ad502.add ((x13_4).toNat * 3)).block, (ad502.add ((x13_4).toNat * 3)).off + 1, none⟩ = some (.int .i64 ((rd_T30 x6_2 x13_4).f1)) ∧ w'.cell? ⟨(ad502.add ((x13_4).toNat * 3)).block, (ad502.add ((x13_4).toNat * 3)).off + 2, none⟩ = some (.int .i64 ((rd_T30 x6_2 x13_4).f2)) ∧ w'.cell? ⟨go41, (((rd_T30 x6_2 x13_4).f1)).toNat, none⟩ = some (.int .i64 (rd x7_4 ((rd_T30 x6_2 x13_4).f1))) ∧ w'.cell? ⟨go41, (x12_3).toNat, none⟩ = some (.int .i64 (rd x7_4 x12_3)) ∧ w'.cell? (ad502.add ((x13_4).toNat * 3)) = some (.int .i64 ((rd_T30 x6_2 x13_4).f0)) ∧ w'.cell? ⟨(ad502.add ((x13_4).toNat * 3)).block, (ad502.add ((x13_4).toNat * 3)).off + 1, none⟩ = some (.int .i64 ((rd_T30 x6_2 x13_4).f1)) ∧ w'.cell? ⟨(ad502.add ((x13_4).toNat * 3)).block, (ad502.add ((x13_4).toNat * 3)).off + 2, none⟩ = some (.int .i64 ((rd_T30 x6_2 x13_4).f2))) (ds := [26]) #[false, false, false, false, false, false, false, false, false, false, false, false, false, false, false, false, false, false, false, false, false, false, false, false, false, false, false] (by kernel_rfl) rfl rfl ⟨hx504_0, hx504_1, hx504_2, hx505_0, hx505_1, hx505_2, hx506_0, hx507_0, hx508_0, hx508_1, hx508_2⟩ (fun hHeld => ?_); refine with_tabW watershedlaw6_PathLow.tab26 watershedlaw6_PathLow.bits26 (fun HT_ HW_ => ?_)
                                              generalize wr.drew = w44 at HO_6 HO_7 HB GG41 HQ45 hf41_0 hx41_0 hx503_0 hx504_0 hx504_1 hx504_2 hx505_0 hx505_1 hx505_2 hx506_0 hx507_0 hx508_0 hx508_1 hx508_2 hHeld ⊢
                                              refine pure_ (i := 0) (N := some 99) (v := ?_) (a' := ?_) #[true, false, false, false, false, false, false, false, false, false, false, false, false, false, false, false, false, false, false, false, false, false, false, false, false, false, false] rfl rfl (any_of HT_.out (by kernel_rfl)) (fun _ _ _ h => h) (Or.inl ⟨by rfl, ?_⟩) ?_ ?_
                                              rotate_left
                                              · intro w'
                                                go_simp
                                                with_reducible rfl
                                              rotate_left
                                              · simp only [Act.put, List.setIfInBounds_toArray, List.set_cons_zero, List.set_cons_succ, i64_w, i32_w]
                                                rfl
                                              refine pure_ (i := 1) (N := some 100) (v := ?_) (a' := ?_) #[true, true, false, false, false, false, false, false, false, false, false, false, false, false, false, false, false, false, false, false, false, false, false, false, false, false, false] rfl rfl (any_of HT_.out (by kernel_rfl)) (fun _ _ _ h => h) (Or.inl ⟨by rfl, ?_⟩) ?_ ?_
                                              rotate_left
                                              · intro w'
                                                go_simp
                                                with_reducible rfl
                                              rotate_left
                                              · simp only [Act.put, List.setIfInBounds_toArray, List.set_cons_zero, List.set_cons_succ, i64_w, i32_w]
                                                rfl
                                              refine pure_ (i := 2) (N := some 101) (v := ?_) (a' := ?_) #[true, true, true, false, false, false, false, false, false, false, false, false, false, false, false, false, false, false, false, false, false, false, false, false, false, false, false] rfl rfl (any_of HT_.out (by kernel_rfl)) (fun _ _ _ h => h) (Or.inl ⟨by rfl, ?_⟩) ?_ ?_
                                              rotate_left
                                              · intro w'
                                                go_simp
                                                with_reducible rfl
                                              rotate_left
                                              · simp only [Act.put, List.setIfInBounds_toArray, List.set_cons_zero, List.set_cons_succ, i64_w, i32_w]
                                                rfl
                                              refine pure_ (i := 3) (N := some 102) (v := ?_) (a' := ?_) #[true, true, true, true, false, false, false, false, false, false, false, false, false, false, false, false, false, false, false, false, false, false, false, false, false, false, false] rfl rfl (any_of HT_.out (by kernel_rfl)) (fun _ _ _ h => h) (Or.inl ⟨by rfl, ?_⟩) ?_ ?_
                                              rotate_left
                                              · intro w'
                                                go_simp
                                                with_reducible rfl
                                              rotate_left
                                              · simp only [Act.put, List.setIfInBounds_toArray, List.set_cons_zero, List.set_cons_succ, i64_w, i32_w]
                                                rfl
                                              refine pure_ (i := 4) (N := some 103) (v := ?_) (a' := ?_) #[true, true, true, true, true, false, false, false, false, false, false, false, false, false, false, false, false, false, false, false, false, false, false, false, false, false, false] rfl rfl (any_of HT_.out (by kernel_rfl)) (fun _ _ _ h => h) (Or.inl ⟨by rfl, ?_⟩) ?_ ?_
                                              rotate_left
                                              · intro w'
                                                go_simp
                                                with_reducible rfl
                                              rotate_left
                                              · simp only [Act.put, List.setIfInBounds_toArray, List.set_cons_zero, List.set_cons_succ, i64_w, i32_w]
                                                rfl
                                              refine pure_ (i := 6) (N := some 105) (v := ?_) (a' := ?_) #[true, true, true, true, true, false, true, false, false, false, false, false, false, false, false, false, false, false, false, false, false, false, false, false, false, false, false] rfl rfl (any_of HT_.out (by kernel_rfl)) (fun _ _ _ h => h) (Or.inl ⟨by rfl, ?_⟩) ?_ ?_
                                              rotate_left
                                              · intro w'
                                                go_simp
                                                with_reducible rfl
                                              rotate_left
                                              · simp only [Act.put, List.setIfInBounds_toArray, List.set_cons_zero, List.set_cons_succ, i64_w, i32_w]
                                                rfl
                                              refine pure_ (i := 7) (N := some 106) (v := ?_) (a' := ?_) #[true, true, true, true, true, false, true, true, false, false, false, false, false, false, false, false, false, false, false, false, false, false, false, false, false, false, false] rfl rfl (any_of HT_.out (by kernel_rfl)) (fun _ _ _ h => h) (Or.inl ⟨by rfl, ?_⟩) ?_ ?_
                                              rotate_left
                                              · intro w'
                                                go_simp
                                                with_reducible rfl
                                              rotate_left
                                              · simp only [Act.put, List.setIfInBounds_toArray, List.set_cons_zero, List.set_cons_succ, i64_w, i32_w]
                                                rfl
                                              refine pure_ (i := 8) (N := some 107) (v := ?_) (a' := ?_) #[true, true, true, true, true, false, true, true, true, false, false, false, false, false, false, false, false, false, false, false, false, false, false, false, false, false, false] rfl rfl (any_of HT_.out (by kernel_rfl)) (fun _ _ _ h => h) (Or.inl ⟨by rfl, ?_⟩) ?_ ?_
                                              rotate_left
                                              · intro w'
                                                go_simp
                                                with_reducible rfl
                                              rotate_left
                                              · simp only [Act.put, List.setIfInBounds_toArray, List.set_cons_zero, List.set_cons_succ, i64_w, i32_w]
                                                rfl
                                              refine pure_ (i := 9) (N := some 108) (v := ?_) (a' := ?_) #[true, true, true, true, true, false, true, true, true, true, false, false, false, false, false, false, false, false, false, false, false, false, false, false, false, false, false] rfl rfl (any_of HT_.out (by kernel_rfl)) (fun _ _ _ h => h) (Or.inl ⟨by rfl, ?_⟩) ?_ ?_
                                              rotate_left
                                              · intro w'
                                                go_simp
                                                with_reducible rfl
                                              rotate_left
                                              · simp only [Act.put, List.setIfInBounds_toArray, List.set_cons_zero, List.set_cons_succ, i64_w, i32_w]
                                                rfl
                                              refine pure_ (i := 10) (N := some 109) (v := ?_) (a' := ?_) #[true, true, true, true, true, false, true, true, true, true, true, false, false, false, false, false, false, false, false, false, false, false, false, false, false, false, false] rfl rfl (any_of HT_.out (by kernel_rfl)) (fun _ _ _ h => h) (Or.inl ⟨by rfl, ?_⟩) ?_ ?_
                                              rotate_left
                                              · intro w'
                                                go_simp
                                                with_reducible rfl
                                              rotate_left
                                              · simp only [Act.put, List.setIfInBounds_toArray, List.set_cons_zero, List.set_cons_succ, i64_w, i32_w]
                                                rfl
                                              refine pure_ (i := 14) (N := some 113) (v := ?_) (a' := ?_) #[true, true, true, true, true, false, true, true, true, true, true, false, false, false, true, false, false, false, false, false, false, false, false, false, false, false, false] rfl rfl (any_of HT_.out (by kernel_rfl)) (fun _ _ _ h => h) (Or.inl ⟨by rfl, ?_⟩) ?_ ?_
                                              rotate_left
                                              · intro w'
                                                go_simp
                                                with_reducible rfl
                                              rotate_left
                                              · simp only [Act.put, List.setIfInBounds_toArray, List.set_cons_zero, List.set_cons_succ, i64_w, i32_w]
                                                rfl
                                              refine pure_ (i := 15) (N := some 114) (v := ?_) (a' := ?_) #[true, true, true, true, true, false, true, true, true, true, true, false, false, false, true, true, false, false, false, false, false, false, false, false, false, false, false] rfl rfl (any_of HT_.out (by kernel_rfl)) (fun _ _ _ h => h) (Or.inl ⟨by rfl, ?_⟩) ?_ ?_
                                              rotate_left
                                              · intro w'
                                                go_simp
                                                with_reducible rfl
                                              rotate_left
                                              · simp only [Act.put, List.setIfInBounds_toArray, List.set_cons_zero, List.set_cons_succ, i64_w, i32_w]
                                                rfl
                                              refine pure_ (i := 16) (N := some 115) (v := ?_) (a' := ?_) #[true, true, true, true, true, false, true, true, true, true, true, false, false, false, true, true, true, false, false, false, false, false, false, false, false, false, false] rfl rfl (any_of HT_.out (by kernel_rfl)) (fun _ _ _ h => h) (Or.inl ⟨by rfl, ?_⟩) ?_ ?_
                                              rotate_left
                                              · intro w'
                                                go_simp
                                                with_reducible rfl
                                              rotate_left
                                              · simp only [Act.put, List.setIfInBounds_toArray, List.set_cons_zero, List.set_cons_succ, i64_w, i32_w]
                                                rfl
                                              refine pure_ (i := 18) (N := some 117) (v := ?_) (a' := ?_) #[true, true, true, true, true, false, true, true, true, true, true, false, false, false, true, true, true, false, true, false, false, false, false, false, false, false, false] rfl rfl (any_of HT_.out (by kernel_rfl)) (fun _ _ _ h => h) (Or.inl ⟨by rfl, ?_⟩) ?_ ?_
                                              rotate_left
                                              · intro w'
                                                go_simp
                                                with_reducible rfl
                                              rotate_left
                                              · simp only [Act.put, List.setIfInBounds_toArray, List.set_cons_zero, List.set_cons_succ, i64_w, i32_w]
                                                rfl
                                              refine pure_ (i := 19) (N := some 118) (v := ?_) (a' := ?_) #[true, true, true, true, true, false, true, true, true, true, true, false, false, false, true, true, true, false, true, true, false, false, false, false, false, false, false] rfl rfl (any_of HT_.out (by kernel_rfl)) (fun _ _ _ h => h) (Or.inl ⟨by rfl, ?_⟩) ?_ ?_
                                              rotate_left
                                              · intro w'
                                                go_simp
                                                with_reducible rfl
                                              rotate_left
                                              · simp only [Act.put, List.setIfInBounds_toArray, List.set_cons_zero, List.set_cons_succ, i64_w, i32_w]
                                                rfl
                                              refine pure_ (i := 20) (N := some 119) (v := ?_) (a' := ?_) #[true, true, true, true, true, false, true, true, true, true, true, false, false, false, true, true, true, false, true, true, true, false, false, false, false, false, false] rfl rfl (any_of HT_.out (by kernel_rfl)) (fun _ _ _ h => h) (Or.inl ⟨by rfl, ?_⟩) ?_ ?_
                                              rotate_left
                                              · intro w'
                                                go_simp
                                                with_reducible rfl
                                              rotate_left
                                              · simp only [Act.put, List.setIfInBounds_toArray, List.set_cons_zero, List.set_cons_succ, i64_w, i32_w]
                                                rfl
                                              refine pure_ (i := 21) (N := some 120) (v := ?_) (a' := ?_) #[true, true, true, true, true, false, true, true, true, true, true, false, false, false, true, true, true, false, true, true, true, true, false, false, false, false, false] rfl rfl (any_of HT_.out (by kernel_rfl)) (fun _ _ _ h => h) (Or.inl ⟨by rfl, ?_⟩) ?_ ?_
                                              rotate_left
                                              · intro w'
                                                go_simp
                                                with_reducible rfl
                                              rotate_left
                                              · simp only [Act.put, List.setIfInBounds_toArray, List.set_cons_zero, List.set_cons_succ, i64_w, i32_w]
                                                rfl
                                              refine take_ (i := 5) (N := some 104) (v := ?_) (a' := ?_) #[true, true, true, true, true, true, true, true, true, true, true, false, false, false, true, true, true, false, true, true, true, true, false, false, false, false, false] rfl rfl (take_ofW HT_.out HW_.out (by kernel_rfl)) (fun _ _ _ h => h) (Or.inl ⟨by rfl, ?_⟩) hHeld ?_ ?_
                                              rotate_left
                                              · rintro w' ⟨s0, s1, s2, s3, s4, s5, s6, s7, s8, s9, s10⟩
                                                go_simp
                                                with_reducible rfl
                                              rotate_left
                                              · simp only [Act.put, List.setIfInBounds_toArray, List.set_cons_zero, List.set_cons_succ, i64_w, i32_w]
                                                rfl
                                              refine take_ (i := 11) (N := some 110) (v := ?_) (a' := ?_) #[true, true, true, true, true, true, true, true, true, true, true, true, false, false, true, true, true, false, true, true, true, true, false, false, false, false, false] rfl rfl (take_ofW HT_.out HW_.out (by kernel_rfl)) (fun _ _ _ h => h) (Or.inl ⟨by rfl, ?_⟩) hHeld ?_ ?_
                                              rotate_left
                                              · rintro w' ⟨s0, s1, s2, s3, s4, s5, s6, s7, s8, s9, s10⟩
                                                go_simp
                                                with_reducible rfl
                                              rotate_left
                                              · simp only [Act.put, List.setIfInBounds_toArray, List.set_cons_zero, List.set_cons_succ, i64_w, i32_w]
                                                rfl
                                              refine pure_ (i := 12) (N := some 111) (v := ?_) (a' := ?_) #[true, true, true, true, true, true, true, true, true, true, true, true, true, false, true, true, true, false, true, true, true, true, false, false, false, false, false] rfl rfl (any_of HT_.out (by kernel_rfl)) (fun _ _ _ h => h) (Or.inl ⟨by rfl, ?_⟩) ?_ ?_
                                              rotate_left
                                              · intro w'
                                                go_simp
                                                with_reducible rfl
                                              rotate_left
                                              · simp only [Act.put, List.setIfInBounds_toArray, List.set_cons_zero, List.set_cons_succ, i64_w, i32_w]
                                                rfl
                                              refine take_ (i := 13) (N := some 112) (v := ?_) (a' := ?_) #[true, true, true, true, true, true, true, true, true, true, true, true, true, true, true, true, true, false, true, true, true, true, false, false, false, false, false] rfl rfl (take_ofW HT_.out HW_.out (by kernel_rfl)) (fun _ _ _ h => h) (Or.inl ⟨by rfl, ?_⟩) hHeld ?_ ?_
                                              rotate_left
                                              · rintro w' ⟨s0, s1, s2, s3, s4, s5, s6, s7, s8, s9, s10⟩
                                                go_simp
                                                with_reducible rfl
                                              rotate_left
                                              · simp only [Act.put, List.setIfInBounds_toArray, List.set_cons_zero, List.set_cons_succ, i64_w, i32_w]
                                                rfl
                                              refine take_ (i := 17) (N := some 116) (v := ?_) (a' := ?_) #[true, true, true, true, true, true, true, true, true, true, true, true, true, true, true, true, true, true, true, true, true, true, false, false, false, false, false] rfl rfl (take_ofW HT_.out HW_.out (by kernel_rfl)) (fun _ _ _ h => h) (Or.inl ⟨by rfl, ?_⟩) hHeld ?_ ?_
                                              rotate_left
                                              · rintro w' ⟨s0, s1, s2, s3, s4, s5, s6, s7, s8, s9, s10⟩
                                                go_simp
                                                with_reducible rfl
                                              rotate_left
                                              · simp only [Act.put, List.setIfInBounds_toArray, List.set_cons_zero, List.set_cons_succ, i64_w, i32_w]
                                                rfl
                                              refine take_ (i := 22) (N := some 121) (v := ?_) (a' := ?_) #[true, true, true, true, true, true, true, true, true, true, true, true, true, true, true, true, true, true, true, true, true, true, true, false, false, false, false] rfl rfl (take_ofW HT_.out HW_.out (by kernel_rfl)) (fun _ _ _ h => h) (Or.inl ⟨by rfl, ?_⟩) hHeld ?_ ?_
                                              rotate_left
                                              · rintro w' ⟨s0, s1, s2, s3, s4, s5, s6, s7, s8, s9, s10⟩
                                                go_simp
                                                with_reducible rfl
                                              rotate_left
                                              · simp only [Act.put, List.setIfInBounds_toArray, List.set_cons_zero, List.set_cons_succ, i64_w, i32_w]
                                                rfl
                                              refine pure_ (i := 23) (N := some 122) (v := ?_) (a' := ?_) #[true, true, true, true, true, true, true, true, true, true, true, true, true, true, true, true, true, true, true, true, true, true, true, true, false, false, false] rfl rfl (any_of HT_.out (by kernel_rfl)) (fun _ _ _ h => h) (Or.inl ⟨by rfl, ?_⟩) ?_ ?_
                                              rotate_left
                                              · intro w'
                                                go_simp
                                                with_reducible rfl
                                              rotate_left
                                              · simp only [Act.put, List.setIfInBounds_toArray, List.set_cons_zero, List.set_cons_succ, i64_w, i32_w]
                                                rfl
                                              refine pure_ (i := 24) (N := some 123) (v := ?_) (a' := ?_) #[true, true, true, true, true, true, true, true, true, true, true, true, true, true, true, true, true, true, true, true, true, true, true, true, true, false, false] rfl rfl (any_of HT_.out (by kernel_rfl)) (fun _ _ _ h => h) (Or.inl ⟨by rfl, ?_⟩) ?_ ?_
                                              rotate_left
                                              · intro w'
                                                go_simp
                                                with_reducible rfl
                                              rotate_left
                                              · simp only [Act.put, List.setIfInBounds_toArray, List.set_cons_zero, List.set_cons_succ, i64_w, i32_w]
                                                rfl
                                              refine pure_ (i := 25) (N := some 124) (v := ?_) (a' := ?_) #[true, true, true, true, true, true, true, true, true, true, true, true, true, true, true, true, true, true, true, true, true, true, true, true, true, true, false] rfl rfl (any_of HT_.out (by kernel_rfl)) (fun _ _ _ h => h) (Or.inl ⟨by rfl, ?_⟩) ?_ ?_
                                              rotate_left
                                              · intro w'
                                                go_simp
                                                with_reducible rfl
                                              rotate_left
                                              · simp only [Act.put, List.setIfInBounds_toArray, List.set_cons_zero, List.set_cons_succ, i64_w, i32_w]
                                                rfl
                                              refine last_ (i := 26) (N := none) #[true, true, true, true, true, true, true, true, true, true, true, true, true, true, true, true, true, true, true, true, true, true, true, true, true, true, true] rfl rfl (one_of HT_.out (by kernel_rfl)) (by decide) (fun K hK => ?_)
                                              refine skip_ (w1 := ?_) (by rfl) rfl ?_ ?_
                                              rotate_left
                                              · go_simp
                                                rfl
                                              refine hK.out _ _ ?_
                                              clear hK K
                                              refine done_ (done_of HT_.out (by kernel_rfl)) ?_
                                              try go_wp2
                                              go_roundg k4
                                              case measure => have := HK1.out; have := HK2.out; have := HK3.out; have := HK4.out; omega
                                              case rel => exact ⟨(y509), (wrap64 (x13_4 + 1)), (by first | rfl | (simp; done) | (simp [*]; done)), H', ⟨by have := HK1.out; have := HK2.out; have := HK3.out; have := HK4.out; omega⟩, ⟨by (with_reducible repeat (first | apply Kd.R_alloc | apply Kd.R_drewN | apply Kd.R_drew)); exact Kd.R_mono (Kd.R_far (p := ⟨go41, (((rd_T30 x6_2 x13_4).f1) : Int).toNat, none⟩) (Kd.R_types HO_6.out GG41.out (by decide)) (fun _ hk => hk.2) (.int .i64 ji40)) (fun _ hk => trivial)⟩, ⟨by (with_reducible repeat (first | apply Kd.R_alloc | apply Kd.R_drewN | apply Kd.R_drew)); exact HQ45.out⟩, ⟨by repeat (first | (with_reducible first | exact HB.out | apply below_alloc | apply pw_below_drewN | apply below_drew1 | refine below_set ?_ GB41.out) | exact HB.out)⟩⟩
                                            · rw [if_neg c39] at H
                                              exact absurd H (by simp)
                                          · rw [if_neg c38] at H
                                            exact absurd H (by simp)
                                      · rw [if_neg c34] at H
                                        exact absurd H (by simp)
                                    · rw [if_neg c33] at H
                                      exact absurd H (by simp)
                                  · rw [if_neg c32] at H
                                    have c32b0 : (((rd_T30 x6_2 x13_4).f0) == x12_3) = false := beq_eq_false_iff_ne.mpr c32
                                    have c32b1 : (((rd_T30 x6_2 x13_4).f0) != x12_3) = true := bne_iff_ne.mpr c32
                                    have H' := Aside0.mk H
                                    clear H
                                    obtain ⟨Ao46, co46, eo46⟩ := Kd.R_slice HO_6.out
                                    subst eo46
                                    have p502 : 0 ≤ (x13_4 : Int) := of_decide_eq_true (by first | (with_reducible assumption) | assumption)
                                    have q502 : x13_4 < (x6_2.length : Int) := of_decide_eq_true (by first | (with_reducible assumption) | assumption)
                                    obtain ⟨ad502, e502, hx502_0, hx502_1, hx502_2⟩ := at_T30 (Kd.R_reads' HO_6.out).2.2 x13_4 p502 q502
                                    cases e502
                                    replace p502 := eq_true p502
                                    replace q502 := eq_true q502
                                    go_wp2
                                    go_roundg k4
                                    case measure => have := HK1.out; have := HK2.out; have := HK3.out; have := HK4.out; omega
                                    case rel => exact ⟨(x7_4), (wrap64 (x13_4 + 1)), (by first | rfl | (simp; done) | (simp [*]; done)), H', ⟨by have := HK1.out; have := HK2.out; have := HK3.out; have := HK4.out; omega⟩, ⟨by (with_reducible repeat (first | apply Kd.R_alloc | apply Kd.R_drewN | apply Kd.R_drew)); exact HO_6.out⟩, ⟨by (with_reducible repeat (first | apply Kd.R_alloc | apply Kd.R_drewN | apply Kd.R_drew)); exact HO_7.out⟩, ⟨by repeat (first | (with_reducible first | exact HB.out | apply below_alloc | apply pw_below_drewN | apply below_drew1) | exact HB.out)⟩⟩
                                · rw [if_neg c31] at H
                                  exact absurd H (by simp)
                              · rw [if_neg c30] at H
                                have c30b0 : decide (x13_4 < (x6_2.length : Int)) = false := decide_eq_false c30
                                clear c30
                                have H' := Aside0.mk H
                                clear H
                                obtain ⟨Ao47, co47, eo47⟩ := Kd.R_slice HO_6.out
                                subst eo47
                                go_wp2
                                go_roundg k4
                                case measure => have := HK1.out; have := HK2.out; have := HK3.out; have := HK4.out; omega
                                case rel => exact ⟨(x7_4), (wrap64 (x12_3 + 1)), (by first | rfl | (simp; done) | (simp [*]; done)), H', ⟨by have := HK1.out; have := HK2.out; have := HK3.out; have := HK4.out; omega⟩, ⟨by (with_reducible repeat (first | apply Kd.R_alloc | apply Kd.R_drewN | apply Kd.R_drew)); exact HO_6.out⟩, ⟨by (with_reducible repeat (first | apply Kd.R_alloc | apply Kd.R_drewN | apply Kd.R_drew)); exact HO_7.out⟩, ⟨by repeat (first | (with_reducible first | exact HB.out | apply below_alloc | apply pw_below_drewN | apply below_drew1) | exact HB.out)⟩⟩
                        · rw [if_neg c29] at H
                          have c29b0 : decide (x12_3 < ji6) = false := decide_eq_false c29
                          clear c29
                          replace H := Option.bind_eq_some_iff.mp H
                          obtain ⟨⟨t493, t494, t495⟩, A480, H⟩ := H
                          replace H : (if t495 = true then (if (t494.length : Int) = 0 then ((watershedref6_Ints.f k3 t493 x7_3).bind fun t500 => (if t500 = true then ((path_Right.f k3 ji6 x6_2 0 x7_3).bind fun t501 => (some t501)) else (some false))) else (some false)) else (some false)) = some r := H
                          have A48 := Aside0.mk A480
                          clear A480
                          by_cases c49 : t495 = true
                          · subst c49
                            have H1 : (if (t494.length : Int) = 0 then ((watershedref6_Ints.f k3 t493 x7_3).bind fun t500 => (if t500 = true then ((path_Right.f k3 ji6 x6_2 0 x7_3).bind fun t501 => (some t501)) else (some false))) else (some false)) = some r := by rw [if_pos rfl] at H; exact H
                            clear H
                            have H := H1
                            clear H1
                            by_cases c50 : (t494.length : Int) = 0
                            · rw [if_pos c50] at H
                              have c50b0 : ((t494.length : Int) == 0) = true := beq_iff_eq.mpr c50
                              have c50b1 : ((t494.length : Int) != 0) = false := bne_eq_false_iff_eq.mpr c50
                              clear c50
                              replace H := Option.bind_eq_some_iff.mp H
                              obtain ⟨t500, A510, H⟩ := H
                              replace H : (if t500 = true then ((path_Right.f k3 ji6 x6_2 0 x7_3).bind fun t501 => (some t501)) else (some false)) = some r := H
                              have A51 := Aside0.mk A510
                              clear A510
                              by_cases c52 : t500 = true
                              · subst c52
                                have H1 : ((path_Right.f k3 ji6 x6_2 0 x7_3).bind fun t501 => (some t501)) = some r := by rw [if_pos rfl] at H; exact H
                                clear H
                                have H := H1
                                clear H1
                                replace H := Option.bind_eq_some_iff.mp H
                                obtain ⟨t501, A530, H⟩ := H
                                replace H : (some t501) = some r := H
                                have A53 := Aside0.mk A530
                                clear A530
                                obtain rfl := Option.some.inj H
                                obtain ⟨Ao54, co54, eo54⟩ := Kd.R_slice HO_6.out
                                subst eo54
                                go_wp2_with (first | ((with_reducible refine gate_callee (f := 20) rfl ?_); refine goesL_ (some 128) rfl rfl Try.func20 (by kernel_rfl) rfl #[.int .i64 ji6, .slice Ao54 x6_2.length co54, .int .i64 0] rfl (by (try simp only [List.map_toArray, List.map_cons, List.map_nil]); first | done | (simp only [hji6]; rfl) | rfl | (simp only [List.length_drop, List.length_take]; rfl)) ?_; (with_reducible refine (path_Any.calls k3 ji6 _ _ x6_2 0 t493 t494 true _ ?side1 ?side2 A48.out).mono ?_); (case side1 => repeat (first | exact (Kd.R_reads' HO_6.out).2.2 | (with_reducible refine Kd.C_alloc ?_ _) | (with_reducible refine Kd.C_drewN ?_ _) | (with_reducible refine Kd.C_drew ?_))); (case side2 => exact (Kd.R_reads' HO_6.out).2.1); rintro e w55 ⟨v496, v498, rfl, ho0, ho1, hb⟩; refine ⟨_, rfl, ?_⟩; have n0_ := Aside0.mk (Kd.R_below (by (with_reducible repeat (first | apply Kd.R_alloc | apply Kd.R_drewN | apply Kd.R_drew)); exact HO_6.out) hb); have n1_ := Aside0.mk (Kd.R_elder' (by (with_reducible repeat (first | apply Kd.R_alloc | apply Kd.R_drewN | apply Kd.R_drew)); exact HO_7.out) (Kd.R_base ho0) hb); have n2_ := Aside0.mk (Kd.R_lower (Kd.R_new' ho0 (Kd.R_lt (by (with_reducible repeat (first | apply Kd.R_alloc | apply Kd.R_drewN | apply Kd.R_drew)); exact HO_7.out))) (below_size (by repeat (first | (with_reducible first | exact HB.out | apply below_alloc | apply pw_below_drewN | apply below_drew1) | exact HB.out)))); have n3_ := Aside0.mk (Kd.V_lower (Kd.V_mono (ok' := fun k_ => some k_ ≠ (v496 : Value).ownBlock ∧ some k_ ≠ (.slice Ao54 x6_2.length co54 : Value).ownBlock ∧ some k_ ≠ (v483 : Value).ownBlock) ho1 (fun k_ hk_ => ⟨hk_.1, (Kd.fresh' (Kd.R_lt (by (with_reducible repeat (first | apply Kd.R_alloc | apply Kd.R_drewN | apply Kd.R_drew)); exact HO_6.out)) k_ hk_.2.1), (Kd.fresh' (Kd.R_lt (by (with_reducible repeat (first | apply Kd.R_alloc | apply Kd.R_drewN | apply Kd.R_drew)); exact HO_7.out)) k_ hk_.2.1)⟩)) (below_size (by repeat (first | (with_reducible first | exact HB.out | apply below_alloc | apply pw_below_drewN | apply below_drew1) | exact HB.out)))); have n4_ := Aside0.mk (below_step (by repeat (first | (with_reducible first | exact HB.out | apply below_alloc | apply pw_below_drewN | apply below_drew1) | exact HB.out)) hb); clear HO_6; clear HO_7; clear HB; have HO_6 := n0_; have HO_7 := n1_; have HO497 := n2_; have HO499 := n3_; have HB := n4_; clear n0_ n1_ n2_ n3_ n4_; (try clear hb); (try clear hb2); (try clear hk); (try clear hi); (try clear ho0); (try clear ho1); obtain ⟨Ao56, co56, eo56⟩ := Kd.V_slice HO499.out; subst eo56; obtain ⟨Ao57, co57, eo57⟩ := Kd.R_slice HO497.out; subst eo57; obtain ⟨Ao58, co58, eo58⟩ := Kd.R_slice HO_7.out; subst eo58) | (go_at_call 17; (with_reducible refine (watershedref6_Ints.calls k3 _ _ t493 _ _ x7_3 true _ ?side1 ?side2 ?side3 ?side4 A51.out).mono ?_); (case side1 => repeat (first | exact (Kd.R_reads' HO497.out).2.2 | (with_reducible refine Kd.C_alloc ?_ _) | (with_reducible refine Kd.C_drewN ?_ _) | (with_reducible refine Kd.C_drew ?_))); (case side2 => exact (Kd.R_reads' HO497.out).2.1); (case side3 => repeat (first | exact (Kd.R_reads' HO_7.out).2.2 | (with_reducible refine Kd.C_alloc ?_ _) | (with_reducible refine Kd.C_drewN ?_ _) | (with_reducible refine Kd.C_drew ?_))); (case side4 => exact (Kd.R_reads' HO_7.out).2.1); rintro e w' ⟨rfl, ⟨nd, rfl⟩⟩) | (go_at_call 19; (with_reducible refine (path_Right.calls k3 ji6 _ _ x6_2 0 _ _ x7_3 t501 _ ?side1 ?side2 ?side3 ?side4 A53.out).mono ?_); (case side1 => repeat (first | exact (Kd.R_reads' HO_6.out).2.2 | (with_reducible refine Kd.C_alloc ?_ _) | (with_reducible refine Kd.C_drewN ?_ _) | (with_reducible refine Kd.C_drew ?_))); (case side2 => exact (Kd.R_reads' HO_6.out).2.1); (case side3 => repeat (first | exact (Kd.R_reads' HO_7.out).2.2 | (with_reducible refine Kd.C_alloc ?_ _) | (with_reducible refine Kd.C_drewN ?_ _) | (with_reducible refine Kd.C_drew ?_))); (case side4 => exact (Kd.R_reads' HO_7.out).2.1); rintro e w59 ⟨rfl, hb⟩; have n0_ := Aside0.mk (Kd.R_below (by (with_reducible repeat (first | apply Kd.R_alloc | apply Kd.R_drewN | apply Kd.R_drew)); exact HO_6.out) hb); have n1_ := Aside0.mk (Kd.R_below (by (with_reducible repeat (first | apply Kd.R_alloc | apply Kd.R_drewN | apply Kd.R_drew)); exact HO_7.out) hb); have n2_ := Aside0.mk (Kd.R_below (by (with_reducible repeat (first | apply Kd.R_alloc | apply Kd.R_drewN | apply Kd.R_drew)); exact HO497.out) hb); have n3_ := Aside0.mk (Kd.V_below (by (with_reducible repeat (first | apply Kd.V_alloc | apply Kd.V_drewN | apply Kd.V_drew)); exact HO499.out) hb); have n4_ := Aside0.mk (below_step (by repeat (first | (with_reducible first | exact HB.out | apply below_alloc | apply pw_below_drewN | apply below_drew1) | exact HB.out)) hb); clear HO_6; clear HO_7; clear HO497; clear HO499; clear HB; have HO_6 := n0_; have HO_7 := n1_; have HO497 := n2_; have HO499 := n3_; have HB := n4_; clear n0_ n1_ n2_ n3_ n4_; (try clear hb); (try clear hb2); (try clear hk); (try clear hi)))
                                go_ret
                                exact ⟨by first | rfl | (simp [errW_none, errW_some] <;> rfl) | (simp only [← hji6]; first | rfl | (simp [errW_none, errW_some] <;> rfl)) | (simp [*, errW_none, errW_some] <;> rfl), by repeat (first | (with_reducible first | exact HB.out | apply below_alloc | apply pw_below_drewN | apply below_drew1) | exact HB.out)⟩
                              · replace c52 := Bool.eq_false_iff.mpr c52
                                subst c52
                                have H1 : (some false) = some r := by rw [if_neg (show ¬ (false = true) by decide)] at H; exact H
                                clear H
                                have H := H1
                                clear H1
                                exact absurd ((Option.some.inj H).trans HR_.out) (by decide)
                            · rw [if_neg c50] at H
                              have c50b0 : ((t494.length : Int) == 0) = false := beq_eq_false_iff_ne.mpr c50
                              have c50b1 : ((t494.length : Int) != 0) = true := bne_iff_ne.mpr c50
                              have c50b2 : ¬ (t494 = []) := fun h_ => c50 (by rw [h_]; rfl)
                              exact absurd ((Option.some.inj H).trans HR_.out) (by decide)
                          · replace c49 := Bool.eq_false_iff.mpr c49
                            subst c49
                            have H1 : (some false) = some r := by rw [if_neg (show ¬ (false = true) by decide)] at H; exact H
                            clear H
                            have H := H1
                            clear H1
                            exact absurd ((Option.some.inj H).trans HR_.out) (by decide)
      · rw [if_neg c8] at H
        exact absurd H (by simp)
    · rw [if_neg c7] at H
      exact absurd H (by simp)
  · replace c4 := Bool.eq_false_iff.mpr c4
    subst c4
    have H1 : (some false) = some r := by rw [if_neg (show ¬ (false = true) by decide)] at H; exact H
    clear H
    have H := H1
    clear H1
    exact absurd ((Option.some.inj H).trans HR_.out) (by decide)

/-- THE ONE PURE STATEMENT of watershedlaw6_PathLow: yours. -/
def watershedlaw6_PathLow.Pure : Prop := ∀ (a0 : Int) (l1 : List Int), (Lit.int .i64 a0).wf = true → l1.length ≤ maxLen → l1.length * 8 ≤ 140737488351232 → (∀ x ∈ l1, (Lit.int .i64 x).wf = true) → ∃ k, watershedlaw6_PathLow.f k a0 l1 = some true
theorem watershedlaw6_PathLow.walk (P : watershedlaw6_PathLow.Pure) (a0 : Int) (a1 : Option Addr) (len1 cap1 : Nat) (z1 : List Int) (w : World) (w0 : (Lit.int .i64 a0).wf = true) (w1 : (a1 = none ∧ len1 = 0 ∧ cap1 = 0 ∧ z1 = []) ∨ ∃ x, a1 = some x ∧ len1 ≤ cap1 ∧ cap1 ≤ maxLen ∧ z1.length = cap1 ∧ (∀ i, i < z1.length → w.cell? (x.add i) = some (.int .i64 (z1.getD i 0))) ∧ ∀ n ∈ z1, (Lit.int .i64 n).wf = true) (y1 : len1 * 8 ≤ 140737488351232) :
    Calls Try.prog 10 #[.int .i64 a0, .slice a1 len1 cap1] w fun e w' => e = .returned (.bool true) ∧ Below w.heap.size w w' := by
  obtain ⟨l1, rfl, hr1, hm1, hw1, hc1⟩ := ReadsInt.ofRowC w1
  obtain ⟨k, h⟩ := P a0 l1 w0 hm1 y1 hw1
  refine (watershedlaw6_PathLow.calls k a0 _ _ l1 true w (Kd.C_of_reads (d := (0 : Int)) (h1 := fun _ => rfl) hr1) hc1 h).mono ?_
  rintro e w' ⟨rfl, hd⟩
  exact ⟨rfl, hd⟩

end Go.Proofs.Ytpkhdipedmihgaa.P
