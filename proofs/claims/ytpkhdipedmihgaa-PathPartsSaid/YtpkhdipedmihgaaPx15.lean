-- Written by a program of this session: a scratch copy of the kit's printer in which some functions are external. Lean checks it.
import Derived.Test.YtpkhdipedmihgaaPx0
import Derived.Test.YtpkhdipedmihgaaPx2
import Derived.Test.YtpkhdipedmihgaaPx3
import Derived.Test.YtpkhdipedmihgaaYFrom
import Derived.Test.YtpkhdipedmihgaaYWay
namespace Go.Proofs.Ytpkhdipedmihgaa.P
open Go.RowKit Go.Proofs.YtpkhdipedmihgaaW.PrintWords Go.Proofs.YtpkhdipedmihgaaW.PrintLast Go.Proofs.YtpkhdipedmihgaaW.PrintMore
attribute [local go_sem] max2_int min2_int max_two min_two max_three min_three max_four min_four   -- for this text's walks alone
set_option linter.unusedVariables false
set_option linter.unusedSimpArgs false

/-! ### watershedlaw6_PathParts: function 8 -/
mutual
def watershedlaw6_PathParts.j0 : Nat → Int → List (S30) → Int → Int → Int → List Int → List Int → Bool → Option (Bool)
  | 0, _, _, _, _, _, _, _, _ => none
  | k + 1, x11, x12, x13, x14, x15, x16, x17, x57 => if x57 = true then (some false) else (if 0 ≤ x14 then (if x14 < (x16.length : Int) then (if (rd x16 x14) = 1152921504606846976 then (watershedlaw6_PathParts.j1 k x11 x12 x13 x14 x16 false) else (if 0 ≤ x15 then (if x15 < (x17.length : Int) then (if (rd x17 x15) = 1152921504606846976 then (watershedlaw6_PathParts.j1 k x11 x12 x13 x14 x16 false) else (if x15 < (x16.length : Int) then (watershedlaw6_PathParts.j1 k x11 x12 x13 x14 x16 (decide ((rd x16 x15) > (wrap64 ((rd x16 x14) + (rd x17 x15)))))) else (none))) else (none)) else (none))) else (none)) else (none))
def watershedlaw6_PathParts.j1 : Nat → Int → List (S30) → Int → Int → List Int → Bool → Option (Bool)
  | 0, _, _, _, _, _, _ => none
  | k + 1, x11, x12, x13, x14, x16, x85 => if x85 = true then (some false) else ((path_Way.f k x11 x12 x13 x14).bind fun bt427 => (watershedlaw6_PathParts.l0 k x12 x16 bt427.1 bt427.2 x13 0 0))
def watershedlaw6_PathParts.l0 : Nat → List (S30) → List Int → List Int → Bool → Int → Int → Int → Option (Bool)
  | 0, _, _, _, _, _, _, _ => none
  | k + 1, x12, x16, x18, x19, x20, x21, x22 => if x22 < (x18.length : Int) then (watershedlaw6_PathParts.j3 k x12 x16 x18 x19 x20 x21 x22 x19) else (watershedlaw6_PathParts.j3 k x12 x16 x18 x19 x20 x21 x22 false)
def watershedlaw6_PathParts.j3 : Nat → List (S30) → List Int → List Int → Bool → Int → Int → Int → Bool → Option (Bool)
  | 0, _, _, _, _, _, _, _, _ => none
  | k + 1, x12, x16, x18, x19, x20, x21, x22, x101 => if x101 = true then (if 0 ≤ x22 then (if x22 < (x18.length : Int) then (if (rd x18 x22) < 0 then (some false) else (if (rd x18 x22) ≥ (x12.length : Int) then (some false) else (if 0 ≤ x20 then (if x20 < (x16.length : Int) then (if (rd x16 x20) = x21 then (if 0 ≤ (rd x18 x22) then (if (rd x18 x22) < (x12.length : Int) then (watershedlaw6_PathParts.l0 k x12 x16 x18 x19 ((rd_T30 x12 (rd x18 x22)).f1) (wrap64 (x21 + ((rd_T30 x12 (rd x18 x22)).f2))) (wrap64 (x22 + 1))) else (none)) else (none)) else (some false)) else (none)) else (none)))) else (none)) else (none)) else (some true)
end
def watershedlaw6_PathParts.f (k : Nat) (a0 : Int) (l1 : List Int) (a2 : Int) (a3 : Int) (a4 : Int) : Option (Bool) := (watershedlaw6_known.f k).bind fun t408 => (if t408 = true then ((watershedlaw6_within.f a0 12).bind fun t409 => ((watershedlaw6_Arcs.f k (wrap64 (1 + t409)) l1 0).bind fun t410 => ((watershedlaw6_within.f a2 (wrap64 (1 + t409))).bind fun t413 => ((watershedlaw6_within.f a3 (wrap64 (1 + t409))).bind fun t414 => ((watershedlaw6_within.f a4 (wrap64 (1 + t409))).bind fun t415 => ((path_From.f (wrap64 (1 + t409)) t410 t413).bind fun t416 => ((path_From.f (wrap64 (1 + t409)) t410 t414).bind fun t419 => (if (t416.length : Int) = (wrap64 (1 + t409)) then (watershedlaw6_PathParts.j0 k (wrap64 (1 + t409)) t410 t413 t414 t415 t416 t419 ((t419.length : Int) != (wrap64 (1 + t409)))) else (watershedlaw6_PathParts.j0 k (wrap64 (1 + t409)) t410 t413 t414 t415 t416 t419 true))))))))) else (some false))
theorem watershedlaw6_PathParts.mono_l : ∀ k, (∀ y0 y1 y2 y3 y4 y5 y6 y7, LeO (watershedlaw6_PathParts.j0 k y0 y1 y2 y3 y4 y5 y6 y7) (watershedlaw6_PathParts.j0 (k + 1) y0 y1 y2 y3 y4 y5 y6 y7)) ∧ (∀ y0 y1 y2 y3 y4 y5, LeO (watershedlaw6_PathParts.j1 k y0 y1 y2 y3 y4 y5) (watershedlaw6_PathParts.j1 (k + 1) y0 y1 y2 y3 y4 y5)) ∧ (∀ y0 y1 y2 y3 y4 y5 y6, LeO (watershedlaw6_PathParts.l0 k y0 y1 y2 y3 y4 y5 y6) (watershedlaw6_PathParts.l0 (k + 1) y0 y1 y2 y3 y4 y5 y6)) ∧ (∀ y0 y1 y2 y3 y4 y5 y6 y7, LeO (watershedlaw6_PathParts.j3 k y0 y1 y2 y3 y4 y5 y6 y7) (watershedlaw6_PathParts.j3 (k + 1) y0 y1 y2 y3 y4 y5 y6 y7))
  | 0 => ⟨fun _ _ _ _ _ _ _ _ r h => by simp [watershedlaw6_PathParts.j0] at h, fun _ _ _ _ _ _ r h => by simp [watershedlaw6_PathParts.j1] at h, fun _ _ _ _ _ _ _ r h => by simp [watershedlaw6_PathParts.l0] at h, fun _ _ _ _ _ _ _ _ r h => by simp [watershedlaw6_PathParts.j3] at h⟩
  | k + 1 => by
    obtain ⟨ih0, ih1, ih2, ih3⟩ := watershedlaw6_PathParts.mono_l k
    refine ⟨?_, ?_, ?_, ?_⟩
    · intro y0 y1 y2 y3 y4 y5 y6 y7
      unfold watershedlaw6_PathParts.j0
      repeat' first
      | (with_reducible exact ih0 _ _ _ _ _ _ _ _)
      | (with_reducible exact ih1 _ _ _ _ _ _)
      | (with_reducible exact ih2 _ _ _ _ _ _ _)
      | (with_reducible exact ih3 _ _ _ _ _ _ _ _)
      | (with_reducible exact path_Way.mono _ _ _ _ _)
      | (with_reducible exact watershedlaw6_Arcs.mono _ _ _ _)
      | (with_reducible exact watershedlaw6_known.mono _)
      | (with_reducible exact LeO.refl _)
      | (with_reducible exact LeO.none _)
      | (with_reducible refine LeO.ite ?_ ?_)
      | (with_reducible refine LeO.bind ?_ (fun _ => ?_))
      | exact ih0 _ _ _ _ _ _ _ _
      | exact ih1 _ _ _ _ _ _
      | exact ih2 _ _ _ _ _ _ _
      | exact ih3 _ _ _ _ _ _ _ _
      | exact path_Way.mono _ _ _ _ _
      | exact watershedlaw6_Arcs.mono _ _ _ _
      | exact watershedlaw6_known.mono _
      | exact LeO.none _
      | refine LeO.ite ?_ ?_
      | refine LeO.bind ?_ (fun _ => ?_)
    · intro y0 y1 y2 y3 y4 y5
      unfold watershedlaw6_PathParts.j1
      repeat' first
      | (with_reducible exact ih0 _ _ _ _ _ _ _ _)
      | (with_reducible exact ih1 _ _ _ _ _ _)
      | (with_reducible exact ih2 _ _ _ _ _ _ _)
      | (with_reducible exact ih3 _ _ _ _ _ _ _ _)
      | (with_reducible exact path_Way.mono _ _ _ _ _)
      | (with_reducible exact watershedlaw6_Arcs.mono _ _ _ _)
      | (with_reducible exact watershedlaw6_known.mono _)
      | (with_reducible exact LeO.refl _)
      | (with_reducible exact LeO.none _)
      | (with_reducible refine LeO.ite ?_ ?_)
      | (with_reducible refine LeO.bind ?_ (fun _ => ?_))
      | exact ih0 _ _ _ _ _ _ _ _
      | exact ih1 _ _ _ _ _ _
      | exact ih2 _ _ _ _ _ _ _
      | exact ih3 _ _ _ _ _ _ _ _
      | exact path_Way.mono _ _ _ _ _
      | exact watershedlaw6_Arcs.mono _ _ _ _
      | exact watershedlaw6_known.mono _
      | exact LeO.none _
      | refine LeO.ite ?_ ?_
      | refine LeO.bind ?_ (fun _ => ?_)
    · intro y0 y1 y2 y3 y4 y5 y6
      unfold watershedlaw6_PathParts.l0
      repeat' first
      | (with_reducible exact ih0 _ _ _ _ _ _ _ _)
      | (with_reducible exact ih1 _ _ _ _ _ _)
      | (with_reducible exact ih2 _ _ _ _ _ _ _)
      | (with_reducible exact ih3 _ _ _ _ _ _ _ _)
      | (with_reducible exact path_Way.mono _ _ _ _ _)
      | (with_reducible exact watershedlaw6_Arcs.mono _ _ _ _)
      | (with_reducible exact watershedlaw6_known.mono _)
      | (with_reducible exact LeO.refl _)
      | (with_reducible exact LeO.none _)
      | (with_reducible refine LeO.ite ?_ ?_)
      | (with_reducible refine LeO.bind ?_ (fun _ => ?_))
      | exact ih0 _ _ _ _ _ _ _ _
      | exact ih1 _ _ _ _ _ _
      | exact ih2 _ _ _ _ _ _ _
      | exact ih3 _ _ _ _ _ _ _ _
      | exact path_Way.mono _ _ _ _ _
      | exact watershedlaw6_Arcs.mono _ _ _ _
      | exact watershedlaw6_known.mono _
      | exact LeO.none _
      | refine LeO.ite ?_ ?_
      | refine LeO.bind ?_ (fun _ => ?_)
    · intro y0 y1 y2 y3 y4 y5 y6 y7
      unfold watershedlaw6_PathParts.j3
      repeat' first
      | (with_reducible exact ih0 _ _ _ _ _ _ _ _)
      | (with_reducible exact ih1 _ _ _ _ _ _)
      | (with_reducible exact ih2 _ _ _ _ _ _ _)
      | (with_reducible exact ih3 _ _ _ _ _ _ _ _)
      | (with_reducible exact path_Way.mono _ _ _ _ _)
      | (with_reducible exact watershedlaw6_Arcs.mono _ _ _ _)
      | (with_reducible exact watershedlaw6_known.mono _)
      | (with_reducible exact LeO.refl _)
      | (with_reducible exact LeO.none _)
      | (with_reducible refine LeO.ite ?_ ?_)
      | (with_reducible refine LeO.bind ?_ (fun _ => ?_))
      | exact ih0 _ _ _ _ _ _ _ _
      | exact ih1 _ _ _ _ _ _
      | exact ih2 _ _ _ _ _ _ _
      | exact ih3 _ _ _ _ _ _ _ _
      | exact path_Way.mono _ _ _ _ _
      | exact watershedlaw6_Arcs.mono _ _ _ _
      | exact watershedlaw6_known.mono _
      | exact LeO.none _
      | refine LeO.ite ?_ ?_
      | refine LeO.bind ?_ (fun _ => ?_)
theorem watershedlaw6_PathParts.mono : ∀ a0 a1 a2 a3 a4 k, LeO (watershedlaw6_PathParts.f k a0 a1 a2 a3 a4) (watershedlaw6_PathParts.f (k + 1) a0 a1 a2 a3 a4) := by
  intro a0 a1 a2 a3 a4 k
  obtain ⟨ih0, ih1, ih2, ih3⟩ := watershedlaw6_PathParts.mono_l k
  unfold watershedlaw6_PathParts.f
  repeat' first
      | (with_reducible exact ih0 _ _ _ _ _ _ _ _)
      | (with_reducible exact ih1 _ _ _ _ _ _)
      | (with_reducible exact ih2 _ _ _ _ _ _ _)
      | (with_reducible exact ih3 _ _ _ _ _ _ _ _)
      | (with_reducible exact path_Way.mono _ _ _ _ _)
      | (with_reducible exact watershedlaw6_Arcs.mono _ _ _ _)
      | (with_reducible exact watershedlaw6_known.mono _)
      | (with_reducible exact LeO.refl _)
      | (with_reducible exact LeO.none _)
      | (with_reducible refine LeO.ite ?_ ?_)
      | (with_reducible refine LeO.bind ?_ (fun _ => ?_))
      | exact ih0 _ _ _ _ _ _ _ _
      | exact ih1 _ _ _ _ _ _
      | exact ih2 _ _ _ _ _ _ _
      | exact ih3 _ _ _ _ _ _ _ _
      | exact path_Way.mono _ _ _ _ _
      | exact watershedlaw6_Arcs.mono _ _ _ _
      | exact watershedlaw6_known.mono _
      | exact LeO.none _
      | refine LeO.ite ?_ ?_
      | refine LeO.bind ?_ (fun _ => ?_)
set_option maxHeartbeats 8000000 in
set_option maxRecDepth 100000 in
theorem watershedlaw6_PathParts.calls (k : Nat) (a0 : Int) (A1 : Option Addr) (c1 : Nat) (l1 : List Int) (a2 : Int) (a3 : Int) (a4 : Int) (r : Bool) (w : World) (hr1 : Kd.C (Kd.int .i64) w A1 l1.length l1) (hc1 : l1.length ≤ c1) (h : watershedlaw6_PathParts.f k a0 l1 a2 a3 a4 = some r) (hr_ : r = true := by rfl) :
    Calls Try.prog 8 #[.int .i64 a0, .slice A1 l1.length c1, .int .i64 a2, .int .i64 a3, .int .i64 a4] w fun e w' => e = .returned (.bool r) ∧ Below w.heap.size w w' := by
  have HR_ := Aside0.mk hr_
  clear hr_
  have HR1 := Aside0.mk hr1
  have HC1 := Aside0.mk hc1
  clear hr1 hc1
  have HB := Aside0.mk (Below.refl w.heap.size w)
  have H : ((watershedlaw6_known.f k).bind fun t408 => (if t408 = true then ((watershedlaw6_within.f a0 12).bind fun t409 => ((watershedlaw6_Arcs.f k (wrap64 (1 + t409)) l1 0).bind fun t410 => ((watershedlaw6_within.f a2 (wrap64 (1 + t409))).bind fun t413 => ((watershedlaw6_within.f a3 (wrap64 (1 + t409))).bind fun t414 => ((watershedlaw6_within.f a4 (wrap64 (1 + t409))).bind fun t415 => ((path_From.f (wrap64 (1 + t409)) t410 t413).bind fun t416 => ((path_From.f (wrap64 (1 + t409)) t410 t414).bind fun t419 => (if (t416.length : Int) = (wrap64 (1 + t409)) then (watershedlaw6_PathParts.j0 k (wrap64 (1 + t409)) t410 t413 t414 t415 t416 t419 ((t419.length : Int) != (wrap64 (1 + t409)))) else (watershedlaw6_PathParts.j0 k (wrap64 (1 + t409)) t410 t413 t414 t415 t416 t419 true))))))))) else (some false))) = some r := h
  clear h
  replace H := Option.bind_eq_some_iff.mp H
  obtain ⟨t408, A60, H⟩ := H
  replace H : (if t408 = true then ((watershedlaw6_within.f a0 12).bind fun t409 => ((watershedlaw6_Arcs.f k (wrap64 (1 + t409)) l1 0).bind fun t410 => ((watershedlaw6_within.f a2 (wrap64 (1 + t409))).bind fun t413 => ((watershedlaw6_within.f a3 (wrap64 (1 + t409))).bind fun t414 => ((watershedlaw6_within.f a4 (wrap64 (1 + t409))).bind fun t415 => ((path_From.f (wrap64 (1 + t409)) t410 t413).bind fun t416 => ((path_From.f (wrap64 (1 + t409)) t410 t414).bind fun t419 => (if (t416.length : Int) = (wrap64 (1 + t409)) then (watershedlaw6_PathParts.j0 k (wrap64 (1 + t409)) t410 t413 t414 t415 t416 t419 ((t419.length : Int) != (wrap64 (1 + t409)))) else (watershedlaw6_PathParts.j0 k (wrap64 (1 + t409)) t410 t413 t414 t415 t416 t419 true))))))))) else (some false)) = some r := H
  have A6 := Aside0.mk A60
  clear A60
  by_cases c7 : t408 = true
  · subst c7
    have H1 : ((watershedlaw6_within.f a0 12).bind fun t409 => ((watershedlaw6_Arcs.f k (wrap64 (1 + t409)) l1 0).bind fun t410 => ((watershedlaw6_within.f a2 (wrap64 (1 + t409))).bind fun t413 => ((watershedlaw6_within.f a3 (wrap64 (1 + t409))).bind fun t414 => ((watershedlaw6_within.f a4 (wrap64 (1 + t409))).bind fun t415 => ((path_From.f (wrap64 (1 + t409)) t410 t413).bind fun t416 => ((path_From.f (wrap64 (1 + t409)) t410 t414).bind fun t419 => (if (t416.length : Int) = (wrap64 (1 + t409)) then (watershedlaw6_PathParts.j0 k (wrap64 (1 + t409)) t410 t413 t414 t415 t416 t419 ((t419.length : Int) != (wrap64 (1 + t409)))) else (watershedlaw6_PathParts.j0 k (wrap64 (1 + t409)) t410 t413 t414 t415 t416 t419 true))))))))) = some r := by rw [if_pos rfl] at H; exact H
    clear H
    have H := H1
    clear H1
    replace H := Option.bind_eq_some_iff.mp H
    obtain ⟨t409, A80, H⟩ := H
    replace H : ((watershedlaw6_Arcs.f k (wrap64 (1 + t409)) l1 0).bind fun t410 => ((watershedlaw6_within.f a2 (wrap64 (1 + t409))).bind fun t413 => ((watershedlaw6_within.f a3 (wrap64 (1 + t409))).bind fun t414 => ((watershedlaw6_within.f a4 (wrap64 (1 + t409))).bind fun t415 => ((path_From.f (wrap64 (1 + t409)) t410 t413).bind fun t416 => ((path_From.f (wrap64 (1 + t409)) t410 t414).bind fun t419 => (if (t416.length : Int) = (wrap64 (1 + t409)) then (watershedlaw6_PathParts.j0 k (wrap64 (1 + t409)) t410 t413 t414 t415 t416 t419 ((t419.length : Int) != (wrap64 (1 + t409)))) else (watershedlaw6_PathParts.j0 k (wrap64 (1 + t409)) t410 t413 t414 t415 t416 t419 true)))))))) = some r := H
    have A8 := Aside0.mk A80
    clear A80
    replace H := Option.bind_eq_some_iff.mp H
    obtain ⟨t410, A90, H⟩ := H
    replace H : ((watershedlaw6_within.f a2 (wrap64 (1 + t409))).bind fun t413 => ((watershedlaw6_within.f a3 (wrap64 (1 + t409))).bind fun t414 => ((watershedlaw6_within.f a4 (wrap64 (1 + t409))).bind fun t415 => ((path_From.f (wrap64 (1 + t409)) t410 t413).bind fun t416 => ((path_From.f (wrap64 (1 + t409)) t410 t414).bind fun t419 => (if (t416.length : Int) = (wrap64 (1 + t409)) then (watershedlaw6_PathParts.j0 k (wrap64 (1 + t409)) t410 t413 t414 t415 t416 t419 ((t419.length : Int) != (wrap64 (1 + t409)))) else (watershedlaw6_PathParts.j0 k (wrap64 (1 + t409)) t410 t413 t414 t415 t416 t419 true))))))) = some r := H
    have A9 := Aside0.mk A90
    clear A90
    replace H := Option.bind_eq_some_iff.mp H
    obtain ⟨t413, A100, H⟩ := H
    replace H : ((watershedlaw6_within.f a3 (wrap64 (1 + t409))).bind fun t414 => ((watershedlaw6_within.f a4 (wrap64 (1 + t409))).bind fun t415 => ((path_From.f (wrap64 (1 + t409)) t410 t413).bind fun t416 => ((path_From.f (wrap64 (1 + t409)) t410 t414).bind fun t419 => (if (t416.length : Int) = (wrap64 (1 + t409)) then (watershedlaw6_PathParts.j0 k (wrap64 (1 + t409)) t410 t413 t414 t415 t416 t419 ((t419.length : Int) != (wrap64 (1 + t409)))) else (watershedlaw6_PathParts.j0 k (wrap64 (1 + t409)) t410 t413 t414 t415 t416 t419 true)))))) = some r := H
    have A10 := Aside0.mk A100
    clear A100
    replace H := Option.bind_eq_some_iff.mp H
    obtain ⟨t414, A110, H⟩ := H
    replace H : ((watershedlaw6_within.f a4 (wrap64 (1 + t409))).bind fun t415 => ((path_From.f (wrap64 (1 + t409)) t410 t413).bind fun t416 => ((path_From.f (wrap64 (1 + t409)) t410 t414).bind fun t419 => (if (t416.length : Int) = (wrap64 (1 + t409)) then (watershedlaw6_PathParts.j0 k (wrap64 (1 + t409)) t410 t413 t414 t415 t416 t419 ((t419.length : Int) != (wrap64 (1 + t409)))) else (watershedlaw6_PathParts.j0 k (wrap64 (1 + t409)) t410 t413 t414 t415 t416 t419 true))))) = some r := H
    have A11 := Aside0.mk A110
    clear A110
    replace H := Option.bind_eq_some_iff.mp H
    obtain ⟨t415, A120, H⟩ := H
    replace H : ((path_From.f (wrap64 (1 + t409)) t410 t413).bind fun t416 => ((path_From.f (wrap64 (1 + t409)) t410 t414).bind fun t419 => (if (t416.length : Int) = (wrap64 (1 + t409)) then (watershedlaw6_PathParts.j0 k (wrap64 (1 + t409)) t410 t413 t414 t415 t416 t419 ((t419.length : Int) != (wrap64 (1 + t409)))) else (watershedlaw6_PathParts.j0 k (wrap64 (1 + t409)) t410 t413 t414 t415 t416 t419 true)))) = some r := H
    have A12 := Aside0.mk A120
    clear A120
    replace H := Option.bind_eq_some_iff.mp H
    obtain ⟨t416, A130, H⟩ := H
    replace H : ((path_From.f (wrap64 (1 + t409)) t410 t414).bind fun t419 => (if (t416.length : Int) = (wrap64 (1 + t409)) then (watershedlaw6_PathParts.j0 k (wrap64 (1 + t409)) t410 t413 t414 t415 t416 t419 ((t419.length : Int) != (wrap64 (1 + t409)))) else (watershedlaw6_PathParts.j0 k (wrap64 (1 + t409)) t410 t413 t414 t415 t416 t419 true))) = some r := H
    have A13 := Aside0.mk A130
    clear A130
    replace H := Option.bind_eq_some_iff.mp H
    obtain ⟨t419, A140, H⟩ := H
    replace H : (if (t416.length : Int) = (wrap64 (1 + t409)) then (watershedlaw6_PathParts.j0 k (wrap64 (1 + t409)) t410 t413 t414 t415 t416 t419 ((t419.length : Int) != (wrap64 (1 + t409)))) else (watershedlaw6_PathParts.j0 k (wrap64 (1 + t409)) t410 t413 t414 t415 t416 t419 true)) = some r := H
    have A14 := Aside0.mk A140
    clear A140
    have HC15 := Aside0.mk H
    clear H
    go_enter Try.func8, Try.ntmps8
    go_upto_region 7 with (first | (go_at_call 13; (with_reducible refine (watershedlaw6_known.calls k  true _ A6.out).mono ?_); rintro e w16 ⟨rfl, hb⟩; have n0_ := Aside0.mk (below_step (by repeat (first | (with_reducible first | exact HB.out | apply below_alloc | apply pw_below_drewN | apply below_drew1) | exact HB.out)) hb); clear HB; have HB := n0_; clear n0_; (try clear hb); (try clear hb2); (try clear hk); (try clear hi)) | (go_at_call 14; (with_reducible refine (watershedlaw6_within.calls a0 12 t409 _ A8.out).mono ?_); rintro e w' ⟨rfl, ⟨nd, rfl⟩⟩; (try first | exact ⟨rfl, _, World.drewN_drewN _ _ _⟩ | exact ⟨rfl, _, Eq.trans (World.drewN_drewN _ _ _) (congrArg (World.drewN _) (Nat.add_assoc _ _ _))⟩ | exact ⟨rfl, _, (World.drewN_drewN _ _ _).trans ((congrArg (World.drewN _) (Nat.add_assoc _ _ _)).trans (World.drewN_drewN _ _ _).symm)⟩)) | (go_at_call 15; (with_reducible refine (watershedlaw6_Arcs.calls k (wrap64 (1 + t409)) _ _ l1 0 t410 _ ?side1 ?side2 A9.out).mono ?_); (case side1 => repeat (first | exact (Kd.C_below HR1.out (by repeat (first | (with_reducible first | exact HB.out | apply below_alloc | apply pw_below_drewN | apply below_drew1) | exact HB.out))) | (with_reducible refine Kd.C_alloc ?_ _) | (with_reducible refine Kd.C_drewN ?_ _) | (with_reducible refine Kd.C_drew ?_))); (case side2 => exact HC1.out); rintro e w17 ⟨v411, rfl, ho0, hb⟩; have n0_ := Aside0.mk (Kd.R_lower ho0 (below_size (by repeat (first | (with_reducible first | exact HB.out | apply below_alloc | apply pw_below_drewN | apply below_drew1) | exact HB.out)))); have n1_ := Aside0.mk (below_step (by repeat (first | (with_reducible first | exact HB.out | apply below_alloc | apply pw_below_drewN | apply below_drew1) | exact HB.out)) hb); clear HB; have HO412 := n0_; have HB := n1_; clear n0_ n1_; (try clear hb); (try clear hb2); (try clear hk); (try clear hi); (try clear ho0)) | (go_at_call 14; (with_reducible refine (watershedlaw6_within.calls a2 (wrap64 (1 + t409)) t413 _ A10.out).mono ?_); rintro e w' ⟨rfl, ⟨nd, rfl⟩⟩; (try first | exact ⟨rfl, _, World.drewN_drewN _ _ _⟩ | exact ⟨rfl, _, Eq.trans (World.drewN_drewN _ _ _) (congrArg (World.drewN _) (Nat.add_assoc _ _ _))⟩ | exact ⟨rfl, _, (World.drewN_drewN _ _ _).trans ((congrArg (World.drewN _) (Nat.add_assoc _ _ _)).trans (World.drewN_drewN _ _ _).symm)⟩)) | (go_at_call 14; (with_reducible refine (watershedlaw6_within.calls a3 (wrap64 (1 + t409)) t414 _ A11.out).mono ?_); rintro e w' ⟨rfl, ⟨nd, rfl⟩⟩; (try first | exact ⟨rfl, _, World.drewN_drewN _ _ _⟩ | exact ⟨rfl, _, Eq.trans (World.drewN_drewN _ _ _) (congrArg (World.drewN _) (Nat.add_assoc _ _ _))⟩ | exact ⟨rfl, _, (World.drewN_drewN _ _ _).trans ((congrArg (World.drewN _) (Nat.add_assoc _ _ _)).trans (World.drewN_drewN _ _ _).symm)⟩)) | (go_at_call 14; (with_reducible refine (watershedlaw6_within.calls a4 (wrap64 (1 + t409)) t415 _ A12.out).mono ?_); rintro e w' ⟨rfl, ⟨nd, rfl⟩⟩; (try first | exact ⟨rfl, _, World.drewN_drewN _ _ _⟩ | exact ⟨rfl, _, Eq.trans (World.drewN_drewN _ _ _) (congrArg (World.drewN _) (Nat.add_assoc _ _ _))⟩ | exact ⟨rfl, _, (World.drewN_drewN _ _ _).trans ((congrArg (World.drewN _) (Nat.add_assoc _ _ _)).trans (World.drewN_drewN _ _ _).symm)⟩); obtain ⟨Ao18, co18, eo18⟩ := Kd.R_slice HO412.out; subst eo18) | (go_at_call 16; (with_reducible refine (path_From.calls (wrap64 (1 + t409)) _ _ t410 t413 t416 _ ?side1 ?side2 A13.out).mono ?_); (case side1 => repeat (first | exact (Kd.R_reads' HO412.out).2.2 | (with_reducible refine Kd.C_alloc ?_ _) | (with_reducible refine Kd.C_drewN ?_ _) | (with_reducible refine Kd.C_drew ?_))); (case side2 => exact (Kd.R_reads' HO412.out).2.1); rintro e w19 ⟨v417, rfl, ho0, hb⟩; have n0_ := Aside0.mk (Kd.R_below (by (with_reducible repeat (first | apply Kd.R_alloc | apply Kd.R_drewN | apply Kd.R_drew)); exact HO412.out) hb); have n1_ := Aside0.mk (Kd.R_lower ho0 (below_size (by repeat (first | (with_reducible first | exact HB.out | apply below_alloc | apply pw_below_drewN | apply below_drew1) | exact HB.out)))); have n2_ := Aside0.mk (below_step (by repeat (first | (with_reducible first | exact HB.out | apply below_alloc | apply pw_below_drewN | apply below_drew1) | exact HB.out)) hb); clear HO412; clear HB; have HO412 := n0_; have HO418 := n1_; have HB := n2_; clear n0_ n1_ n2_; (try clear hb); (try clear hb2); (try clear hk); (try clear hi); (try clear ho0)) | (go_at_call 16; (with_reducible refine (path_From.calls (wrap64 (1 + t409)) _ _ t410 t414 t419 _ ?side1 ?side2 A14.out).mono ?_); (case side1 => repeat (first | exact (Kd.R_reads' HO412.out).2.2 | (with_reducible refine Kd.C_alloc ?_ _) | (with_reducible refine Kd.C_drewN ?_ _) | (with_reducible refine Kd.C_drew ?_))); (case side2 => exact (Kd.R_reads' HO412.out).2.1); rintro e w20 ⟨v420, rfl, ho0, hb⟩; have n0_ := Aside0.mk (Kd.R_below (by (with_reducible repeat (first | apply Kd.R_alloc | apply Kd.R_drewN | apply Kd.R_drew)); exact HO412.out) hb); have n1_ := Aside0.mk (Kd.R_elder' (by (with_reducible repeat (first | apply Kd.R_alloc | apply Kd.R_drewN | apply Kd.R_drew)); exact HO418.out) (Kd.R_base ho0) hb); have n2_ := Aside0.mk (Kd.R_lower (Kd.R_new' ho0 (Kd.R_lt (by (with_reducible repeat (first | apply Kd.R_alloc | apply Kd.R_drewN | apply Kd.R_drew)); exact HO418.out))) (below_size (by repeat (first | (with_reducible first | exact HB.out | apply below_alloc | apply pw_below_drewN | apply below_drew1) | exact HB.out)))); have n3_ := Aside0.mk (below_step (by repeat (first | (with_reducible first | exact HB.out | apply below_alloc | apply pw_below_drewN | apply below_drew1) | exact HB.out)) hb); clear HO412; clear HO418; clear HB; have HO412 := n0_; have HO418 := n1_; have HO421 := n2_; have HB := n3_; clear n0_ n1_ n2_ n3_; (try clear hb); (try clear hb2); (try clear hk); (try clear hi); (try clear ho0)))
    repeat (go_quiet (first | (go_at_call 13; (with_reducible refine (watershedlaw6_known.calls k  true _ A6.out).mono ?_); rintro e w16 ⟨rfl, hb⟩; have n0_ := Aside0.mk (below_step (by repeat (first | (with_reducible first | exact HB.out | apply below_alloc | apply pw_below_drewN | apply below_drew1) | exact HB.out)) hb); clear HB; have HB := n0_; clear n0_; (try clear hb); (try clear hb2); (try clear hk); (try clear hi)) | (go_at_call 14; (with_reducible refine (watershedlaw6_within.calls a0 12 t409 _ A8.out).mono ?_); rintro e w' ⟨rfl, ⟨nd, rfl⟩⟩; (try first | exact ⟨rfl, _, World.drewN_drewN _ _ _⟩ | exact ⟨rfl, _, Eq.trans (World.drewN_drewN _ _ _) (congrArg (World.drewN _) (Nat.add_assoc _ _ _))⟩ | exact ⟨rfl, _, (World.drewN_drewN _ _ _).trans ((congrArg (World.drewN _) (Nat.add_assoc _ _ _)).trans (World.drewN_drewN _ _ _).symm)⟩)) | (go_at_call 15; (with_reducible refine (watershedlaw6_Arcs.calls k (wrap64 (1 + t409)) _ _ l1 0 t410 _ ?side1 ?side2 A9.out).mono ?_); (case side1 => repeat (first | exact (Kd.C_below HR1.out (by repeat (first | (with_reducible first | exact HB.out | apply below_alloc | apply pw_below_drewN | apply below_drew1) | exact HB.out))) | (with_reducible refine Kd.C_alloc ?_ _) | (with_reducible refine Kd.C_drewN ?_ _) | (with_reducible refine Kd.C_drew ?_))); (case side2 => exact HC1.out); rintro e w17 ⟨v411, rfl, ho0, hb⟩; have n0_ := Aside0.mk (Kd.R_lower ho0 (below_size (by repeat (first | (with_reducible first | exact HB.out | apply below_alloc | apply pw_below_drewN | apply below_drew1) | exact HB.out)))); have n1_ := Aside0.mk (below_step (by repeat (first | (with_reducible first | exact HB.out | apply below_alloc | apply pw_below_drewN | apply below_drew1) | exact HB.out)) hb); clear HB; have HO412 := n0_; have HB := n1_; clear n0_ n1_; (try clear hb); (try clear hb2); (try clear hk); (try clear hi); (try clear ho0)) | (go_at_call 14; (with_reducible refine (watershedlaw6_within.calls a2 (wrap64 (1 + t409)) t413 _ A10.out).mono ?_); rintro e w' ⟨rfl, ⟨nd, rfl⟩⟩; (try first | exact ⟨rfl, _, World.drewN_drewN _ _ _⟩ | exact ⟨rfl, _, Eq.trans (World.drewN_drewN _ _ _) (congrArg (World.drewN _) (Nat.add_assoc _ _ _))⟩ | exact ⟨rfl, _, (World.drewN_drewN _ _ _).trans ((congrArg (World.drewN _) (Nat.add_assoc _ _ _)).trans (World.drewN_drewN _ _ _).symm)⟩)) | (go_at_call 14; (with_reducible refine (watershedlaw6_within.calls a3 (wrap64 (1 + t409)) t414 _ A11.out).mono ?_); rintro e w' ⟨rfl, ⟨nd, rfl⟩⟩; (try first | exact ⟨rfl, _, World.drewN_drewN _ _ _⟩ | exact ⟨rfl, _, Eq.trans (World.drewN_drewN _ _ _) (congrArg (World.drewN _) (Nat.add_assoc _ _ _))⟩ | exact ⟨rfl, _, (World.drewN_drewN _ _ _).trans ((congrArg (World.drewN _) (Nat.add_assoc _ _ _)).trans (World.drewN_drewN _ _ _).symm)⟩)) | (go_at_call 14; (with_reducible refine (watershedlaw6_within.calls a4 (wrap64 (1 + t409)) t415 _ A12.out).mono ?_); rintro e w' ⟨rfl, ⟨nd, rfl⟩⟩; (try first | exact ⟨rfl, _, World.drewN_drewN _ _ _⟩ | exact ⟨rfl, _, Eq.trans (World.drewN_drewN _ _ _) (congrArg (World.drewN _) (Nat.add_assoc _ _ _))⟩ | exact ⟨rfl, _, (World.drewN_drewN _ _ _).trans ((congrArg (World.drewN _) (Nat.add_assoc _ _ _)).trans (World.drewN_drewN _ _ _).symm)⟩); obtain ⟨Ao18, co18, eo18⟩ := Kd.R_slice HO412.out; subst eo18) | (go_at_call 16; (with_reducible refine (path_From.calls (wrap64 (1 + t409)) _ _ t410 t413 t416 _ ?side1 ?side2 A13.out).mono ?_); (case side1 => repeat (first | exact (Kd.R_reads' HO412.out).2.2 | (with_reducible refine Kd.C_alloc ?_ _) | (with_reducible refine Kd.C_drewN ?_ _) | (with_reducible refine Kd.C_drew ?_))); (case side2 => exact (Kd.R_reads' HO412.out).2.1); rintro e w19 ⟨v417, rfl, ho0, hb⟩; have n0_ := Aside0.mk (Kd.R_below (by (with_reducible repeat (first | apply Kd.R_alloc | apply Kd.R_drewN | apply Kd.R_drew)); exact HO412.out) hb); have n1_ := Aside0.mk (Kd.R_lower ho0 (below_size (by repeat (first | (with_reducible first | exact HB.out | apply below_alloc | apply pw_below_drewN | apply below_drew1) | exact HB.out)))); have n2_ := Aside0.mk (below_step (by repeat (first | (with_reducible first | exact HB.out | apply below_alloc | apply pw_below_drewN | apply below_drew1) | exact HB.out)) hb); clear HO412; clear HB; have HO412 := n0_; have HO418 := n1_; have HB := n2_; clear n0_ n1_ n2_; (try clear hb); (try clear hb2); (try clear hk); (try clear hi); (try clear ho0)) | (go_at_call 16; (with_reducible refine (path_From.calls (wrap64 (1 + t409)) _ _ t410 t414 t419 _ ?side1 ?side2 A14.out).mono ?_); (case side1 => repeat (first | exact (Kd.R_reads' HO412.out).2.2 | (with_reducible refine Kd.C_alloc ?_ _) | (with_reducible refine Kd.C_drewN ?_ _) | (with_reducible refine Kd.C_drew ?_))); (case side2 => exact (Kd.R_reads' HO412.out).2.1); rintro e w20 ⟨v420, rfl, ho0, hb⟩; have n0_ := Aside0.mk (Kd.R_below (by (with_reducible repeat (first | apply Kd.R_alloc | apply Kd.R_drewN | apply Kd.R_drew)); exact HO412.out) hb); have n1_ := Aside0.mk (Kd.R_elder' (by (with_reducible repeat (first | apply Kd.R_alloc | apply Kd.R_drewN | apply Kd.R_drew)); exact HO418.out) (Kd.R_base ho0) hb); have n2_ := Aside0.mk (Kd.R_lower (Kd.R_new' ho0 (Kd.R_lt (by (with_reducible repeat (first | apply Kd.R_alloc | apply Kd.R_drewN | apply Kd.R_drew)); exact HO418.out))) (below_size (by repeat (first | (with_reducible first | exact HB.out | apply below_alloc | apply pw_below_drewN | apply below_drew1) | exact HB.out)))); have n3_ := Aside0.mk (below_step (by repeat (first | (with_reducible first | exact HB.out | apply below_alloc | apply pw_below_drewN | apply below_drew1) | exact HB.out)) hb); clear HO412; clear HO418; clear HB; have HO412 := n0_; have HO418 := n1_; have HO421 := n2_; have HB := n3_; clear n0_ n1_ n2_ n3_; (try clear hb); (try clear hb2); (try clear hk); (try clear hi); (try clear ho0))); go_upto_region 7 with (first | (go_at_call 13; (with_reducible refine (watershedlaw6_known.calls k  true _ A6.out).mono ?_); rintro e w16 ⟨rfl, hb⟩; have n0_ := Aside0.mk (below_step (by repeat (first | (with_reducible first | exact HB.out | apply below_alloc | apply pw_below_drewN | apply below_drew1) | exact HB.out)) hb); clear HB; have HB := n0_; clear n0_; (try clear hb); (try clear hb2); (try clear hk); (try clear hi)) | (go_at_call 14; (with_reducible refine (watershedlaw6_within.calls a0 12 t409 _ A8.out).mono ?_); rintro e w' ⟨rfl, ⟨nd, rfl⟩⟩; (try first | exact ⟨rfl, _, World.drewN_drewN _ _ _⟩ | exact ⟨rfl, _, Eq.trans (World.drewN_drewN _ _ _) (congrArg (World.drewN _) (Nat.add_assoc _ _ _))⟩ | exact ⟨rfl, _, (World.drewN_drewN _ _ _).trans ((congrArg (World.drewN _) (Nat.add_assoc _ _ _)).trans (World.drewN_drewN _ _ _).symm)⟩)) | (go_at_call 15; (with_reducible refine (watershedlaw6_Arcs.calls k (wrap64 (1 + t409)) _ _ l1 0 t410 _ ?side1 ?side2 A9.out).mono ?_); (case side1 => repeat (first | exact (Kd.C_below HR1.out (by repeat (first | (with_reducible first | exact HB.out | apply below_alloc | apply pw_below_drewN | apply below_drew1) | exact HB.out))) | (with_reducible refine Kd.C_alloc ?_ _) | (with_reducible refine Kd.C_drewN ?_ _) | (with_reducible refine Kd.C_drew ?_))); (case side2 => exact HC1.out); rintro e w17 ⟨v411, rfl, ho0, hb⟩; have n0_ := Aside0.mk (Kd.R_lower ho0 (below_size (by repeat (first | (with_reducible first | exact HB.out | apply below_alloc | apply pw_below_drewN | apply below_drew1) | exact HB.out)))); have n1_ := Aside0.mk (below_step (by repeat (first | (with_reducible first | exact HB.out | apply below_alloc | apply pw_below_drewN | apply below_drew1) | exact HB.out)) hb); clear HB; have HO412 := n0_; have HB := n1_; clear n0_ n1_; (try clear hb); (try clear hb2); (try clear hk); (try clear hi); (try clear ho0)) | (go_at_call 14; (with_reducible refine (watershedlaw6_within.calls a2 (wrap64 (1 + t409)) t413 _ A10.out).mono ?_); rintro e w' ⟨rfl, ⟨nd, rfl⟩⟩; (try first | exact ⟨rfl, _, World.drewN_drewN _ _ _⟩ | exact ⟨rfl, _, Eq.trans (World.drewN_drewN _ _ _) (congrArg (World.drewN _) (Nat.add_assoc _ _ _))⟩ | exact ⟨rfl, _, (World.drewN_drewN _ _ _).trans ((congrArg (World.drewN _) (Nat.add_assoc _ _ _)).trans (World.drewN_drewN _ _ _).symm)⟩)) | (go_at_call 14; (with_reducible refine (watershedlaw6_within.calls a3 (wrap64 (1 + t409)) t414 _ A11.out).mono ?_); rintro e w' ⟨rfl, ⟨nd, rfl⟩⟩; (try first | exact ⟨rfl, _, World.drewN_drewN _ _ _⟩ | exact ⟨rfl, _, Eq.trans (World.drewN_drewN _ _ _) (congrArg (World.drewN _) (Nat.add_assoc _ _ _))⟩ | exact ⟨rfl, _, (World.drewN_drewN _ _ _).trans ((congrArg (World.drewN _) (Nat.add_assoc _ _ _)).trans (World.drewN_drewN _ _ _).symm)⟩)) | (go_at_call 14; (with_reducible refine (watershedlaw6_within.calls a4 (wrap64 (1 + t409)) t415 _ A12.out).mono ?_); rintro e w' ⟨rfl, ⟨nd, rfl⟩⟩; (try first | exact ⟨rfl, _, World.drewN_drewN _ _ _⟩ | exact ⟨rfl, _, Eq.trans (World.drewN_drewN _ _ _) (congrArg (World.drewN _) (Nat.add_assoc _ _ _))⟩ | exact ⟨rfl, _, (World.drewN_drewN _ _ _).trans ((congrArg (World.drewN _) (Nat.add_assoc _ _ _)).trans (World.drewN_drewN _ _ _).symm)⟩); obtain ⟨Ao18, co18, eo18⟩ := Kd.R_slice HO412.out; subst eo18) | (go_at_call 16; (with_reducible refine (path_From.calls (wrap64 (1 + t409)) _ _ t410 t413 t416 _ ?side1 ?side2 A13.out).mono ?_); (case side1 => repeat (first | exact (Kd.R_reads' HO412.out).2.2 | (with_reducible refine Kd.C_alloc ?_ _) | (with_reducible refine Kd.C_drewN ?_ _) | (with_reducible refine Kd.C_drew ?_))); (case side2 => exact (Kd.R_reads' HO412.out).2.1); rintro e w19 ⟨v417, rfl, ho0, hb⟩; have n0_ := Aside0.mk (Kd.R_below (by (with_reducible repeat (first | apply Kd.R_alloc | apply Kd.R_drewN | apply Kd.R_drew)); exact HO412.out) hb); have n1_ := Aside0.mk (Kd.R_lower ho0 (below_size (by repeat (first | (with_reducible first | exact HB.out | apply below_alloc | apply pw_below_drewN | apply below_drew1) | exact HB.out)))); have n2_ := Aside0.mk (below_step (by repeat (first | (with_reducible first | exact HB.out | apply below_alloc | apply pw_below_drewN | apply below_drew1) | exact HB.out)) hb); clear HO412; clear HB; have HO412 := n0_; have HO418 := n1_; have HB := n2_; clear n0_ n1_ n2_; (try clear hb); (try clear hb2); (try clear hk); (try clear hi); (try clear ho0)) | (go_at_call 16; (with_reducible refine (path_From.calls (wrap64 (1 + t409)) _ _ t410 t414 t419 _ ?side1 ?side2 A14.out).mono ?_); (case side1 => repeat (first | exact (Kd.R_reads' HO412.out).2.2 | (with_reducible refine Kd.C_alloc ?_ _) | (with_reducible refine Kd.C_drewN ?_ _) | (with_reducible refine Kd.C_drew ?_))); (case side2 => exact (Kd.R_reads' HO412.out).2.1); rintro e w20 ⟨v420, rfl, ho0, hb⟩; have n0_ := Aside0.mk (Kd.R_below (by (with_reducible repeat (first | apply Kd.R_alloc | apply Kd.R_drewN | apply Kd.R_drew)); exact HO412.out) hb); have n1_ := Aside0.mk (Kd.R_elder' (by (with_reducible repeat (first | apply Kd.R_alloc | apply Kd.R_drewN | apply Kd.R_drew)); exact HO418.out) (Kd.R_base ho0) hb); have n2_ := Aside0.mk (Kd.R_lower (Kd.R_new' ho0 (Kd.R_lt (by (with_reducible repeat (first | apply Kd.R_alloc | apply Kd.R_drewN | apply Kd.R_drew)); exact HO418.out))) (below_size (by repeat (first | (with_reducible first | exact HB.out | apply below_alloc | apply pw_below_drewN | apply below_drew1) | exact HB.out)))); have n3_ := Aside0.mk (below_step (by repeat (first | (with_reducible first | exact HB.out | apply below_alloc | apply pw_below_drewN | apply below_drew1) | exact HB.out)) hb); clear HO412; clear HO418; clear HB; have HO412 := n0_; have HO418 := n1_; have HO421 := n2_; have HB := n3_; clear n0_ n1_ n2_ n3_; (try clear hb); (try clear hb2); (try clear hk); (try clear hi); (try clear ho0))))
    (try simp only [Act.put, List.setIfInBounds_toArray, List.set_cons_zero, List.set_cons_succ])
    go_cut [57] (fun v57 wc => ∃ (kq : Nat) (x57_14 : Bool), v57 = .bool x57_14 ∧ Aside0 (watershedlaw6_PathParts.j0 kq (wrap64 (1 + t409)) t410 t413 t414 t415 t416 t419 x57_14 = some r) ∧ Aside0 (kq ≤ k) ∧ Aside0 (Kd.R k30 30 wc w.heap.size (fun _ => True) (.slice Ao18 t410.length co18) t410) ∧ Aside0 (Kd.R (Kd.int .i64) 3 wc w.heap.size (fun k_ => some k_ ≠ (v420 : Value).ownBlock) v417 t416) ∧ Aside0 (Kd.R (Kd.int .i64) 3 wc w.heap.size (fun k_ => some k_ ≠ (v417 : Value).ownBlock) v420 t419) ∧ Aside0 (Below w.heap.size w wc))
    case first =>
      have H := HC15.out
      clear HC15
      by_cases c21 : (t416.length : Int) = (wrap64 (1 + t409))
      · rw [if_pos c21] at H
        have c21b0 : ((t416.length : Int) == (wrap64 (1 + t409))) = true := beq_iff_eq.mpr c21
        have c21b1 : ((t416.length : Int) != (wrap64 (1 + t409))) = false := bne_eq_false_iff_eq.mpr c21
        clear c21
        (first | rw [c21b0] | (simp only [i64_w, i32_w]; rw [c21b0]) | skip)
        have H' := Aside0.mk H
        clear H
        obtain ⟨Ao22, co22, eo22⟩ := Kd.R_slice HO418.out
        subst eo22
        obtain ⟨Ao23, co23, eo23⟩ := Kd.R_slice HO421.out
        subst eo23
        go_wp2
        repeat (go_quiet (fail); try go_wp2)
        go_meet
        case rel => exact ⟨_, (((t419.length : Int) != (wrap64 (1 + t409)))), (by first | rfl | (simp; done) | (simp [*]; done)), H', ⟨by first | omega | exact Nat.le_refl _⟩, ⟨by (with_reducible repeat (first | apply Kd.R_alloc | apply Kd.R_drewN | apply Kd.R_drew)); exact HO412.out⟩, ⟨by (with_reducible repeat (first | apply Kd.R_alloc | apply Kd.R_drewN | apply Kd.R_drew)); exact Kd.R_mono HO418.out (fun _ hk => hk.2)⟩, ⟨by (with_reducible repeat (first | apply Kd.R_alloc | apply Kd.R_drewN | apply Kd.R_drew)); exact Kd.R_mono HO421.out (fun _ hk => hk.2)⟩, ⟨by repeat (first | (with_reducible first | exact HB.out | apply below_alloc | apply pw_below_drewN | apply below_drew1) | exact HB.out)⟩⟩
      · rw [if_neg c21] at H
        have c21b0 : ((t416.length : Int) == (wrap64 (1 + t409))) = false := beq_eq_false_iff_ne.mpr c21
        have c21b1 : ((t416.length : Int) != (wrap64 (1 + t409))) = true := bne_iff_ne.mpr c21
        (first | rw [c21b0] | (simp only [i64_w, i32_w]; rw [c21b0]) | skip)
        have H' := Aside0.mk H
        clear H
        obtain ⟨Ao24, co24, eo24⟩ := Kd.R_slice HO418.out
        subst eo24
        go_wp2
        repeat (go_quiet (fail); try go_wp2)
        go_meet
        case rel => exact ⟨_, (true), (by first | rfl | (simp; done) | (simp [*]; done)), H', ⟨by first | omega | exact Nat.le_refl _⟩, ⟨by (with_reducible repeat (first | apply Kd.R_alloc | apply Kd.R_drewN | apply Kd.R_drew)); exact HO412.out⟩, ⟨by (with_reducible repeat (first | apply Kd.R_alloc | apply Kd.R_drewN | apply Kd.R_drew)); exact Kd.R_mono HO418.out (fun _ hk => hk.2)⟩, ⟨by (with_reducible repeat (first | apply Kd.R_alloc | apply Kd.R_drewN | apply Kd.R_drew)); exact Kd.R_mono HO421.out (fun _ hk => hk.2)⟩, ⟨by repeat (first | (with_reducible first | exact HB.out | apply below_alloc | apply pw_below_drewN | apply below_drew1) | exact HB.out)⟩⟩
    case rest =>
      clear HC15
      try clear c1
      try clear c2
      try clear p2
      try clear p6
      try clear c7
      try clear c8
      try clear c21
      try clear c21b0
      try clear c21b1
      obtain ⟨kq, x57_14, rfl, HA, HJ14, HO_12, HO_16, HO_17, HB⟩ := hcut
      cases kq with
      | zero => exact absurd HA.out (by simp [watershedlaw6_PathParts.j0])
      | succ kj14 =>
        have H := HA.out
        clear HA
        simp only [watershedlaw6_PathParts.j0] at H
        by_cases c25 : x57_14 = true
        · subst c25
          have H1 : (some false) = some r := by rw [if_pos rfl] at H; exact H
          clear H
          have H := H1
          clear H1
          exact absurd ((Option.some.inj H).trans HR_.out) (by decide)
        · replace c25 := Bool.eq_false_iff.mpr c25
          subst c25
          have H1 : (if 0 ≤ t414 then (if t414 < (t416.length : Int) then (if (rd t416 t414) = 1152921504606846976 then (watershedlaw6_PathParts.j1 kj14 (wrap64 (1 + t409)) t410 t413 t414 t416 false) else (if 0 ≤ t415 then (if t415 < (t419.length : Int) then (if (rd t419 t415) = 1152921504606846976 then (watershedlaw6_PathParts.j1 kj14 (wrap64 (1 + t409)) t410 t413 t414 t416 false) else (if t415 < (t416.length : Int) then (watershedlaw6_PathParts.j1 kj14 (wrap64 (1 + t409)) t410 t413 t414 t416 (decide ((rd t416 t415) > (wrap64 ((rd t416 t414) + (rd t419 t415)))))) else (none))) else (none)) else (none))) else (none)) else (none)) = some r := by rw [if_neg (show ¬ (false = true) by decide)] at H; exact H
          clear H
          have H := H1
          clear H1
          have HC26 := Aside0.mk H
          clear H
          go_upto_region 9 with (fail)
          repeat (go_quiet (fail); go_upto_region 9 with (fail))
          go_cut [85] (fun v85 wc => ∃ (kq : Nat) (x85_25 : Bool), v85 = .bool x85_25 ∧ Aside0 (watershedlaw6_PathParts.j1 kq (wrap64 (1 + t409)) t410 t413 t414 t416 x85_25 = some r) ∧ Aside0 (kq ≤ kj14) ∧ Aside0 (Kd.R k30 30 wc w.heap.size (fun _ => True) (.slice Ao18 t410.length co18) t410) ∧ Aside0 (Kd.R (Kd.int .i64) 3 wc w.heap.size (fun _ => True) v417 t416) ∧ Aside0 (Below w.heap.size w wc))
          case first =>
            have H := HC26.out
            clear HC26
            by_cases c27 : 0 ≤ t414
            · rw [if_pos c27] at H
              have c27b0 : decide (0 ≤ t414) = true := decide_eq_true c27
              clear c27
              (first | rw [c27b0] | (simp only [i64_w, i32_w]; rw [c27b0]) | skip)
              by_cases c28 : t414 < (t416.length : Int)
              · rw [if_pos c28] at H
                have c28b0 : decide (t414 < (t416.length : Int)) = true := decide_eq_true c28
                clear c28
                by_cases c29 : (rd t416 t414) = 1152921504606846976
                · rw [if_pos c29] at H
                  have c29b0 : ((rd t416 t414) == 1152921504606846976) = true := beq_iff_eq.mpr c29
                  have c29b1 : ((rd t416 t414) != 1152921504606846976) = false := bne_eq_false_iff_eq.mpr c29
                  clear c29
                  have H' := Aside0.mk H
                  clear H
                  obtain ⟨Ao30, co30, eo30⟩ := Kd.R_slice HO_16.out
                  subst eo30
                  have p422 : 0 ≤ (t414 : Int) := of_decide_eq_true (by first | (with_reducible assumption) | assumption)
                  have q422 : t414 < (t416.length : Int) := of_decide_eq_true (by first | (with_reducible assumption) | assumption)
                  obtain ⟨ad422, e422, hx422_0⟩ := Kd.at_int (Kd.R_reads' HO_16.out).2.2 t414 p422 q422
                  cases e422
                  replace p422 := eq_true p422
                  replace q422 := eq_true q422
                  go_wp2
                  repeat (go_quiet (fail); try go_wp2)
                  go_meet
                  case rel => exact ⟨_, (false), (by first | rfl | (simp; done) | (simp [*]; done)), H', ⟨by have := HJ14.out; first | omega | exact Nat.le_refl _⟩, ⟨by (with_reducible repeat (first | apply Kd.R_alloc | apply Kd.R_drewN | apply Kd.R_drew)); exact HO_12.out⟩, ⟨by (with_reducible repeat (first | apply Kd.R_alloc | apply Kd.R_drewN | apply Kd.R_drew)); exact Kd.R_mono HO_16.out (fun _ hk => trivial)⟩, ⟨by repeat (first | (with_reducible first | exact HB.out | apply below_alloc | apply pw_below_drewN | apply below_drew1) | exact HB.out)⟩⟩
                · rw [if_neg c29] at H
                  have c29b0 : ((rd t416 t414) == 1152921504606846976) = false := beq_eq_false_iff_ne.mpr c29
                  have c29b1 : ((rd t416 t414) != 1152921504606846976) = true := bne_iff_ne.mpr c29
                  by_cases c31 : 0 ≤ t415
                  · rw [if_pos c31] at H
                    have c31b0 : decide (0 ≤ t415) = true := decide_eq_true c31
                    clear c31
                    by_cases c32 : t415 < (t419.length : Int)
                    · rw [if_pos c32] at H
                      have c32b0 : decide (t415 < (t419.length : Int)) = true := decide_eq_true c32
                      clear c32
                      by_cases c33 : (rd t419 t415) = 1152921504606846976
                      · rw [if_pos c33] at H
                        have c33b0 : ((rd t419 t415) == 1152921504606846976) = true := beq_iff_eq.mpr c33
                        have c33b1 : ((rd t419 t415) != 1152921504606846976) = false := bne_eq_false_iff_eq.mpr c33
                        clear c33
                        have H' := Aside0.mk H
                        clear H
                        obtain ⟨Ao34, co34, eo34⟩ := Kd.R_slice HO_16.out
                        subst eo34
                        have p422 : 0 ≤ (t414 : Int) := of_decide_eq_true (by first | (with_reducible assumption) | assumption)
                        have q422 : t414 < (t416.length : Int) := of_decide_eq_true (by first | (with_reducible assumption) | assumption)
                        obtain ⟨ad422, e422, hx422_0⟩ := Kd.at_int (Kd.R_reads' HO_16.out).2.2 t414 p422 q422
                        cases e422
                        replace p422 := eq_true p422
                        replace q422 := eq_true q422
                        obtain ⟨Ao35, co35, eo35⟩ := Kd.R_slice HO_17.out
                        subst eo35
                        have p423 : 0 ≤ (t415 : Int) := of_decide_eq_true (by first | (with_reducible assumption) | assumption)
                        have q423 : t415 < (t419.length : Int) := of_decide_eq_true (by first | (with_reducible assumption) | assumption)
                        obtain ⟨ad423, e423, hx423_0⟩ := Kd.at_int (Kd.R_reads' HO_17.out).2.2 t415 p423 q423
                        cases e423
                        replace p423 := eq_true p423
                        replace q423 := eq_true q423
                        go_wp2
                        repeat (go_quiet (fail); try go_wp2)
                        go_meet
                        case rel => exact ⟨_, (false), (by first | rfl | (simp; done) | (simp [*]; done)), H', ⟨by have := HJ14.out; first | omega | exact Nat.le_refl _⟩, ⟨by (with_reducible repeat (first | apply Kd.R_alloc | apply Kd.R_drewN | apply Kd.R_drew)); exact HO_12.out⟩, ⟨by (with_reducible repeat (first | apply Kd.R_alloc | apply Kd.R_drewN | apply Kd.R_drew)); exact Kd.R_mono HO_16.out (fun _ hk => trivial)⟩, ⟨by repeat (first | (with_reducible first | exact HB.out | apply below_alloc | apply pw_below_drewN | apply below_drew1) | exact HB.out)⟩⟩
                      · rw [if_neg c33] at H
                        have c33b0 : ((rd t419 t415) == 1152921504606846976) = false := beq_eq_false_iff_ne.mpr c33
                        have c33b1 : ((rd t419 t415) != 1152921504606846976) = true := bne_iff_ne.mpr c33
                        by_cases c36 : t415 < (t416.length : Int)
                        · rw [if_pos c36] at H
                          have c36b0 : decide (t415 < (t416.length : Int)) = true := decide_eq_true c36
                          clear c36
                          have H' := Aside0.mk H
                          clear H
                          obtain ⟨Ao37, co37, eo37⟩ := Kd.R_slice HO_16.out
                          subst eo37
                          have p422 : 0 ≤ (t414 : Int) := of_decide_eq_true (by first | (with_reducible assumption) | assumption)
                          have q422 : t414 < (t416.length : Int) := of_decide_eq_true (by first | (with_reducible assumption) | assumption)
                          obtain ⟨ad422, e422, hx422_0⟩ := Kd.at_int (Kd.R_reads' HO_16.out).2.2 t414 p422 q422
                          cases e422
                          replace p422 := eq_true p422
                          replace q422 := eq_true q422
                          obtain ⟨Ao38, co38, eo38⟩ := Kd.R_slice HO_17.out
                          subst eo38
                          have p423 : 0 ≤ (t415 : Int) := of_decide_eq_true (by first | (with_reducible assumption) | assumption)
                          have q423 : t415 < (t419.length : Int) := of_decide_eq_true (by first | (with_reducible assumption) | assumption)
                          obtain ⟨ad423, e423, hx423_0⟩ := Kd.at_int (Kd.R_reads' HO_17.out).2.2 t415 p423 q423
                          cases e423
                          replace p423 := eq_true p423
                          replace q423 := eq_true q423
                          have p424 : 0 ≤ (t415 : Int) := of_decide_eq_true (by first | (with_reducible assumption) | assumption)
                          have q424 : t415 < (t416.length : Int) := of_decide_eq_true (by first | (with_reducible assumption) | assumption)
                          obtain ⟨ad424, e424, hx424_0⟩ := Kd.at_int (Kd.R_reads' HO_16.out).2.2 t415 p424 q424
                          obtain rfl : ad422 = ad424 := (by injection e424)
                          replace p424 := eq_true p424
                          replace q424 := eq_true q424
                          have p425 : 0 ≤ (t414 : Int) := of_decide_eq_true (by first | (with_reducible assumption) | assumption)
                          have q425 : t414 < (t416.length : Int) := of_decide_eq_true (by first | (with_reducible assumption) | assumption)
                          obtain ⟨ad425, e425, hx425_0⟩ := Kd.at_int (Kd.R_reads' HO_16.out).2.2 t414 p425 q425
                          obtain rfl : ad422 = ad425 := (by injection e425)
                          replace p425 := eq_true p425
                          replace q425 := eq_true q425
                          have p426 : 0 ≤ (t415 : Int) := of_decide_eq_true (by first | (with_reducible assumption) | assumption)
                          have q426 : t415 < (t419.length : Int) := of_decide_eq_true (by first | (with_reducible assumption) | assumption)
                          obtain ⟨ad426, e426, hx426_0⟩ := Kd.at_int (Kd.R_reads' HO_17.out).2.2 t415 p426 q426
                          obtain rfl : ad423 = ad426 := (by injection e426)
                          replace p426 := eq_true p426
                          replace q426 := eq_true q426
                          go_wp2
                          repeat (go_quiet (fail); try go_wp2)
                          go_meet
                          case rel => exact ⟨_, (decide ((rd t416 t415) > (wrap64 ((rd t416 t414) + (rd t419 t415))))), (by first | rfl | (simp; done) | (simp [*]; done)), H', ⟨by have := HJ14.out; first | omega | exact Nat.le_refl _⟩, ⟨by (with_reducible repeat (first | apply Kd.R_alloc | apply Kd.R_drewN | apply Kd.R_drew)); exact HO_12.out⟩, ⟨by (with_reducible repeat (first | apply Kd.R_alloc | apply Kd.R_drewN | apply Kd.R_drew)); exact Kd.R_mono HO_16.out (fun _ hk => trivial)⟩, ⟨by repeat (first | (with_reducible first | exact HB.out | apply below_alloc | apply pw_below_drewN | apply below_drew1) | exact HB.out)⟩⟩
                        · rw [if_neg c36] at H
                          exact absurd H (by simp)
                    · rw [if_neg c32] at H
                      exact absurd H (by simp)
                  · rw [if_neg c31] at H
                    exact absurd H (by simp)
              · rw [if_neg c28] at H
                exact absurd H (by simp)
            · rw [if_neg c27] at H
              exact absurd H (by simp)
          case rest =>
            clear HC26
            try clear c1
            try clear c2
            try clear p2
            try clear c3
            try clear p4
            try clear q4
            try clear hx4
            try clear p6
            try clear c7
            try clear c8
            try clear c21
            try clear c21b0
            try clear c21b1
            try clear c25
            try clear c27
            try clear c27b0
            try clear c28
            try clear c28b0
            try clear c29
            try clear c29b0
            try clear c29b1
            try clear c31
            try clear c31b0
            try clear c32
            try clear c32b0
            try clear c33
            try clear c33b0
            try clear c33b1
            try clear c36
            try clear c36b0
            try clear hx422_0
            try clear hx423_0
            try clear hx424_0
            try clear hx425_0
            try clear hx426_0
            try clear p2
            try clear p422
            try clear p423
            try clear p424
            try clear p425
            try clear p426
            try clear p6
            try clear q422
            try clear q423
            try clear q424
            try clear q425
            try clear q426
            obtain ⟨kq, x85_25, rfl, HA, HJ25, HO_12, HO_16, HB⟩ := hcut
            cases kq with
            | zero => exact absurd HA.out (by simp [watershedlaw6_PathParts.j1])
            | succ kj25 =>
              have H := HA.out
              clear HA
              simp only [watershedlaw6_PathParts.j1] at H
              by_cases c39 : x85_25 = true
              · subst c39
                have H1 : (some false) = some r := by rw [if_pos rfl] at H; exact H
                clear H
                have H := H1
                clear H1
                exact absurd ((Option.some.inj H).trans HR_.out) (by decide)
              · replace c39 := Bool.eq_false_iff.mpr c39
                subst c39
                have H1 : ((path_Way.f kj25 (wrap64 (1 + t409)) t410 t413 t414).bind fun bt427 => (watershedlaw6_PathParts.l0 kj25 t410 t416 bt427.1 bt427.2 t413 0 0)) = some r := by rw [if_neg (show ¬ (false = true) by decide)] at H; exact H
                clear H
                have H := H1
                clear H1
                replace H := Option.bind_eq_some_iff.mp H
                obtain ⟨⟨t427, t428⟩, A400, H⟩ := H
                replace H : (watershedlaw6_PathParts.l0 kj25 t410 t416 t427 t428 t413 0 0) = some r := H
                have A40 := Aside0.mk A400
                clear A400
                have H' := Aside0.mk H
                clear H
                go_wp2_with (first | (go_at_call 24; (with_reducible refine (path_Way.calls kj25 (wrap64 (1 + t409)) _ _ t410 t413 t414 t427 t428 _ ?side1 ?side2 A40.out).mono ?_); (case side1 => repeat (first | exact (Kd.R_reads' HO_12.out).2.2 | (with_reducible refine Kd.C_alloc ?_ _) | (with_reducible refine Kd.C_drewN ?_ _) | (with_reducible refine Kd.C_drew ?_))); (case side2 => exact (Kd.R_reads' HO_12.out).2.1); rintro e w41 ⟨v429, rfl, ho0, hb⟩; have n0_ := Aside0.mk (Kd.R_below (by (with_reducible repeat (first | apply Kd.R_alloc | apply Kd.R_drewN | apply Kd.R_drew)); exact HO_12.out) hb); have n1_ := Aside0.mk (Kd.R_below (by (with_reducible repeat (first | apply Kd.R_alloc | apply Kd.R_drewN | apply Kd.R_drew)); exact HO_16.out) hb); have n2_ := Aside0.mk (Kd.V_lower (Kd.V_mono (ok' := fun k_ => some k_ ≠ (.slice Ao18 t410.length co18 : Value).ownBlock ∧ some k_ ≠ (v417 : Value).ownBlock) ho0 (fun k_ hk_ => ⟨(Kd.fresh' (Kd.R_lt (by (with_reducible repeat (first | apply Kd.R_alloc | apply Kd.R_drewN | apply Kd.R_drew)); exact HO_12.out)) k_ hk_.2.1), (Kd.fresh' (Kd.R_lt (by (with_reducible repeat (first | apply Kd.R_alloc | apply Kd.R_drewN | apply Kd.R_drew)); exact HO_16.out)) k_ hk_.2.1)⟩)) (below_size (by repeat (first | (with_reducible first | exact HB.out | apply below_alloc | apply pw_below_drewN | apply below_drew1) | exact HB.out)))); have n3_ := Aside0.mk (below_step (by repeat (first | (with_reducible first | exact HB.out | apply below_alloc | apply pw_below_drewN | apply below_drew1) | exact HB.out)) hb); clear HO_12; clear HO_16; clear HB; have HO_12 := n0_; have HO_16 := n1_; have HO430 := n2_; have HB := n3_; clear n0_ n1_ n2_ n3_; (try clear hb); (try clear hb2); (try clear hk); (try clear hi); (try clear ho0)))
                repeat (go_quiet (first | (go_at_call 24; (with_reducible refine (path_Way.calls kj25 (wrap64 (1 + t409)) _ _ t410 t413 t414 t427 t428 _ ?side1 ?side2 A40.out).mono ?_); (case side1 => repeat (first | exact (Kd.R_reads' HO_12.out).2.2 | (with_reducible refine Kd.C_alloc ?_ _) | (with_reducible refine Kd.C_drewN ?_ _) | (with_reducible refine Kd.C_drew ?_))); (case side2 => exact (Kd.R_reads' HO_12.out).2.1); rintro e w41 ⟨v429, rfl, ho0, hb⟩; have n0_ := Aside0.mk (Kd.R_below (by (with_reducible repeat (first | apply Kd.R_alloc | apply Kd.R_drewN | apply Kd.R_drew)); exact HO_12.out) hb); have n1_ := Aside0.mk (Kd.R_below (by (with_reducible repeat (first | apply Kd.R_alloc | apply Kd.R_drewN | apply Kd.R_drew)); exact HO_16.out) hb); have n2_ := Aside0.mk (Kd.V_lower (Kd.V_mono (ok' := fun k_ => some k_ ≠ (.slice Ao18 t410.length co18 : Value).ownBlock ∧ some k_ ≠ (v417 : Value).ownBlock) ho0 (fun k_ hk_ => ⟨(Kd.fresh' (Kd.R_lt (by (with_reducible repeat (first | apply Kd.R_alloc | apply Kd.R_drewN | apply Kd.R_drew)); exact HO_12.out)) k_ hk_.2.1), (Kd.fresh' (Kd.R_lt (by (with_reducible repeat (first | apply Kd.R_alloc | apply Kd.R_drewN | apply Kd.R_drew)); exact HO_16.out)) k_ hk_.2.1)⟩)) (below_size (by repeat (first | (with_reducible first | exact HB.out | apply below_alloc | apply pw_below_drewN | apply below_drew1) | exact HB.out)))); have n3_ := Aside0.mk (below_step (by repeat (first | (with_reducible first | exact HB.out | apply below_alloc | apply pw_below_drewN | apply below_drew1) | exact HB.out)) hb); clear HO_12; clear HO_16; clear HB; have HO_12 := n0_; have HO_16 := n1_; have HO430 := n2_; have HB := n3_; clear n0_ n1_ n2_ n3_; (try clear hb); (try clear hb2); (try clear hk); (try clear hi); (try clear ho0))); try go_wp2_with (first | (go_at_call 24; (with_reducible refine (path_Way.calls kj25 (wrap64 (1 + t409)) _ _ t410 t413 t414 t427 t428 _ ?side1 ?side2 A40.out).mono ?_); (case side1 => repeat (first | exact (Kd.R_reads' HO_12.out).2.2 | (with_reducible refine Kd.C_alloc ?_ _) | (with_reducible refine Kd.C_drewN ?_ _) | (with_reducible refine Kd.C_drew ?_))); (case side2 => exact (Kd.R_reads' HO_12.out).2.1); rintro e w41 ⟨v429, rfl, ho0, hb⟩; have n0_ := Aside0.mk (Kd.R_below (by (with_reducible repeat (first | apply Kd.R_alloc | apply Kd.R_drewN | apply Kd.R_drew)); exact HO_12.out) hb); have n1_ := Aside0.mk (Kd.R_below (by (with_reducible repeat (first | apply Kd.R_alloc | apply Kd.R_drewN | apply Kd.R_drew)); exact HO_16.out) hb); have n2_ := Aside0.mk (Kd.V_lower (Kd.V_mono (ok' := fun k_ => some k_ ≠ (.slice Ao18 t410.length co18 : Value).ownBlock ∧ some k_ ≠ (v417 : Value).ownBlock) ho0 (fun k_ hk_ => ⟨(Kd.fresh' (Kd.R_lt (by (with_reducible repeat (first | apply Kd.R_alloc | apply Kd.R_drewN | apply Kd.R_drew)); exact HO_12.out)) k_ hk_.2.1), (Kd.fresh' (Kd.R_lt (by (with_reducible repeat (first | apply Kd.R_alloc | apply Kd.R_drewN | apply Kd.R_drew)); exact HO_16.out)) k_ hk_.2.1)⟩)) (below_size (by repeat (first | (with_reducible first | exact HB.out | apply below_alloc | apply pw_below_drewN | apply below_drew1) | exact HB.out)))); have n3_ := Aside0.mk (below_step (by repeat (first | (with_reducible first | exact HB.out | apply below_alloc | apply pw_below_drewN | apply below_drew1) | exact HB.out)) hb); clear HO_12; clear HO_16; clear HB; have HO_12 := n0_; have HO_16 := n1_; have HO430 := n2_; have HB := n3_; clear n0_ n1_ n2_ n3_; (try clear hb); (try clear hb2); (try clear hk); (try clear hi); (try clear ho0))))
                go_loopg [20, 21, 22] kj25 (fun kq v20 v21 v22 w' => ∃ (x20_3 : Int) (x21_3 : Int) (x22_3 : Int), v20 = .int .i64 x20_3 ∧ v21 = .int .i64 x21_3 ∧ v22 = .int .i64 x22_3 ∧ Aside0 (watershedlaw6_PathParts.l0 kq t410 t416 t427 t428 x20_3 x21_3 x22_3 = some r) ∧ Aside0 (kq ≤ kj25) ∧ Aside0 (Kd.R k30 30 w' w.heap.size (fun _ => True) (.slice Ao18 t410.length co18) t410) ∧ Aside0 (Kd.R (Kd.int .i64) 3 w' w.heap.size (fun _ => True) v417 t416) ∧ Aside0 (Kd.V (Kd.int .i64) 3 w' w.heap.size (fun k_ => some k_ ≠ ((.slice Ao18 t410.length co18) : Value).ownBlock ∧ some k_ ≠ (v417 : Value).ownBlock) v429 t427) ∧ Aside0 (Below w.heap.size w w'))
                case atStart => exact ⟨(t413), (0), (0), (by first | rfl | (simp; done) | (simp [*]; done)), (by first | rfl | (simp; done) | (simp [*]; done)), (by first | rfl | (simp; done) | (simp [*]; done)), H', ⟨Nat.le_refl _⟩, ⟨by (with_reducible repeat (first | apply Kd.R_alloc | apply Kd.R_drewN | apply Kd.R_drew)); exact HO_12.out⟩, ⟨by (with_reducible repeat (first | apply Kd.R_alloc | apply Kd.R_drewN | apply Kd.R_drew)); exact HO_16.out⟩, ⟨by (with_reducible repeat (first | apply Kd.V_alloc | apply Kd.V_drewN | apply Kd.V_drew)); exact HO430.out⟩, ⟨by repeat (first | (with_reducible first | exact HB.out | apply below_alloc | apply pw_below_drewN | apply below_drew1) | exact HB.out)⟩⟩
                case round =>
                  clear H'
                  try clear c1
                  try clear c2
                  try clear p2
                  try clear c3
                  try clear p4
                  try clear q4
                  try clear hx4
                  try clear p6
                  try clear c7
                  try clear c8
                  try clear c21
                  try clear c21b0
                  try clear c21b1
                  try clear c25
                  try clear c27
                  try clear c27b0
                  try clear c28
                  try clear c28b0
                  try clear c29
                  try clear c29b0
                  try clear c29b1
                  try clear c31
                  try clear c31b0
                  try clear c32
                  try clear c32b0
                  try clear c33
                  try clear c33b0
                  try clear c33b1
                  try clear c36
                  try clear c36b0
                  try clear c39
                  try clear hx422_0
                  try clear hx423_0
                  try clear hx424_0
                  try clear hx425_0
                  try clear hx426_0
                  try clear p2
                  try clear p4
                  try clear p422
                  try clear p423
                  try clear p424
                  try clear p425
                  try clear p426
                  try clear p6
                  try clear q4
                  try clear q422
                  try clear q423
                  try clear q424
                  try clear q425
                  try clear q426
                  obtain ⟨x20_3, x21_3, x22_3, rfl, rfl, rfl, HA, HK3, HO_12, HO_16, HO_18, HB⟩ := hrel
                  cases gk with
                  | zero => exact absurd HA.out (by simp [watershedlaw6_PathParts.l0])
                  | succ k3 =>
                    have H := HA.out
                    clear HA
                    simp only [watershedlaw6_PathParts.l0] at H
                    have HC42 := Aside0.mk H
                    clear H
                    go_upto_region 15 with (fail)
                    repeat (go_quiet (fail); go_upto_region 15 with (fail))
                    go_cut [101] (fun v101 wc => ∃ (kq : Nat) (x101_41 : Bool), v101 = .bool x101_41 ∧ Aside0 (watershedlaw6_PathParts.j3 kq t410 t416 t427 t428 x20_3 x21_3 x22_3 x101_41 = some r) ∧ Aside0 (kq ≤ k3) ∧ Aside0 (Kd.R k30 30 wc w.heap.size (fun _ => True) (.slice Ao18 t410.length co18) t410) ∧ Aside0 (Kd.R (Kd.int .i64) 3 wc w.heap.size (fun _ => True) v417 t416) ∧ Aside0 (Kd.V (Kd.int .i64) 3 wc w.heap.size (fun k_ => some k_ ≠ ((.slice Ao18 t410.length co18) : Value).ownBlock ∧ some k_ ≠ (v417 : Value).ownBlock) v429 t427) ∧ Aside0 (Below w.heap.size w wc))
                    case first =>
                      have H := HC42.out
                      clear HC42
                      by_cases c43 : x22_3 < (t427.length : Int)
                      · rw [if_pos c43] at H
                        have c43b0 : decide (x22_3 < (t427.length : Int)) = true := decide_eq_true c43
                        clear c43
                        (first | rw [c43b0] | (simp only [i64_w, i32_w]; rw [c43b0]) | skip)
                        have H' := Aside0.mk H
                        clear H
                        obtain ⟨Ao44, co44, eo44⟩ := Kd.V_slice HO_18.out
                        subst eo44
                        go_wp2
                        repeat (go_quiet (fail); try go_wp2)
                        go_meet
                        case rel => exact ⟨_, (t428), (by first | rfl | (simp; done) | (simp [*]; done)), H', ⟨by have := HJ14.out; have := HJ25.out; have := HK3.out; first | omega | exact Nat.le_refl _⟩, ⟨by (with_reducible repeat (first | apply Kd.R_alloc | apply Kd.R_drewN | apply Kd.R_drew)); exact HO_12.out⟩, ⟨by (with_reducible repeat (first | apply Kd.R_alloc | apply Kd.R_drewN | apply Kd.R_drew)); exact HO_16.out⟩, ⟨by (with_reducible repeat (first | apply Kd.V_alloc | apply Kd.V_drewN | apply Kd.V_drew)); exact HO_18.out⟩, ⟨by repeat (first | (with_reducible first | exact HB.out | apply below_alloc | apply pw_below_drewN | apply below_drew1) | exact HB.out)⟩⟩
                      · rw [if_neg c43] at H
                        have c43b0 : decide (x22_3 < (t427.length : Int)) = false := decide_eq_false c43
                        clear c43
                        (first | rw [c43b0] | (simp only [i64_w, i32_w]; rw [c43b0]) | skip)
                        have H' := Aside0.mk H
                        clear H
                        obtain ⟨Ao45, co45, eo45⟩ := Kd.V_slice HO_18.out
                        subst eo45
                        go_wp2
                        repeat (go_quiet (fail); try go_wp2)
                        go_meet
                        case rel => exact ⟨_, (false), (by first | rfl | (simp; done) | (simp [*]; done)), H', ⟨by have := HJ14.out; have := HJ25.out; have := HK3.out; first | omega | exact Nat.le_refl _⟩, ⟨by (with_reducible repeat (first | apply Kd.R_alloc | apply Kd.R_drewN | apply Kd.R_drew)); exact HO_12.out⟩, ⟨by (with_reducible repeat (first | apply Kd.R_alloc | apply Kd.R_drewN | apply Kd.R_drew)); exact HO_16.out⟩, ⟨by (with_reducible repeat (first | apply Kd.V_alloc | apply Kd.V_drewN | apply Kd.V_drew)); exact HO_18.out⟩, ⟨by repeat (first | (with_reducible first | exact HB.out | apply below_alloc | apply pw_below_drewN | apply below_drew1) | exact HB.out)⟩⟩
                    case rest =>
                      clear HC42
                      try clear c1
                      try clear c2
                      try clear p2
                      try clear c3
                      try clear c4
                      try clear p4
                      try clear q4
                      try clear hx4
                      try clear p6
                      try clear c7
                      try clear c8
                      try clear c21
                      try clear c21b0
                      try clear c21b1
                      try clear c25
                      try clear c27
                      try clear c27b0
                      try clear c28
                      try clear c28b0
                      try clear c29
                      try clear c29b0
                      try clear c29b1
                      try clear c31
                      try clear c31b0
                      try clear c32
                      try clear c32b0
                      try clear c33
                      try clear c33b0
                      try clear c33b1
                      try clear c36
                      try clear c36b0
                      try clear c39
                      try clear p42
                      try clear q42
                      try clear hx42
                      try clear c43
                      try clear c43b0
                      try clear hx422_0
                      try clear hx423_0
                      try clear hx424_0
                      try clear hx425_0
                      try clear hx426_0
                      try clear p2
                      try clear p4
                      try clear p422
                      try clear p423
                      try clear p424
                      try clear p425
                      try clear p426
                      try clear p6
                      try clear q4
                      try clear q422
                      try clear q423
                      try clear q424
                      try clear q425
                      try clear q426
                      obtain ⟨kq, x101_41, rfl, HA, HJ41, HO_12, HO_16, HO_18, HB⟩ := hcut
                      cases kq with
                      | zero => exact absurd HA.out (by simp [watershedlaw6_PathParts.j3])
                      | succ kj41 =>
                        have H := HA.out
                        clear HA
                        simp only [watershedlaw6_PathParts.j3] at H
                        by_cases c46 : x101_41 = true
                        · subst c46
                          have H1 : (if 0 ≤ x22_3 then (if x22_3 < (t427.length : Int) then (if (rd t427 x22_3) < 0 then (some false) else (if (rd t427 x22_3) ≥ (t410.length : Int) then (some false) else (if 0 ≤ x20_3 then (if x20_3 < (t416.length : Int) then (if (rd t416 x20_3) = x21_3 then (if 0 ≤ (rd t427 x22_3) then (if (rd t427 x22_3) < (t410.length : Int) then (watershedlaw6_PathParts.l0 kj41 t410 t416 t427 t428 ((rd_T30 t410 (rd t427 x22_3)).f1) (wrap64 (x21_3 + ((rd_T30 t410 (rd t427 x22_3)).f2))) (wrap64 (x22_3 + 1))) else (none)) else (none)) else (some false)) else (none)) else (none)))) else (none)) else (none)) = some r := by rw [if_pos rfl] at H; exact H
                          clear H
                          have H := H1
                          clear H1
                          by_cases c47 : 0 ≤ x22_3
                          · rw [if_pos c47] at H
                            have c47b0 : decide (0 ≤ x22_3) = true := decide_eq_true c47
                            clear c47
                            by_cases c48 : x22_3 < (t427.length : Int)
                            · rw [if_pos c48] at H
                              have c48b0 : decide (x22_3 < (t427.length : Int)) = true := decide_eq_true c48
                              clear c48
                              by_cases c49 : (rd t427 x22_3) < 0
                              · rw [if_pos c49] at H
                                have c49b0 : decide ((rd t427 x22_3) < 0) = true := decide_eq_true c49
                                clear c49
                                exact absurd ((Option.some.inj H).trans HR_.out) (by decide)
                              · rw [if_neg c49] at H
                                have c49b0 : decide ((rd t427 x22_3) < 0) = false := decide_eq_false c49
                                clear c49
                                by_cases c50 : (rd t427 x22_3) ≥ (t410.length : Int)
                                · rw [if_pos c50] at H
                                  have c50b0 : decide ((t410.length : Int) ≤ (rd t427 x22_3)) = true := decide_eq_true c50
                                  clear c50
                                  exact absurd ((Option.some.inj H).trans HR_.out) (by decide)
                                · rw [if_neg c50] at H
                                  have c50b0 : decide ((t410.length : Int) ≤ (rd t427 x22_3)) = false := decide_eq_false c50
                                  clear c50
                                  by_cases c51 : 0 ≤ x20_3
                                  · rw [if_pos c51] at H
                                    have c51b0 : decide (0 ≤ x20_3) = true := decide_eq_true c51
                                    clear c51
                                    by_cases c52 : x20_3 < (t416.length : Int)
                                    · rw [if_pos c52] at H
                                      have c52b0 : decide (x20_3 < (t416.length : Int)) = true := decide_eq_true c52
                                      clear c52
                                      by_cases c53 : (rd t416 x20_3) = x21_3
                                      · rw [if_pos c53] at H
                                        have c53b0 : ((rd t416 x20_3) == x21_3) = true := beq_iff_eq.mpr c53
                                        have c53b1 : ((rd t416 x20_3) != x21_3) = false := bne_eq_false_iff_eq.mpr c53
                                        clear c53
                                        by_cases c54 : 0 ≤ (rd t427 x22_3)
                                        · rw [if_pos c54] at H
                                          have c54b0 : decide (0 ≤ (rd t427 x22_3)) = true := decide_eq_true c54
                                          clear c54
                                          by_cases c55 : (rd t427 x22_3) < (t410.length : Int)
                                          · rw [if_pos c55] at H
                                            have c55b0 : decide ((rd t427 x22_3) < (t410.length : Int)) = true := decide_eq_true c55
                                            clear c55
                                            have H' := Aside0.mk H
                                            clear H
                                            obtain ⟨Ao56, co56, eo56⟩ := Kd.V_slice HO_18.out
                                            subst eo56
                                            have p431 : 0 ≤ (x22_3 : Int) := of_decide_eq_true (by first | (with_reducible assumption) | assumption)
                                            have q431 : x22_3 < (t427.length : Int) := of_decide_eq_true (by first | (with_reducible assumption) | assumption)
                                            obtain ⟨ad431, e431, hx431_0⟩ := Kd.at_int (Kd.V_reads' HO_18.out).2.2 x22_3 p431 q431
                                            cases e431
                                            replace p431 := eq_true p431
                                            replace q431 := eq_true q431
                                            have p432 : 0 ≤ (x22_3 : Int) := of_decide_eq_true (by first | (with_reducible assumption) | assumption)
                                            have q432 : x22_3 < (t427.length : Int) := of_decide_eq_true (by first | (with_reducible assumption) | assumption)
                                            obtain ⟨ad432, e432, hx432_0⟩ := Kd.at_int (Kd.V_reads' HO_18.out).2.2 x22_3 p432 q432
                                            obtain rfl : ad431 = ad432 := (by injection e432)
                                            replace p432 := eq_true p432
                                            replace q432 := eq_true q432
                                            obtain ⟨Ao57, co57, eo57⟩ := Kd.R_slice HO_16.out
                                            subst eo57
                                            have p433 : 0 ≤ (x20_3 : Int) := of_decide_eq_true (by first | (with_reducible assumption) | assumption)
                                            have q433 : x20_3 < (t416.length : Int) := of_decide_eq_true (by first | (with_reducible assumption) | assumption)
                                            obtain ⟨ad433, e433, hx433_0⟩ := Kd.at_int (Kd.R_reads' HO_16.out).2.2 x20_3 p433 q433
                                            cases e433
                                            replace p433 := eq_true p433
                                            replace q433 := eq_true q433
                                            have p434 : 0 ≤ (x22_3 : Int) := of_decide_eq_true (by first | (with_reducible assumption) | assumption)
                                            have q434 : x22_3 < (t427.length : Int) := of_decide_eq_true (by first | (with_reducible assumption) | assumption)
                                            obtain ⟨ad434, e434, hx434_0⟩ := Kd.at_int (Kd.V_reads' HO_18.out).2.2 x22_3 p434 q434
                                            obtain rfl : ad431 = ad434 := (by injection e434)
                                            replace p434 := eq_true p434
                                            replace q434 := eq_true q434
                                            have p435 : 0 ≤ ((rd t427 x22_3) : Int) := of_decide_eq_true (by first | (with_reducible assumption) | assumption)
                                            have q435 : (rd t427 x22_3) < (t410.length : Int) := of_decide_eq_true (by first | (with_reducible assumption) | assumption)
                                            obtain ⟨ad435, e435, hx435_0, hx435_1, hx435_2⟩ := at_T30 (Kd.R_reads' HO_12.out).2.2 (rd t427 x22_3) p435 q435
                                            cases e435
                                            replace p435 := eq_true p435
                                            replace q435 := eq_true q435
                                            have p436 : 0 ≤ (x22_3 : Int) := of_decide_eq_true (by first | (with_reducible assumption) | assumption)
                                            have q436 : x22_3 < (t427.length : Int) := of_decide_eq_true (by first | (with_reducible assumption) | assumption)
                                            obtain ⟨ad436, e436, hx436_0⟩ := Kd.at_int (Kd.V_reads' HO_18.out).2.2 x22_3 p436 q436
                                            obtain rfl : ad431 = ad436 := (by injection e436)
                                            replace p436 := eq_true p436
                                            replace q436 := eq_true q436
                                            have p437 : 0 ≤ ((rd t427 x22_3) : Int) := of_decide_eq_true (by first | (with_reducible assumption) | assumption)
                                            have q437 : (rd t427 x22_3) < (t410.length : Int) := of_decide_eq_true (by first | (with_reducible assumption) | assumption)
                                            obtain ⟨ad437, e437, hx437_0, hx437_1, hx437_2⟩ := at_T30 (Kd.R_reads' HO_12.out).2.2 (rd t427 x22_3) p437 q437
                                            obtain rfl : ad435 = ad437 := (by injection e437)
                                            replace p437 := eq_true p437
                                            replace q437 := eq_true q437
                                            go_wp2
                                            repeat (go_quiet (fail); try go_wp2)
                                            go_roundg kj41
                                            case measure => have := HJ14.out; have := HJ25.out; have := HK3.out; have := HJ41.out; omega
                                            case rel => exact ⟨((rd_T30 t410 (rd t427 x22_3)).f1), (wrap64 (x21_3 + ((rd_T30 t410 (rd t427 x22_3)).f2))), (wrap64 (x22_3 + 1)), (by first | rfl | (simp; done) | (simp [*]; done)), (by first | rfl | (simp; done) | (simp [*]; done)), (by first | rfl | (simp; done) | (simp [*]; done)), H', ⟨by have := HJ14.out; have := HJ25.out; have := HK3.out; have := HJ41.out; omega⟩, ⟨by (with_reducible repeat (first | apply Kd.R_alloc | apply Kd.R_drewN | apply Kd.R_drew)); exact HO_12.out⟩, ⟨by (with_reducible repeat (first | apply Kd.R_alloc | apply Kd.R_drewN | apply Kd.R_drew)); exact HO_16.out⟩, ⟨by (with_reducible repeat (first | apply Kd.V_alloc | apply Kd.V_drewN | apply Kd.V_drew)); exact HO_18.out⟩, ⟨by repeat (first | (with_reducible first | exact HB.out | apply below_alloc | apply pw_below_drewN | apply below_drew1) | exact HB.out)⟩⟩
                                          · rw [if_neg c55] at H
                                            exact absurd H (by simp)
                                        · rw [if_neg c54] at H
                                          exact absurd H (by simp)
                                      · rw [if_neg c53] at H
                                        have c53b0 : ((rd t416 x20_3) == x21_3) = false := beq_eq_false_iff_ne.mpr c53
                                        have c53b1 : ((rd t416 x20_3) != x21_3) = true := bne_iff_ne.mpr c53
                                        exact absurd ((Option.some.inj H).trans HR_.out) (by decide)
                                    · rw [if_neg c52] at H
                                      exact absurd H (by simp)
                                  · rw [if_neg c51] at H
                                    exact absurd H (by simp)
                            · rw [if_neg c48] at H
                              exact absurd H (by simp)
                          · rw [if_neg c47] at H
                            exact absurd H (by simp)
                        · replace c46 := Bool.eq_false_iff.mpr c46
                          subst c46
                          have H1 : (some true) = some r := by rw [if_neg (show ¬ (false = true) by decide)] at H; exact H
                          clear H
                          have H := H1
                          clear H1
                          obtain rfl := Option.some.inj H
                          go_wp2
                          repeat (go_quiet (fail); try go_wp2)
                          go_ret
                          exact ⟨by first | rfl | (simp [errW_none, errW_some] <;> rfl) | (simp [*, errW_none, errW_some] <;> rfl), by repeat (first | (with_reducible first | exact HB.out | apply below_alloc | apply pw_below_drewN | apply below_drew1) | exact HB.out)⟩
  · replace c7 := Bool.eq_false_iff.mpr c7
    subst c7
    have H1 : (some false) = some r := by rw [if_neg (show ¬ (false = true) by decide)] at H; exact H
    clear H
    have H := H1
    clear H1
    exact absurd ((Option.some.inj H).trans HR_.out) (by decide)

/-- THE ONE PURE STATEMENT of watershedlaw6_PathParts: yours. -/
def watershedlaw6_PathParts.Pure : Prop := ∀ (a0 : Int) (l1 : List Int) (a2 : Int) (a3 : Int) (a4 : Int), (Lit.int .i64 a0).wf = true → l1.length ≤ maxLen → l1.length * 8 ≤ 140737488351232 → (∀ x ∈ l1, (Lit.int .i64 x).wf = true) → (Lit.int .i64 a2).wf = true → (Lit.int .i64 a3).wf = true → (Lit.int .i64 a4).wf = true → ∃ k, watershedlaw6_PathParts.f k a0 l1 a2 a3 a4 = some true
theorem watershedlaw6_PathParts.walk (P : watershedlaw6_PathParts.Pure) (a0 : Int) (a1 : Option Addr) (len1 cap1 : Nat) (z1 : List Int) (a2 : Int) (a3 : Int) (a4 : Int) (w : World) (w0 : (Lit.int .i64 a0).wf = true) (w1 : (a1 = none ∧ len1 = 0 ∧ cap1 = 0 ∧ z1 = []) ∨ ∃ x, a1 = some x ∧ len1 ≤ cap1 ∧ cap1 ≤ maxLen ∧ z1.length = cap1 ∧ (∀ i, i < z1.length → w.cell? (x.add i) = some (.int .i64 (z1.getD i 0))) ∧ ∀ n ∈ z1, (Lit.int .i64 n).wf = true) (y1 : len1 * 8 ≤ 140737488351232) (w2 : (Lit.int .i64 a2).wf = true) (w3 : (Lit.int .i64 a3).wf = true) (w4 : (Lit.int .i64 a4).wf = true) :
    Calls Try.prog 8 #[.int .i64 a0, .slice a1 len1 cap1, .int .i64 a2, .int .i64 a3, .int .i64 a4] w fun e w' => e = .returned (.bool true) ∧ Below w.heap.size w w' := by
  obtain ⟨l1, rfl, hr1, hm1, hw1, hc1⟩ := ReadsInt.ofRowC w1
  obtain ⟨k, h⟩ := P a0 l1 a2 a3 a4 w0 hm1 y1 hw1 w2 w3 w4
  refine (watershedlaw6_PathParts.calls k a0 _ _ l1 a2 a3 a4 true w (Kd.C_of_reads (d := (0 : Int)) (h1 := fun _ => rfl) hr1) hc1 h).mono ?_
  rintro e w' ⟨rfl, hd⟩
  exact ⟨rfl, hd⟩

end Go.Proofs.Ytpkhdipedmihgaa.P
