-- Written by a program of this session: a scratch copy of the kit's printer in which some functions are external. Lean checks it.
import Derived.Test.YtpkhdipedmihgaaPx0
import Derived.Test.YtpkhdipedmihgaaPx2
import Derived.Test.YtpkhdipedmihgaaPx3
import Derived.Test.YtpkhdipedmihgaaYFrom
namespace Go.Proofs.Ytpkhdipedmihgaa.P
open Go.RowKit Go.Proofs.YtpkhdipedmihgaaW.PrintWords Go.Proofs.YtpkhdipedmihgaaW.PrintLast Go.Proofs.YtpkhdipedmihgaaW.PrintMore
attribute [local go_sem] max2_int min2_int max_two min_two max_three min_three max_four min_four   -- for this text's walks alone
set_option linter.unusedVariables false
set_option linter.unusedSimpArgs false

/-! ### watershedlaw6_PathMore: function 7 -/
mutual
def watershedlaw6_PathMore.j0 : Nat → Int → List Int → List Int → List Int → Bool → Option (Bool)
  | 0, _, _, _, _, _ => none
  | k + 1, x11, x16, x17, x18, x80 => if x80 = true then (some false) else (watershedlaw6_PathMore.l0 k x11 x16 x17 x18 0)
def watershedlaw6_PathMore.l0 : Nat → Int → List Int → List Int → List Int → Int → Option (Bool)
  | 0, _, _, _, _, _ => none
  | k + 1, x11, x16, x17, x18, x19 => if x19 < x11 then (if 0 ≤ x19 then (if x19 < (x17.length : Int) then (if x19 < (x16.length : Int) then (if (rd x17 x19) > (rd x16 x19) then (some false) else (if x19 < (x18.length : Int) then (if (rd x18 x19) = (rd x16 x19) then (watershedlaw6_PathMore.l0 k x11 x16 x17 x18 (wrap64 (x19 + 1))) else (some false)) else (none))) else (none)) else (none)) else (none)) else (some true)
end
def watershedlaw6_PathMore.f (k : Nat) (a0 : Int) (l1 : List Int) (a2 : Int) (a3 : Int) (a4 : Int) : Option (Bool) := (watershedlaw6_known.f k).bind fun t358 => (if t358 = true then ((watershedlaw6_within.f a0 14).bind fun t359 => ((watershedlaw6_Arcs.f k (wrap64 (1 + t359)) l1 0).bind fun t360 => ((watershedlaw6_within.f a2 (wrap64 (1 + t359))).bind fun t363 => ((watershedlaw6_within.f a4 (wrap64 ((t360.length : Int) + 1))).bind fun t364 => ((some (([] : List (S30)) : List (S30))).bind fun y365 => (if 0 ≤ t364 then (if t364 ≤ (t360.length : Int) then ((some (t360.drop (t364 : Int).toNat : List (S30))).bind fun y368 => (if y365.length + y368.length < 5864062014805 then ((some (y365 ++ y368 : List (S30))).bind fun y372 => ((some (t360.take (t364 : Int).toNat : List (S30))).bind fun y375 => (if y372.length + y375.length < 5864062014805 then ((some (y372 ++ y375 : List (S30))).bind fun y379 => ((watershedlaw6_Arcs.f k (wrap64 (1 + t359)) (([a3] : List Int)) 0).bind fun t385 => (if y379.length + t385.length < 5864062014805 then ((some (y379 ++ t385 : List (S30))).bind fun y388 => ((path_From.f (wrap64 (1 + t359)) t360 t363).bind fun t391 => ((path_From.f (wrap64 (1 + t359)) y388 t363).bind fun t394 => (if 0 ≤ (t360.length : Int) then (if (t360.length : Int) ≤ (y388.length : Int) then ((path_From.f (wrap64 (1 + t359)) (y388.take ((t360.length : Int) : Int).toNat) t363).bind fun t401 => (if (t391.length : Int) = (wrap64 (1 + t359)) then (if (t394.length : Int) = (wrap64 (1 + t359)) then (watershedlaw6_PathMore.j0 k (wrap64 (1 + t359)) t391 t394 t401 ((t401.length : Int) != (wrap64 (1 + t359)))) else (watershedlaw6_PathMore.j0 k (wrap64 (1 + t359)) t391 t394 t401 true)) else (watershedlaw6_PathMore.j0 k (wrap64 (1 + t359)) t391 t394 t401 true))) else (none)) else (none))))) else (none)))) else (none)))) else (none))) else (none)) else (none))))))) else (some false))
theorem watershedlaw6_PathMore.mono_l : ∀ k, (∀ y0 y1 y2 y3 y4, LeO (watershedlaw6_PathMore.j0 k y0 y1 y2 y3 y4) (watershedlaw6_PathMore.j0 (k + 1) y0 y1 y2 y3 y4)) ∧ (∀ y0 y1 y2 y3 y4, LeO (watershedlaw6_PathMore.l0 k y0 y1 y2 y3 y4) (watershedlaw6_PathMore.l0 (k + 1) y0 y1 y2 y3 y4))
  | 0 => ⟨fun _ _ _ _ _ r h => by simp [watershedlaw6_PathMore.j0] at h, fun _ _ _ _ _ r h => by simp [watershedlaw6_PathMore.l0] at h⟩
  | k + 1 => by
    obtain ⟨ih0, ih1⟩ := watershedlaw6_PathMore.mono_l k
    refine ⟨?_, ?_⟩
    · intro y0 y1 y2 y3 y4
      unfold watershedlaw6_PathMore.j0
      repeat' first
      | (with_reducible exact ih0 _ _ _ _ _)
      | (with_reducible exact ih1 _ _ _ _ _)
      | (with_reducible exact watershedlaw6_Arcs.mono _ _ _ _)
      | (with_reducible exact watershedlaw6_known.mono _)
      | (with_reducible exact LeO.refl _)
      | (with_reducible exact LeO.none _)
      | (with_reducible refine LeO.ite ?_ ?_)
      | (with_reducible refine LeO.bind ?_ (fun _ => ?_))
      | exact ih0 _ _ _ _ _
      | exact ih1 _ _ _ _ _
      | exact watershedlaw6_Arcs.mono _ _ _ _
      | exact watershedlaw6_known.mono _
      | exact LeO.none _
      | refine LeO.ite ?_ ?_
      | refine LeO.bind ?_ (fun _ => ?_)
    · intro y0 y1 y2 y3 y4
      unfold watershedlaw6_PathMore.l0
      repeat' first
      | (with_reducible exact ih0 _ _ _ _ _)
      | (with_reducible exact ih1 _ _ _ _ _)
      | (with_reducible exact watershedlaw6_Arcs.mono _ _ _ _)
      | (with_reducible exact watershedlaw6_known.mono _)
      | (with_reducible exact LeO.refl _)
      | (with_reducible exact LeO.none _)
      | (with_reducible refine LeO.ite ?_ ?_)
      | (with_reducible refine LeO.bind ?_ (fun _ => ?_))
      | exact ih0 _ _ _ _ _
      | exact ih1 _ _ _ _ _
      | exact watershedlaw6_Arcs.mono _ _ _ _
      | exact watershedlaw6_known.mono _
      | exact LeO.none _
      | refine LeO.ite ?_ ?_
      | refine LeO.bind ?_ (fun _ => ?_)
theorem watershedlaw6_PathMore.mono : ∀ a0 a1 a2 a3 a4 k, LeO (watershedlaw6_PathMore.f k a0 a1 a2 a3 a4) (watershedlaw6_PathMore.f (k + 1) a0 a1 a2 a3 a4) := by
  intro a0 a1 a2 a3 a4 k
  obtain ⟨ih0, ih1⟩ := watershedlaw6_PathMore.mono_l k
  unfold watershedlaw6_PathMore.f
  repeat' first
      | (with_reducible exact ih0 _ _ _ _ _)
      | (with_reducible exact ih1 _ _ _ _ _)
      | (with_reducible exact watershedlaw6_Arcs.mono _ _ _ _)
      | (with_reducible exact watershedlaw6_known.mono _)
      | (with_reducible exact LeO.refl _)
      | (with_reducible exact LeO.none _)
      | (with_reducible refine LeO.ite ?_ ?_)
      | (with_reducible refine LeO.bind ?_ (fun _ => ?_))
      | exact ih0 _ _ _ _ _
      | exact ih1 _ _ _ _ _
      | exact watershedlaw6_Arcs.mono _ _ _ _
      | exact watershedlaw6_known.mono _
      | exact LeO.none _
      | refine LeO.ite ?_ ?_
      | refine LeO.bind ?_ (fun _ => ?_)
def watershedlaw6_PathMore.T7 : Bool × List (List Nat × List Nat) := (true, [([], []), ([], []), ([], []), ([1, 2], [1, 2]), ([0, 3], [0, 3]), ([], []), ([], []), ([5, 6], [5, 6]), ([4, 7, 4], [4, 7]), ([], []), ([], []), ([10], [10]), ([9, 11, 8], [9, 11]), ([8, 12, 12], [8, 12]), ([13, 13, 0, 1, 2, 3, 4, 5, 6, 7, 8, 9, 10, 11, 12, 13], [13])])
def watershedlaw6_PathMore.B7 : List Nat := [0, 0, 0, 6, 15, 0, 0, 96, 255, 0, 0, 1024, 4095, 8191, 16383]
theorem watershedlaw6_PathMore.tab7 : rtab .any (opsOf Try.f7 7) = watershedlaw6_PathMore.T7 := by kernel_rfl
theorem watershedlaw6_PathMore.bits7 : waitsOk watershedlaw6_PathMore.T7.2 watershedlaw6_PathMore.B7 = true := by kernel_rfl
def watershedlaw6_PathMore.T8 : Bool × List (List Nat × List Nat) := (true, [([], []), ([], []), ([], []), ([0, 1, 2], [0, 1, 2]), ([], []), ([], []), ([], []), ([4, 5, 6, 3], [4, 5, 6]), ([], []), ([], []), ([], []), ([10], [10]), ([9, 11], [9, 11]), ([], []), ([8, 12, 13, 7], [8, 12, 13]), ([3, 14, 0, 1, 2, 3], [3]), ([7, 15, 0, 1, 2, 3, 4, 5, 6, 7, 15], [7]), ([14, 16, 0, 1, 2, 3, 4, 5, 6, 7, 8, 9, 10, 11, 12, 13, 14, 15, 16], [14])])
def watershedlaw6_PathMore.B8 : List Nat := [0, 0, 0, 7, 0, 0, 0, 127, 0, 0, 0, 1024, 3584, 0, 16383, 32767, 65535, 131071]
theorem watershedlaw6_PathMore.tab8 : rtab .any (opsOf Try.f7 8) = watershedlaw6_PathMore.T8 := by kernel_rfl
theorem watershedlaw6_PathMore.bits8 : waitsOk watershedlaw6_PathMore.T8.2 watershedlaw6_PathMore.B8 = true := by kernel_rfl
def watershedlaw6_PathMore.T14 : Bool × List (List Nat × List Nat) := (true, [([], []), ([], []), ([0, 1], [0, 1]), ([2], [2]), ([], []), ([], []), ([4, 5], [4, 5]), ([6], [6]), ([3, 7], [3, 7]), ([8], [8]), ([9], [9]), ([9], [9]), ([10, 11, 9], [9, 10, 11]), ([12, 9], [9, 12]), ([9], [9]), ([9], [9]), ([14, 15, 9], [9, 14, 15]), ([16, 9], [9, 16]), ([13, 17, 9], [9, 13, 17]), ([9, 18], [9, 18])])
def watershedlaw6_PathMore.B14 : List Nat := [0, 0, 3, 7, 0, 0, 48, 112, 255, 511, 1023, 1023, 4095, 8191, 1023, 1023, 50175, 115711, 262143, 524287]
theorem watershedlaw6_PathMore.tab14 : rtab .any (opsOf Try.f7 14) = watershedlaw6_PathMore.T14 := by kernel_rfl
theorem watershedlaw6_PathMore.bits14 : waitsOk watershedlaw6_PathMore.T14.2 watershedlaw6_PathMore.B14 = true := by kernel_rfl
set_option maxHeartbeats 8000000 in
set_option maxRecDepth 100000 in
theorem watershedlaw6_PathMore.calls (k : Nat) (a0 : Int) (A1 : Option Addr) (c1 : Nat) (l1 : List Int) (a2 : Int) (a3 : Int) (a4 : Int) (r : Bool) (w : World) (hr1 : Kd.C (Kd.int .i64) w A1 l1.length l1) (hc1 : l1.length ≤ c1) (h : watershedlaw6_PathMore.f k a0 l1 a2 a3 a4 = some r) (hr_ : r = true := by rfl) :
    Calls Try.prog 7 #[.int .i64 a0, .slice A1 l1.length c1, .int .i64 a2, .int .i64 a3, .int .i64 a4] w fun e w' => e = .returned (.bool r) ∧ Below w.heap.size w w' := by
  have HR_ := Aside0.mk hr_
  clear hr_
  have HR1 := Aside0.mk hr1
  have HC1 := Aside0.mk hc1
  clear hr1 hc1
  have HB := Aside0.mk (Below.refl w.heap.size w)
  have H : ((watershedlaw6_known.f k).bind fun t358 => (if t358 = true then ((watershedlaw6_within.f a0 14).bind fun t359 => ((watershedlaw6_Arcs.f k (wrap64 (1 + t359)) l1 0).bind fun t360 => ((watershedlaw6_within.f a2 (wrap64 (1 + t359))).bind fun t363 => ((watershedlaw6_within.f a4 (wrap64 ((t360.length : Int) + 1))).bind fun t364 => ((some (([] : List (S30)) : List (S30))).bind fun y365 => (if 0 ≤ t364 then (if t364 ≤ (t360.length : Int) then ((some (t360.drop (t364 : Int).toNat : List (S30))).bind fun y368 => (if y365.length + y368.length < 5864062014805 then ((some (y365 ++ y368 : List (S30))).bind fun y372 => ((some (t360.take (t364 : Int).toNat : List (S30))).bind fun y375 => (if y372.length + y375.length < 5864062014805 then ((some (y372 ++ y375 : List (S30))).bind fun y379 => ((watershedlaw6_Arcs.f k (wrap64 (1 + t359)) (([a3] : List Int)) 0).bind fun t385 => (if y379.length + t385.length < 5864062014805 then ((some (y379 ++ t385 : List (S30))).bind fun y388 => ((path_From.f (wrap64 (1 + t359)) t360 t363).bind fun t391 => ((path_From.f (wrap64 (1 + t359)) y388 t363).bind fun t394 => (if 0 ≤ (t360.length : Int) then (if (t360.length : Int) ≤ (y388.length : Int) then ((path_From.f (wrap64 (1 + t359)) (y388.take ((t360.length : Int) : Int).toNat) t363).bind fun t401 => (if (t391.length : Int) = (wrap64 (1 + t359)) then (if (t394.length : Int) = (wrap64 (1 + t359)) then (watershedlaw6_PathMore.j0 k (wrap64 (1 + t359)) t391 t394 t401 ((t401.length : Int) != (wrap64 (1 + t359)))) else (watershedlaw6_PathMore.j0 k (wrap64 (1 + t359)) t391 t394 t401 true)) else (watershedlaw6_PathMore.j0 k (wrap64 (1 + t359)) t391 t394 t401 true))) else (none)) else (none))))) else (none)))) else (none)))) else (none))) else (none)) else (none))))))) else (some false))) = some r := h
  clear h
  replace H := Option.bind_eq_some_iff.mp H
  obtain ⟨t358, A60, H⟩ := H
  replace H : (if t358 = true then ((watershedlaw6_within.f a0 14).bind fun t359 => ((watershedlaw6_Arcs.f k (wrap64 (1 + t359)) l1 0).bind fun t360 => ((watershedlaw6_within.f a2 (wrap64 (1 + t359))).bind fun t363 => ((watershedlaw6_within.f a4 (wrap64 ((t360.length : Int) + 1))).bind fun t364 => ((some (([] : List (S30)) : List (S30))).bind fun y365 => (if 0 ≤ t364 then (if t364 ≤ (t360.length : Int) then ((some (t360.drop (t364 : Int).toNat : List (S30))).bind fun y368 => (if y365.length + y368.length < 5864062014805 then ((some (y365 ++ y368 : List (S30))).bind fun y372 => ((some (t360.take (t364 : Int).toNat : List (S30))).bind fun y375 => (if y372.length + y375.length < 5864062014805 then ((some (y372 ++ y375 : List (S30))).bind fun y379 => ((watershedlaw6_Arcs.f k (wrap64 (1 + t359)) (([a3] : List Int)) 0).bind fun t385 => (if y379.length + t385.length < 5864062014805 then ((some (y379 ++ t385 : List (S30))).bind fun y388 => ((path_From.f (wrap64 (1 + t359)) t360 t363).bind fun t391 => ((path_From.f (wrap64 (1 + t359)) y388 t363).bind fun t394 => (if 0 ≤ (t360.length : Int) then (if (t360.length : Int) ≤ (y388.length : Int) then ((path_From.f (wrap64 (1 + t359)) (y388.take ((t360.length : Int) : Int).toNat) t363).bind fun t401 => (if (t391.length : Int) = (wrap64 (1 + t359)) then (if (t394.length : Int) = (wrap64 (1 + t359)) then (watershedlaw6_PathMore.j0 k (wrap64 (1 + t359)) t391 t394 t401 ((t401.length : Int) != (wrap64 (1 + t359)))) else (watershedlaw6_PathMore.j0 k (wrap64 (1 + t359)) t391 t394 t401 true)) else (watershedlaw6_PathMore.j0 k (wrap64 (1 + t359)) t391 t394 t401 true))) else (none)) else (none))))) else (none)))) else (none)))) else (none))) else (none)) else (none))))))) else (some false)) = some r := H
  have A6 := Aside0.mk A60
  clear A60
  by_cases c7 : t358 = true
  · subst c7
    have H1 : ((watershedlaw6_within.f a0 14).bind fun t359 => ((watershedlaw6_Arcs.f k (wrap64 (1 + t359)) l1 0).bind fun t360 => ((watershedlaw6_within.f a2 (wrap64 (1 + t359))).bind fun t363 => ((watershedlaw6_within.f a4 (wrap64 ((t360.length : Int) + 1))).bind fun t364 => ((some (([] : List (S30)) : List (S30))).bind fun y365 => (if 0 ≤ t364 then (if t364 ≤ (t360.length : Int) then ((some (t360.drop (t364 : Int).toNat : List (S30))).bind fun y368 => (if y365.length + y368.length < 5864062014805 then ((some (y365 ++ y368 : List (S30))).bind fun y372 => ((some (t360.take (t364 : Int).toNat : List (S30))).bind fun y375 => (if y372.length + y375.length < 5864062014805 then ((some (y372 ++ y375 : List (S30))).bind fun y379 => ((watershedlaw6_Arcs.f k (wrap64 (1 + t359)) (([a3] : List Int)) 0).bind fun t385 => (if y379.length + t385.length < 5864062014805 then ((some (y379 ++ t385 : List (S30))).bind fun y388 => ((path_From.f (wrap64 (1 + t359)) t360 t363).bind fun t391 => ((path_From.f (wrap64 (1 + t359)) y388 t363).bind fun t394 => (if 0 ≤ (t360.length : Int) then (if (t360.length : Int) ≤ (y388.length : Int) then ((path_From.f (wrap64 (1 + t359)) (y388.take ((t360.length : Int) : Int).toNat) t363).bind fun t401 => (if (t391.length : Int) = (wrap64 (1 + t359)) then (if (t394.length : Int) = (wrap64 (1 + t359)) then (watershedlaw6_PathMore.j0 k (wrap64 (1 + t359)) t391 t394 t401 ((t401.length : Int) != (wrap64 (1 + t359)))) else (watershedlaw6_PathMore.j0 k (wrap64 (1 + t359)) t391 t394 t401 true)) else (watershedlaw6_PathMore.j0 k (wrap64 (1 + t359)) t391 t394 t401 true))) else (none)) else (none))))) else (none)))) else (none)))) else (none))) else (none)) else (none))))))) = some r := by rw [if_pos rfl] at H; exact H
    clear H
    have H := H1
    clear H1
    replace H := Option.bind_eq_some_iff.mp H
    obtain ⟨t359, A80, H⟩ := H
    replace H : ((watershedlaw6_Arcs.f k (wrap64 (1 + t359)) l1 0).bind fun t360 => ((watershedlaw6_within.f a2 (wrap64 (1 + t359))).bind fun t363 => ((watershedlaw6_within.f a4 (wrap64 ((t360.length : Int) + 1))).bind fun t364 => ((some (([] : List (S30)) : List (S30))).bind fun y365 => (if 0 ≤ t364 then (if t364 ≤ (t360.length : Int) then ((some (t360.drop (t364 : Int).toNat : List (S30))).bind fun y368 => (if y365.length + y368.length < 5864062014805 then ((some (y365 ++ y368 : List (S30))).bind fun y372 => ((some (t360.take (t364 : Int).toNat : List (S30))).bind fun y375 => (if y372.length + y375.length < 5864062014805 then ((some (y372 ++ y375 : List (S30))).bind fun y379 => ((watershedlaw6_Arcs.f k (wrap64 (1 + t359)) (([a3] : List Int)) 0).bind fun t385 => (if y379.length + t385.length < 5864062014805 then ((some (y379 ++ t385 : List (S30))).bind fun y388 => ((path_From.f (wrap64 (1 + t359)) t360 t363).bind fun t391 => ((path_From.f (wrap64 (1 + t359)) y388 t363).bind fun t394 => (if 0 ≤ (t360.length : Int) then (if (t360.length : Int) ≤ (y388.length : Int) then ((path_From.f (wrap64 (1 + t359)) (y388.take ((t360.length : Int) : Int).toNat) t363).bind fun t401 => (if (t391.length : Int) = (wrap64 (1 + t359)) then (if (t394.length : Int) = (wrap64 (1 + t359)) then (watershedlaw6_PathMore.j0 k (wrap64 (1 + t359)) t391 t394 t401 ((t401.length : Int) != (wrap64 (1 + t359)))) else (watershedlaw6_PathMore.j0 k (wrap64 (1 + t359)) t391 t394 t401 true)) else (watershedlaw6_PathMore.j0 k (wrap64 (1 + t359)) t391 t394 t401 true))) else (none)) else (none))))) else (none)))) else (none)))) else (none))) else (none)) else (none)))))) = some r := H
    have A8 := Aside0.mk A80
    clear A80
    replace H := Option.bind_eq_some_iff.mp H
    obtain ⟨t360, A90, H⟩ := H
    replace H : ((watershedlaw6_within.f a2 (wrap64 (1 + t359))).bind fun t363 => ((watershedlaw6_within.f a4 (wrap64 ((t360.length : Int) + 1))).bind fun t364 => ((some (([] : List (S30)) : List (S30))).bind fun y365 => (if 0 ≤ t364 then (if t364 ≤ (t360.length : Int) then ((some (t360.drop (t364 : Int).toNat : List (S30))).bind fun y368 => (if y365.length + y368.length < 5864062014805 then ((some (y365 ++ y368 : List (S30))).bind fun y372 => ((some (t360.take (t364 : Int).toNat : List (S30))).bind fun y375 => (if y372.length + y375.length < 5864062014805 then ((some (y372 ++ y375 : List (S30))).bind fun y379 => ((watershedlaw6_Arcs.f k (wrap64 (1 + t359)) (([a3] : List Int)) 0).bind fun t385 => (if y379.length + t385.length < 5864062014805 then ((some (y379 ++ t385 : List (S30))).bind fun y388 => ((path_From.f (wrap64 (1 + t359)) t360 t363).bind fun t391 => ((path_From.f (wrap64 (1 + t359)) y388 t363).bind fun t394 => (if 0 ≤ (t360.length : Int) then (if (t360.length : Int) ≤ (y388.length : Int) then ((path_From.f (wrap64 (1 + t359)) (y388.take ((t360.length : Int) : Int).toNat) t363).bind fun t401 => (if (t391.length : Int) = (wrap64 (1 + t359)) then (if (t394.length : Int) = (wrap64 (1 + t359)) then (watershedlaw6_PathMore.j0 k (wrap64 (1 + t359)) t391 t394 t401 ((t401.length : Int) != (wrap64 (1 + t359)))) else (watershedlaw6_PathMore.j0 k (wrap64 (1 + t359)) t391 t394 t401 true)) else (watershedlaw6_PathMore.j0 k (wrap64 (1 + t359)) t391 t394 t401 true))) else (none)) else (none))))) else (none)))) else (none)))) else (none))) else (none)) else (none))))) = some r := H
    have A9 := Aside0.mk A90
    clear A90
    replace H := Option.bind_eq_some_iff.mp H
    obtain ⟨t363, A100, H⟩ := H
    replace H : ((watershedlaw6_within.f a4 (wrap64 ((t360.length : Int) + 1))).bind fun t364 => ((some (([] : List (S30)) : List (S30))).bind fun y365 => (if 0 ≤ t364 then (if t364 ≤ (t360.length : Int) then ((some (t360.drop (t364 : Int).toNat : List (S30))).bind fun y368 => (if y365.length + y368.length < 5864062014805 then ((some (y365 ++ y368 : List (S30))).bind fun y372 => ((some (t360.take (t364 : Int).toNat : List (S30))).bind fun y375 => (if y372.length + y375.length < 5864062014805 then ((some (y372 ++ y375 : List (S30))).bind fun y379 => ((watershedlaw6_Arcs.f k (wrap64 (1 + t359)) (([a3] : List Int)) 0).bind fun t385 => (if y379.length + t385.length < 5864062014805 then ((some (y379 ++ t385 : List (S30))).bind fun y388 => ((path_From.f (wrap64 (1 + t359)) t360 t363).bind fun t391 => ((path_From.f (wrap64 (1 + t359)) y388 t363).bind fun t394 => (if 0 ≤ (t360.length : Int) then (if (t360.length : Int) ≤ (y388.length : Int) then ((path_From.f (wrap64 (1 + t359)) (y388.take ((t360.length : Int) : Int).toNat) t363).bind fun t401 => (if (t391.length : Int) = (wrap64 (1 + t359)) then (if (t394.length : Int) = (wrap64 (1 + t359)) then (watershedlaw6_PathMore.j0 k (wrap64 (1 + t359)) t391 t394 t401 ((t401.length : Int) != (wrap64 (1 + t359)))) else (watershedlaw6_PathMore.j0 k (wrap64 (1 + t359)) t391 t394 t401 true)) else (watershedlaw6_PathMore.j0 k (wrap64 (1 + t359)) t391 t394 t401 true))) else (none)) else (none))))) else (none)))) else (none)))) else (none))) else (none)) else (none)))) = some r := H
    have A10 := Aside0.mk A100
    clear A100
    replace H := Option.bind_eq_some_iff.mp H
    obtain ⟨t364, A110, H⟩ := H
    replace H : ((some (([] : List (S30)) : List (S30))).bind fun y365 => (if 0 ≤ t364 then (if t364 ≤ (t360.length : Int) then ((some (t360.drop (t364 : Int).toNat : List (S30))).bind fun y368 => (if y365.length + y368.length < 5864062014805 then ((some (y365 ++ y368 : List (S30))).bind fun y372 => ((some (t360.take (t364 : Int).toNat : List (S30))).bind fun y375 => (if y372.length + y375.length < 5864062014805 then ((some (y372 ++ y375 : List (S30))).bind fun y379 => ((watershedlaw6_Arcs.f k (wrap64 (1 + t359)) (([a3] : List Int)) 0).bind fun t385 => (if y379.length + t385.length < 5864062014805 then ((some (y379 ++ t385 : List (S30))).bind fun y388 => ((path_From.f (wrap64 (1 + t359)) t360 t363).bind fun t391 => ((path_From.f (wrap64 (1 + t359)) y388 t363).bind fun t394 => (if 0 ≤ (t360.length : Int) then (if (t360.length : Int) ≤ (y388.length : Int) then ((path_From.f (wrap64 (1 + t359)) (y388.take ((t360.length : Int) : Int).toNat) t363).bind fun t401 => (if (t391.length : Int) = (wrap64 (1 + t359)) then (if (t394.length : Int) = (wrap64 (1 + t359)) then (watershedlaw6_PathMore.j0 k (wrap64 (1 + t359)) t391 t394 t401 ((t401.length : Int) != (wrap64 (1 + t359)))) else (watershedlaw6_PathMore.j0 k (wrap64 (1 + t359)) t391 t394 t401 true)) else (watershedlaw6_PathMore.j0 k (wrap64 (1 + t359)) t391 t394 t401 true))) else (none)) else (none))))) else (none)))) else (none)))) else (none))) else (none)) else (none))) = some r := H
    have A11 := Aside0.mk A110
    clear A110
    obtain ⟨y365, hy365⟩ : ∃ y_ : List (S30), y_ = (([] : List (S30))) := ⟨_, rfl⟩
    replace H : (if 0 ≤ t364 then (if t364 ≤ (t360.length : Int) then ((some (t360.drop (t364 : Int).toNat : List (S30))).bind fun y368 => (if y365.length + y368.length < 5864062014805 then ((some (y365 ++ y368 : List (S30))).bind fun y372 => ((some (t360.take (t364 : Int).toNat : List (S30))).bind fun y375 => (if y372.length + y375.length < 5864062014805 then ((some (y372 ++ y375 : List (S30))).bind fun y379 => ((watershedlaw6_Arcs.f k (wrap64 (1 + t359)) (([a3] : List Int)) 0).bind fun t385 => (if y379.length + t385.length < 5864062014805 then ((some (y379 ++ t385 : List (S30))).bind fun y388 => ((path_From.f (wrap64 (1 + t359)) t360 t363).bind fun t391 => ((path_From.f (wrap64 (1 + t359)) y388 t363).bind fun t394 => (if 0 ≤ (t360.length : Int) then (if (t360.length : Int) ≤ (y388.length : Int) then ((path_From.f (wrap64 (1 + t359)) (y388.take ((t360.length : Int) : Int).toNat) t363).bind fun t401 => (if (t391.length : Int) = (wrap64 (1 + t359)) then (if (t394.length : Int) = (wrap64 (1 + t359)) then (watershedlaw6_PathMore.j0 k (wrap64 (1 + t359)) t391 t394 t401 ((t401.length : Int) != (wrap64 (1 + t359)))) else (watershedlaw6_PathMore.j0 k (wrap64 (1 + t359)) t391 t394 t401 true)) else (watershedlaw6_PathMore.j0 k (wrap64 (1 + t359)) t391 t394 t401 true))) else (none)) else (none))))) else (none)))) else (none)))) else (none))) else (none)) else (none)) = some r := by first | (rw [hy365]; with_reducible exact H) | (have H2_ := (Option.bind_some _ _).symm.trans H; rw [hy365]; with_reducible exact H2_) | (have H2_ := (Option.bind_some _ _).symm.trans H; with_reducible exact H2_) | with_reducible exact H | (rw [hy365]; exact H) | exact H
    have Ny365 := Aside0.mk hy365
    clear hy365
    by_cases c12 : 0 ≤ t364
    · rw [if_pos c12] at H
      have c12b0 := eq_true c12
      have c12b1 : decide (0 ≤ t364) = true := decide_eq_true c12
      clear c12
      by_cases c13 : t364 ≤ (t360.length : Int)
      · rw [if_pos c13] at H
        have c13b0 := eq_true c13
        have c13b1 : decide (t364 ≤ (t360.length : Int)) = true := decide_eq_true c13
        clear c13
        obtain ⟨y368, hy368⟩ : ∃ y_ : List (S30), y_ = (t360.drop (t364 : Int).toNat) := ⟨_, rfl⟩
        replace H : (if y365.length + y368.length < 5864062014805 then ((some (y365 ++ y368 : List (S30))).bind fun y372 => ((some (t360.take (t364 : Int).toNat : List (S30))).bind fun y375 => (if y372.length + y375.length < 5864062014805 then ((some (y372 ++ y375 : List (S30))).bind fun y379 => ((watershedlaw6_Arcs.f k (wrap64 (1 + t359)) (([a3] : List Int)) 0).bind fun t385 => (if y379.length + t385.length < 5864062014805 then ((some (y379 ++ t385 : List (S30))).bind fun y388 => ((path_From.f (wrap64 (1 + t359)) t360 t363).bind fun t391 => ((path_From.f (wrap64 (1 + t359)) y388 t363).bind fun t394 => (if 0 ≤ (t360.length : Int) then (if (t360.length : Int) ≤ (y388.length : Int) then ((path_From.f (wrap64 (1 + t359)) (y388.take ((t360.length : Int) : Int).toNat) t363).bind fun t401 => (if (t391.length : Int) = (wrap64 (1 + t359)) then (if (t394.length : Int) = (wrap64 (1 + t359)) then (watershedlaw6_PathMore.j0 k (wrap64 (1 + t359)) t391 t394 t401 ((t401.length : Int) != (wrap64 (1 + t359)))) else (watershedlaw6_PathMore.j0 k (wrap64 (1 + t359)) t391 t394 t401 true)) else (watershedlaw6_PathMore.j0 k (wrap64 (1 + t359)) t391 t394 t401 true))) else (none)) else (none))))) else (none)))) else (none)))) else (none)) = some r := by first | (rw [hy368]; with_reducible exact H) | (have H2_ := (Option.bind_some _ _).symm.trans H; rw [hy368]; with_reducible exact H2_) | (have H2_ := (Option.bind_some _ _).symm.trans H; with_reducible exact H2_) | with_reducible exact H | (rw [hy368]; exact H) | exact H
        have Ny368 := Aside0.mk hy368
        clear hy368
        by_cases c14 : y365.length + y368.length < 5864062014805
        · rw [if_pos c14] at H
          have LMc14 := Aside0.mk c14
          clear c14
          obtain ⟨y372, hy372⟩ : ∃ y_ : List (S30), y_ = (y365 ++ y368) := ⟨_, rfl⟩
          replace H : ((some (t360.take (t364 : Int).toNat : List (S30))).bind fun y375 => (if y372.length + y375.length < 5864062014805 then ((some (y372 ++ y375 : List (S30))).bind fun y379 => ((watershedlaw6_Arcs.f k (wrap64 (1 + t359)) (([a3] : List Int)) 0).bind fun t385 => (if y379.length + t385.length < 5864062014805 then ((some (y379 ++ t385 : List (S30))).bind fun y388 => ((path_From.f (wrap64 (1 + t359)) t360 t363).bind fun t391 => ((path_From.f (wrap64 (1 + t359)) y388 t363).bind fun t394 => (if 0 ≤ (t360.length : Int) then (if (t360.length : Int) ≤ (y388.length : Int) then ((path_From.f (wrap64 (1 + t359)) (y388.take ((t360.length : Int) : Int).toNat) t363).bind fun t401 => (if (t391.length : Int) = (wrap64 (1 + t359)) then (if (t394.length : Int) = (wrap64 (1 + t359)) then (watershedlaw6_PathMore.j0 k (wrap64 (1 + t359)) t391 t394 t401 ((t401.length : Int) != (wrap64 (1 + t359)))) else (watershedlaw6_PathMore.j0 k (wrap64 (1 + t359)) t391 t394 t401 true)) else (watershedlaw6_PathMore.j0 k (wrap64 (1 + t359)) t391 t394 t401 true))) else (none)) else (none))))) else (none)))) else (none))) = some r := by first | (rw [hy372]; with_reducible exact H) | (have H2_ := (Option.bind_some _ _).symm.trans H; rw [hy372]; with_reducible exact H2_) | (have H2_ := (Option.bind_some _ _).symm.trans H; with_reducible exact H2_) | with_reducible exact H | (rw [hy372]; exact H) | exact H
          have Ny372 := Aside0.mk hy372
          clear hy372
          have c15b0 := eq_true (of_decide_eq_true (by first | (with_reducible assumption) | assumption) : 0 ≤ t364)
          have c16b0 := eq_true (of_decide_eq_true (by first | (with_reducible assumption) | assumption) : t364 ≤ (t360.length : Int))
          obtain ⟨y375, hy375⟩ : ∃ y_ : List (S30), y_ = (t360.take (t364 : Int).toNat) := ⟨_, rfl⟩
          replace H : (if y372.length + y375.length < 5864062014805 then ((some (y372 ++ y375 : List (S30))).bind fun y379 => ((watershedlaw6_Arcs.f k (wrap64 (1 + t359)) (([a3] : List Int)) 0).bind fun t385 => (if y379.length + t385.length < 5864062014805 then ((some (y379 ++ t385 : List (S30))).bind fun y388 => ((path_From.f (wrap64 (1 + t359)) t360 t363).bind fun t391 => ((path_From.f (wrap64 (1 + t359)) y388 t363).bind fun t394 => (if 0 ≤ (t360.length : Int) then (if (t360.length : Int) ≤ (y388.length : Int) then ((path_From.f (wrap64 (1 + t359)) (y388.take ((t360.length : Int) : Int).toNat) t363).bind fun t401 => (if (t391.length : Int) = (wrap64 (1 + t359)) then (if (t394.length : Int) = (wrap64 (1 + t359)) then (watershedlaw6_PathMore.j0 k (wrap64 (1 + t359)) t391 t394 t401 ((t401.length : Int) != (wrap64 (1 + t359)))) else (watershedlaw6_PathMore.j0 k (wrap64 (1 + t359)) t391 t394 t401 true)) else (watershedlaw6_PathMore.j0 k (wrap64 (1 + t359)) t391 t394 t401 true))) else (none)) else (none))))) else (none)))) else (none)) = some r := by first | (rw [hy375]; with_reducible exact H) | (have H2_ := (Option.bind_some _ _).symm.trans H; rw [hy375]; with_reducible exact H2_) | (have H2_ := (Option.bind_some _ _).symm.trans H; with_reducible exact H2_) | with_reducible exact H | (rw [hy375]; exact H) | exact H
          have Ny375 := Aside0.mk hy375
          clear hy375
          by_cases c17 : y372.length + y375.length < 5864062014805
          · rw [if_pos c17] at H
            have LMc17 := Aside0.mk c17
            clear c17
            obtain ⟨y379, hy379⟩ : ∃ y_ : List (S30), y_ = (y372 ++ y375) := ⟨_, rfl⟩
            replace H : ((watershedlaw6_Arcs.f k (wrap64 (1 + t359)) (([a3] : List Int)) 0).bind fun t385 => (if y379.length + t385.length < 5864062014805 then ((some (y379 ++ t385 : List (S30))).bind fun y388 => ((path_From.f (wrap64 (1 + t359)) t360 t363).bind fun t391 => ((path_From.f (wrap64 (1 + t359)) y388 t363).bind fun t394 => (if 0 ≤ (t360.length : Int) then (if (t360.length : Int) ≤ (y388.length : Int) then ((path_From.f (wrap64 (1 + t359)) (y388.take ((t360.length : Int) : Int).toNat) t363).bind fun t401 => (if (t391.length : Int) = (wrap64 (1 + t359)) then (if (t394.length : Int) = (wrap64 (1 + t359)) then (watershedlaw6_PathMore.j0 k (wrap64 (1 + t359)) t391 t394 t401 ((t401.length : Int) != (wrap64 (1 + t359)))) else (watershedlaw6_PathMore.j0 k (wrap64 (1 + t359)) t391 t394 t401 true)) else (watershedlaw6_PathMore.j0 k (wrap64 (1 + t359)) t391 t394 t401 true))) else (none)) else (none))))) else (none))) = some r := by first | (rw [hy379]; with_reducible exact H) | (have H2_ := (Option.bind_some _ _).symm.trans H; rw [hy379]; with_reducible exact H2_) | (have H2_ := (Option.bind_some _ _).symm.trans H; with_reducible exact H2_) | with_reducible exact H | (rw [hy379]; exact H) | exact H
            have Ny379 := Aside0.mk hy379
            clear hy379
            obtain ⟨y382, hy382⟩ : ∃ y_ : List Int, y_ = (([a3] : List Int)) := ⟨_, rfl⟩
            replace H : ((watershedlaw6_Arcs.f k (wrap64 (1 + t359)) y382 0).bind fun t385 => (if y379.length + t385.length < 5864062014805 then ((some (y379 ++ t385 : List (S30))).bind fun y388 => ((path_From.f (wrap64 (1 + t359)) t360 t363).bind fun t391 => ((path_From.f (wrap64 (1 + t359)) y388 t363).bind fun t394 => (if 0 ≤ (t360.length : Int) then (if (t360.length : Int) ≤ (y388.length : Int) then ((path_From.f (wrap64 (1 + t359)) (y388.take ((t360.length : Int) : Int).toNat) t363).bind fun t401 => (if (t391.length : Int) = (wrap64 (1 + t359)) then (if (t394.length : Int) = (wrap64 (1 + t359)) then (watershedlaw6_PathMore.j0 k (wrap64 (1 + t359)) t391 t394 t401 ((t401.length : Int) != (wrap64 (1 + t359)))) else (watershedlaw6_PathMore.j0 k (wrap64 (1 + t359)) t391 t394 t401 true)) else (watershedlaw6_PathMore.j0 k (wrap64 (1 + t359)) t391 t394 t401 true))) else (none)) else (none))))) else (none))) = some r := by first | (rw [hy382]; with_reducible exact H) | (have H2_ := (Option.bind_some _ _).symm.trans H; rw [hy382]; with_reducible exact H2_) | (have H2_ := (Option.bind_some _ _).symm.trans H; with_reducible exact H2_) | with_reducible exact H | (rw [hy382]; exact H) | exact H
            have Ny382 := Aside0.mk hy382
            clear hy382
            replace H := Option.bind_eq_some_iff.mp H
            obtain ⟨t385, A180, H⟩ := H
            replace H : (if y379.length + t385.length < 5864062014805 then ((some (y379 ++ t385 : List (S30))).bind fun y388 => ((path_From.f (wrap64 (1 + t359)) t360 t363).bind fun t391 => ((path_From.f (wrap64 (1 + t359)) y388 t363).bind fun t394 => (if 0 ≤ (t360.length : Int) then (if (t360.length : Int) ≤ (y388.length : Int) then ((path_From.f (wrap64 (1 + t359)) (y388.take ((t360.length : Int) : Int).toNat) t363).bind fun t401 => (if (t391.length : Int) = (wrap64 (1 + t359)) then (if (t394.length : Int) = (wrap64 (1 + t359)) then (watershedlaw6_PathMore.j0 k (wrap64 (1 + t359)) t391 t394 t401 ((t401.length : Int) != (wrap64 (1 + t359)))) else (watershedlaw6_PathMore.j0 k (wrap64 (1 + t359)) t391 t394 t401 true)) else (watershedlaw6_PathMore.j0 k (wrap64 (1 + t359)) t391 t394 t401 true))) else (none)) else (none))))) else (none)) = some r := H
            have A18 := Aside0.mk A180
            clear A180
            by_cases c19 : y379.length + t385.length < 5864062014805
            · rw [if_pos c19] at H
              have LMc19 := Aside0.mk c19
              clear c19
              obtain ⟨y388, hy388⟩ : ∃ y_ : List (S30), y_ = (y379 ++ t385) := ⟨_, rfl⟩
              replace H : ((path_From.f (wrap64 (1 + t359)) t360 t363).bind fun t391 => ((path_From.f (wrap64 (1 + t359)) y388 t363).bind fun t394 => (if 0 ≤ (t360.length : Int) then (if (t360.length : Int) ≤ (y388.length : Int) then ((path_From.f (wrap64 (1 + t359)) (y388.take ((t360.length : Int) : Int).toNat) t363).bind fun t401 => (if (t391.length : Int) = (wrap64 (1 + t359)) then (if (t394.length : Int) = (wrap64 (1 + t359)) then (watershedlaw6_PathMore.j0 k (wrap64 (1 + t359)) t391 t394 t401 ((t401.length : Int) != (wrap64 (1 + t359)))) else (watershedlaw6_PathMore.j0 k (wrap64 (1 + t359)) t391 t394 t401 true)) else (watershedlaw6_PathMore.j0 k (wrap64 (1 + t359)) t391 t394 t401 true))) else (none)) else (none)))) = some r := by first | (rw [hy388]; with_reducible exact H) | (have H2_ := (Option.bind_some _ _).symm.trans H; rw [hy388]; with_reducible exact H2_) | (have H2_ := (Option.bind_some _ _).symm.trans H; with_reducible exact H2_) | with_reducible exact H | (rw [hy388]; exact H) | exact H
              have Ny388 := Aside0.mk hy388
              clear hy388
              replace H := Option.bind_eq_some_iff.mp H
              obtain ⟨t391, A200, H⟩ := H
              replace H : ((path_From.f (wrap64 (1 + t359)) y388 t363).bind fun t394 => (if 0 ≤ (t360.length : Int) then (if (t360.length : Int) ≤ (y388.length : Int) then ((path_From.f (wrap64 (1 + t359)) (y388.take ((t360.length : Int) : Int).toNat) t363).bind fun t401 => (if (t391.length : Int) = (wrap64 (1 + t359)) then (if (t394.length : Int) = (wrap64 (1 + t359)) then (watershedlaw6_PathMore.j0 k (wrap64 (1 + t359)) t391 t394 t401 ((t401.length : Int) != (wrap64 (1 + t359)))) else (watershedlaw6_PathMore.j0 k (wrap64 (1 + t359)) t391 t394 t401 true)) else (watershedlaw6_PathMore.j0 k (wrap64 (1 + t359)) t391 t394 t401 true))) else (none)) else (none))) = some r := H
              have A20 := Aside0.mk A200
              clear A200
              replace H := Option.bind_eq_some_iff.mp H
              obtain ⟨t394, A210, H⟩ := H
              replace H : (if 0 ≤ (t360.length : Int) then (if (t360.length : Int) ≤ (y388.length : Int) then ((path_From.f (wrap64 (1 + t359)) (y388.take ((t360.length : Int) : Int).toNat) t363).bind fun t401 => (if (t391.length : Int) = (wrap64 (1 + t359)) then (if (t394.length : Int) = (wrap64 (1 + t359)) then (watershedlaw6_PathMore.j0 k (wrap64 (1 + t359)) t391 t394 t401 ((t401.length : Int) != (wrap64 (1 + t359)))) else (watershedlaw6_PathMore.j0 k (wrap64 (1 + t359)) t391 t394 t401 true)) else (watershedlaw6_PathMore.j0 k (wrap64 (1 + t359)) t391 t394 t401 true))) else (none)) else (none)) = some r := H
              have A21 := Aside0.mk A210
              clear A210
              by_cases c22 : 0 ≤ (t360.length : Int)
              · rw [if_pos c22] at H
                have c22b0 := eq_true c22
                have c22b1 : decide (0 ≤ (t360.length : Int)) = true := decide_eq_true c22
                clear c22
                by_cases c23 : (t360.length : Int) ≤ (y388.length : Int)
                · rw [if_pos c23] at H
                  have c23b0 := eq_true c23
                  have c23b1 : decide ((t360.length : Int) ≤ (y388.length : Int)) = true := decide_eq_true c23
                  clear c23
                  obtain ⟨y397, hy397⟩ : ∃ y_ : List (S30), y_ = (y388.take ((t360.length : Int) : Int).toNat) := ⟨_, rfl⟩
                  replace H : ((path_From.f (wrap64 (1 + t359)) y397 t363).bind fun t401 => (if (t391.length : Int) = (wrap64 (1 + t359)) then (if (t394.length : Int) = (wrap64 (1 + t359)) then (watershedlaw6_PathMore.j0 k (wrap64 (1 + t359)) t391 t394 t401 ((t401.length : Int) != (wrap64 (1 + t359)))) else (watershedlaw6_PathMore.j0 k (wrap64 (1 + t359)) t391 t394 t401 true)) else (watershedlaw6_PathMore.j0 k (wrap64 (1 + t359)) t391 t394 t401 true))) = some r := by first | (rw [hy397]; with_reducible exact H) | (have H2_ := (Option.bind_some _ _).symm.trans H; rw [hy397]; with_reducible exact H2_) | (have H2_ := (Option.bind_some _ _).symm.trans H; with_reducible exact H2_) | with_reducible exact H | (rw [hy397]; exact H) | exact H
                  have Ny397 := Aside0.mk hy397
                  clear hy397
                  replace H := Option.bind_eq_some_iff.mp H
                  obtain ⟨t401, A240, H⟩ := H
                  replace H : (if (t391.length : Int) = (wrap64 (1 + t359)) then (if (t394.length : Int) = (wrap64 (1 + t359)) then (watershedlaw6_PathMore.j0 k (wrap64 (1 + t359)) t391 t394 t401 ((t401.length : Int) != (wrap64 (1 + t359)))) else (watershedlaw6_PathMore.j0 k (wrap64 (1 + t359)) t391 t394 t401 true)) else (watershedlaw6_PathMore.j0 k (wrap64 (1 + t359)) t391 t394 t401 true)) = some r := H
                  have A24 := Aside0.mk A240
                  clear A240
                  have HC25 := Aside0.mk H
                  clear H
                  go_enter Try.func7, Try.ntmps7
                  try go_wp2_with (first | ((with_reducible refine gate_callee (f := 13) rfl ?_); refine goesL_ (some 20) rfl rfl Try.func13 (by kernel_rfl) rfl #[] rfl (by (try simp only [List.map_toArray, List.map_cons, List.map_nil]); first | done | rfl | (simp only [List.length_drop, List.length_take]; rfl)) ?_; (with_reducible refine (watershedlaw6_known.calls k  true _ A6.out).mono ?_); rintro e w26 ⟨rfl, hb⟩; refine ⟨_, rfl, ?_⟩; have n0_ := Aside0.mk (below_step (by repeat (first | (with_reducible first | exact HB.out | apply below_alloc | apply pw_below_drewN | apply below_drew1) | exact HB.out)) hb); clear HB; have HB := n0_; clear n0_; (try clear hb); (try clear hb2); (try clear hk); (try clear hi)) | ((with_reducible refine gate_callee (f := 14) rfl ?_); refine goesL_ (some 23) rfl rfl Try.func14 (by kernel_rfl) rfl #[.int .i64 a0, .int .i64 14] rfl (by (try simp only [List.map_toArray, List.map_cons, List.map_nil]); first | done | rfl | (simp only [List.length_drop, List.length_take]; rfl)) ?_; (with_reducible refine (watershedlaw6_within.calls a0 14 t359 _ A8.out).mono ?_); rintro e w' ⟨rfl, ⟨nd, rfl⟩⟩; refine ⟨_, rfl, ?_⟩) | ((with_reducible refine gate_callee (f := 15) rfl ?_); refine goesL_ (some 27) rfl rfl Try.func15 (by kernel_rfl) rfl #[.int .i64 (wrap64 (1 + t359)), .slice A1 l1.length c1, .int .i64 0] rfl (by (try simp only [List.map_toArray, List.map_cons, List.map_nil]); first | done | rfl | (simp only [List.length_drop, List.length_take]; rfl)) ?_; (with_reducible refine (watershedlaw6_Arcs.calls k (wrap64 (1 + t359)) _ _ l1 0 t360 _ ?side1 ?side2 A9.out).mono ?_); (case side1 => repeat (first | exact (Kd.C_below HR1.out (by repeat (first | (with_reducible first | exact HB.out | apply below_alloc | apply pw_below_drewN | apply below_drew1) | exact HB.out))) | (with_reducible refine Kd.C_alloc ?_ _) | (with_reducible refine Kd.C_drewN ?_ _) | (with_reducible refine Kd.C_drew ?_))); (case side2 => exact HC1.out); rintro e w27 ⟨v361, rfl, ho0, hb⟩; refine ⟨_, rfl, ?_⟩; have n0_ := Aside0.mk (Kd.R_lower ho0 (below_size (by repeat (first | (with_reducible first | exact HB.out | apply below_alloc | apply pw_below_drewN | apply below_drew1) | exact HB.out)))); have n1_ := Aside0.mk (below_step (by repeat (first | (with_reducible first | exact HB.out | apply below_alloc | apply pw_below_drewN | apply below_drew1) | exact HB.out)) hb); clear HB; have HO362 := n0_; have HB := n1_; clear n0_ n1_; (try clear hb); (try clear hb2); (try clear hk); (try clear hi); (try clear ho0)) | ((with_reducible refine gate_callee (f := 14) rfl ?_); refine goesL_ (some 30) rfl rfl Try.func14 (by kernel_rfl) rfl #[.int .i64 a2, .int .i64 (wrap64 (1 + t359))] rfl (by (try simp only [List.map_toArray, List.map_cons, List.map_nil]); first | done | rfl | (simp only [List.length_drop, List.length_take]; rfl)) ?_; (with_reducible refine (watershedlaw6_within.calls a2 (wrap64 (1 + t359)) t363 _ A10.out).mono ?_); rintro e w' ⟨rfl, ⟨nd, rfl⟩⟩; refine ⟨_, rfl, ?_⟩; obtain ⟨Ao28, co28, eo28⟩ := Kd.R_slice HO362.out; subst eo28) | ((with_reducible refine gate_callee (f := 14) rfl ?_); refine goesL_ (some 35) rfl rfl Try.func14 (by kernel_rfl) rfl #[.int .i64 a4, .int .i64 (wrap64 ((t360.length : Int) + 1))] rfl (by (try simp only [List.map_toArray, List.map_cons, List.map_nil]); first | done | rfl | (simp only [List.length_drop, List.length_take]; rfl)) ?_; (with_reducible refine (watershedlaw6_within.calls a4 (wrap64 ((t360.length : Int) + 1)) t364 _ A11.out).mono ?_); rintro e w' ⟨rfl, ⟨nd, rfl⟩⟩; refine ⟨_, rfl, ?_⟩))
                  (try (rw [drewN_self w27]; generalize hq_ : World.drewN w27 _ = w27; have n0_ : Aside0 (Kd.R k30 30 w27 w.heap.size (fun _ => True) (.slice Ao28 t360.length co28) t360) := ⟨by rw [← hq_]; exact (by (with_reducible repeat (first | apply Kd.R_alloc | apply Kd.R_drewN | apply Kd.R_drew)); exact HO362.out)⟩; have n1_ : Aside0 (Below w.heap.size w w27) := ⟨by rw [← hq_]; exact (by repeat (first | (with_reducible first | exact HB.out | apply below_alloc | apply pw_below_drewN | apply below_drew1) | exact HB.out))⟩; clear HO362 HB hq_; have HO362 := n0_; have HB := n1_; clear n0_ n1_))
                  have n0_ := Aside0.mk (Kd.R_drew HO362.out)
                  have n1_ := Aside0.mk (below_drew1 HB.out)
                  clear HO362
                  clear HB
                  have HO362 := n0_
                  have HB := n1_
                  clear n0_ n1_
                  have q30 : (t364 : Int) ≤ ((t360.length : Int) : Int) := of_decide_eq_true (by first | (with_reducible assumption) | assumption)
                  obtain ⟨i030, hi030, _, hsz30, _⟩ := info_parts info30
                  have hroom30 : t360.length ≤ co28 := (Kd.R_reads' HO362.out).2.1
                  have hC30 : Kd.C k30 _ Ao28 t360.length t360 := (Kd.R_reads' HO362.out).2.2
                  have q030 : (0 : Int) ≤ (t364 : Int) := of_decide_eq_true (by first | (with_reducible assumption) | assumption)
                  have hcut30 := cut_from (P := Try.prog) 25 30 .i64 Try.underlying25 hi030 3 hsz30 Ao28 t360.length co28 t364 q030 q30
                  have hr30 := Kd.C_drop (m := (t364 : Int).toNat) (c := co28) hC30 (by omega) hroom30
                  obtain ⟨A30, hA30⟩ : ∃ A1, A1 = (if co28 = (t364 : Int).toNat then Ao28 else (Ao28 : Option Addr).map (·.add ((t364 : Int).toNat * 3))) := ⟨_, rfl⟩
                  obtain ⟨c30, hc30⟩ : ∃ c1, c1 = co28 - (t364 : Int).toNat := ⟨_, rfl⟩
                  have hy30 : y368.length = t360.length - (t364 : Int).toNat := (by rw [Ny368.out, List.length_drop] <;> omega)
                  rw [show (t360).drop (t364 : Int).toNat = y368 from Ny368.out.symm] at hr30
                  replace hr30 : Kd.C k30 _ A30 y368.length y368 := (by rw [hA30]; exact hr30)
                  rw [← hy30, ← hA30, ← hc30] at hcut30
                  have HR371 := Aside0.mk hr30
                  have HC371 := Aside0.mk (show y368.length ≤ c30 from by rw [hy30, hc30]; exact Nat.sub_le_sub_right hroom30 _)
                  clear hr30 hC30 hroom30 hi030 hsz30 hc30
                  have KY30 := Aside0.mk hy30
                  have KA30 := Aside0.mk hA30
                  clear hy30 hA30
                  have KL30 := Aside0.mk (show (t364 : Int).toNat ≤ t360.length from by omega)
                  replace q30 := eq_true q30
                  have q31 : (t364 : Int) ≤ ((t360.length : Int) : Int) := of_decide_eq_true (by first | (with_reducible assumption) | assumption)
                  obtain ⟨i031, hi031, _, hsz31, _⟩ := info_parts info30
                  have hroom31 : t360.length ≤ co28 := (Kd.R_reads' HO362.out).2.1
                  have hC31 : Kd.C k30 _ Ao28 t360.length t360 := (Kd.R_reads' HO362.out).2.2
                  have hcut31 := cut_to (P := Try.prog) 25 30 .i64 Try.underlying25 hi031 Ao28 t360.length co28 t364 (of_decide_eq_true (by first | (with_reducible assumption) | assumption)) q31 hroom31
                  have hr31 := Kd.C_take (m := (t364 : Int).toNat) hC31 (by omega)
                  have hy31 : y375.length = (t364 : Int).toNat := (by rw [Ny375.out, List.length_take]; omega)
                  rw [← Ny375.out] at hr31
                  rw [← hy31] at hcut31
                  have HR378 := Aside0.mk hr31
                  have HC378 := Aside0.mk (show y375.length ≤ co28 from by omega)
                  clear hr31 hC31 hroom31 hi031 hsz31
                  have KY31 := Aside0.mk hy31
                  clear hy31
                  have KL31 := Aside0.mk (show (t364 : Int).toNat ≤ t360.length from by omega)
                  replace q31 := eq_true q31
                  refine start_ (n := 15) (S := fun w' => True) (ds := []) #[false, false, false, false, false, false, false, false, false, false, false, false, false, false, false] (by kernel_rfl) rfl rfl trivial (fun hHeld => ?_); refine with_tabW watershedlaw6_PathMore.tab7 watershedlaw6_PathMore.bits7 (fun HT_ HW_ => ?_)
                  generalize w27.drew = w29 at HO362 HB HR371 HR378 hHeld ⊢
                  refine pure_ (i := 1) (N := some 37) (v := ?_) (a' := ?_) #[false, true, false, false, false, false, false, false, false, false, false, false, false, false, false] rfl rfl (any_of HT_.out (by kernel_rfl)) (fun _ _ _ h => h) (Or.inl ⟨by rfl, ?_⟩) ?_ ?_
                  rotate_left
                  · intro w'
                    go_simp
                    with_reducible rfl
                  rotate_left
                  · simp only [Act.put, List.setIfInBounds_toArray, List.set_cons_zero, List.set_cons_succ, i64_w, i32_w]
                    rfl
                  refine pure_ (i := 2) (N := some 38) (v := ?_) (a' := ?_) #[false, true, true, false, false, false, false, false, false, false, false, false, false, false, false] rfl rfl (any_of HT_.out (by kernel_rfl)) (fun _ _ _ h => h) (Or.inl ⟨by rfl, ?_⟩) ?_ ?_
                  rotate_left
                  · intro w'
                    go_simp
                    with_reducible rfl
                  rotate_left
                  · simp only [Act.put, List.setIfInBounds_toArray, List.set_cons_zero, List.set_cons_succ, i64_w, i32_w]
                    rfl
                  refine pure_ (i := 3) (N := some 39) (v := ?_) (a' := ?_) #[false, true, true, true, false, false, false, false, false, false, false, false, false, false, false] rfl rfl (any_of HT_.out (by kernel_rfl)) (fun _ _ _ h => h) (Or.inl ⟨by rfl, ?_⟩) ?_ ?_
                  rotate_left
                  · intro w'
                    go_simp
                    with_reducible rfl
                  rotate_left
                  · simp only [Act.put, List.setIfInBounds_toArray, List.set_cons_zero, List.set_cons_succ, i64_w, i32_w]
                    rfl
                  refine pure_ (i := 5) (N := some 41) (v := ?_) (a' := ?_) #[false, true, true, true, false, true, false, false, false, false, false, false, false, false, false] rfl rfl (any_of HT_.out (by kernel_rfl)) (fun _ _ _ h => h) (Or.inl ⟨by rfl, ?_⟩) ?_ ?_
                  rotate_left
                  · intro w'
                    go_simp
                    with_reducible rfl
                  rotate_left
                  · simp only [Act.put, List.setIfInBounds_toArray, List.set_cons_zero, List.set_cons_succ, i64_w, i32_w]
                    rfl
                  refine pure_ (i := 6) (N := some 42) (v := ?_) (a' := ?_) #[false, true, true, true, false, true, true, false, false, false, false, false, false, false, false] rfl rfl (any_of HT_.out (by kernel_rfl)) (fun _ _ _ h => h) (Or.inl ⟨by rfl, ?_⟩) ?_ ?_
                  rotate_left
                  · intro w'
                    go_simp
                    with_reducible rfl
                  rotate_left
                  · simp only [Act.put, List.setIfInBounds_toArray, List.set_cons_zero, List.set_cons_succ, i64_w, i32_w]
                    rfl
                  refine pure_ (i := 7) (N := some 43) (v := ?_) (a' := ?_) #[false, true, true, true, false, true, true, true, false, false, false, false, false, false, false] rfl rfl (any_of HT_.out (by kernel_rfl)) (fun _ _ _ h => h) (Or.inl ⟨by rfl, ?_⟩) ?_ ?_
                  rotate_left
                  · intro w'
                    go_simp
                    with_reducible rfl
                  rotate_left
                  · simp only [Act.put, List.setIfInBounds_toArray, List.set_cons_zero, List.set_cons_succ, i64_w, i32_w]
                    rfl
                  refine pure_ (i := 9) (N := some 45) (v := ?_) (a' := ?_) #[false, true, true, true, false, true, true, true, false, true, false, false, false, false, false] rfl rfl (any_of HT_.out (by kernel_rfl)) (fun _ _ _ h => h) (Or.inl ⟨by rfl, ?_⟩) ?_ ?_
                  rotate_left
                  · intro w'
                    go_simp
                    with_reducible rfl
                  rotate_left
                  · simp only [Act.put, List.setIfInBounds_toArray, List.set_cons_zero, List.set_cons_succ, i64_w, i32_w]
                    rfl
                  refine pure_ (i := 10) (N := some 46) (v := ?_) (a' := ?_) #[false, true, true, true, false, true, true, true, false, true, true, false, false, false, false] rfl rfl (any_of HT_.out (by kernel_rfl)) (fun _ _ _ h => h) (Or.inl ⟨by rfl, ?_⟩) ?_ ?_
                  rotate_left
                  · intro w'
                    go_simp
                    with_reducible rfl
                  rotate_left
                  · simp only [Act.put, List.setIfInBounds_toArray, List.set_cons_zero, List.set_cons_succ, i64_w, i32_w]
                    rfl
                  refine join_ (σ := Value × Value × Value × Value) 3 #[true, true, true, true, true, true, true, true, true, true, true, true, false, false, false] (fun s_ => [(36, s_.1), (40, s_.2.1), (44, s_.2.2.1), (47, s_.2.2.2)]) (fun s_ w' => (Kd.R k30 30 w' w.heap.size (fun k_ => some k_ ≠ (s_.2.2.1 : Value).ownBlock) (.slice Ao28 t360.length co28) t360) ∧ (Kd.R k30 30 w' w.heap.size (fun k_ => some k_ ≠ (.slice Ao28 t360.length co28 : Value).ownBlock) s_.2.2.1 y379) ∧ (Kd.R (Kd.int .i64) 3 w' w.heap.size (fun _ => True) s_.2.2.2 y382) ∧ (Below w.heap.size w w')) ?_ ?_
                  rotate_left
                  · intro hCont
                    refine two_ (i := 0) (j := 11) (Ni := some 36) (Nj := some 47) #[true, true, true, true, false, true, true, true, false, true, true, false, false, false, false] #[false, true, true, true, false, true, true, true, false, true, true, true, false, false, false] rfl rfl rfl rfl (two_of HT_.out (by kernel_rfl)) (by decide) (by decide) (fun K hK => ?_) (fun K hK => ?_)
                    · skip
                      refine Kd.R_lit_step k30 _ 30 ?hg (N := 36) ?hd (xs := ([] : List (S30))) (inner := []) (ok := fun _ => True) (okp := fun _ => True) ?hr ?hp (fun _ hk => hk) trivial (Below.refl _ _) (Nat.le_refl _) (by simp) ?_; (case hd => rfl); (case hg => rfl); (case hr => first | (go_simp; done) | (go_simp; rfl)); (case hp => exact (Reps.none _ _))
                      intro v366 w32 ho33 hb hg_ hnew_
                      clear hg_ hnew_
                      (first | rw [← Ny365.out] at ho33 | (simp only [Int.reduceToNat] at ho33; rw [← Ny365.out] at ho33))
                      have n0_ := Aside0.mk (Kd.R_elder' (by (with_reducible repeat (first | apply Kd.R_alloc | apply Kd.R_drewN | apply Kd.R_drew)); exact HO362.out) (Kd.R_base ho33) hb)
                      have n1_ := Aside0.mk (Kd.R_lower (Kd.R_new' ho33 (Kd.R_lt (by (with_reducible repeat (first | apply Kd.R_alloc | apply Kd.R_drewN | apply Kd.R_drew)); exact HO362.out))) (below_size (by repeat (first | (with_reducible first | exact HB.out | apply below_alloc | apply pw_below_drewN | apply below_drew1) | exact HB.out))))
                      have n2_ := Aside0.mk (Kd.C_below (by repeat (first | (with_reducible exact HR371.out) | (with_reducible refine Kd.C_alloc ?_ _) | (with_reducible refine Kd.C_drewN ?_ _) | (with_reducible refine Kd.C_drew ?_) | exact HR371.out)) hb)
                      have n3_ := Aside0.mk (Kd.C_below (by repeat (first | (with_reducible exact HR378.out) | (with_reducible refine Kd.C_alloc ?_ _) | (with_reducible refine Kd.C_drewN ?_ _) | (with_reducible refine Kd.C_drew ?_) | exact HR378.out)) hb)
                      have n4_ := Aside0.mk (below_step (by repeat (first | (with_reducible first | exact HB.out | apply below_alloc | apply pw_below_drewN | apply below_drew1) | exact HB.out)) hb)
                      clear HO362
                      clear HR371
                      clear HR378
                      clear HB
                      have HO362 := n0_
                      have HO367 := n1_
                      have HR371 := n2_
                      have HR378 := n3_
                      have HB := n4_
                      clear n0_ n1_ n2_ n3_ n4_
                      clear hb ho33
                      refine hK.out _ _ trivial (fun hHeld => ?_)
                      clear hK K
                      refine norm_ (a' := ?_) ?_ ?_
                      rotate_left
                      · show Act.put _ (some 36) _ = _
                        simp only [Act.put, List.setIfInBounds_toArray, List.set_cons_zero, List.set_cons_succ, i64_w, i32_w]
                        rfl
                      refine two_ (i := 4) (j := 11) (Ni := some 40) (Nj := some 47) #[true, true, true, true, true, true, true, true, false, true, true, false, false, false, false] #[true, true, true, true, false, true, true, true, false, true, true, true, false, false, false] rfl rfl rfl rfl (two_of HT_.out (by kernel_rfl)) (by decide) (by decide) (fun K hK => ?_) (fun K hK => ?_)
                      · skip
                        refine Kd.R_append_rows_step k30 (w0 := w) w.heap.size (by rfl) (.tmp 36) (.tmp 39) 25 30 (.agg #[(.int .i64 0), (.int .i64 0), (.int .i64 0)]) 24 rfl Try.underlying25 info30 rfl (by decide) (by omega) v366 y365 y368 _ _ _ (fun k_ => some k_ ≠ (.slice Ao28 t360.length co28 : Value).ownBlock) (fun _ => False) rfl rfl ?aO ?aR (fun _ _ h => h) (fun _ h => h.elim) ?aF ?aB ?aS ?aL ?_
                        (case aR => repeat (first | exact (by repeat (first | (with_reducible exact HR371.out) | (with_reducible refine Kd.C_alloc ?_ _) | (with_reducible refine Kd.C_drewN ?_ _) | (with_reducible refine Kd.C_drew ?_) | exact HR371.out)) | (with_reducible refine Kd.C_alloc ?_ _) | (with_reducible refine Kd.C_drewN ?_ _) | (with_reducible refine Kd.C_drew ?_)))
                        (case aB => exact (by repeat (first | (with_reducible first | exact HB.out | apply below_alloc | apply pw_below_drewN | apply below_drew1) | exact HB.out)))
                        (case aF => exact (fun k_ hk => Kd.fresh' (Kd.R_lt (by (with_reducible repeat (first | apply Kd.R_alloc | apply Kd.R_drewN | apply Kd.R_drew)); exact HO362.out)) k_ hk))
                        (case aO => exact (by (with_reducible repeat (first | apply Kd.R_alloc | apply Kd.R_drewN | apply Kd.R_drew)); exact Kd.R_mono HO367.out (fun _ hk => hk.2)))
                        (case aS => exact (below_size (by repeat (first | (with_reducible first | exact HB.out | apply below_alloc | apply pw_below_drewN | apply below_drew1) | exact HB.out))))
                        (case aL => have := LMc14.out; omega)
                        intro v373 w34 ho hb hg hat
                        rw [← Ny372.out] at ho
                        have n0_ := Aside0.mk (Kd.R_after (ok := (fun _ => True)) (by (with_reducible repeat (first | apply Kd.R_alloc | apply Kd.R_drewN | apply Kd.R_drew)); exact HO362.out) hg hat)
                        have n1_ := Aside0.mk (hb)
                        have n2_ := Aside0.mk ((show Kd.C k30 w34 A30 y368.length y368 from by rw [Ny368.out, KA30.out]; exact Kd.C_drop (m := (t364 : Int).toNat) (c := co28) ((Kd.R_reads' (Kd.R_after (ok := (fun _ => True)) (by (with_reducible repeat (first | apply Kd.R_alloc | apply Kd.R_drewN | apply Kd.R_drew)); exact HO362.out) hg hat)).2.2) KL30.out ((Kd.R_reads' (Kd.R_after (ok := (fun _ => True)) (by (with_reducible repeat (first | apply Kd.R_alloc | apply Kd.R_drewN | apply Kd.R_drew)); exact HO362.out) hg hat)).2.1)))
                        have n3_ := Aside0.mk ((show Kd.C k30 w34 Ao28 y375.length y375 from by rw [Ny375.out]; exact Kd.C_take (m := (t364 : Int).toNat) ((Kd.R_reads' (Kd.R_after (ok := (fun _ => True)) (by (with_reducible repeat (first | apply Kd.R_alloc | apply Kd.R_drewN | apply Kd.R_drew)); exact HO362.out) hg hat)).2.2) KL31.out))
                        have n4_ := Aside0.mk (ho)
                        clear HO362
                        clear HB
                        clear HR371
                        clear HR378
                        clear HO367
                        have HO362 := n0_
                        have HB := n1_
                        have HR371 := n2_
                        have HR378 := n3_
                        have HO374 := n4_
                        clear n0_ n1_ n2_ n3_ n4_
                        clear ho hb hg hat
                        refine hK.out _ _ trivial (fun hHeld => ?_)
                        clear hK K
                        refine norm_ (a' := ?_) ?_ ?_
                        rotate_left
                        · show Act.put _ (some 40) _ = _
                          simp only [Act.put, List.setIfInBounds_toArray, List.set_cons_zero, List.set_cons_succ, i64_w, i32_w]
                          rfl
                        refine two_ (i := 8) (j := 11) (Ni := some 44) (Nj := some 47) #[true, true, true, true, true, true, true, true, true, true, true, false, false, false, false] #[true, true, true, true, true, true, true, true, false, true, true, true, false, false, false] rfl rfl rfl rfl (two_of HT_.out (by kernel_rfl)) (by decide) (by decide) (fun K hK => ?_) (fun K hK => ?_)
                        · skip
                          refine Kd.R_append_rows_step k30 (w0 := w) w.heap.size (by rfl) (.tmp 40) (.tmp 43) 25 30 (.agg #[(.int .i64 0), (.int .i64 0), (.int .i64 0)]) 24 rfl Try.underlying25 info30 rfl (by decide) (by omega) v373 y372 y375 _ _ _ (fun k_ => some k_ ≠ (.slice Ao28 t360.length co28 : Value).ownBlock) (fun _ => False) rfl rfl ?aO ?aR (fun _ _ h => h) (fun _ h => h.elim) ?aF ?aB ?aS ?aL ?_
                          (case aR => repeat (first | exact (by repeat (first | (with_reducible exact HR378.out) | (with_reducible refine Kd.C_alloc ?_ _) | (with_reducible refine Kd.C_drewN ?_ _) | (with_reducible refine Kd.C_drew ?_) | exact HR378.out)) | (with_reducible refine Kd.C_alloc ?_ _) | (with_reducible refine Kd.C_drewN ?_ _) | (with_reducible refine Kd.C_drew ?_)))
                          (case aB => exact (by repeat (first | (with_reducible first | exact HB.out | apply below_alloc | apply pw_below_drewN | apply below_drew1) | exact HB.out)))
                          (case aF => exact (fun k_ hk => Kd.fresh' (Kd.R_lt (by (with_reducible repeat (first | apply Kd.R_alloc | apply Kd.R_drewN | apply Kd.R_drew)); exact HO362.out)) k_ hk))
                          (case aO => exact (by (with_reducible repeat (first | apply Kd.R_alloc | apply Kd.R_drewN | apply Kd.R_drew)); exact HO374.out))
                          (case aS => exact (below_size (by repeat (first | (with_reducible first | exact HB.out | apply below_alloc | apply pw_below_drewN | apply below_drew1) | exact HB.out))))
                          (case aL => have := LMc17.out; omega)
                          intro v380 w35 ho hb hg hat
                          rw [← Ny379.out] at ho
                          have n0_ := Aside0.mk (Kd.R_after (ok := (fun _ => True)) (by (with_reducible repeat (first | apply Kd.R_alloc | apply Kd.R_drewN | apply Kd.R_drew)); exact HO362.out) hg hat)
                          have n1_ := Aside0.mk (hb)
                          have n2_ := Aside0.mk ((show Kd.C k30 w35 A30 y368.length y368 from by rw [Ny368.out, KA30.out]; exact Kd.C_drop (m := (t364 : Int).toNat) (c := co28) ((Kd.R_reads' (Kd.R_after (ok := (fun _ => True)) (by (with_reducible repeat (first | apply Kd.R_alloc | apply Kd.R_drewN | apply Kd.R_drew)); exact HO362.out) hg hat)).2.2) KL30.out ((Kd.R_reads' (Kd.R_after (ok := (fun _ => True)) (by (with_reducible repeat (first | apply Kd.R_alloc | apply Kd.R_drewN | apply Kd.R_drew)); exact HO362.out) hg hat)).2.1)))
                          have n3_ := Aside0.mk ((show Kd.C k30 w35 Ao28 y375.length y375 from by rw [Ny375.out]; exact Kd.C_take (m := (t364 : Int).toNat) ((Kd.R_reads' (Kd.R_after (ok := (fun _ => True)) (by (with_reducible repeat (first | apply Kd.R_alloc | apply Kd.R_drewN | apply Kd.R_drew)); exact HO362.out) hg hat)).2.2) KL31.out))
                          have n4_ := Aside0.mk (ho)
                          clear HO362
                          clear HB
                          clear HR371
                          clear HR378
                          clear HO374
                          have HO362 := n0_
                          have HB := n1_
                          have HR371 := n2_
                          have HR378 := n3_
                          have HO381 := n4_
                          clear n0_ n1_ n2_ n3_ n4_
                          clear ho hb hg hat
                          refine hK.out _ _ trivial (fun hHeld => ?_)
                          clear hK K
                          refine norm_ (a' := ?_) ?_ ?_
                          rotate_left
                          · show Act.put _ (some 44) _ = _
                            simp only [Act.put, List.setIfInBounds_toArray, List.set_cons_zero, List.set_cons_succ, i64_w, i32_w]
                            rfl
                          refine one_ (i := 11) (N := some 47) #[true, true, true, true, true, true, true, true, true, true, true, true, false, false, false] rfl rfl (one_of HT_.out (by kernel_rfl)) (by decide) (fun K hK => ?_)
                          refine Kd.R_lit_step (Kd.int .i64) _ 3 ?hg (N := 47) ?hd (xs := ([a3] : List Int)) (inner := [.int .i64 a3]) (ok := fun _ => True) (okp := fun _ => True) ?hr ?hp (fun _ hk => hk) trivial (Below.refl _ _) (Nat.le_refl _) (by simp) ?_; (case hd => rfl); (case hg => rfl); (case hr => first | (go_simp; done) | (go_simp; rfl)); (case hp => exact (Reps.one (show Kd.M (Kd.int .i64) _ _ _ a3 [.int .i64 a3] from rfl) (Reps.none _ _)))
                          intro v383 w36 ho37 hb hg_ hnew_
                          clear hg_ hnew_
                          (first | rw [← Ny382.out] at ho37 | (simp only [Int.reduceToNat] at ho37; rw [← Ny382.out] at ho37))
                          have n0_ := Aside0.mk (Kd.R_below (by (with_reducible repeat (first | apply Kd.R_alloc | apply Kd.R_drewN | apply Kd.R_drew)); exact HO362.out) hb)
                          have n1_ := Aside0.mk (Kd.R_below (by (with_reducible repeat (first | apply Kd.R_alloc | apply Kd.R_drewN | apply Kd.R_drew)); exact HO381.out) hb)
                          have n2_ := Aside0.mk (Kd.R_lower ho37 (below_size (by repeat (first | (with_reducible first | exact HB.out | apply below_alloc | apply pw_below_drewN | apply below_drew1) | exact HB.out))))
                          have n3_ := Aside0.mk (Kd.C_below (by repeat (first | (with_reducible exact HR371.out) | (with_reducible refine Kd.C_alloc ?_ _) | (with_reducible refine Kd.C_drewN ?_ _) | (with_reducible refine Kd.C_drew ?_) | exact HR371.out)) hb)
                          have n4_ := Aside0.mk (Kd.C_below (by repeat (first | (with_reducible exact HR378.out) | (with_reducible refine Kd.C_alloc ?_ _) | (with_reducible refine Kd.C_drewN ?_ _) | (with_reducible refine Kd.C_drew ?_) | exact HR378.out)) hb)
                          have n5_ := Aside0.mk (below_step (by repeat (first | (with_reducible first | exact HB.out | apply below_alloc | apply pw_below_drewN | apply below_drew1) | exact HB.out)) hb)
                          clear HO362
                          clear HO381
                          clear HR371
                          clear HR378
                          clear HB
                          have HO362 := n0_
                          have HO381 := n1_
                          have HO384 := n2_
                          have HR371 := n3_
                          have HR378 := n4_
                          have HB := n5_
                          clear n0_ n1_ n2_ n3_ n4_ n5_
                          clear hb ho37
                          refine hK.out _ _ trivial (fun hHeld => ?_)
                          clear hK K
                          refine norm_ (a' := ?_) ?_ ?_
                          rotate_left
                          · show Act.put _ (some 47) _ = _
                            simp only [Act.put, List.setIfInBounds_toArray, List.set_cons_zero, List.set_cons_succ, i64_w, i32_w]
                            rfl
                          exact norm_ (by simp only [putAll, Act.put, List.setIfInBounds_toArray, List.set_cons_zero, List.set_cons_succ]) (hCont (v366, v373, v380, v383) _ ⟨(by (with_reducible repeat (first | apply Kd.R_alloc | apply Kd.R_drewN | apply Kd.R_drew)); exact Kd.R_mono HO362.out (fun _ hk => hk.2)), (by (with_reducible repeat (first | apply Kd.R_alloc | apply Kd.R_drewN | apply Kd.R_drew)); exact HO381.out), (by (with_reducible repeat (first | apply Kd.R_alloc | apply Kd.R_drewN | apply Kd.R_drew)); exact HO384.out), (by repeat (first | (with_reducible first | exact HB.out | apply below_alloc | apply pw_below_drewN | apply below_drew1) | exact HB.out))⟩)
                        · skip
                          refine Kd.R_lit_step (Kd.int .i64) _ 3 ?hg (N := 47) ?hd (xs := ([a3] : List Int)) (inner := [.int .i64 a3]) (ok := fun _ => True) (okp := fun _ => True) ?hr ?hp (fun _ hk => hk) trivial (Below.refl _ _) (Nat.le_refl _) (by simp) ?_; (case hd => rfl); (case hg => rfl); (case hr => first | (go_simp; done) | (go_simp; rfl)); (case hp => exact (Reps.one (show Kd.M (Kd.int .i64) _ _ _ a3 [.int .i64 a3] from rfl) (Reps.none _ _)))
                          intro v383 w35 ho36 hb hg_ hnew_
                          clear hg_ hnew_
                          (first | rw [← Ny382.out] at ho36 | (simp only [Int.reduceToNat] at ho36; rw [← Ny382.out] at ho36))
                          have n0_ := Aside0.mk (Kd.R_below (by (with_reducible repeat (first | apply Kd.R_alloc | apply Kd.R_drewN | apply Kd.R_drew)); exact HO362.out) hb)
                          have n1_ := Aside0.mk (Kd.R_below (by (with_reducible repeat (first | apply Kd.R_alloc | apply Kd.R_drewN | apply Kd.R_drew)); exact HO374.out) hb)
                          have n2_ := Aside0.mk (Kd.R_lower ho36 (below_size (by repeat (first | (with_reducible first | exact HB.out | apply below_alloc | apply pw_below_drewN | apply below_drew1) | exact HB.out))))
                          have n3_ := Aside0.mk (Kd.C_below (by repeat (first | (with_reducible exact HR371.out) | (with_reducible refine Kd.C_alloc ?_ _) | (with_reducible refine Kd.C_drewN ?_ _) | (with_reducible refine Kd.C_drew ?_) | exact HR371.out)) hb)
                          have n4_ := Aside0.mk (Kd.C_below (by repeat (first | (with_reducible exact HR378.out) | (with_reducible refine Kd.C_alloc ?_ _) | (with_reducible refine Kd.C_drewN ?_ _) | (with_reducible refine Kd.C_drew ?_) | exact HR378.out)) hb)
                          have n5_ := Aside0.mk (below_step (by repeat (first | (with_reducible first | exact HB.out | apply below_alloc | apply pw_below_drewN | apply below_drew1) | exact HB.out)) hb)
                          clear HO362
                          clear HO374
                          clear HR371
                          clear HR378
                          clear HB
                          have HO362 := n0_
                          have HO374 := n1_
                          have HO384 := n2_
                          have HR371 := n3_
                          have HR378 := n4_
                          have HB := n5_
                          clear n0_ n1_ n2_ n3_ n4_ n5_
                          clear hb ho36
                          refine hK.out _ _ trivial (fun hHeld => ?_)
                          clear hK K
                          refine norm_ (a' := ?_) ?_ ?_
                          rotate_left
                          · show Act.put _ (some 47) _ = _
                            simp only [Act.put, List.setIfInBounds_toArray, List.set_cons_zero, List.set_cons_succ, i64_w, i32_w]
                            rfl
                          refine one_ (i := 8) (N := some 44) #[true, true, true, true, true, true, true, true, true, true, true, true, false, false, false] rfl rfl (one_of HT_.out (by kernel_rfl)) (by decide) (fun K hK => ?_)
                          refine Kd.R_append_rows_step k30 (w0 := w) w.heap.size (by rfl) (.tmp 40) (.tmp 43) 25 30 (.agg #[(.int .i64 0), (.int .i64 0), (.int .i64 0)]) 24 rfl Try.underlying25 info30 rfl (by decide) (by omega) v373 y372 y375 _ _ _ (fun k_ => some k_ ≠ (.slice Ao28 t360.length co28 : Value).ownBlock) (fun _ => False) rfl rfl ?aO ?aR (fun _ _ h => h) (fun _ h => h.elim) ?aF ?aB ?aS ?aL ?_
                          (case aR => repeat (first | exact (by repeat (first | (with_reducible exact HR378.out) | (with_reducible refine Kd.C_alloc ?_ _) | (with_reducible refine Kd.C_drewN ?_ _) | (with_reducible refine Kd.C_drew ?_) | exact HR378.out)) | (with_reducible refine Kd.C_alloc ?_ _) | (with_reducible refine Kd.C_drewN ?_ _) | (with_reducible refine Kd.C_drew ?_)))
                          (case aB => exact (by repeat (first | (with_reducible first | exact HB.out | apply below_alloc | apply pw_below_drewN | apply below_drew1) | exact HB.out)))
                          (case aF => exact (fun k_ hk => Kd.fresh' (Kd.R_lt (by (with_reducible repeat (first | apply Kd.R_alloc | apply Kd.R_drewN | apply Kd.R_drew)); exact HO362.out)) k_ hk))
                          (case aO => exact (by (with_reducible repeat (first | apply Kd.R_alloc | apply Kd.R_drewN | apply Kd.R_drew)); exact HO374.out))
                          (case aS => exact (below_size (by repeat (first | (with_reducible first | exact HB.out | apply below_alloc | apply pw_below_drewN | apply below_drew1) | exact HB.out))))
                          (case aL => have := LMc17.out; omega)
                          intro v380 w37 ho hb hg hat
                          rw [← Ny379.out] at ho
                          have n0_ := Aside0.mk (Kd.R_after (ok := (fun _ => True)) (by (with_reducible repeat (first | apply Kd.R_alloc | apply Kd.R_drewN | apply Kd.R_drew)); exact HO362.out) hg hat)
                          have n1_ := Aside0.mk (Kd.R_over' (by (with_reducible repeat (first | apply Kd.R_alloc | apply Kd.R_drewN | apply Kd.R_drew)); exact HO384.out) (Kd.R_typed (by (with_reducible repeat (first | apply Kd.R_alloc | apply Kd.R_drewN | apply Kd.R_drew)); exact HO374.out)) (by decide) hg)
                          have n2_ := Aside0.mk (hb)
                          have n3_ := Aside0.mk ((show Kd.C k30 w37 A30 y368.length y368 from by rw [Ny368.out, KA30.out]; exact Kd.C_drop (m := (t364 : Int).toNat) (c := co28) ((Kd.R_reads' (Kd.R_after (ok := (fun _ => True)) (by (with_reducible repeat (first | apply Kd.R_alloc | apply Kd.R_drewN | apply Kd.R_drew)); exact HO362.out) hg hat)).2.2) KL30.out ((Kd.R_reads' (Kd.R_after (ok := (fun _ => True)) (by (with_reducible repeat (first | apply Kd.R_alloc | apply Kd.R_drewN | apply Kd.R_drew)); exact HO362.out) hg hat)).2.1)))
                          have n4_ := Aside0.mk ((show Kd.C k30 w37 Ao28 y375.length y375 from by rw [Ny375.out]; exact Kd.C_take (m := (t364 : Int).toNat) ((Kd.R_reads' (Kd.R_after (ok := (fun _ => True)) (by (with_reducible repeat (first | apply Kd.R_alloc | apply Kd.R_drewN | apply Kd.R_drew)); exact HO362.out) hg hat)).2.2) KL31.out))
                          have n5_ := Aside0.mk (ho)
                          clear HO362
                          clear HO384
                          clear HB
                          clear HR371
                          clear HR378
                          clear HO374
                          have HO362 := n0_
                          have HO384 := n1_
                          have HB := n2_
                          have HR371 := n3_
                          have HR378 := n4_
                          have HO381 := n5_
                          clear n0_ n1_ n2_ n3_ n4_ n5_
                          clear ho hb hg hat
                          refine hK.out _ _ trivial (fun hHeld => ?_)
                          clear hK K
                          refine norm_ (a' := ?_) ?_ ?_
                          rotate_left
                          · show Act.put _ (some 44) _ = _
                            simp only [Act.put, List.setIfInBounds_toArray, List.set_cons_zero, List.set_cons_succ, i64_w, i32_w]
                            rfl
                          exact norm_ (by simp only [putAll, Act.put, List.setIfInBounds_toArray, List.set_cons_zero, List.set_cons_succ]) (hCont (v366, v373, v380, v383) _ ⟨(by (with_reducible repeat (first | apply Kd.R_alloc | apply Kd.R_drewN | apply Kd.R_drew)); exact Kd.R_mono HO362.out (fun _ hk => hk.2)), (by (with_reducible repeat (first | apply Kd.R_alloc | apply Kd.R_drewN | apply Kd.R_drew)); exact HO381.out), (by (with_reducible repeat (first | apply Kd.R_alloc | apply Kd.R_drewN | apply Kd.R_drew)); exact HO384.out), (by repeat (first | (with_reducible first | exact HB.out | apply below_alloc | apply pw_below_drewN | apply below_drew1) | exact HB.out))⟩)
                      · skip
                        refine Kd.R_lit_step (Kd.int .i64) _ 3 ?hg (N := 47) ?hd (xs := ([a3] : List Int)) (inner := [.int .i64 a3]) (ok := fun _ => True) (okp := fun _ => True) ?hr ?hp (fun _ hk => hk) trivial (Below.refl _ _) (Nat.le_refl _) (by simp) ?_; (case hd => rfl); (case hg => rfl); (case hr => first | (go_simp; done) | (go_simp; rfl)); (case hp => exact (Reps.one (show Kd.M (Kd.int .i64) _ _ _ a3 [.int .i64 a3] from rfl) (Reps.none _ _)))
                        intro v383 w34 ho35 hb hg_ hnew_
                        clear hg_ hnew_
                        (first | rw [← Ny382.out] at ho35 | (simp only [Int.reduceToNat] at ho35; rw [← Ny382.out] at ho35))
                        have n0_ := Aside0.mk (Kd.R_below (by (with_reducible repeat (first | apply Kd.R_alloc | apply Kd.R_drewN | apply Kd.R_drew)); exact HO362.out) hb)
                        have n1_ := Aside0.mk (Kd.R_below (by (with_reducible repeat (first | apply Kd.R_alloc | apply Kd.R_drewN | apply Kd.R_drew)); exact HO367.out) hb)
                        have n2_ := Aside0.mk (Kd.R_lower ho35 (below_size (by repeat (first | (with_reducible first | exact HB.out | apply below_alloc | apply pw_below_drewN | apply below_drew1) | exact HB.out))))
                        have n3_ := Aside0.mk (Kd.C_below (by repeat (first | (with_reducible exact HR371.out) | (with_reducible refine Kd.C_alloc ?_ _) | (with_reducible refine Kd.C_drewN ?_ _) | (with_reducible refine Kd.C_drew ?_) | exact HR371.out)) hb)
                        have n4_ := Aside0.mk (Kd.C_below (by repeat (first | (with_reducible exact HR378.out) | (with_reducible refine Kd.C_alloc ?_ _) | (with_reducible refine Kd.C_drewN ?_ _) | (with_reducible refine Kd.C_drew ?_) | exact HR378.out)) hb)
                        have n5_ := Aside0.mk (below_step (by repeat (first | (with_reducible first | exact HB.out | apply below_alloc | apply pw_below_drewN | apply below_drew1) | exact HB.out)) hb)
                        clear HO362
                        clear HO367
                        clear HR371
                        clear HR378
                        clear HB
                        have HO362 := n0_
                        have HO367 := n1_
                        have HO384 := n2_
                        have HR371 := n3_
                        have HR378 := n4_
                        have HB := n5_
                        clear n0_ n1_ n2_ n3_ n4_ n5_
                        clear hb ho35
                        refine hK.out _ _ trivial (fun hHeld => ?_)
                        clear hK K
                        refine norm_ (a' := ?_) ?_ ?_
                        rotate_left
                        · show Act.put _ (some 47) _ = _
                          simp only [Act.put, List.setIfInBounds_toArray, List.set_cons_zero, List.set_cons_succ, i64_w, i32_w]
                          rfl
                        refine one_ (i := 4) (N := some 40) #[true, true, true, true, true, true, true, true, false, true, true, true, false, false, false] rfl rfl (one_of HT_.out (by kernel_rfl)) (by decide) (fun K hK => ?_)
                        refine Kd.R_append_rows_step k30 (w0 := w) w.heap.size (by rfl) (.tmp 36) (.tmp 39) 25 30 (.agg #[(.int .i64 0), (.int .i64 0), (.int .i64 0)]) 24 rfl Try.underlying25 info30 rfl (by decide) (by omega) v366 y365 y368 _ _ _ (fun k_ => some k_ ≠ (.slice Ao28 t360.length co28 : Value).ownBlock) (fun _ => False) rfl rfl ?aO ?aR (fun _ _ h => h) (fun _ h => h.elim) ?aF ?aB ?aS ?aL ?_
                        (case aR => repeat (first | exact (by repeat (first | (with_reducible exact HR371.out) | (with_reducible refine Kd.C_alloc ?_ _) | (with_reducible refine Kd.C_drewN ?_ _) | (with_reducible refine Kd.C_drew ?_) | exact HR371.out)) | (with_reducible refine Kd.C_alloc ?_ _) | (with_reducible refine Kd.C_drewN ?_ _) | (with_reducible refine Kd.C_drew ?_)))
                        (case aB => exact (by repeat (first | (with_reducible first | exact HB.out | apply below_alloc | apply pw_below_drewN | apply below_drew1) | exact HB.out)))
                        (case aF => exact (fun k_ hk => Kd.fresh' (Kd.R_lt (by (with_reducible repeat (first | apply Kd.R_alloc | apply Kd.R_drewN | apply Kd.R_drew)); exact HO362.out)) k_ hk))
                        (case aO => exact (by (with_reducible repeat (first | apply Kd.R_alloc | apply Kd.R_drewN | apply Kd.R_drew)); exact Kd.R_mono HO367.out (fun _ hk => hk.2)))
                        (case aS => exact (below_size (by repeat (first | (with_reducible first | exact HB.out | apply below_alloc | apply pw_below_drewN | apply below_drew1) | exact HB.out))))
                        (case aL => have := LMc14.out; omega)
                        intro v373 w36 ho hb hg hat
                        rw [← Ny372.out] at ho
                        have n0_ := Aside0.mk (Kd.R_after (ok := (fun _ => True)) (by (with_reducible repeat (first | apply Kd.R_alloc | apply Kd.R_drewN | apply Kd.R_drew)); exact HO362.out) hg hat)
                        have n1_ := Aside0.mk (Kd.R_over' (by (with_reducible repeat (first | apply Kd.R_alloc | apply Kd.R_drewN | apply Kd.R_drew)); exact HO384.out) (Kd.R_typed (by (with_reducible repeat (first | apply Kd.R_alloc | apply Kd.R_drewN | apply Kd.R_drew)); exact HO367.out)) (by decide) hg)
                        have n2_ := Aside0.mk (hb)
                        have n3_ := Aside0.mk ((show Kd.C k30 w36 A30 y368.length y368 from by rw [Ny368.out, KA30.out]; exact Kd.C_drop (m := (t364 : Int).toNat) (c := co28) ((Kd.R_reads' (Kd.R_after (ok := (fun _ => True)) (by (with_reducible repeat (first | apply Kd.R_alloc | apply Kd.R_drewN | apply Kd.R_drew)); exact HO362.out) hg hat)).2.2) KL30.out ((Kd.R_reads' (Kd.R_after (ok := (fun _ => True)) (by (with_reducible repeat (first | apply Kd.R_alloc | apply Kd.R_drewN | apply Kd.R_drew)); exact HO362.out) hg hat)).2.1)))
                        have n4_ := Aside0.mk ((show Kd.C k30 w36 Ao28 y375.length y375 from by rw [Ny375.out]; exact Kd.C_take (m := (t364 : Int).toNat) ((Kd.R_reads' (Kd.R_after (ok := (fun _ => True)) (by (with_reducible repeat (first | apply Kd.R_alloc | apply Kd.R_drewN | apply Kd.R_drew)); exact HO362.out) hg hat)).2.2) KL31.out))
                        have n5_ := Aside0.mk (ho)
                        clear HO362
                        clear HO384
                        clear HB
                        clear HR371
                        clear HR378
                        clear HO367
                        have HO362 := n0_
                        have HO384 := n1_
                        have HB := n2_
                        have HR371 := n3_
                        have HR378 := n4_
                        have HO374 := n5_
                        clear n0_ n1_ n2_ n3_ n4_ n5_
                        clear ho hb hg hat
                        refine hK.out _ _ trivial (fun hHeld => ?_)
                        clear hK K
                        refine norm_ (a' := ?_) ?_ ?_
                        rotate_left
                        · show Act.put _ (some 40) _ = _
                          simp only [Act.put, List.setIfInBounds_toArray, List.set_cons_zero, List.set_cons_succ, i64_w, i32_w]
                          rfl
                        refine one_ (i := 8) (N := some 44) #[true, true, true, true, true, true, true, true, true, true, true, true, false, false, false] rfl rfl (one_of HT_.out (by kernel_rfl)) (by decide) (fun K hK => ?_)
                        refine Kd.R_append_rows_step k30 (w0 := w) w.heap.size (by rfl) (.tmp 40) (.tmp 43) 25 30 (.agg #[(.int .i64 0), (.int .i64 0), (.int .i64 0)]) 24 rfl Try.underlying25 info30 rfl (by decide) (by omega) v373 y372 y375 _ _ _ (fun k_ => some k_ ≠ (.slice Ao28 t360.length co28 : Value).ownBlock) (fun _ => False) rfl rfl ?aO ?aR (fun _ _ h => h) (fun _ h => h.elim) ?aF ?aB ?aS ?aL ?_
                        (case aR => repeat (first | exact (by repeat (first | (with_reducible exact HR378.out) | (with_reducible refine Kd.C_alloc ?_ _) | (with_reducible refine Kd.C_drewN ?_ _) | (with_reducible refine Kd.C_drew ?_) | exact HR378.out)) | (with_reducible refine Kd.C_alloc ?_ _) | (with_reducible refine Kd.C_drewN ?_ _) | (with_reducible refine Kd.C_drew ?_)))
                        (case aB => exact (by repeat (first | (with_reducible first | exact HB.out | apply below_alloc | apply pw_below_drewN | apply below_drew1) | exact HB.out)))
                        (case aF => exact (fun k_ hk => Kd.fresh' (Kd.R_lt (by (with_reducible repeat (first | apply Kd.R_alloc | apply Kd.R_drewN | apply Kd.R_drew)); exact HO362.out)) k_ hk))
                        (case aO => exact (by (with_reducible repeat (first | apply Kd.R_alloc | apply Kd.R_drewN | apply Kd.R_drew)); exact HO374.out))
                        (case aS => exact (below_size (by repeat (first | (with_reducible first | exact HB.out | apply below_alloc | apply pw_below_drewN | apply below_drew1) | exact HB.out))))
                        (case aL => have := LMc17.out; omega)
                        intro v380 w37 ho hb hg hat
                        rw [← Ny379.out] at ho
                        have n0_ := Aside0.mk (Kd.R_after (ok := (fun _ => True)) (by (with_reducible repeat (first | apply Kd.R_alloc | apply Kd.R_drewN | apply Kd.R_drew)); exact HO362.out) hg hat)
                        have n1_ := Aside0.mk (Kd.R_over' (by (with_reducible repeat (first | apply Kd.R_alloc | apply Kd.R_drewN | apply Kd.R_drew)); exact HO384.out) (Kd.R_typed (by (with_reducible repeat (first | apply Kd.R_alloc | apply Kd.R_drewN | apply Kd.R_drew)); exact HO374.out)) (by decide) hg)
                        have n2_ := Aside0.mk (hb)
                        have n3_ := Aside0.mk ((show Kd.C k30 w37 A30 y368.length y368 from by rw [Ny368.out, KA30.out]; exact Kd.C_drop (m := (t364 : Int).toNat) (c := co28) ((Kd.R_reads' (Kd.R_after (ok := (fun _ => True)) (by (with_reducible repeat (first | apply Kd.R_alloc | apply Kd.R_drewN | apply Kd.R_drew)); exact HO362.out) hg hat)).2.2) KL30.out ((Kd.R_reads' (Kd.R_after (ok := (fun _ => True)) (by (with_reducible repeat (first | apply Kd.R_alloc | apply Kd.R_drewN | apply Kd.R_drew)); exact HO362.out) hg hat)).2.1)))
                        have n4_ := Aside0.mk ((show Kd.C k30 w37 Ao28 y375.length y375 from by rw [Ny375.out]; exact Kd.C_take (m := (t364 : Int).toNat) ((Kd.R_reads' (Kd.R_after (ok := (fun _ => True)) (by (with_reducible repeat (first | apply Kd.R_alloc | apply Kd.R_drewN | apply Kd.R_drew)); exact HO362.out) hg hat)).2.2) KL31.out))
                        have n5_ := Aside0.mk (ho)
                        clear HO362
                        clear HO384
                        clear HB
                        clear HR371
                        clear HR378
                        clear HO374
                        have HO362 := n0_
                        have HO384 := n1_
                        have HB := n2_
                        have HR371 := n3_
                        have HR378 := n4_
                        have HO381 := n5_
                        clear n0_ n1_ n2_ n3_ n4_ n5_
                        clear ho hb hg hat
                        refine hK.out _ _ trivial (fun hHeld => ?_)
                        clear hK K
                        refine norm_ (a' := ?_) ?_ ?_
                        rotate_left
                        · show Act.put _ (some 44) _ = _
                          simp only [Act.put, List.setIfInBounds_toArray, List.set_cons_zero, List.set_cons_succ, i64_w, i32_w]
                          rfl
                        exact norm_ (by simp only [putAll, Act.put, List.setIfInBounds_toArray, List.set_cons_zero, List.set_cons_succ]) (hCont (v366, v373, v380, v383) _ ⟨(by (with_reducible repeat (first | apply Kd.R_alloc | apply Kd.R_drewN | apply Kd.R_drew)); exact Kd.R_mono HO362.out (fun _ hk => hk.2)), (by (with_reducible repeat (first | apply Kd.R_alloc | apply Kd.R_drewN | apply Kd.R_drew)); exact HO381.out), (by (with_reducible repeat (first | apply Kd.R_alloc | apply Kd.R_drewN | apply Kd.R_drew)); exact HO384.out), (by repeat (first | (with_reducible first | exact HB.out | apply below_alloc | apply pw_below_drewN | apply below_drew1) | exact HB.out))⟩)
                    · skip
                      refine Kd.R_lit_step (Kd.int .i64) _ 3 ?hg (N := 47) ?hd (xs := ([a3] : List Int)) (inner := [.int .i64 a3]) (ok := fun _ => True) (okp := fun _ => True) ?hr ?hp (fun _ hk => hk) trivial (Below.refl _ _) (Nat.le_refl _) (by simp) ?_; (case hd => rfl); (case hg => rfl); (case hr => first | (go_simp; done) | (go_simp; rfl)); (case hp => exact (Reps.one (show Kd.M (Kd.int .i64) _ _ _ a3 [.int .i64 a3] from rfl) (Reps.none _ _)))
                      intro v383 w32 ho33 hb hg_ hnew_
                      clear hg_ hnew_
                      (first | rw [← Ny382.out] at ho33 | (simp only [Int.reduceToNat] at ho33; rw [← Ny382.out] at ho33))
                      have n0_ := Aside0.mk (Kd.R_below (by (with_reducible repeat (first | apply Kd.R_alloc | apply Kd.R_drewN | apply Kd.R_drew)); exact HO362.out) hb)
                      have n1_ := Aside0.mk (Kd.R_lower ho33 (below_size (by repeat (first | (with_reducible first | exact HB.out | apply below_alloc | apply pw_below_drewN | apply below_drew1) | exact HB.out))))
                      have n2_ := Aside0.mk (Kd.C_below (by repeat (first | (with_reducible exact HR371.out) | (with_reducible refine Kd.C_alloc ?_ _) | (with_reducible refine Kd.C_drewN ?_ _) | (with_reducible refine Kd.C_drew ?_) | exact HR371.out)) hb)
                      have n3_ := Aside0.mk (Kd.C_below (by repeat (first | (with_reducible exact HR378.out) | (with_reducible refine Kd.C_alloc ?_ _) | (with_reducible refine Kd.C_drewN ?_ _) | (with_reducible refine Kd.C_drew ?_) | exact HR378.out)) hb)
                      have n4_ := Aside0.mk (below_step (by repeat (first | (with_reducible first | exact HB.out | apply below_alloc | apply pw_below_drewN | apply below_drew1) | exact HB.out)) hb)
                      clear HO362
                      clear HR371
                      clear HR378
                      clear HB
                      have HO362 := n0_
                      have HO384 := n1_
                      have HR371 := n2_
                      have HR378 := n3_
                      have HB := n4_
                      clear n0_ n1_ n2_ n3_ n4_
                      clear hb ho33
                      refine hK.out _ _ trivial (fun hHeld => ?_)
                      clear hK K
                      refine norm_ (a' := ?_) ?_ ?_
                      rotate_left
                      · show Act.put _ (some 47) _ = _
                        simp only [Act.put, List.setIfInBounds_toArray, List.set_cons_zero, List.set_cons_succ, i64_w, i32_w]
                        rfl
                      refine one_ (i := 0) (N := some 36) #[true, true, true, true, false, true, true, true, false, true, true, true, false, false, false] rfl rfl (one_of HT_.out (by kernel_rfl)) (by decide) (fun K hK => ?_)
                      refine Kd.R_lit_step k30 _ 30 ?hg (N := 36) ?hd (xs := ([] : List (S30))) (inner := []) (ok := fun _ => True) (okp := fun _ => True) ?hr ?hp (fun _ hk => hk) trivial (Below.refl _ _) (Nat.le_refl _) (by simp) ?_; (case hd => rfl); (case hg => rfl); (case hr => first | (go_simp; done) | (go_simp; rfl)); (case hp => exact (Reps.none _ _))
                      intro v366 w34 ho35 hb hg_ hnew_
                      clear hg_ hnew_
                      (first | rw [← Ny365.out] at ho35 | (simp only [Int.reduceToNat] at ho35; rw [← Ny365.out] at ho35))
                      have n0_ := Aside0.mk (Kd.R_elder' (by (with_reducible repeat (first | apply Kd.R_alloc | apply Kd.R_drewN | apply Kd.R_drew)); exact HO362.out) (Kd.R_base ho35) hb)
                      have n1_ := Aside0.mk (Kd.R_below (by (with_reducible repeat (first | apply Kd.R_alloc | apply Kd.R_drewN | apply Kd.R_drew)); exact HO384.out) hb)
                      have n2_ := Aside0.mk (Kd.R_lower (Kd.R_new' ho35 (Kd.R_lt (by (with_reducible repeat (first | apply Kd.R_alloc | apply Kd.R_drewN | apply Kd.R_drew)); exact HO362.out))) (below_size (by repeat (first | (with_reducible first | exact HB.out | apply below_alloc | apply pw_below_drewN | apply below_drew1) | exact HB.out))))
                      have n3_ := Aside0.mk (Kd.C_below (by repeat (first | (with_reducible exact HR371.out) | (with_reducible refine Kd.C_alloc ?_ _) | (with_reducible refine Kd.C_drewN ?_ _) | (with_reducible refine Kd.C_drew ?_) | exact HR371.out)) hb)
                      have n4_ := Aside0.mk (Kd.C_below (by repeat (first | (with_reducible exact HR378.out) | (with_reducible refine Kd.C_alloc ?_ _) | (with_reducible refine Kd.C_drewN ?_ _) | (with_reducible refine Kd.C_drew ?_) | exact HR378.out)) hb)
                      have n5_ := Aside0.mk (below_step (by repeat (first | (with_reducible first | exact HB.out | apply below_alloc | apply pw_below_drewN | apply below_drew1) | exact HB.out)) hb)
                      clear HO362
                      clear HO384
                      clear HR371
                      clear HR378
                      clear HB
                      have HO362 := n0_
                      have HO384 := n1_
                      have HO367 := n2_
                      have HR371 := n3_
                      have HR378 := n4_
                      have HB := n5_
                      clear n0_ n1_ n2_ n3_ n4_ n5_
                      clear hb ho35
                      refine hK.out _ _ trivial (fun hHeld => ?_)
                      clear hK K
                      refine norm_ (a' := ?_) ?_ ?_
                      rotate_left
                      · show Act.put _ (some 36) _ = _
                        simp only [Act.put, List.setIfInBounds_toArray, List.set_cons_zero, List.set_cons_succ, i64_w, i32_w]
                        rfl
                      refine one_ (i := 4) (N := some 40) #[true, true, true, true, true, true, true, true, false, true, true, true, false, false, false] rfl rfl (one_of HT_.out (by kernel_rfl)) (by decide) (fun K hK => ?_)
                      refine Kd.R_append_rows_step k30 (w0 := w) w.heap.size (by rfl) (.tmp 36) (.tmp 39) 25 30 (.agg #[(.int .i64 0), (.int .i64 0), (.int .i64 0)]) 24 rfl Try.underlying25 info30 rfl (by decide) (by omega) v366 y365 y368 _ _ _ (fun k_ => some k_ ≠ (.slice Ao28 t360.length co28 : Value).ownBlock) (fun _ => False) rfl rfl ?aO ?aR (fun _ _ h => h) (fun _ h => h.elim) ?aF ?aB ?aS ?aL ?_
                      (case aR => repeat (first | exact (by repeat (first | (with_reducible exact HR371.out) | (with_reducible refine Kd.C_alloc ?_ _) | (with_reducible refine Kd.C_drewN ?_ _) | (with_reducible refine Kd.C_drew ?_) | exact HR371.out)) | (with_reducible refine Kd.C_alloc ?_ _) | (with_reducible refine Kd.C_drewN ?_ _) | (with_reducible refine Kd.C_drew ?_)))
                      (case aB => exact (by repeat (first | (with_reducible first | exact HB.out | apply below_alloc | apply pw_below_drewN | apply below_drew1) | exact HB.out)))
                      (case aF => exact (fun k_ hk => Kd.fresh' (Kd.R_lt (by (with_reducible repeat (first | apply Kd.R_alloc | apply Kd.R_drewN | apply Kd.R_drew)); exact HO362.out)) k_ hk))
                      (case aO => exact (by (with_reducible repeat (first | apply Kd.R_alloc | apply Kd.R_drewN | apply Kd.R_drew)); exact Kd.R_mono HO367.out (fun _ hk => hk.2)))
                      (case aS => exact (below_size (by repeat (first | (with_reducible first | exact HB.out | apply below_alloc | apply pw_below_drewN | apply below_drew1) | exact HB.out))))
                      (case aL => have := LMc14.out; omega)
                      intro v373 w36 ho hb hg hat
                      rw [← Ny372.out] at ho
                      have n0_ := Aside0.mk (Kd.R_after (ok := (fun _ => True)) (by (with_reducible repeat (first | apply Kd.R_alloc | apply Kd.R_drewN | apply Kd.R_drew)); exact HO362.out) hg hat)
                      have n1_ := Aside0.mk (Kd.R_over' (by (with_reducible repeat (first | apply Kd.R_alloc | apply Kd.R_drewN | apply Kd.R_drew)); exact HO384.out) (Kd.R_typed (by (with_reducible repeat (first | apply Kd.R_alloc | apply Kd.R_drewN | apply Kd.R_drew)); exact HO367.out)) (by decide) hg)
                      have n2_ := Aside0.mk (hb)
                      have n3_ := Aside0.mk ((show Kd.C k30 w36 A30 y368.length y368 from by rw [Ny368.out, KA30.out]; exact Kd.C_drop (m := (t364 : Int).toNat) (c := co28) ((Kd.R_reads' (Kd.R_after (ok := (fun _ => True)) (by (with_reducible repeat (first | apply Kd.R_alloc | apply Kd.R_drewN | apply Kd.R_drew)); exact HO362.out) hg hat)).2.2) KL30.out ((Kd.R_reads' (Kd.R_after (ok := (fun _ => True)) (by (with_reducible repeat (first | apply Kd.R_alloc | apply Kd.R_drewN | apply Kd.R_drew)); exact HO362.out) hg hat)).2.1)))
                      have n4_ := Aside0.mk ((show Kd.C k30 w36 Ao28 y375.length y375 from by rw [Ny375.out]; exact Kd.C_take (m := (t364 : Int).toNat) ((Kd.R_reads' (Kd.R_after (ok := (fun _ => True)) (by (with_reducible repeat (first | apply Kd.R_alloc | apply Kd.R_drewN | apply Kd.R_drew)); exact HO362.out) hg hat)).2.2) KL31.out))
                      have n5_ := Aside0.mk (ho)
                      clear HO362
                      clear HO384
                      clear HB
                      clear HR371
                      clear HR378
                      clear HO367
                      have HO362 := n0_
                      have HO384 := n1_
                      have HB := n2_
                      have HR371 := n3_
                      have HR378 := n4_
                      have HO374 := n5_
                      clear n0_ n1_ n2_ n3_ n4_ n5_
                      clear ho hb hg hat
                      refine hK.out _ _ trivial (fun hHeld => ?_)
                      clear hK K
                      refine norm_ (a' := ?_) ?_ ?_
                      rotate_left
                      · show Act.put _ (some 40) _ = _
                        simp only [Act.put, List.setIfInBounds_toArray, List.set_cons_zero, List.set_cons_succ, i64_w, i32_w]
                        rfl
                      refine one_ (i := 8) (N := some 44) #[true, true, true, true, true, true, true, true, true, true, true, true, false, false, false] rfl rfl (one_of HT_.out (by kernel_rfl)) (by decide) (fun K hK => ?_)
                      refine Kd.R_append_rows_step k30 (w0 := w) w.heap.size (by rfl) (.tmp 40) (.tmp 43) 25 30 (.agg #[(.int .i64 0), (.int .i64 0), (.int .i64 0)]) 24 rfl Try.underlying25 info30 rfl (by decide) (by omega) v373 y372 y375 _ _ _ (fun k_ => some k_ ≠ (.slice Ao28 t360.length co28 : Value).ownBlock) (fun _ => False) rfl rfl ?aO ?aR (fun _ _ h => h) (fun _ h => h.elim) ?aF ?aB ?aS ?aL ?_
                      (case aR => repeat (first | exact (by repeat (first | (with_reducible exact HR378.out) | (with_reducible refine Kd.C_alloc ?_ _) | (with_reducible refine Kd.C_drewN ?_ _) | (with_reducible refine Kd.C_drew ?_) | exact HR378.out)) | (with_reducible refine Kd.C_alloc ?_ _) | (with_reducible refine Kd.C_drewN ?_ _) | (with_reducible refine Kd.C_drew ?_)))
                      (case aB => exact (by repeat (first | (with_reducible first | exact HB.out | apply below_alloc | apply pw_below_drewN | apply below_drew1) | exact HB.out)))
                      (case aF => exact (fun k_ hk => Kd.fresh' (Kd.R_lt (by (with_reducible repeat (first | apply Kd.R_alloc | apply Kd.R_drewN | apply Kd.R_drew)); exact HO362.out)) k_ hk))
                      (case aO => exact (by (with_reducible repeat (first | apply Kd.R_alloc | apply Kd.R_drewN | apply Kd.R_drew)); exact HO374.out))
                      (case aS => exact (below_size (by repeat (first | (with_reducible first | exact HB.out | apply below_alloc | apply pw_below_drewN | apply below_drew1) | exact HB.out))))
                      (case aL => have := LMc17.out; omega)
                      intro v380 w37 ho hb hg hat
                      rw [← Ny379.out] at ho
                      have n0_ := Aside0.mk (Kd.R_after (ok := (fun _ => True)) (by (with_reducible repeat (first | apply Kd.R_alloc | apply Kd.R_drewN | apply Kd.R_drew)); exact HO362.out) hg hat)
                      have n1_ := Aside0.mk (Kd.R_over' (by (with_reducible repeat (first | apply Kd.R_alloc | apply Kd.R_drewN | apply Kd.R_drew)); exact HO384.out) (Kd.R_typed (by (with_reducible repeat (first | apply Kd.R_alloc | apply Kd.R_drewN | apply Kd.R_drew)); exact HO374.out)) (by decide) hg)
                      have n2_ := Aside0.mk (hb)
                      have n3_ := Aside0.mk ((show Kd.C k30 w37 A30 y368.length y368 from by rw [Ny368.out, KA30.out]; exact Kd.C_drop (m := (t364 : Int).toNat) (c := co28) ((Kd.R_reads' (Kd.R_after (ok := (fun _ => True)) (by (with_reducible repeat (first | apply Kd.R_alloc | apply Kd.R_drewN | apply Kd.R_drew)); exact HO362.out) hg hat)).2.2) KL30.out ((Kd.R_reads' (Kd.R_after (ok := (fun _ => True)) (by (with_reducible repeat (first | apply Kd.R_alloc | apply Kd.R_drewN | apply Kd.R_drew)); exact HO362.out) hg hat)).2.1)))
                      have n4_ := Aside0.mk ((show Kd.C k30 w37 Ao28 y375.length y375 from by rw [Ny375.out]; exact Kd.C_take (m := (t364 : Int).toNat) ((Kd.R_reads' (Kd.R_after (ok := (fun _ => True)) (by (with_reducible repeat (first | apply Kd.R_alloc | apply Kd.R_drewN | apply Kd.R_drew)); exact HO362.out) hg hat)).2.2) KL31.out))
                      have n5_ := Aside0.mk (ho)
                      clear HO362
                      clear HO384
                      clear HB
                      clear HR371
                      clear HR378
                      clear HO374
                      have HO362 := n0_
                      have HO384 := n1_
                      have HB := n2_
                      have HR371 := n3_
                      have HR378 := n4_
                      have HO381 := n5_
                      clear n0_ n1_ n2_ n3_ n4_ n5_
                      clear ho hb hg hat
                      refine hK.out _ _ trivial (fun hHeld => ?_)
                      clear hK K
                      refine norm_ (a' := ?_) ?_ ?_
                      rotate_left
                      · show Act.put _ (some 44) _ = _
                        simp only [Act.put, List.setIfInBounds_toArray, List.set_cons_zero, List.set_cons_succ, i64_w, i32_w]
                        rfl
                      exact norm_ (by simp only [putAll, Act.put, List.setIfInBounds_toArray, List.set_cons_zero, List.set_cons_succ]) (hCont (v366, v373, v380, v383) _ ⟨(by (with_reducible repeat (first | apply Kd.R_alloc | apply Kd.R_drewN | apply Kd.R_drew)); exact Kd.R_mono HO362.out (fun _ hk => hk.2)), (by (with_reducible repeat (first | apply Kd.R_alloc | apply Kd.R_drewN | apply Kd.R_drew)); exact HO381.out), (by (with_reducible repeat (first | apply Kd.R_alloc | apply Kd.R_drewN | apply Kd.R_drew)); exact HO384.out), (by repeat (first | (with_reducible first | exact HB.out | apply below_alloc | apply pw_below_drewN | apply below_drew1) | exact HB.out))⟩)
                  rintro ⟨v366, v373, v380, v383⟩ w38 ⟨h0_, h1_, h2_, h3_⟩
                  have n0_ : Aside0 (Kd.R k30 30 w38 w.heap.size (fun k_ => some k_ ≠ (v380 : Value).ownBlock) (.slice Ao28 t360.length co28) t360) := ⟨h0_⟩
                  have n1_ : Aside0 (Kd.R k30 30 w38 w.heap.size (fun k_ => some k_ ≠ (.slice Ao28 t360.length co28 : Value).ownBlock) v380 y379) := ⟨h1_⟩
                  have n2_ : Aside0 (Kd.R (Kd.int .i64) 3 w38 w.heap.size (fun _ => True) v383 y382) := ⟨h2_⟩
                  have n3_ : Aside0 (Below w.heap.size w w38) := ⟨h3_⟩
                  clear HO362
                  clear HB
                  clear h0_ h1_ h2_ h3_
                  have HO362 := n0_
                  have HO381 := n1_
                  have HO384 := n2_
                  have HB := n3_
                  clear n0_ n1_ n2_ n3_
                  have hHeld := trivial
                  obtain ⟨Ao39, co39, eo39⟩ := Kd.R_slice HO384.out
                  (first | subst eo39 | (injection eo39 with f1_ f2_ f3_; have f4_ := f1_.symm; have f5_ := f3_.symm; clear f1_ f2_ f3_; subst f4_; subst f5_))
                  refine norm_ (a' := ?_) ?_ ?_
                  rotate_left
                  · simp only [putAll, Act.put, List.setIfInBounds_toArray, List.set_cons_zero, List.set_cons_succ]
                    rfl
                  refine one_ (i := 12) (N := some 48) #[true, true, true, true, true, true, true, true, true, true, true, true, true, false, false] rfl rfl (one_of HT_.out (by kernel_rfl)) (by decide) (fun K hK => ?_)
                  refine goes_ Try.func15 (by kernel_rfl) rfl #[.int .i64 (wrap64 (1 + t359)), .slice Ao39 y382.length co39, .int .i64 0] (by rfl) rfl rfl (by (try simp only [List.map_toArray, List.map_cons, List.map_nil]); first | done | rfl | (simp only [List.length_drop, List.length_take]; rfl)) ?_
                  with_reducible refine (watershedlaw6_Arcs.calls k (wrap64 (1 + t359)) _ _ y382 0 t385 _ ?side1 ?side2 A18.out).mono ?_
                  (case side1 => repeat (first | exact (Kd.R_reads' HO384.out).2.2 | (with_reducible refine Kd.C_alloc ?_ _) | (with_reducible refine Kd.C_drewN ?_ _) | (with_reducible refine Kd.C_drew ?_)))
                  (case side2 => exact (Kd.R_reads' HO384.out).2.1)
                  rintro e w40 ⟨v386, rfl, ho0, hb⟩
                  refine ⟨_, rfl, ?_⟩
                  have n0_ := Aside0.mk (Kd.R_elder' (by (with_reducible repeat (first | apply Kd.R_alloc | apply Kd.R_drewN | apply Kd.R_drew)); exact HO362.out) (Kd.R_base ho0) hb)
                  have n1_ := Aside0.mk (Kd.R_elder' (by (with_reducible repeat (first | apply Kd.R_alloc | apply Kd.R_drewN | apply Kd.R_drew)); exact HO381.out) (Kd.R_base ho0) hb)
                  have n2_ := Aside0.mk (Kd.R_below (by (with_reducible repeat (first | apply Kd.R_alloc | apply Kd.R_drewN | apply Kd.R_drew)); exact HO384.out) hb)
                  have n3_ := Aside0.mk (Kd.R_lower (Kd.R_new' (Kd.R_new' ho0 (Kd.R_lt (by (with_reducible repeat (first | apply Kd.R_alloc | apply Kd.R_drewN | apply Kd.R_drew)); exact HO362.out))) (Kd.R_lt (by (with_reducible repeat (first | apply Kd.R_alloc | apply Kd.R_drewN | apply Kd.R_drew)); exact HO381.out))) (below_size (by repeat (first | (with_reducible first | exact HB.out | apply below_alloc | apply pw_below_drewN | apply below_drew1) | exact HB.out))))
                  have n4_ := Aside0.mk (below_step (by repeat (first | (with_reducible first | exact HB.out | apply below_alloc | apply pw_below_drewN | apply below_drew1) | exact HB.out)) hb)
                  clear HO362
                  clear HO381
                  clear HO384
                  clear HB
                  have HO362 := n0_
                  have HO381 := n1_
                  have HO384 := n2_
                  have HO387 := n3_
                  have HB := n4_
                  clear n0_ n1_ n2_ n3_ n4_
                  (try clear hb)
                  (try clear hb2)
                  (try clear hk)
                  (try clear hi)
                  (try clear ho0)
                  obtain ⟨Ao42, co42, eo42⟩ := Kd.R_slice HO387.out
                  (first | subst eo42 | (injection eo42 with f1_ f2_ f3_; have f4_ := f1_.symm; have f5_ := f3_.symm; clear f1_ f2_ f3_; subst f4_; subst f5_))
                  refine hK.out _ _ trivial (fun hHeld => ?_)
                  clear hK K
                  refine norm_ (a' := ?_) ?_ ?_
                  rotate_left
                  · show Act.put _ (some 48) _ = _
                    simp only [Act.put, List.setIfInBounds_toArray, List.set_cons_zero, List.set_cons_succ, i64_w, i32_w]
                    rfl
                  refine one_ (i := 13) (N := some 49) #[true, true, true, true, true, true, true, true, true, true, true, true, true, true, false] rfl rfl (one_of HT_.out (by kernel_rfl)) (by decide) (fun K hK => ?_)
                  refine Kd.R_append_rows_step k30 (w0 := w) w.heap.size (by rfl) (.tmp 44) (.tmp 48) 25 30 (.agg #[(.int .i64 0), (.int .i64 0), (.int .i64 0)]) 24 rfl Try.underlying25 info30 rfl (by decide) (by omega) v380 y379 t385 _ _ _ (fun k_ => some k_ ≠ (.slice Ao28 t360.length co28 : Value).ownBlock ∧ some k_ ≠ (.slice Ao42 t385.length co42 : Value).ownBlock) (fun _ => False) rfl rfl ?aO ?aR (fun _ _ h => h) (fun _ h => h.elim) ?aF ?aB ?aS ?aL ?_
                  (case aR => repeat (first | exact (Kd.R_reads' HO387.out).2.2 | (with_reducible refine Kd.C_alloc ?_ _) | (with_reducible refine Kd.C_drewN ?_ _) | (with_reducible refine Kd.C_drew ?_)))
                  (case aB => exact (by repeat (first | (with_reducible first | exact HB.out | apply below_alloc | apply pw_below_drewN | apply below_drew1) | exact HB.out)))
                  (case aF => exact (fun k_ hk => ⟨Kd.fresh' (Kd.R_lt (by (with_reducible repeat (first | apply Kd.R_alloc | apply Kd.R_drewN | apply Kd.R_drew)); exact HO362.out)) k_ hk, Kd.fresh' (Kd.R_lt (by (with_reducible repeat (first | apply Kd.R_alloc | apply Kd.R_drewN | apply Kd.R_drew)); exact HO387.out)) k_ hk⟩))
                  (case aO => exact (by (with_reducible repeat (first | apply Kd.R_alloc | apply Kd.R_drewN | apply Kd.R_drew)); exact HO381.out))
                  (case aS => exact (below_size (by repeat (first | (with_reducible first | exact HB.out | apply below_alloc | apply pw_below_drewN | apply below_drew1) | exact HB.out))))
                  (case aL => have := LMc19.out; omega)
                  intro v389 w41 ho hb hg hat
                  rw [← Ny388.out] at ho
                  have n0_ := Aside0.mk (Kd.R_after (ok := (fun k_ => some k_ ≠ (.slice Ao42 t385.length co42 : Value).ownBlock)) (by (with_reducible repeat (first | apply Kd.R_alloc | apply Kd.R_drewN | apply Kd.R_drew)); exact Kd.R_mono HO362.out (fun _ hk => ⟨hk.2, hk.1⟩)) hg hat)
                  have n1_ := Aside0.mk (Kd.R_over' (by (with_reducible repeat (first | apply Kd.R_alloc | apply Kd.R_drewN | apply Kd.R_drew)); exact HO384.out) (Kd.R_typed (by (with_reducible repeat (first | apply Kd.R_alloc | apply Kd.R_drewN | apply Kd.R_drew)); exact HO381.out)) (by decide) hg)
                  have n2_ := Aside0.mk (Kd.R_after (ok := (fun k_ => some k_ ≠ (.slice Ao28 t360.length co28 : Value).ownBlock)) (by (with_reducible repeat (first | apply Kd.R_alloc | apply Kd.R_drewN | apply Kd.R_drew)); exact Kd.R_mono HO387.out (fun _ hk => ⟨hk.1.2, hk.2⟩)) hg hat)
                  have n3_ := Aside0.mk (hb)
                  have n4_ := Aside0.mk (ho)
                  clear HO362
                  clear HO384
                  clear HO387
                  clear HB
                  clear HO381
                  have HO362 := n0_
                  have HO384 := n1_
                  have HO387 := n2_
                  have HB := n3_
                  have HO390 := n4_
                  clear n0_ n1_ n2_ n3_ n4_
                  clear ho hb hg hat
                  refine hK.out _ _ trivial (fun hHeld => ?_)
                  clear hK K
                  refine norm_ (a' := ?_) ?_ ?_
                  rotate_left
                  · show Act.put _ (some 49) _ = _
                    simp only [Act.put, List.setIfInBounds_toArray, List.set_cons_zero, List.set_cons_succ, i64_w, i32_w]
                    rfl
                  refine pure_ (i := 14) (N := some 15) (v := ?_) (a' := ?_) #[true, true, true, true, true, true, true, true, true, true, true, true, true, true, true] rfl rfl (any_of HT_.out (by kernel_rfl)) (fun _ _ _ h => h) (Or.inl ⟨by rfl, ?_⟩) ?_ ?_
                  rotate_left
                  · intro w'
                    go_simp
                    with_reducible rfl
                  rotate_left
                  · simp only [Act.put, List.setIfInBounds_toArray, List.set_cons_zero, List.set_cons_succ, i64_w, i32_w]
                    rfl
                  refine done_ (done_of HT_.out (by kernel_rfl)) ?_
                  try go_wp2
                  have n0_ := Aside0.mk (Kd.R_drew HO362.out)
                  have n1_ := Aside0.mk (Kd.R_drew HO384.out)
                  have n2_ := Aside0.mk (Kd.R_drew HO387.out)
                  have n3_ := Aside0.mk (Kd.R_drew HO390.out)
                  have n4_ := Aside0.mk (below_drew1 HB.out)
                  clear HO362
                  clear HO384
                  clear HO387
                  clear HO390
                  clear HB
                  have HO362 := n0_
                  have HO384 := n1_
                  have HO387 := n2_
                  have HO390 := n3_
                  have HB := n4_
                  clear n0_ n1_ n2_ n3_ n4_
                  obtain ⟨Ao45, co45, eo45⟩ := Kd.R_slice HO390.out
                  (first | subst eo45 | (injection eo45 with f1_ f2_ f3_; have f4_ := f1_.symm; have f5_ := f3_.symm; clear f1_ f2_ f3_; subst f4_; subst f5_))
                  have q44 : ((t360.length : Int) : Int) ≤ ((y388.length : Int) : Int) := of_decide_eq_true (by first | (with_reducible assumption) | assumption)
                  obtain ⟨i044, hi044, _, hsz44, _⟩ := info_parts info30
                  have hroom44 : y388.length ≤ co45 := (Kd.R_reads' HO390.out).2.1
                  have hC44 : Kd.C k30 _ Ao45 y388.length y388 := (Kd.R_reads' HO390.out).2.2
                  have hcut44 := cut_to (P := Try.prog) 25 30 .i64 Try.underlying25 hi044 Ao45 y388.length co45 (t360.length : Int) (of_decide_eq_true (by first | (with_reducible assumption) | assumption)) q44 hroom44
                  have hr44 := Kd.C_take (m := ((t360.length : Int) : Int).toNat) hC44 (by omega)
                  have hy44 : y397.length = ((t360.length : Int) : Int).toNat := (by rw [Ny397.out, List.length_take]; omega)
                  rw [← Ny397.out] at hr44
                  rw [← hy44] at hcut44
                  have HR400 := Aside0.mk hr44
                  have HC400 := Aside0.mk (show y397.length ≤ co45 from by omega)
                  clear hr44 hC44 hroom44 hi044 hsz44
                  have KY44 := Aside0.mk hy44
                  clear hy44
                  have KL44 := Aside0.mk (show ((t360.length : Int) : Int).toNat ≤ y388.length from by omega)
                  replace q44 := eq_true q44
                  refine start_ (n := 18) (S := fun w' => True) (ds := []) #[false, false, false, false, false, false, false, false, false, false, false, false, false, false, false, false, false, false] (by kernel_rfl) rfl rfl trivial (fun hHeld => ?_); refine with_tabW watershedlaw6_PathMore.tab8 watershedlaw6_PathMore.bits8 (fun HT_ HW_ => ?_)
                  generalize w41.drew = w43 at HO362 HO384 HO387 HO390 HB HR400 hHeld ⊢
                  refine pure_ (i := 0) (N := some 50) (v := ?_) (a' := ?_) #[true, false, false, false, false, false, false, false, false, false, false, false, false, false, false, false, false, false] rfl rfl (any_of HT_.out (by kernel_rfl)) (fun _ _ _ h => h) (Or.inl ⟨by rfl, ?_⟩) ?_ ?_
                  rotate_left
                  · intro w'
                    go_simp
                    with_reducible rfl
                  rotate_left
                  · simp only [Act.put, List.setIfInBounds_toArray, List.set_cons_zero, List.set_cons_succ, i64_w, i32_w]
                    rfl
                  refine pure_ (i := 1) (N := some 51) (v := ?_) (a' := ?_) #[true, true, false, false, false, false, false, false, false, false, false, false, false, false, false, false, false, false] rfl rfl (any_of HT_.out (by kernel_rfl)) (fun _ _ _ h => h) (Or.inl ⟨by rfl, ?_⟩) ?_ ?_
                  rotate_left
                  · intro w'
                    go_simp
                    with_reducible rfl
                  rotate_left
                  · simp only [Act.put, List.setIfInBounds_toArray, List.set_cons_zero, List.set_cons_succ, i64_w, i32_w]
                    rfl
                  refine pure_ (i := 2) (N := some 52) (v := ?_) (a' := ?_) #[true, true, true, false, false, false, false, false, false, false, false, false, false, false, false, false, false, false] rfl rfl (any_of HT_.out (by kernel_rfl)) (fun _ _ _ h => h) (Or.inl ⟨by rfl, ?_⟩) ?_ ?_
                  rotate_left
                  · intro w'
                    go_simp
                    with_reducible rfl
                  rotate_left
                  · simp only [Act.put, List.setIfInBounds_toArray, List.set_cons_zero, List.set_cons_succ, i64_w, i32_w]
                    rfl
                  refine pure_ (i := 4) (N := some 54) (v := ?_) (a' := ?_) #[true, true, true, false, true, false, false, false, false, false, false, false, false, false, false, false, false, false] rfl rfl (any_of HT_.out (by kernel_rfl)) (fun _ _ _ h => h) (Or.inl ⟨by rfl, ?_⟩) ?_ ?_
                  rotate_left
                  · intro w'
                    go_simp
                    with_reducible rfl
                  rotate_left
                  · simp only [Act.put, List.setIfInBounds_toArray, List.set_cons_zero, List.set_cons_succ, i64_w, i32_w]
                    rfl
                  refine pure_ (i := 5) (N := some 55) (v := ?_) (a' := ?_) #[true, true, true, false, true, true, false, false, false, false, false, false, false, false, false, false, false, false] rfl rfl (any_of HT_.out (by kernel_rfl)) (fun _ _ _ h => h) (Or.inl ⟨by rfl, ?_⟩) ?_ ?_
                  rotate_left
                  · intro w'
                    go_simp
                    with_reducible rfl
                  rotate_left
                  · simp only [Act.put, List.setIfInBounds_toArray, List.set_cons_zero, List.set_cons_succ, i64_w, i32_w]
                    rfl
                  refine pure_ (i := 6) (N := some 56) (v := ?_) (a' := ?_) #[true, true, true, false, true, true, true, false, false, false, false, false, false, false, false, false, false, false] rfl rfl (any_of HT_.out (by kernel_rfl)) (fun _ _ _ h => h) (Or.inl ⟨by rfl, ?_⟩) ?_ ?_
                  rotate_left
                  · intro w'
                    go_simp
                    with_reducible rfl
                  rotate_left
                  · simp only [Act.put, List.setIfInBounds_toArray, List.set_cons_zero, List.set_cons_succ, i64_w, i32_w]
                    rfl
                  refine pure_ (i := 8) (N := some 58) (v := ?_) (a' := ?_) #[true, true, true, false, true, true, true, false, true, false, false, false, false, false, false, false, false, false] rfl rfl (any_of HT_.out (by kernel_rfl)) (fun _ _ _ h => h) (Or.inl ⟨by rfl, ?_⟩) ?_ ?_
                  rotate_left
                  · intro w'
                    go_simp
                    with_reducible rfl
                  rotate_left
                  · simp only [Act.put, List.setIfInBounds_toArray, List.set_cons_zero, List.set_cons_succ, i64_w, i32_w]
                    rfl
                  refine pure_ (i := 9) (N := some 59) (v := ?_) (a' := ?_) #[true, true, true, false, true, true, true, false, true, true, false, false, false, false, false, false, false, false] rfl rfl (any_of HT_.out (by kernel_rfl)) (fun _ _ _ h => h) (Or.inl ⟨by rfl, ?_⟩) ?_ ?_
                  rotate_left
                  · intro w'
                    go_simp
                    with_reducible rfl
                  rotate_left
                  · simp only [Act.put, List.setIfInBounds_toArray, List.set_cons_zero, List.set_cons_succ, i64_w, i32_w]
                    rfl
                  refine pure_ (i := 10) (N := some 60) (v := ?_) (a' := ?_) #[true, true, true, false, true, true, true, false, true, true, true, false, false, false, false, false, false, false] rfl rfl (any_of HT_.out (by kernel_rfl)) (fun _ _ _ h => h) (Or.inl ⟨by rfl, ?_⟩) ?_ ?_
                  rotate_left
                  · intro w'
                    go_simp
                    with_reducible rfl
                  rotate_left
                  · simp only [Act.put, List.setIfInBounds_toArray, List.set_cons_zero, List.set_cons_succ, i64_w, i32_w]
                    rfl
                  refine pure_ (i := 11) (N := some 61) (v := ?_) (a' := ?_) #[true, true, true, false, true, true, true, false, true, true, true, true, false, false, false, false, false, false] rfl rfl (any_of HT_.out (by kernel_rfl)) (fun _ _ _ h => h) (Or.inl ⟨by rfl, ?_⟩) ?_ ?_
                  rotate_left
                  · intro w'
                    go_simp
                    with_reducible rfl
                  rotate_left
                  · simp only [Act.put, List.setIfInBounds_toArray, List.set_cons_zero, List.set_cons_succ, i64_w, i32_w]
                    rfl
                  refine pure_ (i := 12) (N := some 62) (v := ?_) (a' := ?_) #[true, true, true, false, true, true, true, false, true, true, true, true, true, false, false, false, false, false] rfl rfl (any_of HT_.out (by kernel_rfl)) (fun _ _ _ h => h) (Or.inl ⟨by rfl, ?_⟩) ?_ ?_
                  rotate_left
                  · intro w'
                    go_simp
                    with_reducible rfl
                  rotate_left
                  · simp only [Act.put, List.setIfInBounds_toArray, List.set_cons_zero, List.set_cons_succ, i64_w, i32_w]
                    rfl
                  refine pure_ (i := 13) (N := some 63) (v := ?_) (a' := ?_) #[true, true, true, false, true, true, true, false, true, true, true, true, true, true, false, false, false, false] rfl rfl (any_of HT_.out (by kernel_rfl)) (fun _ _ _ h => h) (Or.inl ⟨by rfl, ?_⟩) ?_ ?_
                  rotate_left
                  · intro w'
                    go_simp
                    with_reducible rfl
                  rotate_left
                  · simp only [Act.put, List.setIfInBounds_toArray, List.set_cons_zero, List.set_cons_succ, i64_w, i32_w]
                    rfl
                  refine one_ (i := 3) (N := some 53) #[true, true, true, true, true, true, true, false, true, true, true, true, true, true, false, false, false, false] rfl rfl (one_of HT_.out (by kernel_rfl)) (by decide) (fun K hK => ?_)
                  refine goes_ Try.func16 (by kernel_rfl) rfl #[.int .i64 (wrap64 (1 + t359)), .slice Ao28 t360.length co28, .int .i64 t363] (by rfl) rfl rfl (by (try simp only [List.map_toArray, List.map_cons, List.map_nil]); first | done | rfl | (simp only [List.length_drop, List.length_take]; rfl)) ?_
                  with_reducible refine (path_From.calls (wrap64 (1 + t359)) _ _ t360 t363 t391 _ ?side1 ?side2 A20.out).mono ?_
                  (case side1 => repeat (first | exact (Kd.R_reads' HO362.out).2.2 | (with_reducible refine Kd.C_alloc ?_ _) | (with_reducible refine Kd.C_drewN ?_ _) | (with_reducible refine Kd.C_drew ?_)))
                  (case side2 => exact (Kd.R_reads' HO362.out).2.1)
                  rintro e w46 ⟨v392, rfl, ho0, hb⟩
                  refine ⟨_, rfl, ?_⟩
                  have n0_ := Aside0.mk (Kd.R_below (by (with_reducible repeat (first | apply Kd.R_alloc | apply Kd.R_drewN | apply Kd.R_drew)); exact HO362.out) hb)
                  have n1_ := Aside0.mk (Kd.R_elder' (by (with_reducible repeat (first | apply Kd.R_alloc | apply Kd.R_drewN | apply Kd.R_drew)); exact HO384.out) (Kd.R_base ho0) hb)
                  have n2_ := Aside0.mk (Kd.R_below (by (with_reducible repeat (first | apply Kd.R_alloc | apply Kd.R_drewN | apply Kd.R_drew)); exact HO387.out) hb)
                  have n3_ := Aside0.mk (Kd.R_below (by (with_reducible repeat (first | apply Kd.R_alloc | apply Kd.R_drewN | apply Kd.R_drew)); exact HO390.out) hb)
                  have n4_ := Aside0.mk (Kd.R_lower (Kd.R_new' ho0 (Kd.R_lt (by (with_reducible repeat (first | apply Kd.R_alloc | apply Kd.R_drewN | apply Kd.R_drew)); exact HO384.out))) (below_size (by repeat (first | (with_reducible first | exact HB.out | apply below_alloc | apply pw_below_drewN | apply below_drew1) | exact HB.out))))
                  have n5_ := Aside0.mk (Kd.C_below (by repeat (first | (with_reducible exact HR400.out) | (with_reducible refine Kd.C_alloc ?_ _) | (with_reducible refine Kd.C_drewN ?_ _) | (with_reducible refine Kd.C_drew ?_) | exact HR400.out)) hb)
                  have n6_ := Aside0.mk (below_step (by repeat (first | (with_reducible first | exact HB.out | apply below_alloc | apply pw_below_drewN | apply below_drew1) | exact HB.out)) hb)
                  clear HO362
                  clear HO384
                  clear HO387
                  clear HO390
                  clear HR400
                  clear HB
                  have HO362 := n0_
                  have HO384 := n1_
                  have HO387 := n2_
                  have HO390 := n3_
                  have HO393 := n4_
                  have HR400 := n5_
                  have HB := n6_
                  clear n0_ n1_ n2_ n3_ n4_ n5_ n6_
                  (try clear hb)
                  (try clear hb2)
                  (try clear hk)
                  (try clear hi)
                  (try clear ho0)
                  refine hK.out _ _ trivial (fun hHeld => ?_)
                  clear hK K
                  refine norm_ (a' := ?_) ?_ ?_
                  rotate_left
                  · show Act.put _ (some 53) _ = _
                    simp only [Act.put, List.setIfInBounds_toArray, List.set_cons_zero, List.set_cons_succ, i64_w, i32_w]
                    rfl
                  refine one_ (i := 7) (N := some 57) #[true, true, true, true, true, true, true, true, true, true, true, true, true, true, false, false, false, false] rfl rfl (one_of HT_.out (by kernel_rfl)) (by decide) (fun K hK => ?_)
                  refine goes_ Try.func16 (by kernel_rfl) rfl #[.int .i64 (wrap64 (1 + t359)), .slice Ao45 y388.length co45, .int .i64 t363] (by rfl) rfl rfl (by (try simp only [List.map_toArray, List.map_cons, List.map_nil]); first | done | rfl | (simp only [List.length_drop, List.length_take]; rfl)) ?_
                  with_reducible refine (path_From.calls (wrap64 (1 + t359)) _ _ y388 t363 t394 _ ?side1 ?side2 A21.out).mono ?_
                  (case side1 => repeat (first | exact (Kd.R_reads' HO390.out).2.2 | (with_reducible refine Kd.C_alloc ?_ _) | (with_reducible refine Kd.C_drewN ?_ _) | (with_reducible refine Kd.C_drew ?_)))
                  (case side2 => exact (Kd.R_reads' HO390.out).2.1)
                  rintro e w47 ⟨v395, rfl, ho0, hb⟩
                  refine ⟨_, rfl, ?_⟩
                  have n0_ := Aside0.mk (Kd.R_below (by (with_reducible repeat (first | apply Kd.R_alloc | apply Kd.R_drewN | apply Kd.R_drew)); exact HO362.out) hb)
                  have n1_ := Aside0.mk (Kd.R_elder' (by (with_reducible repeat (first | apply Kd.R_alloc | apply Kd.R_drewN | apply Kd.R_drew)); exact HO384.out) (Kd.R_base ho0) hb)
                  have n2_ := Aside0.mk (Kd.R_below (by (with_reducible repeat (first | apply Kd.R_alloc | apply Kd.R_drewN | apply Kd.R_drew)); exact HO387.out) hb)
                  have n3_ := Aside0.mk (Kd.R_below (by (with_reducible repeat (first | apply Kd.R_alloc | apply Kd.R_drewN | apply Kd.R_drew)); exact HO390.out) hb)
                  have n4_ := Aside0.mk (Kd.R_elder' (by (with_reducible repeat (first | apply Kd.R_alloc | apply Kd.R_drewN | apply Kd.R_drew)); exact HO393.out) (Kd.R_base ho0) hb)
                  have n5_ := Aside0.mk (Kd.R_lower (Kd.R_new' (Kd.R_new' ho0 (Kd.R_lt (by (with_reducible repeat (first | apply Kd.R_alloc | apply Kd.R_drewN | apply Kd.R_drew)); exact HO384.out))) (Kd.R_lt (by (with_reducible repeat (first | apply Kd.R_alloc | apply Kd.R_drewN | apply Kd.R_drew)); exact HO393.out))) (below_size (by repeat (first | (with_reducible first | exact HB.out | apply below_alloc | apply pw_below_drewN | apply below_drew1) | exact HB.out))))
                  have n6_ := Aside0.mk (Kd.C_below (by repeat (first | (with_reducible exact HR400.out) | (with_reducible refine Kd.C_alloc ?_ _) | (with_reducible refine Kd.C_drewN ?_ _) | (with_reducible refine Kd.C_drew ?_) | exact HR400.out)) hb)
                  have n7_ := Aside0.mk (below_step (by repeat (first | (with_reducible first | exact HB.out | apply below_alloc | apply pw_below_drewN | apply below_drew1) | exact HB.out)) hb)
                  clear HO362
                  clear HO384
                  clear HO387
                  clear HO390
                  clear HO393
                  clear HR400
                  clear HB
                  have HO362 := n0_
                  have HO384 := n1_
                  have HO387 := n2_
                  have HO390 := n3_
                  have HO393 := n4_
                  have HO396 := n5_
                  have HR400 := n6_
                  have HB := n7_
                  clear n0_ n1_ n2_ n3_ n4_ n5_ n6_ n7_
                  (try clear hb)
                  (try clear hb2)
                  (try clear hk)
                  (try clear hi)
                  (try clear ho0)
                  refine hK.out _ _ trivial (fun hHeld => ?_)
                  clear hK K
                  refine norm_ (a' := ?_) ?_ ?_
                  rotate_left
                  · show Act.put _ (some 57) _ = _
                    simp only [Act.put, List.setIfInBounds_toArray, List.set_cons_zero, List.set_cons_succ, i64_w, i32_w]
                    rfl
                  refine one_ (i := 14) (N := some 64) #[true, true, true, true, true, true, true, true, true, true, true, true, true, true, true, false, false, false] rfl rfl (one_of HT_.out (by kernel_rfl)) (by decide) (fun K hK => ?_)
                  refine goes_ Try.func16 (by kernel_rfl) rfl #[.int .i64 (wrap64 (1 + t359)), .slice Ao45 y397.length co45, .int .i64 t363] (by rfl) rfl rfl (by (try simp only [List.map_toArray, List.map_cons, List.map_nil]); first | done | rfl | (simp only [List.length_drop, List.length_take]; rfl)) ?_
                  with_reducible refine (path_From.calls (wrap64 (1 + t359)) _ _ y397 t363 t401 _ ?side1 ?side2 A24.out).mono ?_
                  (case side1 => repeat (first | exact (by repeat (first | (with_reducible exact HR400.out) | (with_reducible refine Kd.C_alloc ?_ _) | (with_reducible refine Kd.C_drewN ?_ _) | (with_reducible refine Kd.C_drew ?_) | exact HR400.out)) | (with_reducible refine Kd.C_alloc ?_ _) | (with_reducible refine Kd.C_drewN ?_ _) | (with_reducible refine Kd.C_drew ?_)))
                  (case side2 => exact HC400.out)
                  rintro e w48 ⟨v402, rfl, ho0, hb⟩
                  refine ⟨_, rfl, ?_⟩
                  have n0_ := Aside0.mk (Kd.R_below (by (with_reducible repeat (first | apply Kd.R_alloc | apply Kd.R_drewN | apply Kd.R_drew)); exact HO362.out) hb)
                  have n1_ := Aside0.mk (Kd.R_elder' (by (with_reducible repeat (first | apply Kd.R_alloc | apply Kd.R_drewN | apply Kd.R_drew)); exact HO384.out) (Kd.R_base ho0) hb)
                  have n2_ := Aside0.mk (Kd.R_below (by (with_reducible repeat (first | apply Kd.R_alloc | apply Kd.R_drewN | apply Kd.R_drew)); exact HO387.out) hb)
                  have n3_ := Aside0.mk (Kd.R_below (by (with_reducible repeat (first | apply Kd.R_alloc | apply Kd.R_drewN | apply Kd.R_drew)); exact HO390.out) hb)
                  have n4_ := Aside0.mk (Kd.R_elder' (by (with_reducible repeat (first | apply Kd.R_alloc | apply Kd.R_drewN | apply Kd.R_drew)); exact HO393.out) (Kd.R_base ho0) hb)
                  have n5_ := Aside0.mk (Kd.R_elder' (by (with_reducible repeat (first | apply Kd.R_alloc | apply Kd.R_drewN | apply Kd.R_drew)); exact HO396.out) (Kd.R_base ho0) hb)
                  have n6_ := Aside0.mk (Kd.R_lower (Kd.R_new' (Kd.R_new' (Kd.R_new' ho0 (Kd.R_lt (by (with_reducible repeat (first | apply Kd.R_alloc | apply Kd.R_drewN | apply Kd.R_drew)); exact HO384.out))) (Kd.R_lt (by (with_reducible repeat (first | apply Kd.R_alloc | apply Kd.R_drewN | apply Kd.R_drew)); exact HO393.out))) (Kd.R_lt (by (with_reducible repeat (first | apply Kd.R_alloc | apply Kd.R_drewN | apply Kd.R_drew)); exact HO396.out))) (below_size (by repeat (first | (with_reducible first | exact HB.out | apply below_alloc | apply pw_below_drewN | apply below_drew1) | exact HB.out))))
                  have n7_ := Aside0.mk (Kd.C_below (by repeat (first | (with_reducible exact HR400.out) | (with_reducible refine Kd.C_alloc ?_ _) | (with_reducible refine Kd.C_drewN ?_ _) | (with_reducible refine Kd.C_drew ?_) | exact HR400.out)) hb)
                  have n8_ := Aside0.mk (below_step (by repeat (first | (with_reducible first | exact HB.out | apply below_alloc | apply pw_below_drewN | apply below_drew1) | exact HB.out)) hb)
                  clear HO362
                  clear HO384
                  clear HO387
                  clear HO390
                  clear HO393
                  clear HO396
                  clear HR400
                  clear HB
                  have HO362 := n0_
                  have HO384 := n1_
                  have HO387 := n2_
                  have HO390 := n3_
                  have HO393 := n4_
                  have HO396 := n5_
                  have HO403 := n6_
                  have HR400 := n7_
                  have HB := n8_
                  clear n0_ n1_ n2_ n3_ n4_ n5_ n6_ n7_ n8_
                  (try clear hb)
                  (try clear hb2)
                  (try clear hk)
                  (try clear hi)
                  (try clear ho0)
                  refine hK.out _ _ trivial (fun hHeld => ?_)
                  clear hK K
                  refine norm_ (a' := ?_) ?_ ?_
                  rotate_left
                  · show Act.put _ (some 64) _ = _
                    simp only [Act.put, List.setIfInBounds_toArray, List.set_cons_zero, List.set_cons_succ, i64_w, i32_w]
                    rfl
                  refine pure_ (i := 15) (N := some 16) (v := ?_) (a' := ?_) #[true, true, true, true, true, true, true, true, true, true, true, true, true, true, true, true, false, false] rfl rfl (any_of HT_.out (by kernel_rfl)) (fun _ _ _ h => h) (Or.inl ⟨by rfl, ?_⟩) ?_ ?_
                  rotate_left
                  · intro w'
                    go_simp
                    with_reducible rfl
                  rotate_left
                  · simp only [Act.put, List.setIfInBounds_toArray, List.set_cons_zero, List.set_cons_succ, i64_w, i32_w]
                    rfl
                  refine pure_ (i := 16) (N := some 17) (v := ?_) (a' := ?_) #[true, true, true, true, true, true, true, true, true, true, true, true, true, true, true, true, true, false] rfl rfl (any_of HT_.out (by kernel_rfl)) (fun _ _ _ h => h) (Or.inl ⟨by rfl, ?_⟩) ?_ ?_
                  rotate_left
                  · intro w'
                    go_simp
                    with_reducible rfl
                  rotate_left
                  · simp only [Act.put, List.setIfInBounds_toArray, List.set_cons_zero, List.set_cons_succ, i64_w, i32_w]
                    rfl
                  refine pure_ (i := 17) (N := some 18) (v := ?_) (a' := ?_) #[true, true, true, true, true, true, true, true, true, true, true, true, true, true, true, true, true, true] rfl rfl (any_of HT_.out (by kernel_rfl)) (fun _ _ _ h => h) (Or.inl ⟨by rfl, ?_⟩) ?_ ?_
                  rotate_left
                  · intro w'
                    go_simp
                    with_reducible rfl
                  rotate_left
                  · simp only [Act.put, List.setIfInBounds_toArray, List.set_cons_zero, List.set_cons_succ, i64_w, i32_w]
                    rfl
                  refine done_ (done_of HT_.out (by kernel_rfl)) ?_
                  go_upto_region 9 with (fail)
                  go_cut [80] (fun v80 wc => ∃ (kq : Nat) (x80_24 : Bool), v80 = .bool x80_24 ∧ Aside0 (watershedlaw6_PathMore.j0 kq (wrap64 (1 + t359)) t391 t394 t401 x80_24 = some r) ∧ Aside0 (kq ≤ k) ∧ Aside0 (Kd.R (Kd.int .i64) 3 wc w.heap.size (fun k_ => some k_ ≠ (v395 : Value).ownBlock ∧ some k_ ≠ (v402 : Value).ownBlock) v392 t391) ∧ Aside0 (Kd.R (Kd.int .i64) 3 wc w.heap.size (fun k_ => some k_ ≠ (v392 : Value).ownBlock ∧ some k_ ≠ (v402 : Value).ownBlock) v395 t394) ∧ Aside0 (Kd.R (Kd.int .i64) 3 wc w.heap.size (fun k_ => some k_ ≠ (v392 : Value).ownBlock ∧ some k_ ≠ (v395 : Value).ownBlock) v402 t401) ∧ Aside0 (Kd.C k30 wc Ao45 y397.length y397) ∧ Aside0 (Below w.heap.size w wc))
                  case first =>
                    have H := HC25.out
                    clear HC25
                    by_cases c49 : (t391.length : Int) = (wrap64 (1 + t359))
                    · rw [if_pos c49] at H
                      have c49b0 : ((t391.length : Int) == (wrap64 (1 + t359))) = true := beq_iff_eq.mpr c49
                      have c49b1 : ((t391.length : Int) != (wrap64 (1 + t359))) = false := bne_eq_false_iff_eq.mpr c49
                      clear c49
                      (first | rw [c49b0] | (simp only [i64_w, i32_w]; rw [c49b0]) | skip)
                      by_cases c50 : (t394.length : Int) = (wrap64 (1 + t359))
                      · rw [if_pos c50] at H
                        have c50b0 : ((t394.length : Int) == (wrap64 (1 + t359))) = true := beq_iff_eq.mpr c50
                        have c50b1 : ((t394.length : Int) != (wrap64 (1 + t359))) = false := bne_eq_false_iff_eq.mpr c50
                        clear c50
                        have H' := Aside0.mk H
                        clear H
                        obtain ⟨Ao51, co51, eo51⟩ := Kd.R_slice HO393.out
                        subst eo51
                        obtain ⟨Ao52, co52, eo52⟩ := Kd.R_slice HO396.out
                        subst eo52
                        obtain ⟨Ao53, co53, eo53⟩ := Kd.R_slice HO403.out
                        subst eo53
                        go_wp2
                        go_meet
                        case rel => exact ⟨_, (((t401.length : Int) != (wrap64 (1 + t359)))), (by first | rfl | (simp; done) | (simp [*]; done)), H', ⟨by first | omega | exact Nat.le_refl _⟩, ⟨by (with_reducible repeat (first | apply Kd.R_alloc | apply Kd.R_drewN | apply Kd.R_drew)); exact Kd.R_mono HO393.out (fun _ hk => ⟨hk.1.2, hk.2⟩)⟩, ⟨by (with_reducible repeat (first | apply Kd.R_alloc | apply Kd.R_drewN | apply Kd.R_drew)); exact Kd.R_mono HO396.out (fun _ hk => ⟨hk.1.2, hk.2⟩)⟩, ⟨by (with_reducible repeat (first | apply Kd.R_alloc | apply Kd.R_drewN | apply Kd.R_drew)); exact Kd.R_mono HO403.out (fun _ hk => ⟨hk.1.2, hk.2⟩)⟩, ⟨by repeat (first | (with_reducible exact HR400.out) | (with_reducible refine Kd.C_alloc ?_ _) | (with_reducible refine Kd.C_drewN ?_ _) | (with_reducible refine Kd.C_drew ?_) | exact HR400.out)⟩, ⟨by repeat (first | (with_reducible first | exact HB.out | apply below_alloc | apply pw_below_drewN | apply below_drew1) | exact HB.out)⟩⟩
                      · rw [if_neg c50] at H
                        have c50b0 : ((t394.length : Int) == (wrap64 (1 + t359))) = false := beq_eq_false_iff_ne.mpr c50
                        have c50b1 : ((t394.length : Int) != (wrap64 (1 + t359))) = true := bne_iff_ne.mpr c50
                        have H' := Aside0.mk H
                        clear H
                        obtain ⟨Ao54, co54, eo54⟩ := Kd.R_slice HO393.out
                        subst eo54
                        obtain ⟨Ao55, co55, eo55⟩ := Kd.R_slice HO396.out
                        subst eo55
                        go_wp2
                        go_meet
                        case rel => exact ⟨_, (true), (by first | rfl | (simp; done) | (simp [*]; done)), H', ⟨by first | omega | exact Nat.le_refl _⟩, ⟨by (with_reducible repeat (first | apply Kd.R_alloc | apply Kd.R_drewN | apply Kd.R_drew)); exact Kd.R_mono HO393.out (fun _ hk => ⟨hk.1.2, hk.2⟩)⟩, ⟨by (with_reducible repeat (first | apply Kd.R_alloc | apply Kd.R_drewN | apply Kd.R_drew)); exact Kd.R_mono HO396.out (fun _ hk => ⟨hk.1.2, hk.2⟩)⟩, ⟨by (with_reducible repeat (first | apply Kd.R_alloc | apply Kd.R_drewN | apply Kd.R_drew)); exact Kd.R_mono HO403.out (fun _ hk => ⟨hk.1.2, hk.2⟩)⟩, ⟨by repeat (first | (with_reducible exact HR400.out) | (with_reducible refine Kd.C_alloc ?_ _) | (with_reducible refine Kd.C_drewN ?_ _) | (with_reducible refine Kd.C_drew ?_) | exact HR400.out)⟩, ⟨by repeat (first | (with_reducible first | exact HB.out | apply below_alloc | apply pw_below_drewN | apply below_drew1) | exact HB.out)⟩⟩
                    · rw [if_neg c49] at H
                      have c49b0 : ((t391.length : Int) == (wrap64 (1 + t359))) = false := beq_eq_false_iff_ne.mpr c49
                      have c49b1 : ((t391.length : Int) != (wrap64 (1 + t359))) = true := bne_iff_ne.mpr c49
                      (first | rw [c49b0] | (simp only [i64_w, i32_w]; rw [c49b0]) | skip)
                      have H' := Aside0.mk H
                      clear H
                      obtain ⟨Ao56, co56, eo56⟩ := Kd.R_slice HO393.out
                      subst eo56
                      go_wp2
                      go_meet
                      case rel => exact ⟨_, (true), (by first | rfl | (simp; done) | (simp [*]; done)), H', ⟨by first | omega | exact Nat.le_refl _⟩, ⟨by (with_reducible repeat (first | apply Kd.R_alloc | apply Kd.R_drewN | apply Kd.R_drew)); exact Kd.R_mono HO393.out (fun _ hk => ⟨hk.1.2, hk.2⟩)⟩, ⟨by (with_reducible repeat (first | apply Kd.R_alloc | apply Kd.R_drewN | apply Kd.R_drew)); exact Kd.R_mono HO396.out (fun _ hk => ⟨hk.1.2, hk.2⟩)⟩, ⟨by (with_reducible repeat (first | apply Kd.R_alloc | apply Kd.R_drewN | apply Kd.R_drew)); exact Kd.R_mono HO403.out (fun _ hk => ⟨hk.1.2, hk.2⟩)⟩, ⟨by repeat (first | (with_reducible exact HR400.out) | (with_reducible refine Kd.C_alloc ?_ _) | (with_reducible refine Kd.C_drewN ?_ _) | (with_reducible refine Kd.C_drew ?_) | exact HR400.out)⟩, ⟨by repeat (first | (with_reducible first | exact HB.out | apply below_alloc | apply pw_below_drewN | apply below_drew1) | exact HB.out)⟩⟩
                  case rest =>
                    clear HC25
                    try clear c1
                    try clear p2
                    try clear c4
                    try clear q4
                    try clear c5
                    try clear p6
                    try clear c14
                    try clear c15
                    try clear c16
                    try clear c17
                    try clear c19
                    try clear q44
                    try clear c49
                    try clear c49b0
                    try clear c49b1
                    try clear c50
                    try clear c50b0
                    try clear c50b1
                    try clear q44
                    obtain ⟨kq, x80_24, rfl, HA, HJ24, HO_16, HO_17, HO_18, HR400, HB⟩ := hcut
                    cases kq with
                    | zero => exact absurd HA.out (by simp [watershedlaw6_PathMore.j0])
                    | succ kj24 =>
                      have H := HA.out
                      clear HA
                      simp only [watershedlaw6_PathMore.j0] at H
                      by_cases c57 : x80_24 = true
                      · subst c57
                        have H1 : (some false) = some r := by rw [if_pos rfl] at H; exact H
                        clear H
                        have H := H1
                        clear H1
                        exact absurd ((Option.some.inj H).trans HR_.out) (by decide)
                      · replace c57 := Bool.eq_false_iff.mpr c57
                        subst c57
                        have H1 : (watershedlaw6_PathMore.l0 kj24 (wrap64 (1 + t359)) t391 t394 t401 0) = some r := by rw [if_neg (show ¬ (false = true) by decide)] at H; exact H
                        clear H
                        have H := H1
                        clear H1
                        have H' := Aside0.mk H
                        clear H
                        go_wp2
                        go_loopg [19] kj24 (fun kq v19 w' => ∃ (x19_2 : Int), v19 = .int .i64 x19_2 ∧ Aside0 (watershedlaw6_PathMore.l0 kq (wrap64 (1 + t359)) t391 t394 t401 x19_2 = some r) ∧ Aside0 (kq ≤ kj24) ∧ Aside0 (Kd.R (Kd.int .i64) 3 w' w.heap.size (fun k_ => some k_ ≠ (v395 : Value).ownBlock ∧ some k_ ≠ (v402 : Value).ownBlock) v392 t391) ∧ Aside0 (Kd.R (Kd.int .i64) 3 w' w.heap.size (fun k_ => some k_ ≠ (v392 : Value).ownBlock ∧ some k_ ≠ (v402 : Value).ownBlock) v395 t394) ∧ Aside0 (Kd.R (Kd.int .i64) 3 w' w.heap.size (fun k_ => some k_ ≠ (v392 : Value).ownBlock ∧ some k_ ≠ (v395 : Value).ownBlock) v402 t401) ∧ Aside0 (Kd.C k30 w' Ao45 y397.length y397) ∧ Aside0 (Below w.heap.size w w'))
                        case atStart => exact ⟨(0), (by first | rfl | (simp; done) | (simp [*]; done)), H', ⟨Nat.le_refl _⟩, ⟨by (with_reducible repeat (first | apply Kd.R_alloc | apply Kd.R_drewN | apply Kd.R_drew)); exact HO_16.out⟩, ⟨by (with_reducible repeat (first | apply Kd.R_alloc | apply Kd.R_drewN | apply Kd.R_drew)); exact HO_17.out⟩, ⟨by (with_reducible repeat (first | apply Kd.R_alloc | apply Kd.R_drewN | apply Kd.R_drew)); exact HO_18.out⟩, ⟨by repeat (first | (with_reducible exact HR400.out) | (with_reducible refine Kd.C_alloc ?_ _) | (with_reducible refine Kd.C_drewN ?_ _) | (with_reducible refine Kd.C_drew ?_) | exact HR400.out)⟩, ⟨by repeat (first | (with_reducible first | exact HB.out | apply below_alloc | apply pw_below_drewN | apply below_drew1) | exact HB.out)⟩⟩
                        case round =>
                          clear H'
                          try clear c1
                          try clear p2
                          try clear c4
                          try clear q4
                          try clear c5
                          try clear p6
                          try clear c14
                          try clear c15
                          try clear c16
                          try clear c17
                          try clear c19
                          try clear q44
                          try clear c49
                          try clear c49b0
                          try clear c49b1
                          try clear c50
                          try clear c50b0
                          try clear c50b1
                          try clear c57
                          try clear p2
                          try clear p6
                          try clear q4
                          try clear q44
                          obtain ⟨x19_2, rfl, HA, HK2, HO_16, HO_17, HO_18, HR400, HB⟩ := hrel
                          cases gk with
                          | zero => exact absurd HA.out (by simp [watershedlaw6_PathMore.l0])
                          | succ k2 =>
                            have H := HA.out
                            clear HA
                            simp only [watershedlaw6_PathMore.l0] at H
                            by_cases c58 : x19_2 < (wrap64 (1 + t359))
                            · rw [if_pos c58] at H
                              have c58b0 : decide (x19_2 < (wrap64 (1 + t359))) = true := decide_eq_true c58
                              clear c58
                              by_cases c59 : 0 ≤ x19_2
                              · rw [if_pos c59] at H
                                have c59b0 : decide (0 ≤ x19_2) = true := decide_eq_true c59
                                clear c59
                                by_cases c60 : x19_2 < (t394.length : Int)
                                · rw [if_pos c60] at H
                                  have c60b0 : decide (x19_2 < (t394.length : Int)) = true := decide_eq_true c60
                                  clear c60
                                  by_cases c61 : x19_2 < (t391.length : Int)
                                  · rw [if_pos c61] at H
                                    have c61b0 : decide (x19_2 < (t391.length : Int)) = true := decide_eq_true c61
                                    clear c61
                                    by_cases c62 : (rd t394 x19_2) > (rd t391 x19_2)
                                    · rw [if_pos c62] at H
                                      have c62b0 : decide ((rd t391 x19_2) < (rd t394 x19_2)) = true := decide_eq_true c62
                                      clear c62
                                      exact absurd ((Option.some.inj H).trans HR_.out) (by decide)
                                    · rw [if_neg c62] at H
                                      have c62b0 : decide ((rd t391 x19_2) < (rd t394 x19_2)) = false := decide_eq_false c62
                                      clear c62
                                      by_cases c63 : x19_2 < (t401.length : Int)
                                      · rw [if_pos c63] at H
                                        have c63b0 : decide (x19_2 < (t401.length : Int)) = true := decide_eq_true c63
                                        clear c63
                                        by_cases c64 : (rd t401 x19_2) = (rd t391 x19_2)
                                        · rw [if_pos c64] at H
                                          have c64b0 : ((rd t401 x19_2) == (rd t391 x19_2)) = true := beq_iff_eq.mpr c64
                                          have c64b1 : ((rd t401 x19_2) != (rd t391 x19_2)) = false := bne_eq_false_iff_eq.mpr c64
                                          clear c64
                                          have H' := Aside0.mk H
                                          clear H
                                          try go_wp2
                                          have n0_ := Aside0.mk (Kd.R_drew HO_16.out)
                                          have n1_ := Aside0.mk (Kd.R_drew HO_17.out)
                                          have n2_ := Aside0.mk (Kd.R_drew HO_18.out)
                                          have n3_ := Aside0.mk (Kd.C_drew HR400.out)
                                          have n4_ := Aside0.mk (below_drew1 HB.out)
                                          clear HO_16
                                          clear HO_17
                                          clear HO_18
                                          clear HR400
                                          clear HB
                                          have HO_16 := n0_
                                          have HO_17 := n1_
                                          have HO_18 := n2_
                                          have HR400 := n3_
                                          have HB := n4_
                                          clear n0_ n1_ n2_ n3_ n4_
                                          obtain ⟨Ao66, co66, eo66⟩ := Kd.R_slice HO_17.out
                                          (first | subst eo66 | (injection eo66 with f1_ f2_ f3_; have f4_ := f1_.symm; have f5_ := f3_.symm; clear f1_ f2_ f3_; subst f4_; subst f5_))
                                          have p404 : 0 ≤ (x19_2 : Int) := of_decide_eq_true (by first | (with_reducible assumption) | assumption)
                                          have q404 : x19_2 < (t394.length : Int) := of_decide_eq_true (by first | (with_reducible assumption) | assumption)
                                          obtain ⟨ad404, e404, hx404_0⟩ := Kd.at_int (Kd.R_reads' HO_17.out).2.2 x19_2 p404 q404
                                          cases e404
                                          replace p404 := eq_true p404
                                          replace q404 := eq_true q404
                                          obtain ⟨Ao67, co67, eo67⟩ := Kd.R_slice HO_16.out
                                          (first | subst eo67 | (injection eo67 with f1_ f2_ f3_; have f4_ := f1_.symm; have f5_ := f3_.symm; clear f1_ f2_ f3_; subst f4_; subst f5_))
                                          have p405 : 0 ≤ (x19_2 : Int) := of_decide_eq_true (by first | (with_reducible assumption) | assumption)
                                          have q405 : x19_2 < (t391.length : Int) := of_decide_eq_true (by first | (with_reducible assumption) | assumption)
                                          obtain ⟨ad405, e405, hx405_0⟩ := Kd.at_int (Kd.R_reads' HO_16.out).2.2 x19_2 p405 q405
                                          cases e405
                                          replace p405 := eq_true p405
                                          replace q405 := eq_true q405
                                          obtain ⟨Ao68, co68, eo68⟩ := Kd.R_slice HO_18.out
                                          (first | subst eo68 | (injection eo68 with f1_ f2_ f3_; have f4_ := f1_.symm; have f5_ := f3_.symm; clear f1_ f2_ f3_; subst f4_; subst f5_))
                                          have p406 : 0 ≤ (x19_2 : Int) := of_decide_eq_true (by first | (with_reducible assumption) | assumption)
                                          have q406 : x19_2 < (t401.length : Int) := of_decide_eq_true (by first | (with_reducible assumption) | assumption)
                                          obtain ⟨ad406, e406, hx406_0⟩ := Kd.at_int (Kd.R_reads' HO_18.out).2.2 x19_2 p406 q406
                                          cases e406
                                          replace p406 := eq_true p406
                                          replace q406 := eq_true q406
                                          have p407 : 0 ≤ (x19_2 : Int) := of_decide_eq_true (by first | (with_reducible assumption) | assumption)
                                          have q407 : x19_2 < (t391.length : Int) := of_decide_eq_true (by first | (with_reducible assumption) | assumption)
                                          obtain ⟨ad407, e407, hx407_0⟩ := Kd.at_int (Kd.R_reads' HO_16.out).2.2 x19_2 p407 q407
                                          obtain rfl : ad405 = ad407 := (by injection e407)
                                          replace p407 := eq_true p407
                                          replace q407 := eq_true q407
                                          refine start_ (n := 20) (S := fun w' => w'.cell? (ad404.add (x19_2).toNat) = some (.int .i64 (rd t394 x19_2)) ∧ w'.cell? (ad405.add (x19_2).toNat) = some (.int .i64 (rd t391 x19_2)) ∧ w'.cell? (ad406.add (x19_2).toNat) = some (.int .i64 (rd t401 x19_2)) ∧ w'.cell? (ad405.add (x19_2).toNat) = some (.int .i64 (rd t391 x19_2))) (ds := []) #[false, false, false, false, false, false, false, false, false, false, false, false, false, false, false, false, false, false, false, false] (by kernel_rfl) rfl rfl ⟨hx404_0, hx405_0, hx406_0, hx407_0⟩ (fun hHeld => ?_); refine with_tabW watershedlaw6_PathMore.tab14 watershedlaw6_PathMore.bits14 (fun HT_ HW_ => ?_)
                                          generalize wr.drew = w65 at HO_16 HO_17 HO_18 HR400 HB hx404_0 hx405_0 hx406_0 hx407_0 hHeld ⊢
                                          refine pure_ (i := 0) (N := some 86) (v := ?_) (a' := ?_) #[true, false, false, false, false, false, false, false, false, false, false, false, false, false, false, false, false, false, false, false] rfl rfl (any_of HT_.out (by kernel_rfl)) (fun _ _ _ h => h) (Or.inl ⟨by rfl, ?_⟩) ?_ ?_
                                          rotate_left
                                          · intro w'
                                            go_simp
                                            with_reducible rfl
                                          rotate_left
                                          · simp only [Act.put, List.setIfInBounds_toArray, List.set_cons_zero, List.set_cons_succ, i64_w, i32_w]
                                            rfl
                                          refine pure_ (i := 1) (N := some 87) (v := ?_) (a' := ?_) #[true, true, false, false, false, false, false, false, false, false, false, false, false, false, false, false, false, false, false, false] rfl rfl (any_of HT_.out (by kernel_rfl)) (fun _ _ _ h => h) (Or.inl ⟨by rfl, ?_⟩) ?_ ?_
                                          rotate_left
                                          · intro w'
                                            go_simp
                                            with_reducible rfl
                                          rotate_left
                                          · simp only [Act.put, List.setIfInBounds_toArray, List.set_cons_zero, List.set_cons_succ, i64_w, i32_w]
                                            rfl
                                          refine pure_ (i := 2) (N := some 88) (v := ?_) (a' := ?_) #[true, true, true, false, false, false, false, false, false, false, false, false, false, false, false, false, false, false, false, false] rfl rfl (any_of HT_.out (by kernel_rfl)) (fun _ _ _ h => h) (Or.inl ⟨by rfl, ?_⟩) ?_ ?_
                                          rotate_left
                                          · intro w'
                                            go_simp
                                            with_reducible rfl
                                          rotate_left
                                          · simp only [Act.put, List.setIfInBounds_toArray, List.set_cons_zero, List.set_cons_succ, i64_w, i32_w]
                                            rfl
                                          refine pure_ (i := 4) (N := some 90) (v := ?_) (a' := ?_) #[true, true, true, false, true, false, false, false, false, false, false, false, false, false, false, false, false, false, false, false] rfl rfl (any_of HT_.out (by kernel_rfl)) (fun _ _ _ h => h) (Or.inl ⟨by rfl, ?_⟩) ?_ ?_
                                          rotate_left
                                          · intro w'
                                            go_simp
                                            with_reducible rfl
                                          rotate_left
                                          · simp only [Act.put, List.setIfInBounds_toArray, List.set_cons_zero, List.set_cons_succ, i64_w, i32_w]
                                            rfl
                                          refine pure_ (i := 5) (N := some 91) (v := ?_) (a' := ?_) #[true, true, true, false, true, true, false, false, false, false, false, false, false, false, false, false, false, false, false, false] rfl rfl (any_of HT_.out (by kernel_rfl)) (fun _ _ _ h => h) (Or.inl ⟨by rfl, ?_⟩) ?_ ?_
                                          rotate_left
                                          · intro w'
                                            go_simp
                                            with_reducible rfl
                                          rotate_left
                                          · simp only [Act.put, List.setIfInBounds_toArray, List.set_cons_zero, List.set_cons_succ, i64_w, i32_w]
                                            rfl
                                          refine pure_ (i := 6) (N := some 92) (v := ?_) (a' := ?_) #[true, true, true, false, true, true, true, false, false, false, false, false, false, false, false, false, false, false, false, false] rfl rfl (any_of HT_.out (by kernel_rfl)) (fun _ _ _ h => h) (Or.inl ⟨by rfl, ?_⟩) ?_ ?_
                                          rotate_left
                                          · intro w'
                                            go_simp
                                            with_reducible rfl
                                          rotate_left
                                          · simp only [Act.put, List.setIfInBounds_toArray, List.set_cons_zero, List.set_cons_succ, i64_w, i32_w]
                                            rfl
                                          refine take_ (i := 3) (N := some 89) (v := ?_) (a' := ?_) #[true, true, true, true, true, true, true, false, false, false, false, false, false, false, false, false, false, false, false, false] rfl rfl (take_ofW HT_.out HW_.out (by kernel_rfl)) (fun _ _ _ h => h) (Or.inl ⟨by rfl, ?_⟩) hHeld ?_ ?_
                                          rotate_left
                                          · rintro w' ⟨s0, s1, s2, s3⟩
                                            go_simp
                                            with_reducible rfl
                                          rotate_left
                                          · simp only [Act.put, List.setIfInBounds_toArray, List.set_cons_zero, List.set_cons_succ, i64_w, i32_w]
                                            rfl
                                          refine take_ (i := 7) (N := some 93) (v := ?_) (a' := ?_) #[true, true, true, true, true, true, true, true, false, false, false, false, false, false, false, false, false, false, false, false] rfl rfl (take_ofW HT_.out HW_.out (by kernel_rfl)) (fun _ _ _ h => h) (Or.inl ⟨by rfl, ?_⟩) hHeld ?_ ?_
                                          rotate_left
                                          · rintro w' ⟨s0, s1, s2, s3⟩
                                            go_simp
                                            with_reducible rfl
                                          rotate_left
                                          · simp only [Act.put, List.setIfInBounds_toArray, List.set_cons_zero, List.set_cons_succ, i64_w, i32_w]
                                            rfl
                                          refine pure_ (i := 8) (N := some 94) (v := ?_) (a' := ?_) #[true, true, true, true, true, true, true, true, true, false, false, false, false, false, false, false, false, false, false, false] rfl rfl (any_of HT_.out (by kernel_rfl)) (fun _ _ _ h => h) (Or.inl ⟨by rfl, ?_⟩) ?_ ?_
                                          rotate_left
                                          · intro w'
                                            go_simp
                                            with_reducible rfl
                                          rotate_left
                                          · simp only [Act.put, List.setIfInBounds_toArray, List.set_cons_zero, List.set_cons_succ, i64_w, i32_w]
                                            rfl
                                          refine pure_ (i := 9) (N := some 95) (v := ?_) (a' := ?_) #[true, true, true, true, true, true, true, true, true, true, false, false, false, false, false, false, false, false, false, false] rfl rfl (any_of HT_.out (by kernel_rfl)) (fun _ _ _ h => h) (Or.inl ⟨by rfl, ?_⟩) ?_ ?_
                                          rotate_left
                                          · intro w'
                                            go_simp
                                            with_reducible rfl
                                          rotate_left
                                          · simp only [Act.put, List.setIfInBounds_toArray, List.set_cons_zero, List.set_cons_succ, i64_w, i32_w]
                                            rfl
                                          refine pure_ (i := 10) (N := some 96) (v := ?_) (a' := ?_) #[true, true, true, true, true, true, true, true, true, true, true, false, false, false, false, false, false, false, false, false] rfl rfl (any_of HT_.out (by kernel_rfl)) (fun _ _ _ h => h) (Or.inl ⟨by rfl, ?_⟩) ?_ ?_
                                          rotate_left
                                          · intro w'
                                            go_simp
                                            with_reducible rfl
                                          rotate_left
                                          · simp only [Act.put, List.setIfInBounds_toArray, List.set_cons_zero, List.set_cons_succ, i64_w, i32_w]
                                            rfl
                                          refine pure_ (i := 11) (N := some 97) (v := ?_) (a' := ?_) #[true, true, true, true, true, true, true, true, true, true, true, true, false, false, false, false, false, false, false, false] rfl rfl (any_of HT_.out (by kernel_rfl)) (fun _ _ _ h => h) (Or.inl ⟨by rfl, ?_⟩) ?_ ?_
                                          rotate_left
                                          · intro w'
                                            go_simp
                                            with_reducible rfl
                                          rotate_left
                                          · simp only [Act.put, List.setIfInBounds_toArray, List.set_cons_zero, List.set_cons_succ, i64_w, i32_w]
                                            rfl
                                          refine pure_ (i := 12) (N := some 98) (v := ?_) (a' := ?_) #[true, true, true, true, true, true, true, true, true, true, true, true, true, false, false, false, false, false, false, false] rfl rfl (any_of HT_.out (by kernel_rfl)) (fun _ _ _ h => h) (Or.inl ⟨by rfl, ?_⟩) ?_ ?_
                                          rotate_left
                                          · intro w'
                                            go_simp
                                            with_reducible rfl
                                          rotate_left
                                          · simp only [Act.put, List.setIfInBounds_toArray, List.set_cons_zero, List.set_cons_succ, i64_w, i32_w]
                                            rfl
                                          refine pure_ (i := 14) (N := some 100) (v := ?_) (a' := ?_) #[true, true, true, true, true, true, true, true, true, true, true, true, true, false, true, false, false, false, false, false] rfl rfl (any_of HT_.out (by kernel_rfl)) (fun _ _ _ h => h) (Or.inl ⟨by rfl, ?_⟩) ?_ ?_
                                          rotate_left
                                          · intro w'
                                            go_simp
                                            with_reducible rfl
                                          rotate_left
                                          · simp only [Act.put, List.setIfInBounds_toArray, List.set_cons_zero, List.set_cons_succ, i64_w, i32_w]
                                            rfl
                                          refine pure_ (i := 15) (N := some 101) (v := ?_) (a' := ?_) #[true, true, true, true, true, true, true, true, true, true, true, true, true, false, true, true, false, false, false, false] rfl rfl (any_of HT_.out (by kernel_rfl)) (fun _ _ _ h => h) (Or.inl ⟨by rfl, ?_⟩) ?_ ?_
                                          rotate_left
                                          · intro w'
                                            go_simp
                                            with_reducible rfl
                                          rotate_left
                                          · simp only [Act.put, List.setIfInBounds_toArray, List.set_cons_zero, List.set_cons_succ, i64_w, i32_w]
                                            rfl
                                          refine pure_ (i := 16) (N := some 102) (v := ?_) (a' := ?_) #[true, true, true, true, true, true, true, true, true, true, true, true, true, false, true, true, true, false, false, false] rfl rfl (any_of HT_.out (by kernel_rfl)) (fun _ _ _ h => h) (Or.inl ⟨by rfl, ?_⟩) ?_ ?_
                                          rotate_left
                                          · intro w'
                                            go_simp
                                            with_reducible rfl
                                          rotate_left
                                          · simp only [Act.put, List.setIfInBounds_toArray, List.set_cons_zero, List.set_cons_succ, i64_w, i32_w]
                                            rfl
                                          refine take_ (i := 13) (N := some 99) (v := ?_) (a' := ?_) #[true, true, true, true, true, true, true, true, true, true, true, true, true, true, true, true, true, false, false, false] rfl rfl (take_ofW HT_.out HW_.out (by kernel_rfl)) (fun _ _ _ h => h) (Or.inl ⟨by rfl, ?_⟩) hHeld ?_ ?_
                                          rotate_left
                                          · rintro w' ⟨s0, s1, s2, s3⟩
                                            go_simp
                                            with_reducible rfl
                                          rotate_left
                                          · simp only [Act.put, List.setIfInBounds_toArray, List.set_cons_zero, List.set_cons_succ, i64_w, i32_w]
                                            rfl
                                          refine take_ (i := 17) (N := some 103) (v := ?_) (a' := ?_) #[true, true, true, true, true, true, true, true, true, true, true, true, true, true, true, true, true, true, false, false] rfl rfl (take_ofW HT_.out HW_.out (by kernel_rfl)) (fun _ _ _ h => h) (Or.inl ⟨by rfl, ?_⟩) hHeld ?_ ?_
                                          rotate_left
                                          · rintro w' ⟨s0, s1, s2, s3⟩
                                            go_simp
                                            with_reducible rfl
                                          rotate_left
                                          · simp only [Act.put, List.setIfInBounds_toArray, List.set_cons_zero, List.set_cons_succ, i64_w, i32_w]
                                            rfl
                                          refine pure_ (i := 18) (N := some 104) (v := ?_) (a' := ?_) #[true, true, true, true, true, true, true, true, true, true, true, true, true, true, true, true, true, true, true, false] rfl rfl (any_of HT_.out (by kernel_rfl)) (fun _ _ _ h => h) (Or.inl ⟨by rfl, ?_⟩) ?_ ?_
                                          rotate_left
                                          · intro w'
                                            go_simp
                                            with_reducible rfl
                                          rotate_left
                                          · simp only [Act.put, List.setIfInBounds_toArray, List.set_cons_zero, List.set_cons_succ, i64_w, i32_w]
                                            rfl
                                          refine pure_ (i := 19) (N := some 105) (v := ?_) (a' := ?_) #[true, true, true, true, true, true, true, true, true, true, true, true, true, true, true, true, true, true, true, true] rfl rfl (any_of HT_.out (by kernel_rfl)) (fun _ _ _ h => h) (Or.inl ⟨by rfl, ?_⟩) ?_ ?_
                                          rotate_left
                                          · intro w'
                                            go_simp
                                            with_reducible rfl
                                          rotate_left
                                          · simp only [Act.put, List.setIfInBounds_toArray, List.set_cons_zero, List.set_cons_succ, i64_w, i32_w]
                                            rfl
                                          refine done_ (done_of HT_.out (by kernel_rfl)) ?_
                                          try go_wp2
                                          go_roundg k2
                                          case measure => have := HJ24.out; have := HK2.out; omega
                                          case rel => exact ⟨(wrap64 (x19_2 + 1)), (by first | rfl | (simp; done) | (simp [*]; done)), H', ⟨by have := HJ24.out; have := HK2.out; omega⟩, ⟨by (with_reducible repeat (first | apply Kd.R_alloc | apply Kd.R_drewN | apply Kd.R_drew)); exact HO_16.out⟩, ⟨by (with_reducible repeat (first | apply Kd.R_alloc | apply Kd.R_drewN | apply Kd.R_drew)); exact HO_17.out⟩, ⟨by (with_reducible repeat (first | apply Kd.R_alloc | apply Kd.R_drewN | apply Kd.R_drew)); exact HO_18.out⟩, ⟨by repeat (first | (with_reducible exact HR400.out) | (with_reducible refine Kd.C_alloc ?_ _) | (with_reducible refine Kd.C_drewN ?_ _) | (with_reducible refine Kd.C_drew ?_) | exact HR400.out)⟩, ⟨by repeat (first | (with_reducible first | exact HB.out | apply below_alloc | apply pw_below_drewN | apply below_drew1) | exact HB.out)⟩⟩
                                        · rw [if_neg c64] at H
                                          have c64b0 : ((rd t401 x19_2) == (rd t391 x19_2)) = false := beq_eq_false_iff_ne.mpr c64
                                          have c64b1 : ((rd t401 x19_2) != (rd t391 x19_2)) = true := bne_iff_ne.mpr c64
                                          exact absurd ((Option.some.inj H).trans HR_.out) (by decide)
                                      · rw [if_neg c63] at H
                                        exact absurd H (by simp)
                                  · rw [if_neg c61] at H
                                    exact absurd H (by simp)
                                · rw [if_neg c60] at H
                                  exact absurd H (by simp)
                              · rw [if_neg c59] at H
                                exact absurd H (by simp)
                            · rw [if_neg c58] at H
                              have c58b0 : decide (x19_2 < (wrap64 (1 + t359))) = false := decide_eq_false c58
                              clear c58
                              obtain rfl := Option.some.inj H
                              go_wp2
                              go_ret
                              exact ⟨by first | rfl | (simp [errW_none, errW_some] <;> rfl) | (simp [*, errW_none, errW_some] <;> rfl), by repeat (first | (with_reducible first | exact HB.out | apply below_alloc | apply pw_below_drewN | apply below_drew1) | exact HB.out)⟩
                · rw [if_neg c23] at H
                  exact absurd H (by simp)
              · rw [if_neg c22] at H
                exact absurd H (by simp)
            · rw [if_neg c19] at H
              exact absurd H (by simp)
          · rw [if_neg c17] at H
            exact absurd H (by simp)
        · rw [if_neg c14] at H
          exact absurd H (by simp)
      · rw [if_neg c13] at H
        exact absurd H (by simp)
    · rw [if_neg c12] at H
      exact absurd H (by simp)
  · replace c7 := Bool.eq_false_iff.mpr c7
    subst c7
    have H1 : (some false) = some r := by rw [if_neg (show ¬ (false = true) by decide)] at H; exact H
    clear H
    have H := H1
    clear H1
    exact absurd ((Option.some.inj H).trans HR_.out) (by decide)

/-- THE ONE PURE STATEMENT of watershedlaw6_PathMore: yours. -/
def watershedlaw6_PathMore.Pure : Prop := ∀ (a0 : Int) (l1 : List Int) (a2 : Int) (a3 : Int) (a4 : Int), (Lit.int .i64 a0).wf = true → l1.length ≤ maxLen → l1.length * 8 ≤ 140737488351232 → (∀ x ∈ l1, (Lit.int .i64 x).wf = true) → (Lit.int .i64 a2).wf = true → (Lit.int .i64 a3).wf = true → (Lit.int .i64 a4).wf = true → ∃ k, watershedlaw6_PathMore.f k a0 l1 a2 a3 a4 = some true
theorem watershedlaw6_PathMore.walk (P : watershedlaw6_PathMore.Pure) (a0 : Int) (a1 : Option Addr) (len1 cap1 : Nat) (z1 : List Int) (a2 : Int) (a3 : Int) (a4 : Int) (w : World) (w0 : (Lit.int .i64 a0).wf = true) (w1 : (a1 = none ∧ len1 = 0 ∧ cap1 = 0 ∧ z1 = []) ∨ ∃ x, a1 = some x ∧ len1 ≤ cap1 ∧ cap1 ≤ maxLen ∧ z1.length = cap1 ∧ (∀ i, i < z1.length → w.cell? (x.add i) = some (.int .i64 (z1.getD i 0))) ∧ ∀ n ∈ z1, (Lit.int .i64 n).wf = true) (y1 : len1 * 8 ≤ 140737488351232) (w2 : (Lit.int .i64 a2).wf = true) (w3 : (Lit.int .i64 a3).wf = true) (w4 : (Lit.int .i64 a4).wf = true) :
    Calls Try.prog 7 #[.int .i64 a0, .slice a1 len1 cap1, .int .i64 a2, .int .i64 a3, .int .i64 a4] w fun e w' => e = .returned (.bool true) ∧ Below w.heap.size w w' := by
  obtain ⟨l1, rfl, hr1, hm1, hw1, hc1⟩ := ReadsInt.ofRowC w1
  obtain ⟨k, h⟩ := P a0 l1 a2 a3 a4 w0 hm1 y1 hw1 w2 w3 w4
  refine (watershedlaw6_PathMore.calls k a0 _ _ l1 a2 a3 a4 true w (Kd.C_of_reads (d := (0 : Int)) (h1 := fun _ => rfl) hr1) hc1 h).mono ?_
  rintro e w' ⟨rfl, hd⟩
  exact ⟨rfl, hd⟩

end Go.Proofs.Ytpkhdipedmihgaa.P
