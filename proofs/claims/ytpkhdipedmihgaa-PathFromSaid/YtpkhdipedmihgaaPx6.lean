-- Written by a program of this session: a scratch copy of the kit's printer in which some functions are external. Lean checks it.
import Derived.Test.YtpkhdipedmihgaaPx0
import Derived.Test.YtpkhdipedmihgaaPx1
import Derived.Test.YtpkhdipedmihgaaPx2
import Derived.Test.YtpkhdipedmihgaaPx3
import Derived.Test.YtpkhdipedmihgaaPx5
import Derived.Test.YtpkhdipedmihgaaYFrom
namespace Go.Proofs.Ytpkhdipedmihgaa.P
open Go.RowKit Go.Proofs.YtpkhdipedmihgaaW.PrintWords Go.Proofs.YtpkhdipedmihgaaW.PrintLast Go.Proofs.YtpkhdipedmihgaaW.PrintMore
attribute [local go_sem] max2_int min2_int max_two min_two max_three min_three max_four min_four   -- for this text's walks alone
set_option linter.unusedVariables false
set_option linter.unusedSimpArgs false

/-! ### watershedlaw6_PathFrom: function 3 -/
mutual
def watershedlaw6_PathFrom.j0 : Nat → Int → List (S30) → Int → List Int → Bool → Option (Bool)
  | 0, _, _, _, _, _ => none
  | k + 1, x7, x8, x9, x10, x40 => if x40 = true then (some false) else (watershedlaw6_PathFrom.l0 k x7 x8 x9 x10 0)
def watershedlaw6_PathFrom.l0 : Nat → Int → List (S30) → Int → List Int → Int → Option (Bool)
  | 0, _, _, _, _, _ => none
  | k + 1, x7, x8, x9, x10, x11 => if x11 < (x8.length : Int) then (if 0 ≤ x11 then (if 0 ≤ ((rd_T30 x8 x11).f0) then (if ((rd_T30 x8 x11).f0) < (x10.length : Int) then (if (rd x10 ((rd_T30 x8 x11).f0)) = 1152921504606846976 then (watershedlaw6_PathFrom.l0 k x7 x8 x9 x10 (wrap64 (x11 + 1))) else (if 0 ≤ ((rd_T30 x8 x11).f1) then (if ((rd_T30 x8 x11).f1) < (x10.length : Int) then (if (rd x10 ((rd_T30 x8 x11).f1)) > (wrap64 ((rd x10 ((rd_T30 x8 x11).f0)) + ((rd_T30 x8 x11).f2))) then (some false) else (watershedlaw6_PathFrom.l0 k x7 x8 x9 x10 (wrap64 (x11 + 1)))) else (none)) else (none))) else (none)) else (none)) else (none)) else ((path_Right.f k x7 x8 x9 x10).bind fun t189 => (some t189))
end
def watershedlaw6_PathFrom.f (k : Nat) (a0 : Int) (l1 : List Int) (a2 : Int) : Option (Bool) := (watershedlaw6_known.f k).bind fun t168 => (if t168 = true then ((watershedlaw6_within.f a0 14).bind fun t169 => ((watershedlaw6_Arcs.f k (wrap64 (1 + t169)) l1 0).bind fun t170 => ((watershedlaw6_within.f a2 (wrap64 (1 + t169))).bind fun t173 => ((path_From.f (wrap64 (1 + t169)) t170 t173).bind fun t174 => ((watershedref6_From.f k (wrap64 (1 + t169)) t170 t173).bind fun t177 => ((watershedref6_Ints.f k t174 t177).bind fun t180 => (if t180 = true then (if 0 ≤ t173 then (if t173 < (t174.length : Int) then (watershedlaw6_PathFrom.j0 k (wrap64 (1 + t169)) t170 t173 t174 ((rd t174 t173) != 0)) else (none)) else (none)) else (watershedlaw6_PathFrom.j0 k (wrap64 (1 + t169)) t170 t173 t174 true)))))))) else (some false))
theorem watershedlaw6_PathFrom.mono_l : ∀ k, (∀ y0 y1 y2 y3 y4, LeO (watershedlaw6_PathFrom.j0 k y0 y1 y2 y3 y4) (watershedlaw6_PathFrom.j0 (k + 1) y0 y1 y2 y3 y4)) ∧ (∀ y0 y1 y2 y3 y4, LeO (watershedlaw6_PathFrom.l0 k y0 y1 y2 y3 y4) (watershedlaw6_PathFrom.l0 (k + 1) y0 y1 y2 y3 y4))
  | 0 => ⟨fun _ _ _ _ _ r h => by simp [watershedlaw6_PathFrom.j0] at h, fun _ _ _ _ _ r h => by simp [watershedlaw6_PathFrom.l0] at h⟩
  | k + 1 => by
    obtain ⟨ih0, ih1⟩ := watershedlaw6_PathFrom.mono_l k
    refine ⟨?_, ?_⟩
    · intro y0 y1 y2 y3 y4
      unfold watershedlaw6_PathFrom.j0
      repeat' first
      | (with_reducible exact ih0 _ _ _ _ _)
      | (with_reducible exact ih1 _ _ _ _ _)
      | (with_reducible exact path_Right.mono _ _ _ _ _)
      | (with_reducible exact watershedlaw6_Arcs.mono _ _ _ _)
      | (with_reducible exact watershedlaw6_known.mono _)
      | (with_reducible exact watershedref6_From.mono _ _ _ _)
      | (with_reducible exact watershedref6_Ints.mono _ _ _)
      | (with_reducible exact LeO.refl _)
      | (with_reducible exact LeO.none _)
      | (with_reducible refine LeO.ite ?_ ?_)
      | (with_reducible refine LeO.bind ?_ (fun _ => ?_))
      | exact ih0 _ _ _ _ _
      | exact ih1 _ _ _ _ _
      | exact path_Right.mono _ _ _ _ _
      | exact watershedlaw6_Arcs.mono _ _ _ _
      | exact watershedlaw6_known.mono _
      | exact watershedref6_From.mono _ _ _ _
      | exact watershedref6_Ints.mono _ _ _
      | exact LeO.none _
      | refine LeO.ite ?_ ?_
      | refine LeO.bind ?_ (fun _ => ?_)
    · intro y0 y1 y2 y3 y4
      unfold watershedlaw6_PathFrom.l0
      repeat' first
      | (with_reducible exact ih0 _ _ _ _ _)
      | (with_reducible exact ih1 _ _ _ _ _)
      | (with_reducible exact path_Right.mono _ _ _ _ _)
      | (with_reducible exact watershedlaw6_Arcs.mono _ _ _ _)
      | (with_reducible exact watershedlaw6_known.mono _)
      | (with_reducible exact watershedref6_From.mono _ _ _ _)
      | (with_reducible exact watershedref6_Ints.mono _ _ _)
      | (with_reducible exact LeO.refl _)
      | (with_reducible exact LeO.none _)
      | (with_reducible refine LeO.ite ?_ ?_)
      | (with_reducible refine LeO.bind ?_ (fun _ => ?_))
      | exact ih0 _ _ _ _ _
      | exact ih1 _ _ _ _ _
      | exact path_Right.mono _ _ _ _ _
      | exact watershedlaw6_Arcs.mono _ _ _ _
      | exact watershedlaw6_known.mono _
      | exact watershedref6_From.mono _ _ _ _
      | exact watershedref6_Ints.mono _ _ _
      | exact LeO.none _
      | refine LeO.ite ?_ ?_
      | refine LeO.bind ?_ (fun _ => ?_)
theorem watershedlaw6_PathFrom.mono : ∀ a0 a1 a2 k, LeO (watershedlaw6_PathFrom.f k a0 a1 a2) (watershedlaw6_PathFrom.f (k + 1) a0 a1 a2) := by
  intro a0 a1 a2 k
  obtain ⟨ih0, ih1⟩ := watershedlaw6_PathFrom.mono_l k
  unfold watershedlaw6_PathFrom.f
  repeat' first
      | (with_reducible exact ih0 _ _ _ _ _)
      | (with_reducible exact ih1 _ _ _ _ _)
      | (with_reducible exact path_Right.mono _ _ _ _ _)
      | (with_reducible exact watershedlaw6_Arcs.mono _ _ _ _)
      | (with_reducible exact watershedlaw6_known.mono _)
      | (with_reducible exact watershedref6_From.mono _ _ _ _)
      | (with_reducible exact watershedref6_Ints.mono _ _ _)
      | (with_reducible exact LeO.refl _)
      | (with_reducible exact LeO.none _)
      | (with_reducible refine LeO.ite ?_ ?_)
      | (with_reducible refine LeO.bind ?_ (fun _ => ?_))
      | exact ih0 _ _ _ _ _
      | exact ih1 _ _ _ _ _
      | exact path_Right.mono _ _ _ _ _
      | exact watershedlaw6_Arcs.mono _ _ _ _
      | exact watershedlaw6_known.mono _
      | exact watershedref6_From.mono _ _ _ _
      | exact watershedref6_Ints.mono _ _ _
      | exact LeO.none _
      | refine LeO.ite ?_ ?_
      | refine LeO.bind ?_ (fun _ => ?_)
set_option maxHeartbeats 8000000 in
set_option maxRecDepth 100000 in
theorem watershedlaw6_PathFrom.calls (k : Nat) (a0 : Int) (A1 : Option Addr) (c1 : Nat) (l1 : List Int) (a2 : Int) (r : Bool) (w : World) (hr1 : Kd.C (Kd.int .i64) w A1 l1.length l1) (hc1 : l1.length ≤ c1) (h : watershedlaw6_PathFrom.f k a0 l1 a2 = some r) (hr_ : r = true := by rfl) :
    Calls Try.prog 3 #[.int .i64 a0, .slice A1 l1.length c1, .int .i64 a2] w fun e w' => e = .returned (.bool r) ∧ Below w.heap.size w w' := by
  have HR_ := Aside0.mk hr_
  clear hr_
  have HR1 := Aside0.mk hr1
  have HC1 := Aside0.mk hc1
  clear hr1 hc1
  have HB := Aside0.mk (Below.refl w.heap.size w)
  have H : ((watershedlaw6_known.f k).bind fun t168 => (if t168 = true then ((watershedlaw6_within.f a0 14).bind fun t169 => ((watershedlaw6_Arcs.f k (wrap64 (1 + t169)) l1 0).bind fun t170 => ((watershedlaw6_within.f a2 (wrap64 (1 + t169))).bind fun t173 => ((path_From.f (wrap64 (1 + t169)) t170 t173).bind fun t174 => ((watershedref6_From.f k (wrap64 (1 + t169)) t170 t173).bind fun t177 => ((watershedref6_Ints.f k t174 t177).bind fun t180 => (if t180 = true then (if 0 ≤ t173 then (if t173 < (t174.length : Int) then (watershedlaw6_PathFrom.j0 k (wrap64 (1 + t169)) t170 t173 t174 ((rd t174 t173) != 0)) else (none)) else (none)) else (watershedlaw6_PathFrom.j0 k (wrap64 (1 + t169)) t170 t173 t174 true)))))))) else (some false))) = some r := h
  clear h
  replace H := Option.bind_eq_some_iff.mp H
  obtain ⟨t168, A40, H⟩ := H
  replace H : (if t168 = true then ((watershedlaw6_within.f a0 14).bind fun t169 => ((watershedlaw6_Arcs.f k (wrap64 (1 + t169)) l1 0).bind fun t170 => ((watershedlaw6_within.f a2 (wrap64 (1 + t169))).bind fun t173 => ((path_From.f (wrap64 (1 + t169)) t170 t173).bind fun t174 => ((watershedref6_From.f k (wrap64 (1 + t169)) t170 t173).bind fun t177 => ((watershedref6_Ints.f k t174 t177).bind fun t180 => (if t180 = true then (if 0 ≤ t173 then (if t173 < (t174.length : Int) then (watershedlaw6_PathFrom.j0 k (wrap64 (1 + t169)) t170 t173 t174 ((rd t174 t173) != 0)) else (none)) else (none)) else (watershedlaw6_PathFrom.j0 k (wrap64 (1 + t169)) t170 t173 t174 true)))))))) else (some false)) = some r := H
  have A4 := Aside0.mk A40
  clear A40
  by_cases c5 : t168 = true
  · subst c5
    have H1 : ((watershedlaw6_within.f a0 14).bind fun t169 => ((watershedlaw6_Arcs.f k (wrap64 (1 + t169)) l1 0).bind fun t170 => ((watershedlaw6_within.f a2 (wrap64 (1 + t169))).bind fun t173 => ((path_From.f (wrap64 (1 + t169)) t170 t173).bind fun t174 => ((watershedref6_From.f k (wrap64 (1 + t169)) t170 t173).bind fun t177 => ((watershedref6_Ints.f k t174 t177).bind fun t180 => (if t180 = true then (if 0 ≤ t173 then (if t173 < (t174.length : Int) then (watershedlaw6_PathFrom.j0 k (wrap64 (1 + t169)) t170 t173 t174 ((rd t174 t173) != 0)) else (none)) else (none)) else (watershedlaw6_PathFrom.j0 k (wrap64 (1 + t169)) t170 t173 t174 true)))))))) = some r := by rw [if_pos rfl] at H; exact H
    clear H
    have H := H1
    clear H1
    replace H := Option.bind_eq_some_iff.mp H
    obtain ⟨t169, A60, H⟩ := H
    replace H : ((watershedlaw6_Arcs.f k (wrap64 (1 + t169)) l1 0).bind fun t170 => ((watershedlaw6_within.f a2 (wrap64 (1 + t169))).bind fun t173 => ((path_From.f (wrap64 (1 + t169)) t170 t173).bind fun t174 => ((watershedref6_From.f k (wrap64 (1 + t169)) t170 t173).bind fun t177 => ((watershedref6_Ints.f k t174 t177).bind fun t180 => (if t180 = true then (if 0 ≤ t173 then (if t173 < (t174.length : Int) then (watershedlaw6_PathFrom.j0 k (wrap64 (1 + t169)) t170 t173 t174 ((rd t174 t173) != 0)) else (none)) else (none)) else (watershedlaw6_PathFrom.j0 k (wrap64 (1 + t169)) t170 t173 t174 true))))))) = some r := H
    have A6 := Aside0.mk A60
    clear A60
    replace H := Option.bind_eq_some_iff.mp H
    obtain ⟨t170, A70, H⟩ := H
    replace H : ((watershedlaw6_within.f a2 (wrap64 (1 + t169))).bind fun t173 => ((path_From.f (wrap64 (1 + t169)) t170 t173).bind fun t174 => ((watershedref6_From.f k (wrap64 (1 + t169)) t170 t173).bind fun t177 => ((watershedref6_Ints.f k t174 t177).bind fun t180 => (if t180 = true then (if 0 ≤ t173 then (if t173 < (t174.length : Int) then (watershedlaw6_PathFrom.j0 k (wrap64 (1 + t169)) t170 t173 t174 ((rd t174 t173) != 0)) else (none)) else (none)) else (watershedlaw6_PathFrom.j0 k (wrap64 (1 + t169)) t170 t173 t174 true)))))) = some r := H
    have A7 := Aside0.mk A70
    clear A70
    replace H := Option.bind_eq_some_iff.mp H
    obtain ⟨t173, A80, H⟩ := H
    replace H : ((path_From.f (wrap64 (1 + t169)) t170 t173).bind fun t174 => ((watershedref6_From.f k (wrap64 (1 + t169)) t170 t173).bind fun t177 => ((watershedref6_Ints.f k t174 t177).bind fun t180 => (if t180 = true then (if 0 ≤ t173 then (if t173 < (t174.length : Int) then (watershedlaw6_PathFrom.j0 k (wrap64 (1 + t169)) t170 t173 t174 ((rd t174 t173) != 0)) else (none)) else (none)) else (watershedlaw6_PathFrom.j0 k (wrap64 (1 + t169)) t170 t173 t174 true))))) = some r := H
    have A8 := Aside0.mk A80
    clear A80
    replace H := Option.bind_eq_some_iff.mp H
    obtain ⟨t174, A90, H⟩ := H
    replace H : ((watershedref6_From.f k (wrap64 (1 + t169)) t170 t173).bind fun t177 => ((watershedref6_Ints.f k t174 t177).bind fun t180 => (if t180 = true then (if 0 ≤ t173 then (if t173 < (t174.length : Int) then (watershedlaw6_PathFrom.j0 k (wrap64 (1 + t169)) t170 t173 t174 ((rd t174 t173) != 0)) else (none)) else (none)) else (watershedlaw6_PathFrom.j0 k (wrap64 (1 + t169)) t170 t173 t174 true)))) = some r := H
    have A9 := Aside0.mk A90
    clear A90
    have HC10 := Aside0.mk H
    clear H
    go_enter Try.func3, Try.ntmps3
    go_upto_region 7 with (first | (go_at_call 13; (with_reducible refine (watershedlaw6_known.calls k  true _ A4.out).mono ?_); rintro e w11 ⟨rfl, hb⟩; have n0_ := Aside0.mk (below_step (by repeat (first | (with_reducible first | exact HB.out | apply below_alloc | apply pw_below_drewN | apply below_drew1) | exact HB.out)) hb); clear HB; have HB := n0_; clear n0_; (try clear hb); (try clear hb2); (try clear hk); (try clear hi)) | (go_at_call 14; (with_reducible refine (watershedlaw6_within.calls a0 14 t169 _ A6.out).mono ?_); rintro e w' ⟨rfl, ⟨nd, rfl⟩⟩; (try first | exact ⟨rfl, _, World.drewN_drewN _ _ _⟩ | exact ⟨rfl, _, Eq.trans (World.drewN_drewN _ _ _) (congrArg (World.drewN _) (Nat.add_assoc _ _ _))⟩ | exact ⟨rfl, _, (World.drewN_drewN _ _ _).trans ((congrArg (World.drewN _) (Nat.add_assoc _ _ _)).trans (World.drewN_drewN _ _ _).symm)⟩)) | (go_at_call 15; (with_reducible refine (watershedlaw6_Arcs.calls k (wrap64 (1 + t169)) _ _ l1 0 t170 _ ?side1 ?side2 A7.out).mono ?_); (case side1 => repeat (first | exact (Kd.C_below HR1.out (by repeat (first | (with_reducible first | exact HB.out | apply below_alloc | apply pw_below_drewN | apply below_drew1) | exact HB.out))) | (with_reducible refine Kd.C_alloc ?_ _) | (with_reducible refine Kd.C_drewN ?_ _) | (with_reducible refine Kd.C_drew ?_))); (case side2 => exact HC1.out); rintro e w12 ⟨v171, rfl, ho0, hb⟩; have n0_ := Aside0.mk (Kd.R_lower ho0 (below_size (by repeat (first | (with_reducible first | exact HB.out | apply below_alloc | apply pw_below_drewN | apply below_drew1) | exact HB.out)))); have n1_ := Aside0.mk (below_step (by repeat (first | (with_reducible first | exact HB.out | apply below_alloc | apply pw_below_drewN | apply below_drew1) | exact HB.out)) hb); clear HB; have HO172 := n0_; have HB := n1_; clear n0_ n1_; (try clear hb); (try clear hb2); (try clear hk); (try clear hi); (try clear ho0)) | (go_at_call 14; (with_reducible refine (watershedlaw6_within.calls a2 (wrap64 (1 + t169)) t173 _ A8.out).mono ?_); rintro e w' ⟨rfl, ⟨nd, rfl⟩⟩; (try first | exact ⟨rfl, _, World.drewN_drewN _ _ _⟩ | exact ⟨rfl, _, Eq.trans (World.drewN_drewN _ _ _) (congrArg (World.drewN _) (Nat.add_assoc _ _ _))⟩ | exact ⟨rfl, _, (World.drewN_drewN _ _ _).trans ((congrArg (World.drewN _) (Nat.add_assoc _ _ _)).trans (World.drewN_drewN _ _ _).symm)⟩); obtain ⟨Ao13, co13, eo13⟩ := Kd.R_slice HO172.out; subst eo13) | (go_at_call 16; (with_reducible refine (path_From.calls (wrap64 (1 + t169)) _ _ t170 t173 t174 _ ?side1 ?side2 A9.out).mono ?_); (case side1 => repeat (first | exact (Kd.R_reads' HO172.out).2.2 | (with_reducible refine Kd.C_alloc ?_ _) | (with_reducible refine Kd.C_drewN ?_ _) | (with_reducible refine Kd.C_drew ?_))); (case side2 => exact (Kd.R_reads' HO172.out).2.1); rintro e w14 ⟨v175, rfl, ho0, hb⟩; have n0_ := Aside0.mk (Kd.R_below (by (with_reducible repeat (first | apply Kd.R_alloc | apply Kd.R_drewN | apply Kd.R_drew)); exact HO172.out) hb); have n1_ := Aside0.mk (Kd.R_lower ho0 (below_size (by repeat (first | (with_reducible first | exact HB.out | apply below_alloc | apply pw_below_drewN | apply below_drew1) | exact HB.out)))); have n2_ := Aside0.mk (below_step (by repeat (first | (with_reducible first | exact HB.out | apply below_alloc | apply pw_below_drewN | apply below_drew1) | exact HB.out)) hb); clear HO172; clear HB; have HO172 := n0_; have HO176 := n1_; have HB := n2_; clear n0_ n1_ n2_; (try clear hb); (try clear hb2); (try clear hk); (try clear hi); (try clear ho0)))
    repeat (go_quiet (first | (go_at_call 13; (with_reducible refine (watershedlaw6_known.calls k  true _ A4.out).mono ?_); rintro e w11 ⟨rfl, hb⟩; have n0_ := Aside0.mk (below_step (by repeat (first | (with_reducible first | exact HB.out | apply below_alloc | apply pw_below_drewN | apply below_drew1) | exact HB.out)) hb); clear HB; have HB := n0_; clear n0_; (try clear hb); (try clear hb2); (try clear hk); (try clear hi)) | (go_at_call 14; (with_reducible refine (watershedlaw6_within.calls a0 14 t169 _ A6.out).mono ?_); rintro e w' ⟨rfl, ⟨nd, rfl⟩⟩; (try first | exact ⟨rfl, _, World.drewN_drewN _ _ _⟩ | exact ⟨rfl, _, Eq.trans (World.drewN_drewN _ _ _) (congrArg (World.drewN _) (Nat.add_assoc _ _ _))⟩ | exact ⟨rfl, _, (World.drewN_drewN _ _ _).trans ((congrArg (World.drewN _) (Nat.add_assoc _ _ _)).trans (World.drewN_drewN _ _ _).symm)⟩)) | (go_at_call 15; (with_reducible refine (watershedlaw6_Arcs.calls k (wrap64 (1 + t169)) _ _ l1 0 t170 _ ?side1 ?side2 A7.out).mono ?_); (case side1 => repeat (first | exact (Kd.C_below HR1.out (by repeat (first | (with_reducible first | exact HB.out | apply below_alloc | apply pw_below_drewN | apply below_drew1) | exact HB.out))) | (with_reducible refine Kd.C_alloc ?_ _) | (with_reducible refine Kd.C_drewN ?_ _) | (with_reducible refine Kd.C_drew ?_))); (case side2 => exact HC1.out); rintro e w12 ⟨v171, rfl, ho0, hb⟩; have n0_ := Aside0.mk (Kd.R_lower ho0 (below_size (by repeat (first | (with_reducible first | exact HB.out | apply below_alloc | apply pw_below_drewN | apply below_drew1) | exact HB.out)))); have n1_ := Aside0.mk (below_step (by repeat (first | (with_reducible first | exact HB.out | apply below_alloc | apply pw_below_drewN | apply below_drew1) | exact HB.out)) hb); clear HB; have HO172 := n0_; have HB := n1_; clear n0_ n1_; (try clear hb); (try clear hb2); (try clear hk); (try clear hi); (try clear ho0)) | (go_at_call 14; (with_reducible refine (watershedlaw6_within.calls a2 (wrap64 (1 + t169)) t173 _ A8.out).mono ?_); rintro e w' ⟨rfl, ⟨nd, rfl⟩⟩; (try first | exact ⟨rfl, _, World.drewN_drewN _ _ _⟩ | exact ⟨rfl, _, Eq.trans (World.drewN_drewN _ _ _) (congrArg (World.drewN _) (Nat.add_assoc _ _ _))⟩ | exact ⟨rfl, _, (World.drewN_drewN _ _ _).trans ((congrArg (World.drewN _) (Nat.add_assoc _ _ _)).trans (World.drewN_drewN _ _ _).symm)⟩); obtain ⟨Ao13, co13, eo13⟩ := Kd.R_slice HO172.out; subst eo13) | (go_at_call 16; (with_reducible refine (path_From.calls (wrap64 (1 + t169)) _ _ t170 t173 t174 _ ?side1 ?side2 A9.out).mono ?_); (case side1 => repeat (first | exact (Kd.R_reads' HO172.out).2.2 | (with_reducible refine Kd.C_alloc ?_ _) | (with_reducible refine Kd.C_drewN ?_ _) | (with_reducible refine Kd.C_drew ?_))); (case side2 => exact (Kd.R_reads' HO172.out).2.1); rintro e w14 ⟨v175, rfl, ho0, hb⟩; have n0_ := Aside0.mk (Kd.R_below (by (with_reducible repeat (first | apply Kd.R_alloc | apply Kd.R_drewN | apply Kd.R_drew)); exact HO172.out) hb); have n1_ := Aside0.mk (Kd.R_lower ho0 (below_size (by repeat (first | (with_reducible first | exact HB.out | apply below_alloc | apply pw_below_drewN | apply below_drew1) | exact HB.out)))); have n2_ := Aside0.mk (below_step (by repeat (first | (with_reducible first | exact HB.out | apply below_alloc | apply pw_below_drewN | apply below_drew1) | exact HB.out)) hb); clear HO172; clear HB; have HO172 := n0_; have HO176 := n1_; have HB := n2_; clear n0_ n1_ n2_; (try clear hb); (try clear hb2); (try clear hk); (try clear hi); (try clear ho0))); go_upto_region 7 with (first | (go_at_call 13; (with_reducible refine (watershedlaw6_known.calls k  true _ A4.out).mono ?_); rintro e w11 ⟨rfl, hb⟩; have n0_ := Aside0.mk (below_step (by repeat (first | (with_reducible first | exact HB.out | apply below_alloc | apply pw_below_drewN | apply below_drew1) | exact HB.out)) hb); clear HB; have HB := n0_; clear n0_; (try clear hb); (try clear hb2); (try clear hk); (try clear hi)) | (go_at_call 14; (with_reducible refine (watershedlaw6_within.calls a0 14 t169 _ A6.out).mono ?_); rintro e w' ⟨rfl, ⟨nd, rfl⟩⟩; (try first | exact ⟨rfl, _, World.drewN_drewN _ _ _⟩ | exact ⟨rfl, _, Eq.trans (World.drewN_drewN _ _ _) (congrArg (World.drewN _) (Nat.add_assoc _ _ _))⟩ | exact ⟨rfl, _, (World.drewN_drewN _ _ _).trans ((congrArg (World.drewN _) (Nat.add_assoc _ _ _)).trans (World.drewN_drewN _ _ _).symm)⟩)) | (go_at_call 15; (with_reducible refine (watershedlaw6_Arcs.calls k (wrap64 (1 + t169)) _ _ l1 0 t170 _ ?side1 ?side2 A7.out).mono ?_); (case side1 => repeat (first | exact (Kd.C_below HR1.out (by repeat (first | (with_reducible first | exact HB.out | apply below_alloc | apply pw_below_drewN | apply below_drew1) | exact HB.out))) | (with_reducible refine Kd.C_alloc ?_ _) | (with_reducible refine Kd.C_drewN ?_ _) | (with_reducible refine Kd.C_drew ?_))); (case side2 => exact HC1.out); rintro e w12 ⟨v171, rfl, ho0, hb⟩; have n0_ := Aside0.mk (Kd.R_lower ho0 (below_size (by repeat (first | (with_reducible first | exact HB.out | apply below_alloc | apply pw_below_drewN | apply below_drew1) | exact HB.out)))); have n1_ := Aside0.mk (below_step (by repeat (first | (with_reducible first | exact HB.out | apply below_alloc | apply pw_below_drewN | apply below_drew1) | exact HB.out)) hb); clear HB; have HO172 := n0_; have HB := n1_; clear n0_ n1_; (try clear hb); (try clear hb2); (try clear hk); (try clear hi); (try clear ho0)) | (go_at_call 14; (with_reducible refine (watershedlaw6_within.calls a2 (wrap64 (1 + t169)) t173 _ A8.out).mono ?_); rintro e w' ⟨rfl, ⟨nd, rfl⟩⟩; (try first | exact ⟨rfl, _, World.drewN_drewN _ _ _⟩ | exact ⟨rfl, _, Eq.trans (World.drewN_drewN _ _ _) (congrArg (World.drewN _) (Nat.add_assoc _ _ _))⟩ | exact ⟨rfl, _, (World.drewN_drewN _ _ _).trans ((congrArg (World.drewN _) (Nat.add_assoc _ _ _)).trans (World.drewN_drewN _ _ _).symm)⟩); obtain ⟨Ao13, co13, eo13⟩ := Kd.R_slice HO172.out; subst eo13) | (go_at_call 16; (with_reducible refine (path_From.calls (wrap64 (1 + t169)) _ _ t170 t173 t174 _ ?side1 ?side2 A9.out).mono ?_); (case side1 => repeat (first | exact (Kd.R_reads' HO172.out).2.2 | (with_reducible refine Kd.C_alloc ?_ _) | (with_reducible refine Kd.C_drewN ?_ _) | (with_reducible refine Kd.C_drew ?_))); (case side2 => exact (Kd.R_reads' HO172.out).2.1); rintro e w14 ⟨v175, rfl, ho0, hb⟩; have n0_ := Aside0.mk (Kd.R_below (by (with_reducible repeat (first | apply Kd.R_alloc | apply Kd.R_drewN | apply Kd.R_drew)); exact HO172.out) hb); have n1_ := Aside0.mk (Kd.R_lower ho0 (below_size (by repeat (first | (with_reducible first | exact HB.out | apply below_alloc | apply pw_below_drewN | apply below_drew1) | exact HB.out)))); have n2_ := Aside0.mk (below_step (by repeat (first | (with_reducible first | exact HB.out | apply below_alloc | apply pw_below_drewN | apply below_drew1) | exact HB.out)) hb); clear HO172; clear HB; have HO172 := n0_; have HO176 := n1_; have HB := n2_; clear n0_ n1_ n2_; (try clear hb); (try clear hb2); (try clear hk); (try clear hi); (try clear ho0))))
    (try simp only [Act.put, List.setIfInBounds_toArray, List.set_cons_zero, List.set_cons_succ])
    go_cut [40] (fun v40 wc => ∃ (kq : Nat) (x40_9 : Bool), v40 = .bool x40_9 ∧ Aside0 (watershedlaw6_PathFrom.j0 kq (wrap64 (1 + t169)) t170 t173 t174 x40_9 = some r) ∧ Aside0 (kq ≤ k) ∧ Aside0 (Kd.R k30 30 wc w.heap.size (fun _ => True) (.slice Ao13 t170.length co13) t170) ∧ Aside0 (Kd.R (Kd.int .i64) 3 wc w.heap.size (fun _ => True) v175 t174) ∧ Aside0 (Below w.heap.size w wc))
    case first =>
      have H := HC10.out
      clear HC10
      replace H := Option.bind_eq_some_iff.mp H
      obtain ⟨t177, A150, H⟩ := H
      replace H : ((watershedref6_Ints.f k t174 t177).bind fun t180 => (if t180 = true then (if 0 ≤ t173 then (if t173 < (t174.length : Int) then (watershedlaw6_PathFrom.j0 k (wrap64 (1 + t169)) t170 t173 t174 ((rd t174 t173) != 0)) else (none)) else (none)) else (watershedlaw6_PathFrom.j0 k (wrap64 (1 + t169)) t170 t173 t174 true))) = some r := H
      have A15 := Aside0.mk A150
      clear A150
      replace H := Option.bind_eq_some_iff.mp H
      obtain ⟨t180, A160, H⟩ := H
      replace H : (if t180 = true then (if 0 ≤ t173 then (if t173 < (t174.length : Int) then (watershedlaw6_PathFrom.j0 k (wrap64 (1 + t169)) t170 t173 t174 ((rd t174 t173) != 0)) else (none)) else (none)) else (watershedlaw6_PathFrom.j0 k (wrap64 (1 + t169)) t170 t173 t174 true)) = some r := H
      have A16 := Aside0.mk A160
      clear A160
      by_cases c17 : t180 = true
      · subst c17
        have H1 : (if 0 ≤ t173 then (if t173 < (t174.length : Int) then (watershedlaw6_PathFrom.j0 k (wrap64 (1 + t169)) t170 t173 t174 ((rd t174 t173) != 0)) else (none)) else (none)) = some r := by rw [if_pos rfl] at H; exact H
        clear H
        have H := H1
        clear H1
        by_cases c18 : 0 ≤ t173
        · rw [if_pos c18] at H
          have c18b0 : decide (0 ≤ t173) = true := decide_eq_true c18
          clear c18
          (first | rw [c18b0] | (simp only [i64_w, i32_w]; rw [c18b0]) | skip)
          by_cases c19 : t173 < (t174.length : Int)
          · rw [if_pos c19] at H
            have c19b0 : decide (t173 < (t174.length : Int)) = true := decide_eq_true c19
            clear c19
            have H' := Aside0.mk H
            clear H
            go_wp2_with (first | (go_at_call 18; (with_reducible refine (watershedref6_From.calls k (wrap64 (1 + t169)) _ _ t170 t173 t177 _ ?side1 ?side2 A15.out).mono ?_); (case side1 => repeat (first | exact (Kd.R_reads' HO172.out).2.2 | (with_reducible refine Kd.C_alloc ?_ _) | (with_reducible refine Kd.C_drewN ?_ _) | (with_reducible refine Kd.C_drew ?_))); (case side2 => exact (Kd.R_reads' HO172.out).2.1); rintro e w20 ⟨v178, rfl, ho0, hb⟩; have n0_ := Aside0.mk (Kd.R_below (by (with_reducible repeat (first | apply Kd.R_alloc | apply Kd.R_drewN | apply Kd.R_drew)); exact HO172.out) hb); have n1_ := Aside0.mk (Kd.R_elder' (by (with_reducible repeat (first | apply Kd.R_alloc | apply Kd.R_drewN | apply Kd.R_drew)); exact HO176.out) (Kd.R_base ho0) hb); have n2_ := Aside0.mk (Kd.R_lower (Kd.R_new' ho0 (Kd.R_lt (by (with_reducible repeat (first | apply Kd.R_alloc | apply Kd.R_drewN | apply Kd.R_drew)); exact HO176.out))) (below_size (by repeat (first | (with_reducible first | exact HB.out | apply below_alloc | apply pw_below_drewN | apply below_drew1) | exact HB.out)))); have n3_ := Aside0.mk (below_step (by repeat (first | (with_reducible first | exact HB.out | apply below_alloc | apply pw_below_drewN | apply below_drew1) | exact HB.out)) hb); clear HO172; clear HO176; clear HB; have HO172 := n0_; have HO176 := n1_; have HO179 := n2_; have HB := n3_; clear n0_ n1_ n2_ n3_; (try clear hb); (try clear hb2); (try clear hk); (try clear hi); (try clear ho0); obtain ⟨Ao21, co21, eo21⟩ := Kd.R_slice HO176.out; subst eo21; obtain ⟨Ao22, co22, eo22⟩ := Kd.R_slice HO179.out; subst eo22) | (go_at_call 17; (with_reducible refine (watershedref6_Ints.calls k _ _ t174 _ _ t177 true _ ?side1 ?side2 ?side3 ?side4 A16.out).mono ?_); (case side1 => repeat (first | exact (Kd.R_reads' HO176.out).2.2 | (with_reducible refine Kd.C_alloc ?_ _) | (with_reducible refine Kd.C_drewN ?_ _) | (with_reducible refine Kd.C_drew ?_))); (case side2 => exact (Kd.R_reads' HO176.out).2.1); (case side3 => repeat (first | exact (Kd.R_reads' HO179.out).2.2 | (with_reducible refine Kd.C_alloc ?_ _) | (with_reducible refine Kd.C_drewN ?_ _) | (with_reducible refine Kd.C_drew ?_))); (case side4 => exact (Kd.R_reads' HO179.out).2.1); rintro e w' ⟨rfl, ⟨nd, rfl⟩⟩; (try first | exact ⟨rfl, _, World.drewN_drewN _ _ _⟩ | exact ⟨rfl, _, Eq.trans (World.drewN_drewN _ _ _) (congrArg (World.drewN _) (Nat.add_assoc _ _ _))⟩ | exact ⟨rfl, _, (World.drewN_drewN _ _ _).trans ((congrArg (World.drewN _) (Nat.add_assoc _ _ _)).trans (World.drewN_drewN _ _ _).symm)⟩); have p181 : 0 ≤ (t173 : Int) := of_decide_eq_true (by first | (with_reducible assumption) | assumption); have q181 : t173 < (t174.length : Int) := of_decide_eq_true (by first | (with_reducible assumption) | assumption); obtain ⟨ad181, e181, hx181_0⟩ := Kd.at_int (Kd.R_reads' HO176.out).2.2 t173 p181 q181; cases e181; replace p181 := eq_true p181; replace q181 := eq_true q181))
            repeat (go_quiet (first | (go_at_call 18; (with_reducible refine (watershedref6_From.calls k (wrap64 (1 + t169)) _ _ t170 t173 t177 _ ?side1 ?side2 A15.out).mono ?_); (case side1 => repeat (first | exact (Kd.R_reads' HO172.out).2.2 | (with_reducible refine Kd.C_alloc ?_ _) | (with_reducible refine Kd.C_drewN ?_ _) | (with_reducible refine Kd.C_drew ?_))); (case side2 => exact (Kd.R_reads' HO172.out).2.1); rintro e w20 ⟨v178, rfl, ho0, hb⟩; have n0_ := Aside0.mk (Kd.R_below (by (with_reducible repeat (first | apply Kd.R_alloc | apply Kd.R_drewN | apply Kd.R_drew)); exact HO172.out) hb); have n1_ := Aside0.mk (Kd.R_elder' (by (with_reducible repeat (first | apply Kd.R_alloc | apply Kd.R_drewN | apply Kd.R_drew)); exact HO176.out) (Kd.R_base ho0) hb); have n2_ := Aside0.mk (Kd.R_lower (Kd.R_new' ho0 (Kd.R_lt (by (with_reducible repeat (first | apply Kd.R_alloc | apply Kd.R_drewN | apply Kd.R_drew)); exact HO176.out))) (below_size (by repeat (first | (with_reducible first | exact HB.out | apply below_alloc | apply pw_below_drewN | apply below_drew1) | exact HB.out)))); have n3_ := Aside0.mk (below_step (by repeat (first | (with_reducible first | exact HB.out | apply below_alloc | apply pw_below_drewN | apply below_drew1) | exact HB.out)) hb); clear HO172; clear HO176; clear HB; have HO172 := n0_; have HO176 := n1_; have HO179 := n2_; have HB := n3_; clear n0_ n1_ n2_ n3_; (try clear hb); (try clear hb2); (try clear hk); (try clear hi); (try clear ho0); obtain ⟨Ao21, co21, eo21⟩ := Kd.R_slice HO176.out; subst eo21; obtain ⟨Ao22, co22, eo22⟩ := Kd.R_slice HO179.out; subst eo22) | (go_at_call 17; (with_reducible refine (watershedref6_Ints.calls k _ _ t174 _ _ t177 true _ ?side1 ?side2 ?side3 ?side4 A16.out).mono ?_); (case side1 => repeat (first | exact (Kd.R_reads' HO176.out).2.2 | (with_reducible refine Kd.C_alloc ?_ _) | (with_reducible refine Kd.C_drewN ?_ _) | (with_reducible refine Kd.C_drew ?_))); (case side2 => exact (Kd.R_reads' HO176.out).2.1); (case side3 => repeat (first | exact (Kd.R_reads' HO179.out).2.2 | (with_reducible refine Kd.C_alloc ?_ _) | (with_reducible refine Kd.C_drewN ?_ _) | (with_reducible refine Kd.C_drew ?_))); (case side4 => exact (Kd.R_reads' HO179.out).2.1); rintro e w' ⟨rfl, ⟨nd, rfl⟩⟩; (try first | exact ⟨rfl, _, World.drewN_drewN _ _ _⟩ | exact ⟨rfl, _, Eq.trans (World.drewN_drewN _ _ _) (congrArg (World.drewN _) (Nat.add_assoc _ _ _))⟩ | exact ⟨rfl, _, (World.drewN_drewN _ _ _).trans ((congrArg (World.drewN _) (Nat.add_assoc _ _ _)).trans (World.drewN_drewN _ _ _).symm)⟩); have p181 : 0 ≤ (t173 : Int) := of_decide_eq_true (by first | (with_reducible assumption) | assumption); have q181 : t173 < (t174.length : Int) := of_decide_eq_true (by first | (with_reducible assumption) | assumption); obtain ⟨ad181, e181, hx181_0⟩ := Kd.at_int (Kd.R_reads' HO176.out).2.2 t173 p181 q181; cases e181; replace p181 := eq_true p181; replace q181 := eq_true q181)); try go_wp2_with (first | (go_at_call 18; (with_reducible refine (watershedref6_From.calls k (wrap64 (1 + t169)) _ _ t170 t173 t177 _ ?side1 ?side2 A15.out).mono ?_); (case side1 => repeat (first | exact (Kd.R_reads' HO172.out).2.2 | (with_reducible refine Kd.C_alloc ?_ _) | (with_reducible refine Kd.C_drewN ?_ _) | (with_reducible refine Kd.C_drew ?_))); (case side2 => exact (Kd.R_reads' HO172.out).2.1); rintro e w20 ⟨v178, rfl, ho0, hb⟩; have n0_ := Aside0.mk (Kd.R_below (by (with_reducible repeat (first | apply Kd.R_alloc | apply Kd.R_drewN | apply Kd.R_drew)); exact HO172.out) hb); have n1_ := Aside0.mk (Kd.R_elder' (by (with_reducible repeat (first | apply Kd.R_alloc | apply Kd.R_drewN | apply Kd.R_drew)); exact HO176.out) (Kd.R_base ho0) hb); have n2_ := Aside0.mk (Kd.R_lower (Kd.R_new' ho0 (Kd.R_lt (by (with_reducible repeat (first | apply Kd.R_alloc | apply Kd.R_drewN | apply Kd.R_drew)); exact HO176.out))) (below_size (by repeat (first | (with_reducible first | exact HB.out | apply below_alloc | apply pw_below_drewN | apply below_drew1) | exact HB.out)))); have n3_ := Aside0.mk (below_step (by repeat (first | (with_reducible first | exact HB.out | apply below_alloc | apply pw_below_drewN | apply below_drew1) | exact HB.out)) hb); clear HO172; clear HO176; clear HB; have HO172 := n0_; have HO176 := n1_; have HO179 := n2_; have HB := n3_; clear n0_ n1_ n2_ n3_; (try clear hb); (try clear hb2); (try clear hk); (try clear hi); (try clear ho0); obtain ⟨Ao21, co21, eo21⟩ := Kd.R_slice HO176.out; subst eo21; obtain ⟨Ao22, co22, eo22⟩ := Kd.R_slice HO179.out; subst eo22) | (go_at_call 17; (with_reducible refine (watershedref6_Ints.calls k _ _ t174 _ _ t177 true _ ?side1 ?side2 ?side3 ?side4 A16.out).mono ?_); (case side1 => repeat (first | exact (Kd.R_reads' HO176.out).2.2 | (with_reducible refine Kd.C_alloc ?_ _) | (with_reducible refine Kd.C_drewN ?_ _) | (with_reducible refine Kd.C_drew ?_))); (case side2 => exact (Kd.R_reads' HO176.out).2.1); (case side3 => repeat (first | exact (Kd.R_reads' HO179.out).2.2 | (with_reducible refine Kd.C_alloc ?_ _) | (with_reducible refine Kd.C_drewN ?_ _) | (with_reducible refine Kd.C_drew ?_))); (case side4 => exact (Kd.R_reads' HO179.out).2.1); rintro e w' ⟨rfl, ⟨nd, rfl⟩⟩; (try first | exact ⟨rfl, _, World.drewN_drewN _ _ _⟩ | exact ⟨rfl, _, Eq.trans (World.drewN_drewN _ _ _) (congrArg (World.drewN _) (Nat.add_assoc _ _ _))⟩ | exact ⟨rfl, _, (World.drewN_drewN _ _ _).trans ((congrArg (World.drewN _) (Nat.add_assoc _ _ _)).trans (World.drewN_drewN _ _ _).symm)⟩); have p181 : 0 ≤ (t173 : Int) := of_decide_eq_true (by first | (with_reducible assumption) | assumption); have q181 : t173 < (t174.length : Int) := of_decide_eq_true (by first | (with_reducible assumption) | assumption); obtain ⟨ad181, e181, hx181_0⟩ := Kd.at_int (Kd.R_reads' HO176.out).2.2 t173 p181 q181; cases e181; replace p181 := eq_true p181; replace q181 := eq_true q181)))
            go_meet
            case rel => exact ⟨_, (((rd t174 t173) != 0)), (by first | rfl | (simp; done) | (simp [*]; done)), H', ⟨by first | omega | exact Nat.le_refl _⟩, ⟨by (with_reducible repeat (first | apply Kd.R_alloc | apply Kd.R_drewN | apply Kd.R_drew)); exact HO172.out⟩, ⟨by (with_reducible repeat (first | apply Kd.R_alloc | apply Kd.R_drewN | apply Kd.R_drew)); exact Kd.R_mono HO176.out (fun _ hk => trivial)⟩, ⟨by repeat (first | (with_reducible first | exact HB.out | apply below_alloc | apply pw_below_drewN | apply below_drew1) | exact HB.out)⟩⟩
          · rw [if_neg c19] at H
            exact absurd H (by simp)
        · rw [if_neg c18] at H
          exact absurd H (by simp)
      · replace c17 := Bool.eq_false_iff.mpr c17
        subst c17
        have H1 : (watershedlaw6_PathFrom.j0 k (wrap64 (1 + t169)) t170 t173 t174 true) = some r := by rw [if_neg (show ¬ (false = true) by decide)] at H; exact H
        clear H
        have H := H1
        clear H1
        have H' := Aside0.mk H
        clear H
        go_wp2_with (first | (go_at_call 18; (with_reducible refine (watershedref6_From.calls k (wrap64 (1 + t169)) _ _ t170 t173 t177 _ ?side1 ?side2 A15.out).mono ?_); (case side1 => repeat (first | exact (Kd.R_reads' HO172.out).2.2 | (with_reducible refine Kd.C_alloc ?_ _) | (with_reducible refine Kd.C_drewN ?_ _) | (with_reducible refine Kd.C_drew ?_))); (case side2 => exact (Kd.R_reads' HO172.out).2.1); rintro e w23 ⟨v178, rfl, ho0, hb⟩; have n0_ := Aside0.mk (Kd.R_below (by (with_reducible repeat (first | apply Kd.R_alloc | apply Kd.R_drewN | apply Kd.R_drew)); exact HO172.out) hb); have n1_ := Aside0.mk (Kd.R_elder' (by (with_reducible repeat (first | apply Kd.R_alloc | apply Kd.R_drewN | apply Kd.R_drew)); exact HO176.out) (Kd.R_base ho0) hb); have n2_ := Aside0.mk (Kd.R_lower (Kd.R_new' ho0 (Kd.R_lt (by (with_reducible repeat (first | apply Kd.R_alloc | apply Kd.R_drewN | apply Kd.R_drew)); exact HO176.out))) (below_size (by repeat (first | (with_reducible first | exact HB.out | apply below_alloc | apply pw_below_drewN | apply below_drew1) | exact HB.out)))); have n3_ := Aside0.mk (below_step (by repeat (first | (with_reducible first | exact HB.out | apply below_alloc | apply pw_below_drewN | apply below_drew1) | exact HB.out)) hb); clear HO172; clear HO176; clear HB; have HO172 := n0_; have HO176 := n1_; have HO179 := n2_; have HB := n3_; clear n0_ n1_ n2_ n3_; (try clear hb); (try clear hb2); (try clear hk); (try clear hi); (try clear ho0); obtain ⟨Ao24, co24, eo24⟩ := Kd.R_slice HO176.out; subst eo24; obtain ⟨Ao25, co25, eo25⟩ := Kd.R_slice HO179.out; subst eo25) | (go_at_call 17; (with_reducible refine (watershedref6_Ints.calls k _ _ t174 _ _ t177 false _ ?side1 ?side2 ?side3 ?side4 A16.out).mono ?_); (case side1 => repeat (first | exact (Kd.R_reads' HO176.out).2.2 | (with_reducible refine Kd.C_alloc ?_ _) | (with_reducible refine Kd.C_drewN ?_ _) | (with_reducible refine Kd.C_drew ?_))); (case side2 => exact (Kd.R_reads' HO176.out).2.1); (case side3 => repeat (first | exact (Kd.R_reads' HO179.out).2.2 | (with_reducible refine Kd.C_alloc ?_ _) | (with_reducible refine Kd.C_drewN ?_ _) | (with_reducible refine Kd.C_drew ?_))); (case side4 => exact (Kd.R_reads' HO179.out).2.1); rintro e w' ⟨rfl, ⟨nd, rfl⟩⟩; (try first | exact ⟨rfl, _, World.drewN_drewN _ _ _⟩ | exact ⟨rfl, _, Eq.trans (World.drewN_drewN _ _ _) (congrArg (World.drewN _) (Nat.add_assoc _ _ _))⟩ | exact ⟨rfl, _, (World.drewN_drewN _ _ _).trans ((congrArg (World.drewN _) (Nat.add_assoc _ _ _)).trans (World.drewN_drewN _ _ _).symm)⟩)))
        repeat (go_quiet (first | (go_at_call 18; (with_reducible refine (watershedref6_From.calls k (wrap64 (1 + t169)) _ _ t170 t173 t177 _ ?side1 ?side2 A15.out).mono ?_); (case side1 => repeat (first | exact (Kd.R_reads' HO172.out).2.2 | (with_reducible refine Kd.C_alloc ?_ _) | (with_reducible refine Kd.C_drewN ?_ _) | (with_reducible refine Kd.C_drew ?_))); (case side2 => exact (Kd.R_reads' HO172.out).2.1); rintro e w23 ⟨v178, rfl, ho0, hb⟩; have n0_ := Aside0.mk (Kd.R_below (by (with_reducible repeat (first | apply Kd.R_alloc | apply Kd.R_drewN | apply Kd.R_drew)); exact HO172.out) hb); have n1_ := Aside0.mk (Kd.R_elder' (by (with_reducible repeat (first | apply Kd.R_alloc | apply Kd.R_drewN | apply Kd.R_drew)); exact HO176.out) (Kd.R_base ho0) hb); have n2_ := Aside0.mk (Kd.R_lower (Kd.R_new' ho0 (Kd.R_lt (by (with_reducible repeat (first | apply Kd.R_alloc | apply Kd.R_drewN | apply Kd.R_drew)); exact HO176.out))) (below_size (by repeat (first | (with_reducible first | exact HB.out | apply below_alloc | apply pw_below_drewN | apply below_drew1) | exact HB.out)))); have n3_ := Aside0.mk (below_step (by repeat (first | (with_reducible first | exact HB.out | apply below_alloc | apply pw_below_drewN | apply below_drew1) | exact HB.out)) hb); clear HO172; clear HO176; clear HB; have HO172 := n0_; have HO176 := n1_; have HO179 := n2_; have HB := n3_; clear n0_ n1_ n2_ n3_; (try clear hb); (try clear hb2); (try clear hk); (try clear hi); (try clear ho0); obtain ⟨Ao24, co24, eo24⟩ := Kd.R_slice HO176.out; subst eo24; obtain ⟨Ao25, co25, eo25⟩ := Kd.R_slice HO179.out; subst eo25) | (go_at_call 17; (with_reducible refine (watershedref6_Ints.calls k _ _ t174 _ _ t177 false _ ?side1 ?side2 ?side3 ?side4 A16.out).mono ?_); (case side1 => repeat (first | exact (Kd.R_reads' HO176.out).2.2 | (with_reducible refine Kd.C_alloc ?_ _) | (with_reducible refine Kd.C_drewN ?_ _) | (with_reducible refine Kd.C_drew ?_))); (case side2 => exact (Kd.R_reads' HO176.out).2.1); (case side3 => repeat (first | exact (Kd.R_reads' HO179.out).2.2 | (with_reducible refine Kd.C_alloc ?_ _) | (with_reducible refine Kd.C_drewN ?_ _) | (with_reducible refine Kd.C_drew ?_))); (case side4 => exact (Kd.R_reads' HO179.out).2.1); rintro e w' ⟨rfl, ⟨nd, rfl⟩⟩; (try first | exact ⟨rfl, _, World.drewN_drewN _ _ _⟩ | exact ⟨rfl, _, Eq.trans (World.drewN_drewN _ _ _) (congrArg (World.drewN _) (Nat.add_assoc _ _ _))⟩ | exact ⟨rfl, _, (World.drewN_drewN _ _ _).trans ((congrArg (World.drewN _) (Nat.add_assoc _ _ _)).trans (World.drewN_drewN _ _ _).symm)⟩))); try go_wp2_with (first | (go_at_call 18; (with_reducible refine (watershedref6_From.calls k (wrap64 (1 + t169)) _ _ t170 t173 t177 _ ?side1 ?side2 A15.out).mono ?_); (case side1 => repeat (first | exact (Kd.R_reads' HO172.out).2.2 | (with_reducible refine Kd.C_alloc ?_ _) | (with_reducible refine Kd.C_drewN ?_ _) | (with_reducible refine Kd.C_drew ?_))); (case side2 => exact (Kd.R_reads' HO172.out).2.1); rintro e w23 ⟨v178, rfl, ho0, hb⟩; have n0_ := Aside0.mk (Kd.R_below (by (with_reducible repeat (first | apply Kd.R_alloc | apply Kd.R_drewN | apply Kd.R_drew)); exact HO172.out) hb); have n1_ := Aside0.mk (Kd.R_elder' (by (with_reducible repeat (first | apply Kd.R_alloc | apply Kd.R_drewN | apply Kd.R_drew)); exact HO176.out) (Kd.R_base ho0) hb); have n2_ := Aside0.mk (Kd.R_lower (Kd.R_new' ho0 (Kd.R_lt (by (with_reducible repeat (first | apply Kd.R_alloc | apply Kd.R_drewN | apply Kd.R_drew)); exact HO176.out))) (below_size (by repeat (first | (with_reducible first | exact HB.out | apply below_alloc | apply pw_below_drewN | apply below_drew1) | exact HB.out)))); have n3_ := Aside0.mk (below_step (by repeat (first | (with_reducible first | exact HB.out | apply below_alloc | apply pw_below_drewN | apply below_drew1) | exact HB.out)) hb); clear HO172; clear HO176; clear HB; have HO172 := n0_; have HO176 := n1_; have HO179 := n2_; have HB := n3_; clear n0_ n1_ n2_ n3_; (try clear hb); (try clear hb2); (try clear hk); (try clear hi); (try clear ho0); obtain ⟨Ao24, co24, eo24⟩ := Kd.R_slice HO176.out; subst eo24; obtain ⟨Ao25, co25, eo25⟩ := Kd.R_slice HO179.out; subst eo25) | (go_at_call 17; (with_reducible refine (watershedref6_Ints.calls k _ _ t174 _ _ t177 false _ ?side1 ?side2 ?side3 ?side4 A16.out).mono ?_); (case side1 => repeat (first | exact (Kd.R_reads' HO176.out).2.2 | (with_reducible refine Kd.C_alloc ?_ _) | (with_reducible refine Kd.C_drewN ?_ _) | (with_reducible refine Kd.C_drew ?_))); (case side2 => exact (Kd.R_reads' HO176.out).2.1); (case side3 => repeat (first | exact (Kd.R_reads' HO179.out).2.2 | (with_reducible refine Kd.C_alloc ?_ _) | (with_reducible refine Kd.C_drewN ?_ _) | (with_reducible refine Kd.C_drew ?_))); (case side4 => exact (Kd.R_reads' HO179.out).2.1); rintro e w' ⟨rfl, ⟨nd, rfl⟩⟩; (try first | exact ⟨rfl, _, World.drewN_drewN _ _ _⟩ | exact ⟨rfl, _, Eq.trans (World.drewN_drewN _ _ _) (congrArg (World.drewN _) (Nat.add_assoc _ _ _))⟩ | exact ⟨rfl, _, (World.drewN_drewN _ _ _).trans ((congrArg (World.drewN _) (Nat.add_assoc _ _ _)).trans (World.drewN_drewN _ _ _).symm)⟩))))
        go_meet
        case rel => exact ⟨_, (true), (by first | rfl | (simp; done) | (simp [*]; done)), H', ⟨by first | omega | exact Nat.le_refl _⟩, ⟨by (with_reducible repeat (first | apply Kd.R_alloc | apply Kd.R_drewN | apply Kd.R_drew)); exact HO172.out⟩, ⟨by (with_reducible repeat (first | apply Kd.R_alloc | apply Kd.R_drewN | apply Kd.R_drew)); exact Kd.R_mono HO176.out (fun _ hk => trivial)⟩, ⟨by repeat (first | (with_reducible first | exact HB.out | apply below_alloc | apply pw_below_drewN | apply below_drew1) | exact HB.out)⟩⟩
    case rest =>
      clear HC10
      try clear c1
      try clear p1
      try clear q1
      try clear hx1
      try clear p2
      try clear c3
      try clear c5
      try clear p6
      try clear c17
      try clear c18
      try clear c18b0
      try clear p18
      try clear q18
      try clear hx18
      try clear c19
      try clear c19b0
      try clear hx181_0
      try clear p181
      try clear q181
      obtain ⟨kq, x40_9, rfl, HA, HJ9, HO_8, HO_10, HB⟩ := hcut
      cases kq with
      | zero => exact absurd HA.out (by simp [watershedlaw6_PathFrom.j0])
      | succ kj9 =>
        have H := HA.out
        clear HA
        simp only [watershedlaw6_PathFrom.j0] at H
        by_cases c26 : x40_9 = true
        · subst c26
          have H1 : (some false) = some r := by rw [if_pos rfl] at H; exact H
          clear H
          have H := H1
          clear H1
          exact absurd ((Option.some.inj H).trans HR_.out) (by decide)
        · replace c26 := Bool.eq_false_iff.mpr c26
          subst c26
          have H1 : (watershedlaw6_PathFrom.l0 kj9 (wrap64 (1 + t169)) t170 t173 t174 0) = some r := by rw [if_neg (show ¬ (false = true) by decide)] at H; exact H
          clear H
          have H := H1
          clear H1
          have H' := Aside0.mk H
          clear H
          go_wp2
          repeat (go_quiet (fail); try go_wp2)
          go_loopg [11] kj9 (fun kq v11 w' => ∃ (x11_2 : Int), v11 = .int .i64 x11_2 ∧ Aside0 (watershedlaw6_PathFrom.l0 kq (wrap64 (1 + t169)) t170 t173 t174 x11_2 = some r) ∧ Aside0 (kq ≤ kj9) ∧ Aside0 (Kd.R k30 30 w' w.heap.size (fun _ => True) (.slice Ao13 t170.length co13) t170) ∧ Aside0 (Kd.R (Kd.int .i64) 3 w' w.heap.size (fun _ => True) v175 t174) ∧ Aside0 (Below w.heap.size w w'))
          case atStart => exact ⟨(0), (by first | rfl | (simp; done) | (simp [*]; done)), H', ⟨Nat.le_refl _⟩, ⟨by (with_reducible repeat (first | apply Kd.R_alloc | apply Kd.R_drewN | apply Kd.R_drew)); exact HO_8.out⟩, ⟨by (with_reducible repeat (first | apply Kd.R_alloc | apply Kd.R_drewN | apply Kd.R_drew)); exact HO_10.out⟩, ⟨by repeat (first | (with_reducible first | exact HB.out | apply below_alloc | apply pw_below_drewN | apply below_drew1) | exact HB.out)⟩⟩
          case round =>
            clear H'
            try clear c1
            try clear p1
            try clear q1
            try clear hx1
            try clear c2
            try clear p2
            try clear c3
            try clear c5
            try clear p6
            try clear c17
            try clear c18
            try clear c18b0
            try clear p18
            try clear q18
            try clear hx18
            try clear c19
            try clear c19b0
            try clear c26
            try clear hx181_0
            try clear p1
            try clear p18
            try clear p181
            try clear p2
            try clear p6
            try clear q1
            try clear q18
            try clear q181
            obtain ⟨x11_2, rfl, HA, HK2, HO_8, HO_10, HB⟩ := hrel
            cases gk with
            | zero => exact absurd HA.out (by simp [watershedlaw6_PathFrom.l0])
            | succ k2 =>
              have H := HA.out
              clear HA
              simp only [watershedlaw6_PathFrom.l0] at H
              by_cases c27 : x11_2 < (t170.length : Int)
              · rw [if_pos c27] at H
                have c27b0 : decide (x11_2 < (t170.length : Int)) = true := decide_eq_true c27
                clear c27
                by_cases c28 : 0 ≤ x11_2
                · rw [if_pos c28] at H
                  have c28b0 : decide (0 ≤ x11_2) = true := decide_eq_true c28
                  clear c28
                  by_cases c29 : 0 ≤ ((rd_T30 t170 x11_2).f0)
                  · rw [if_pos c29] at H
                    have c29b0 : decide (0 ≤ ((rd_T30 t170 x11_2).f0)) = true := decide_eq_true c29
                    clear c29
                    by_cases c30 : ((rd_T30 t170 x11_2).f0) < (t174.length : Int)
                    · rw [if_pos c30] at H
                      have c30b0 : decide (((rd_T30 t170 x11_2).f0) < (t174.length : Int)) = true := decide_eq_true c30
                      clear c30
                      by_cases c31 : (rd t174 ((rd_T30 t170 x11_2).f0)) = 1152921504606846976
                      · rw [if_pos c31] at H
                        have c31b0 : ((rd t174 ((rd_T30 t170 x11_2).f0)) == 1152921504606846976) = true := beq_iff_eq.mpr c31
                        have c31b1 : ((rd t174 ((rd_T30 t170 x11_2).f0)) != 1152921504606846976) = false := bne_eq_false_iff_eq.mpr c31
                        clear c31
                        have H' := Aside0.mk H
                        clear H
                        have p182 : 0 ≤ (x11_2 : Int) := of_decide_eq_true (by first | (with_reducible assumption) | assumption)
                        have q182 : x11_2 < (t170.length : Int) := of_decide_eq_true (by first | (with_reducible assumption) | assumption)
                        obtain ⟨ad182, e182, hx182_0, hx182_1, hx182_2⟩ := at_T30 (Kd.R_reads' HO_8.out).2.2 x11_2 p182 q182
                        cases e182
                        replace p182 := eq_true p182
                        replace q182 := eq_true q182
                        obtain ⟨Ao32, co32, eo32⟩ := Kd.R_slice HO_10.out
                        subst eo32
                        have p183 : 0 ≤ (((rd_T30 t170 x11_2).f0) : Int) := of_decide_eq_true (by first | (with_reducible assumption) | assumption)
                        have q183 : ((rd_T30 t170 x11_2).f0) < (t174.length : Int) := of_decide_eq_true (by first | (with_reducible assumption) | assumption)
                        obtain ⟨ad183, e183, hx183_0⟩ := Kd.at_int (Kd.R_reads' HO_10.out).2.2 ((rd_T30 t170 x11_2).f0) p183 q183
                        cases e183
                        replace p183 := eq_true p183
                        replace q183 := eq_true q183
                        go_wp2
                        repeat (go_quiet (fail); try go_wp2)
                        go_roundg k2
                        case measure => have := HJ9.out; have := HK2.out; omega
                        case rel => exact ⟨(wrap64 (x11_2 + 1)), (by first | rfl | (simp; done) | (simp [*]; done)), H', ⟨by have := HJ9.out; have := HK2.out; omega⟩, ⟨by (with_reducible repeat (first | apply Kd.R_alloc | apply Kd.R_drewN | apply Kd.R_drew)); exact HO_8.out⟩, ⟨by (with_reducible repeat (first | apply Kd.R_alloc | apply Kd.R_drewN | apply Kd.R_drew)); exact HO_10.out⟩, ⟨by repeat (first | (with_reducible first | exact HB.out | apply below_alloc | apply pw_below_drewN | apply below_drew1) | exact HB.out)⟩⟩
                      · rw [if_neg c31] at H
                        have c31b0 : ((rd t174 ((rd_T30 t170 x11_2).f0)) == 1152921504606846976) = false := beq_eq_false_iff_ne.mpr c31
                        have c31b1 : ((rd t174 ((rd_T30 t170 x11_2).f0)) != 1152921504606846976) = true := bne_iff_ne.mpr c31
                        by_cases c33 : 0 ≤ ((rd_T30 t170 x11_2).f1)
                        · rw [if_pos c33] at H
                          have c33b0 : decide (0 ≤ ((rd_T30 t170 x11_2).f1)) = true := decide_eq_true c33
                          clear c33
                          by_cases c34 : ((rd_T30 t170 x11_2).f1) < (t174.length : Int)
                          · rw [if_pos c34] at H
                            have c34b0 : decide (((rd_T30 t170 x11_2).f1) < (t174.length : Int)) = true := decide_eq_true c34
                            clear c34
                            by_cases c35 : (rd t174 ((rd_T30 t170 x11_2).f1)) > (wrap64 ((rd t174 ((rd_T30 t170 x11_2).f0)) + ((rd_T30 t170 x11_2).f2)))
                            · rw [if_pos c35] at H
                              have c35b0 : decide ((wrap64 ((rd t174 ((rd_T30 t170 x11_2).f0)) + ((rd_T30 t170 x11_2).f2))) < (rd t174 ((rd_T30 t170 x11_2).f1))) = true := decide_eq_true c35
                              clear c35
                              exact absurd ((Option.some.inj H).trans HR_.out) (by decide)
                            · rw [if_neg c35] at H
                              have c35b0 : decide ((wrap64 ((rd t174 ((rd_T30 t170 x11_2).f0)) + ((rd_T30 t170 x11_2).f2))) < (rd t174 ((rd_T30 t170 x11_2).f1))) = false := decide_eq_false c35
                              clear c35
                              have H' := Aside0.mk H
                              clear H
                              have p182 : 0 ≤ (x11_2 : Int) := of_decide_eq_true (by first | (with_reducible assumption) | assumption)
                              have q182 : x11_2 < (t170.length : Int) := of_decide_eq_true (by first | (with_reducible assumption) | assumption)
                              obtain ⟨ad182, e182, hx182_0, hx182_1, hx182_2⟩ := at_T30 (Kd.R_reads' HO_8.out).2.2 x11_2 p182 q182
                              cases e182
                              replace p182 := eq_true p182
                              replace q182 := eq_true q182
                              obtain ⟨Ao36, co36, eo36⟩ := Kd.R_slice HO_10.out
                              subst eo36
                              have p183 : 0 ≤ (((rd_T30 t170 x11_2).f0) : Int) := of_decide_eq_true (by first | (with_reducible assumption) | assumption)
                              have q183 : ((rd_T30 t170 x11_2).f0) < (t174.length : Int) := of_decide_eq_true (by first | (with_reducible assumption) | assumption)
                              obtain ⟨ad183, e183, hx183_0⟩ := Kd.at_int (Kd.R_reads' HO_10.out).2.2 ((rd_T30 t170 x11_2).f0) p183 q183
                              cases e183
                              replace p183 := eq_true p183
                              replace q183 := eq_true q183
                              have p184 : 0 ≤ (x11_2 : Int) := of_decide_eq_true (by first | (with_reducible assumption) | assumption)
                              have q184 : x11_2 < (t170.length : Int) := of_decide_eq_true (by first | (with_reducible assumption) | assumption)
                              obtain ⟨ad184, e184, hx184_0, hx184_1, hx184_2⟩ := at_T30 (Kd.R_reads' HO_8.out).2.2 x11_2 p184 q184
                              obtain rfl : ad182 = ad184 := (by injection e184)
                              replace p184 := eq_true p184
                              replace q184 := eq_true q184
                              have p185 : 0 ≤ (((rd_T30 t170 x11_2).f1) : Int) := of_decide_eq_true (by first | (with_reducible assumption) | assumption)
                              have q185 : ((rd_T30 t170 x11_2).f1) < (t174.length : Int) := of_decide_eq_true (by first | (with_reducible assumption) | assumption)
                              obtain ⟨ad185, e185, hx185_0⟩ := Kd.at_int (Kd.R_reads' HO_10.out).2.2 ((rd_T30 t170 x11_2).f1) p185 q185
                              obtain rfl : ad183 = ad185 := (by injection e185)
                              replace p185 := eq_true p185
                              replace q185 := eq_true q185
                              have p186 : 0 ≤ (x11_2 : Int) := of_decide_eq_true (by first | (with_reducible assumption) | assumption)
                              have q186 : x11_2 < (t170.length : Int) := of_decide_eq_true (by first | (with_reducible assumption) | assumption)
                              obtain ⟨ad186, e186, hx186_0, hx186_1, hx186_2⟩ := at_T30 (Kd.R_reads' HO_8.out).2.2 x11_2 p186 q186
                              obtain rfl : ad182 = ad186 := (by injection e186)
                              replace p186 := eq_true p186
                              replace q186 := eq_true q186
                              have p187 : 0 ≤ (((rd_T30 t170 x11_2).f0) : Int) := of_decide_eq_true (by first | (with_reducible assumption) | assumption)
                              have q187 : ((rd_T30 t170 x11_2).f0) < (t174.length : Int) := of_decide_eq_true (by first | (with_reducible assumption) | assumption)
                              obtain ⟨ad187, e187, hx187_0⟩ := Kd.at_int (Kd.R_reads' HO_10.out).2.2 ((rd_T30 t170 x11_2).f0) p187 q187
                              obtain rfl : ad183 = ad187 := (by injection e187)
                              replace p187 := eq_true p187
                              replace q187 := eq_true q187
                              have p188 : 0 ≤ (x11_2 : Int) := of_decide_eq_true (by first | (with_reducible assumption) | assumption)
                              have q188 : x11_2 < (t170.length : Int) := of_decide_eq_true (by first | (with_reducible assumption) | assumption)
                              obtain ⟨ad188, e188, hx188_0, hx188_1, hx188_2⟩ := at_T30 (Kd.R_reads' HO_8.out).2.2 x11_2 p188 q188
                              obtain rfl : ad182 = ad188 := (by injection e188)
                              replace p188 := eq_true p188
                              replace q188 := eq_true q188
                              go_wp2
                              repeat (go_quiet (fail); try go_wp2)
                              go_roundg k2
                              case measure => have := HJ9.out; have := HK2.out; omega
                              case rel => exact ⟨(wrap64 (x11_2 + 1)), (by first | rfl | (simp; done) | (simp [*]; done)), H', ⟨by have := HJ9.out; have := HK2.out; omega⟩, ⟨by (with_reducible repeat (first | apply Kd.R_alloc | apply Kd.R_drewN | apply Kd.R_drew)); exact HO_8.out⟩, ⟨by (with_reducible repeat (first | apply Kd.R_alloc | apply Kd.R_drewN | apply Kd.R_drew)); exact HO_10.out⟩, ⟨by repeat (first | (with_reducible first | exact HB.out | apply below_alloc | apply pw_below_drewN | apply below_drew1) | exact HB.out)⟩⟩
                          · rw [if_neg c34] at H
                            exact absurd H (by simp)
                        · rw [if_neg c33] at H
                          exact absurd H (by simp)
                    · rw [if_neg c30] at H
                      exact absurd H (by simp)
                  · rw [if_neg c29] at H
                    exact absurd H (by simp)
                · rw [if_neg c28] at H
                  exact absurd H (by simp)
              · rw [if_neg c27] at H
                have c27b0 : decide (x11_2 < (t170.length : Int)) = false := decide_eq_false c27
                clear c27
                replace H := Option.bind_eq_some_iff.mp H
                obtain ⟨t189, A370, H⟩ := H
                replace H : (some t189) = some r := H
                have A37 := Aside0.mk A370
                clear A370
                obtain rfl := Option.some.inj H
                obtain ⟨Ao38, co38, eo38⟩ := Kd.R_slice HO_10.out
                subst eo38
                go_wp2_with (first | (go_at_call 19; (with_reducible refine (path_Right.calls k2 (wrap64 (1 + t169)) _ _ t170 t173 _ _ t174 t189 _ ?side1 ?side2 ?side3 ?side4 A37.out).mono ?_); (case side1 => repeat (first | exact (Kd.R_reads' HO_8.out).2.2 | (with_reducible refine Kd.C_alloc ?_ _) | (with_reducible refine Kd.C_drewN ?_ _) | (with_reducible refine Kd.C_drew ?_))); (case side2 => exact (Kd.R_reads' HO_8.out).2.1); (case side3 => repeat (first | exact (Kd.R_reads' HO_10.out).2.2 | (with_reducible refine Kd.C_alloc ?_ _) | (with_reducible refine Kd.C_drewN ?_ _) | (with_reducible refine Kd.C_drew ?_))); (case side4 => exact (Kd.R_reads' HO_10.out).2.1); rintro e w39 ⟨rfl, hb⟩; have n0_ := Aside0.mk (Kd.R_below (by (with_reducible repeat (first | apply Kd.R_alloc | apply Kd.R_drewN | apply Kd.R_drew)); exact HO_8.out) hb); have n1_ := Aside0.mk (Kd.R_below (by (with_reducible repeat (first | apply Kd.R_alloc | apply Kd.R_drewN | apply Kd.R_drew)); exact HO_10.out) hb); have n2_ := Aside0.mk (below_step (by repeat (first | (with_reducible first | exact HB.out | apply below_alloc | apply pw_below_drewN | apply below_drew1) | exact HB.out)) hb); clear HO_8; clear HO_10; clear HB; have HO_8 := n0_; have HO_10 := n1_; have HB := n2_; clear n0_ n1_ n2_; (try clear hb); (try clear hb2); (try clear hk); (try clear hi)))
                repeat (go_quiet (first | (go_at_call 19; (with_reducible refine (path_Right.calls k2 (wrap64 (1 + t169)) _ _ t170 t173 _ _ t174 t189 _ ?side1 ?side2 ?side3 ?side4 A37.out).mono ?_); (case side1 => repeat (first | exact (Kd.R_reads' HO_8.out).2.2 | (with_reducible refine Kd.C_alloc ?_ _) | (with_reducible refine Kd.C_drewN ?_ _) | (with_reducible refine Kd.C_drew ?_))); (case side2 => exact (Kd.R_reads' HO_8.out).2.1); (case side3 => repeat (first | exact (Kd.R_reads' HO_10.out).2.2 | (with_reducible refine Kd.C_alloc ?_ _) | (with_reducible refine Kd.C_drewN ?_ _) | (with_reducible refine Kd.C_drew ?_))); (case side4 => exact (Kd.R_reads' HO_10.out).2.1); rintro e w39 ⟨rfl, hb⟩; have n0_ := Aside0.mk (Kd.R_below (by (with_reducible repeat (first | apply Kd.R_alloc | apply Kd.R_drewN | apply Kd.R_drew)); exact HO_8.out) hb); have n1_ := Aside0.mk (Kd.R_below (by (with_reducible repeat (first | apply Kd.R_alloc | apply Kd.R_drewN | apply Kd.R_drew)); exact HO_10.out) hb); have n2_ := Aside0.mk (below_step (by repeat (first | (with_reducible first | exact HB.out | apply below_alloc | apply pw_below_drewN | apply below_drew1) | exact HB.out)) hb); clear HO_8; clear HO_10; clear HB; have HO_8 := n0_; have HO_10 := n1_; have HB := n2_; clear n0_ n1_ n2_; (try clear hb); (try clear hb2); (try clear hk); (try clear hi))); try go_wp2_with (first | (go_at_call 19; (with_reducible refine (path_Right.calls k2 (wrap64 (1 + t169)) _ _ t170 t173 _ _ t174 t189 _ ?side1 ?side2 ?side3 ?side4 A37.out).mono ?_); (case side1 => repeat (first | exact (Kd.R_reads' HO_8.out).2.2 | (with_reducible refine Kd.C_alloc ?_ _) | (with_reducible refine Kd.C_drewN ?_ _) | (with_reducible refine Kd.C_drew ?_))); (case side2 => exact (Kd.R_reads' HO_8.out).2.1); (case side3 => repeat (first | exact (Kd.R_reads' HO_10.out).2.2 | (with_reducible refine Kd.C_alloc ?_ _) | (with_reducible refine Kd.C_drewN ?_ _) | (with_reducible refine Kd.C_drew ?_))); (case side4 => exact (Kd.R_reads' HO_10.out).2.1); rintro e w39 ⟨rfl, hb⟩; have n0_ := Aside0.mk (Kd.R_below (by (with_reducible repeat (first | apply Kd.R_alloc | apply Kd.R_drewN | apply Kd.R_drew)); exact HO_8.out) hb); have n1_ := Aside0.mk (Kd.R_below (by (with_reducible repeat (first | apply Kd.R_alloc | apply Kd.R_drewN | apply Kd.R_drew)); exact HO_10.out) hb); have n2_ := Aside0.mk (below_step (by repeat (first | (with_reducible first | exact HB.out | apply below_alloc | apply pw_below_drewN | apply below_drew1) | exact HB.out)) hb); clear HO_8; clear HO_10; clear HB; have HO_8 := n0_; have HO_10 := n1_; have HB := n2_; clear n0_ n1_ n2_; (try clear hb); (try clear hb2); (try clear hk); (try clear hi))))
                go_ret
                exact ⟨by first | rfl | (simp [errW_none, errW_some] <;> rfl) | (simp [*, errW_none, errW_some] <;> rfl), by repeat (first | (with_reducible first | exact HB.out | apply below_alloc | apply pw_below_drewN | apply below_drew1) | exact HB.out)⟩
  · replace c5 := Bool.eq_false_iff.mpr c5
    subst c5
    have H1 : (some false) = some r := by rw [if_neg (show ¬ (false = true) by decide)] at H; exact H
    clear H
    have H := H1
    clear H1
    exact absurd ((Option.some.inj H).trans HR_.out) (by decide)

/-- THE ONE PURE STATEMENT of watershedlaw6_PathFrom: yours. -/
def watershedlaw6_PathFrom.Pure : Prop := ∀ (a0 : Int) (l1 : List Int) (a2 : Int), (Lit.int .i64 a0).wf = true → l1.length ≤ maxLen → l1.length * 8 ≤ 140737488351232 → (∀ x ∈ l1, (Lit.int .i64 x).wf = true) → (Lit.int .i64 a2).wf = true → ∃ k, watershedlaw6_PathFrom.f k a0 l1 a2 = some true
theorem watershedlaw6_PathFrom.walk (P : watershedlaw6_PathFrom.Pure) (a0 : Int) (a1 : Option Addr) (len1 cap1 : Nat) (z1 : List Int) (a2 : Int) (w : World) (w0 : (Lit.int .i64 a0).wf = true) (w1 : (a1 = none ∧ len1 = 0 ∧ cap1 = 0 ∧ z1 = []) ∨ ∃ x, a1 = some x ∧ len1 ≤ cap1 ∧ cap1 ≤ maxLen ∧ z1.length = cap1 ∧ (∀ i, i < z1.length → w.cell? (x.add i) = some (.int .i64 (z1.getD i 0))) ∧ ∀ n ∈ z1, (Lit.int .i64 n).wf = true) (y1 : len1 * 8 ≤ 140737488351232) (w2 : (Lit.int .i64 a2).wf = true) :
    Calls Try.prog 3 #[.int .i64 a0, .slice a1 len1 cap1, .int .i64 a2] w fun e w' => e = .returned (.bool true) ∧ Below w.heap.size w w' := by
  obtain ⟨l1, rfl, hr1, hm1, hw1, hc1⟩ := ReadsInt.ofRowC w1
  obtain ⟨k, h⟩ := P a0 l1 a2 w0 hm1 y1 hw1 w2
  refine (watershedlaw6_PathFrom.calls k a0 _ _ l1 a2 true w (Kd.C_of_reads (d := (0 : Int)) (h1 := fun _ => rfl) hr1) hc1 h).mono ?_
  rintro e w' ⟨rfl, hd⟩
  exact ⟨rfl, hd⟩

end Go.Proofs.Ytpkhdipedmihgaa.P
