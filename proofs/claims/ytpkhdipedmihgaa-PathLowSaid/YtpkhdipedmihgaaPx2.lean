-- Written by a program of this session: a scratch copy of the kit's printer in which some functions are external. Lean checks it.
import Derived.Test.YtpkhdipedmihgaaPx0
import Derived.Test.YtpkhdipedmihgaaPx1
import Derived.Test.YtpkhdipedmihgaaYAny
import Derived.Test.YtpkhdipedmihgaaYFrom
import Derived.Test.YtpkhdipedmihgaaYWay
namespace Go.Proofs.Ytpkhdipedmihgaa.P
open Go.RowKit Go.Proofs.YtpkhdipedmihgaaW.PrintWords Go.Proofs.YtpkhdipedmihgaaW.PrintLast Go.Proofs.YtpkhdipedmihgaaW.PrintMore
attribute [local go_sem] max2_int min2_int max_two min_two max_three min_three max_four min_four   -- for this text's walks alone
set_option linter.unusedVariables false
set_option linter.unusedSimpArgs false

/-! ### watershedlaw6_known: function 13 -/
def watershedlaw6_known.f (k : Nat)  : Option (Bool) := (some (([(⟨0, 1, 5⟩ : S30), (⟨1, 2, 2⟩ : S30), (⟨0, 2, 9⟩ : S30)] : List (S30)) : List (S30))).bind fun y113 => ((path_From.f 3 y113 0).bind fun t116 => ((path_Way.f k 3 y113 0 2).bind fun bt119 => ((path_Any.f k 3 y113 0).bind fun bt123 => ((path_From.f 1 ([] : List (S30)) 0).bind fun t130 => (if (t130.length : Int) = 1 then (if 0 < (t130.length : Int) then (if (rd t130 0) = 0 then (if (t116.length : Int) = 3 then (if 2 < (t116.length : Int) then (if (rd t116 2) = 7 then (if bt119.2 = true then (if (bt119.1.length : Int) = 2 then (if 1 < (bt119.1.length : Int) then (if (rd bt119.1 1) = 1 then (if bt123.2.2 = true then ((watershedref6_Ints.f k t116 bt123.1).bind fun t136 => (if t136 = true then ((path_Right.f k 3 y113 0 t116).bind fun t137 => (some t137)) else (some false))) else (some false)) else (some false)) else (none)) else (some false)) else (some false)) else (some false)) else (none)) else (some false)) else (some false)) else (none)) else (some false))))))
theorem watershedlaw6_known.mono : ∀ k, LeO (watershedlaw6_known.f k ) (watershedlaw6_known.f (k + 1) ) := by
  intro  k
  unfold watershedlaw6_known.f
  repeat' first
      | (with_reducible exact path_Any.mono _ _ _ _)
      | (with_reducible exact path_Right.mono _ _ _ _ _)
      | (with_reducible exact path_Way.mono _ _ _ _ _)
      | (with_reducible exact watershedref6_Ints.mono _ _ _)
      | (with_reducible exact LeO.refl _)
      | (with_reducible exact LeO.none _)
      | (with_reducible refine LeO.ite ?_ ?_)
      | (with_reducible refine LeO.bind ?_ (fun _ => ?_))
      | exact path_Any.mono _ _ _ _
      | exact path_Right.mono _ _ _ _ _
      | exact path_Way.mono _ _ _ _ _
      | exact watershedref6_Ints.mono _ _ _
      | exact LeO.none _
      | refine LeO.ite ?_ ?_
      | refine LeO.bind ?_ (fun _ => ?_)
set_option maxHeartbeats 8000000 in
set_option maxRecDepth 100000 in
theorem watershedlaw6_known.calls (k : Nat)  (r : Bool) (w : World) (h : watershedlaw6_known.f k  = some r) (hr_ : r = true := by rfl) :
    Calls Try.prog 13 #[] w fun e w' => e = .returned (.bool r) ∧ Below w.heap.size w w' := by
  have HR_ := Aside0.mk hr_
  clear hr_
  have hu30 := Try.underlying30
  have HB := Aside0.mk (Below.refl w.heap.size w)
  have H : ((some (([(⟨0, 1, 5⟩ : S30), (⟨1, 2, 2⟩ : S30), (⟨0, 2, 9⟩ : S30)] : List (S30)) : List (S30))).bind fun y113 => ((path_From.f 3 y113 0).bind fun t116 => ((path_Way.f k 3 y113 0 2).bind fun bt119 => ((path_Any.f k 3 y113 0).bind fun bt123 => ((path_From.f 1 ([] : List (S30)) 0).bind fun t130 => (if (t130.length : Int) = 1 then (if 0 < (t130.length : Int) then (if (rd t130 0) = 0 then (if (t116.length : Int) = 3 then (if 2 < (t116.length : Int) then (if (rd t116 2) = 7 then (if bt119.2 = true then (if (bt119.1.length : Int) = 2 then (if 1 < (bt119.1.length : Int) then (if (rd bt119.1 1) = 1 then (if bt123.2.2 = true then ((watershedref6_Ints.f k t116 bt123.1).bind fun t136 => (if t136 = true then ((path_Right.f k 3 y113 0 t116).bind fun t137 => (some t137)) else (some false))) else (some false)) else (some false)) else (none)) else (some false)) else (some false)) else (some false)) else (none)) else (some false)) else (some false)) else (none)) else (some false))))))) = some r := h
  clear h
  obtain ⟨y113, hy113⟩ : ∃ y_ : List (S30), y_ = (([(⟨0, 1, 5⟩ : S30), (⟨1, 2, 2⟩ : S30), (⟨0, 2, 9⟩ : S30)] : List (S30))) := ⟨_, rfl⟩
  replace H : ((path_From.f 3 y113 0).bind fun t116 => ((path_Way.f k 3 y113 0 2).bind fun bt119 => ((path_Any.f k 3 y113 0).bind fun bt123 => ((path_From.f 1 ([] : List (S30)) 0).bind fun t130 => (if (t130.length : Int) = 1 then (if 0 < (t130.length : Int) then (if (rd t130 0) = 0 then (if (t116.length : Int) = 3 then (if 2 < (t116.length : Int) then (if (rd t116 2) = 7 then (if bt119.2 = true then (if (bt119.1.length : Int) = 2 then (if 1 < (bt119.1.length : Int) then (if (rd bt119.1 1) = 1 then (if bt123.2.2 = true then ((watershedref6_Ints.f k t116 bt123.1).bind fun t136 => (if t136 = true then ((path_Right.f k 3 y113 0 t116).bind fun t137 => (some t137)) else (some false))) else (some false)) else (some false)) else (none)) else (some false)) else (some false)) else (some false)) else (none)) else (some false)) else (some false)) else (none)) else (some false)))))) = some r := by first | (rw [hy113]; with_reducible exact H) | (have H2_ := (Option.bind_some _ _).symm.trans H; rw [hy113]; with_reducible exact H2_) | (have H2_ := (Option.bind_some _ _).symm.trans H; with_reducible exact H2_) | with_reducible exact H | (rw [hy113]; exact H) | exact H
  have Ny113 := Aside0.mk hy113
  clear hy113
  replace H := Option.bind_eq_some_iff.mp H
  obtain ⟨t116, A10, H⟩ := H
  replace H : ((path_Way.f k 3 y113 0 2).bind fun bt119 => ((path_Any.f k 3 y113 0).bind fun bt123 => ((path_From.f 1 ([] : List (S30)) 0).bind fun t130 => (if (t130.length : Int) = 1 then (if 0 < (t130.length : Int) then (if (rd t130 0) = 0 then (if (t116.length : Int) = 3 then (if 2 < (t116.length : Int) then (if (rd t116 2) = 7 then (if bt119.2 = true then (if (bt119.1.length : Int) = 2 then (if 1 < (bt119.1.length : Int) then (if (rd bt119.1 1) = 1 then (if bt123.2.2 = true then ((watershedref6_Ints.f k t116 bt123.1).bind fun t136 => (if t136 = true then ((path_Right.f k 3 y113 0 t116).bind fun t137 => (some t137)) else (some false))) else (some false)) else (some false)) else (none)) else (some false)) else (some false)) else (some false)) else (none)) else (some false)) else (some false)) else (none)) else (some false))))) = some r := H
  have A1 := Aside0.mk A10
  clear A10
  replace H := Option.bind_eq_some_iff.mp H
  obtain ⟨⟨t119, t120⟩, A20, H⟩ := H
  replace H : ((path_Any.f k 3 y113 0).bind fun bt123 => ((path_From.f 1 ([] : List (S30)) 0).bind fun t130 => (if (t130.length : Int) = 1 then (if 0 < (t130.length : Int) then (if (rd t130 0) = 0 then (if (t116.length : Int) = 3 then (if 2 < (t116.length : Int) then (if (rd t116 2) = 7 then (if t120 = true then (if (t119.length : Int) = 2 then (if 1 < (t119.length : Int) then (if (rd t119 1) = 1 then (if bt123.2.2 = true then ((watershedref6_Ints.f k t116 bt123.1).bind fun t136 => (if t136 = true then ((path_Right.f k 3 y113 0 t116).bind fun t137 => (some t137)) else (some false))) else (some false)) else (some false)) else (none)) else (some false)) else (some false)) else (some false)) else (none)) else (some false)) else (some false)) else (none)) else (some false)))) = some r := H
  have A2 := Aside0.mk A20
  clear A20
  replace H := Option.bind_eq_some_iff.mp H
  obtain ⟨⟨t123, t124, t125⟩, A30, H⟩ := H
  replace H : ((path_From.f 1 ([] : List (S30)) 0).bind fun t130 => (if (t130.length : Int) = 1 then (if 0 < (t130.length : Int) then (if (rd t130 0) = 0 then (if (t116.length : Int) = 3 then (if 2 < (t116.length : Int) then (if (rd t116 2) = 7 then (if t120 = true then (if (t119.length : Int) = 2 then (if 1 < (t119.length : Int) then (if (rd t119 1) = 1 then (if t125 = true then ((watershedref6_Ints.f k t116 t123).bind fun t136 => (if t136 = true then ((path_Right.f k 3 y113 0 t116).bind fun t137 => (some t137)) else (some false))) else (some false)) else (some false)) else (none)) else (some false)) else (some false)) else (some false)) else (none)) else (some false)) else (some false)) else (none)) else (some false))) = some r := H
  have A3 := Aside0.mk A30
  clear A30
  replace H := Option.bind_eq_some_iff.mp H
  obtain ⟨t130, A40, H⟩ := H
  replace H : (if (t130.length : Int) = 1 then (if 0 < (t130.length : Int) then (if (rd t130 0) = 0 then (if (t116.length : Int) = 3 then (if 2 < (t116.length : Int) then (if (rd t116 2) = 7 then (if t120 = true then (if (t119.length : Int) = 2 then (if 1 < (t119.length : Int) then (if (rd t119 1) = 1 then (if t125 = true then ((watershedref6_Ints.f k t116 t123).bind fun t136 => (if t136 = true then ((path_Right.f k 3 y113 0 t116).bind fun t137 => (some t137)) else (some false))) else (some false)) else (some false)) else (none)) else (some false)) else (some false)) else (some false)) else (none)) else (some false)) else (some false)) else (none)) else (some false)) = some r := H
  have A4 := Aside0.mk A40
  clear A40
  by_cases c5 : (t130.length : Int) = 1
  · rw [if_pos c5] at H
    have c5b0 : ((t130.length : Int) == 1) = true := beq_iff_eq.mpr c5
    have c5b1 : ((t130.length : Int) != 1) = false := bne_eq_false_iff_eq.mpr c5
    clear c5
    by_cases c6 : 0 < (t130.length : Int)
    · rw [if_pos c6] at H
      have c6b0 : decide (0 < (t130.length : Int)) = true := decide_eq_true c6
      have c6b1 : decide (0 < t130.length) = true := decide_eq_true (by omega)
      clear c6
      by_cases c7 : (rd t130 0) = 0
      · rw [if_pos c7] at H
        have c7b0 : ((rd t130 0) == 0) = true := beq_iff_eq.mpr c7
        have c7b1 : ((rd t130 0) != 0) = false := bne_eq_false_iff_eq.mpr c7
        clear c7
        by_cases c8 : (t116.length : Int) = 3
        · rw [if_pos c8] at H
          have c8b0 : ((t116.length : Int) == 3) = true := beq_iff_eq.mpr c8
          have c8b1 : ((t116.length : Int) != 3) = false := bne_eq_false_iff_eq.mpr c8
          clear c8
          by_cases c9 : 2 < (t116.length : Int)
          · rw [if_pos c9] at H
            have c9b0 : decide (2 < (t116.length : Int)) = true := decide_eq_true c9
            have c9b1 : decide (2 < t116.length) = true := decide_eq_true (by omega)
            clear c9
            by_cases c10 : (rd t116 2) = 7
            · rw [if_pos c10] at H
              have c10b0 : ((rd t116 2) == 7) = true := beq_iff_eq.mpr c10
              have c10b1 : ((rd t116 2) != 7) = false := bne_eq_false_iff_eq.mpr c10
              clear c10
              by_cases c11 : t120 = true
              · subst c11
                have H1 : (if (t119.length : Int) = 2 then (if 1 < (t119.length : Int) then (if (rd t119 1) = 1 then (if t125 = true then ((watershedref6_Ints.f k t116 t123).bind fun t136 => (if t136 = true then ((path_Right.f k 3 y113 0 t116).bind fun t137 => (some t137)) else (some false))) else (some false)) else (some false)) else (none)) else (some false)) = some r := by rw [if_pos rfl] at H; exact H
                clear H
                have H := H1
                clear H1
                by_cases c12 : (t119.length : Int) = 2
                · rw [if_pos c12] at H
                  have c12b0 : ((t119.length : Int) == 2) = true := beq_iff_eq.mpr c12
                  have c12b1 : ((t119.length : Int) != 2) = false := bne_eq_false_iff_eq.mpr c12
                  clear c12
                  by_cases c13 : 1 < (t119.length : Int)
                  · rw [if_pos c13] at H
                    have c13b0 : decide (1 < (t119.length : Int)) = true := decide_eq_true c13
                    have c13b1 : decide (1 < t119.length) = true := decide_eq_true (by omega)
                    clear c13
                    by_cases c14 : (rd t119 1) = 1
                    · rw [if_pos c14] at H
                      have c14b0 : ((rd t119 1) == 1) = true := beq_iff_eq.mpr c14
                      have c14b1 : ((rd t119 1) != 1) = false := bne_eq_false_iff_eq.mpr c14
                      clear c14
                      by_cases c15 : t125 = true
                      · subst c15
                        have H1 : ((watershedref6_Ints.f k t116 t123).bind fun t136 => (if t136 = true then ((path_Right.f k 3 y113 0 t116).bind fun t137 => (some t137)) else (some false))) = some r := by rw [if_pos rfl] at H; exact H
                        clear H
                        have H := H1
                        clear H1
                        replace H := Option.bind_eq_some_iff.mp H
                        obtain ⟨t136, A160, H⟩ := H
                        replace H : (if t136 = true then ((path_Right.f k 3 y113 0 t116).bind fun t137 => (some t137)) else (some false)) = some r := H
                        have A16 := Aside0.mk A160
                        clear A160
                        by_cases c17 : t136 = true
                        · subst c17
                          have H1 : ((path_Right.f k 3 y113 0 t116).bind fun t137 => (some t137)) = some r := by rw [if_pos rfl] at H; exact H
                          clear H
                          have H := H1
                          clear H1
                          replace H := Option.bind_eq_some_iff.mp H
                          obtain ⟨t137, A180, H⟩ := H
                          replace H : (some t137) = some r := H
                          have A18 := Aside0.mk A180
                          clear A180
                          obtain rfl := Option.some.inj H
                          go_enter Try.func13, Try.ntmps13
                          go_wp2_with (first | ((with_reducible refine gate_dst (N := 12) rfl ?_); (try (refine gate_guard (by rfl) ?_; dsimp only)); refine Kd.R_lit k30 _ 30 ?hg (N := 12) ?hd (xs := ([(⟨0, 1, 5⟩ : S30), (⟨1, 2, 2⟩ : S30), (⟨0, 2, 9⟩ : S30)] : List (S30))) (inner := [.int .i64 0, .int .i64 1, .int .i64 5, .int .i64 1, .int .i64 2, .int .i64 2, .int .i64 0, .int .i64 2, .int .i64 9]) (ok := fun _ => True) (okp := fun _ => True) ?hr ?hp (fun _ hk => hk) trivial (Below.refl _ _) (Nat.le_refl _) (by simp) ?_; (case hd => rfl); (case hg => rfl); (case hr => first | (go_simp; done) | (go_simp; rfl)); (case hp => exact (Reps.c3 (show Kd.M k30 _ _ _ (⟨0, 1, 5⟩ : S30) [.int .i64 0, .int .i64 1, .int .i64 5] from (k30_mkM _ _ _ (⟨0, 1, 5⟩ : S30) )) (Reps.c3 (show Kd.M k30 _ _ _ (⟨1, 2, 2⟩ : S30) [.int .i64 1, .int .i64 2, .int .i64 2] from (k30_mkM _ _ _ (⟨1, 2, 2⟩ : S30) )) (Reps.c3 (show Kd.M k30 _ _ _ (⟨0, 2, 9⟩ : S30) [.int .i64 0, .int .i64 2, .int .i64 9] from (k30_mkM _ _ _ (⟨0, 2, 9⟩ : S30) )) (Reps.none _ _))))); intro v114 w19 ho20 hb hg_ hnew_; clear hg_ hnew_; (first | rw [← Ny113.out] at ho20 | (simp only [Int.reduceToNat] at ho20; rw [← Ny113.out] at ho20)); have n0_ := Aside0.mk (Kd.R_lower ho20 (below_size (by repeat (first | (with_reducible first | exact HB.out | apply below_alloc | apply pw_below_drewN | apply below_drew1) | exact HB.out)))); have n1_ := Aside0.mk (below_step (by repeat (first | (with_reducible first | exact HB.out | apply below_alloc | apply pw_below_drewN | apply below_drew1) | exact HB.out)) hb); clear HB; have HO115 := n0_; have HB := n1_; clear n0_ n1_; clear hb ho20; obtain ⟨Ao21, co21, eo21⟩ := Kd.R_slice HO115.out; subst eo21) | ((with_reducible refine gate_callee (f := 16) rfl ?_); refine goesL_ (some 14) rfl rfl Try.func16 (by kernel_rfl) rfl #[.int .i64 3, .slice Ao21 y113.length co21, .int .i64 0] rfl (by (try simp only [List.map_toArray, List.map_cons, List.map_nil]); first | done | rfl | (simp only [List.length_drop, List.length_take]; rfl)) ?_; (with_reducible refine (path_From.calls 3 _ _ y113 0 t116 _ ?side1 ?side2 A1.out).mono ?_); (case side1 => repeat (first | exact (Kd.R_reads' HO115.out).2.2 | (with_reducible refine Kd.C_alloc ?_ _) | (with_reducible refine Kd.C_drewN ?_ _) | (with_reducible refine Kd.C_drew ?_))); (case side2 => exact (Kd.R_reads' HO115.out).2.1); rintro e w22 ⟨v117, rfl, ho0, hb⟩; refine ⟨_, rfl, ?_⟩; have n0_ := Aside0.mk (Kd.R_below (by (with_reducible repeat (first | apply Kd.R_alloc | apply Kd.R_drewN | apply Kd.R_drew)); exact HO115.out) hb); have n1_ := Aside0.mk (Kd.R_lower ho0 (below_size (by repeat (first | (with_reducible first | exact HB.out | apply below_alloc | apply pw_below_drewN | apply below_drew1) | exact HB.out)))); have n2_ := Aside0.mk (below_step (by repeat (first | (with_reducible first | exact HB.out | apply below_alloc | apply pw_below_drewN | apply below_drew1) | exact HB.out)) hb); clear HO115; clear HB; have HO115 := n0_; have HO118 := n1_; have HB := n2_; clear n0_ n1_ n2_; (try clear hb); (try clear hb2); (try clear hk); (try clear hi); (try clear ho0)) | ((with_reducible refine gate_callee (f := 24) rfl ?_); refine goesL_ (some 17) rfl rfl Try.func24 (by kernel_rfl) rfl #[.int .i64 3, .slice Ao21 y113.length co21, .int .i64 0, .int .i64 2] rfl (by (try simp only [List.map_toArray, List.map_cons, List.map_nil]); first | done | rfl | (simp only [List.length_drop, List.length_take]; rfl)) ?_; (with_reducible refine (path_Way.calls k 3 _ _ y113 0 2 t119 true _ ?side1 ?side2 A2.out).mono ?_); (case side1 => repeat (first | exact (Kd.R_reads' HO115.out).2.2 | (with_reducible refine Kd.C_alloc ?_ _) | (with_reducible refine Kd.C_drewN ?_ _) | (with_reducible refine Kd.C_drew ?_))); (case side2 => exact (Kd.R_reads' HO115.out).2.1); rintro e w23 ⟨v121, rfl, ho0, hb⟩; refine ⟨_, rfl, ?_⟩; have n0_ := Aside0.mk (Kd.R_below (by (with_reducible repeat (first | apply Kd.R_alloc | apply Kd.R_drewN | apply Kd.R_drew)); exact HO115.out) hb); have n1_ := Aside0.mk (Kd.R_below (by (with_reducible repeat (first | apply Kd.R_alloc | apply Kd.R_drewN | apply Kd.R_drew)); exact HO118.out) hb); have n2_ := Aside0.mk (Kd.V_lower (Kd.V_mono (ok' := fun k_ => some k_ ≠ (.slice Ao21 y113.length co21 : Value).ownBlock ∧ some k_ ≠ (v117 : Value).ownBlock) ho0 (fun k_ hk_ => ⟨(Kd.fresh' (Kd.R_lt (by (with_reducible repeat (first | apply Kd.R_alloc | apply Kd.R_drewN | apply Kd.R_drew)); exact HO115.out)) k_ hk_.2.1), (Kd.fresh' (Kd.R_lt (by (with_reducible repeat (first | apply Kd.R_alloc | apply Kd.R_drewN | apply Kd.R_drew)); exact HO118.out)) k_ hk_.2.1)⟩)) (below_size (by repeat (first | (with_reducible first | exact HB.out | apply below_alloc | apply pw_below_drewN | apply below_drew1) | exact HB.out)))); have n3_ := Aside0.mk (below_step (by repeat (first | (with_reducible first | exact HB.out | apply below_alloc | apply pw_below_drewN | apply below_drew1) | exact HB.out)) hb); clear HO115; clear HO118; clear HB; have HO115 := n0_; have HO118 := n1_; have HO122 := n2_; have HB := n3_; clear n0_ n1_ n2_ n3_; (try clear hb); (try clear hb2); (try clear hk); (try clear hi); (try clear ho0)) | ((with_reducible refine gate_callee (f := 20) rfl ?_); refine goesL_ (some 22) rfl rfl Try.func20 (by kernel_rfl) rfl #[.int .i64 3, .slice Ao21 y113.length co21, .int .i64 0] rfl (by (try simp only [List.map_toArray, List.map_cons, List.map_nil]); first | done | rfl | (simp only [List.length_drop, List.length_take]; rfl)) ?_; (with_reducible refine (path_Any.calls k 3 _ _ y113 0 t123 t124 true _ ?side1 ?side2 A3.out).mono ?_); (case side1 => repeat (first | exact (Kd.R_reads' HO115.out).2.2 | (with_reducible refine Kd.C_alloc ?_ _) | (with_reducible refine Kd.C_drewN ?_ _) | (with_reducible refine Kd.C_drew ?_))); (case side2 => exact (Kd.R_reads' HO115.out).2.1); rintro e w24 ⟨v126, v128, rfl, ho0, ho1, hb⟩; refine ⟨_, rfl, ?_⟩; have n0_ := Aside0.mk (Kd.R_below (by (with_reducible repeat (first | apply Kd.R_alloc | apply Kd.R_drewN | apply Kd.R_drew)); exact HO115.out) hb); have n1_ := Aside0.mk (Kd.R_elder' (by (with_reducible repeat (first | apply Kd.R_alloc | apply Kd.R_drewN | apply Kd.R_drew)); exact HO118.out) (Kd.R_base ho0) hb); have n2_ := Aside0.mk (Kd.V_elder' (by (with_reducible repeat (first | apply Kd.V_alloc | apply Kd.V_drewN | apply Kd.V_drew)); exact HO122.out) (Kd.R_base ho0) hb); have n3_ := Aside0.mk (Kd.R_lower (Kd.R_new' ho0 (Kd.R_lt (by (with_reducible repeat (first | apply Kd.R_alloc | apply Kd.R_drewN | apply Kd.R_drew)); exact HO118.out))) (below_size (by repeat (first | (with_reducible first | exact HB.out | apply below_alloc | apply pw_below_drewN | apply below_drew1) | exact HB.out)))); have n4_ := Aside0.mk (Kd.V_lower (Kd.V_mono (ok' := fun k_ => some k_ ≠ (v126 : Value).ownBlock ∧ some k_ ≠ (.slice Ao21 y113.length co21 : Value).ownBlock ∧ some k_ ≠ (v117 : Value).ownBlock) ho1 (fun k_ hk_ => ⟨hk_.1, (Kd.fresh' (Kd.R_lt (by (with_reducible repeat (first | apply Kd.R_alloc | apply Kd.R_drewN | apply Kd.R_drew)); exact HO115.out)) k_ hk_.2.1), (Kd.fresh' (Kd.R_lt (by (with_reducible repeat (first | apply Kd.R_alloc | apply Kd.R_drewN | apply Kd.R_drew)); exact HO118.out)) k_ hk_.2.1)⟩)) (below_size (by repeat (first | (with_reducible first | exact HB.out | apply below_alloc | apply pw_below_drewN | apply below_drew1) | exact HB.out)))); have n5_ := Aside0.mk (below_step (by repeat (first | (with_reducible first | exact HB.out | apply below_alloc | apply pw_below_drewN | apply below_drew1) | exact HB.out)) hb); clear HO115; clear HO118; clear HO122; clear HB; have HO115 := n0_; have HO118 := n1_; have HO122 := n2_; have HO127 := n3_; have HO129 := n4_; have HB := n5_; clear n0_ n1_ n2_ n3_ n4_ n5_; (try clear hb); (try clear hb2); (try clear hk); (try clear hi); (try clear ho0); (try clear ho1)) | ((with_reducible refine gate_callee (f := 16) rfl ?_); refine goesL_ (some 26) rfl rfl Try.func16 (by kernel_rfl) rfl #[.int .i64 1, .slice none 0 0, .int .i64 0] rfl (by (try simp only [List.map_toArray, List.map_cons, List.map_nil]); first | done | rfl | (simp only [List.length_drop, List.length_take]; rfl)) ?_; (refine (path_From.calls 1 _ _ ([] : List (S30)) 0 t130 _ ?side1 ?side2 A4.out).mono ?_); (case side1 => exact Kd.C_nil _ _); (case side2 => exact Nat.le_refl _); rintro e w25 ⟨v131, rfl, ho0, hb⟩; refine ⟨_, rfl, ?_⟩; have n0_ := Aside0.mk (Kd.R_below (by (with_reducible repeat (first | apply Kd.R_alloc | apply Kd.R_drewN | apply Kd.R_drew)); exact HO115.out) hb); have n1_ := Aside0.mk (Kd.R_elder' (by (with_reducible repeat (first | apply Kd.R_alloc | apply Kd.R_drewN | apply Kd.R_drew)); exact HO118.out) (Kd.R_base ho0) hb); have n2_ := Aside0.mk (Kd.V_elder' (by (with_reducible repeat (first | apply Kd.V_alloc | apply Kd.V_drewN | apply Kd.V_drew)); exact HO122.out) (Kd.R_base ho0) hb); have n3_ := Aside0.mk (Kd.R_elder' (by (with_reducible repeat (first | apply Kd.R_alloc | apply Kd.R_drewN | apply Kd.R_drew)); exact HO127.out) (Kd.R_base ho0) hb); have n4_ := Aside0.mk (Kd.V_elder' (by (with_reducible repeat (first | apply Kd.V_alloc | apply Kd.V_drewN | apply Kd.V_drew)); exact HO129.out) (Kd.R_base ho0) hb); have n5_ := Aside0.mk (Kd.R_lower (Kd.R_new' (Kd.R_new' ho0 (Kd.R_lt (by (with_reducible repeat (first | apply Kd.R_alloc | apply Kd.R_drewN | apply Kd.R_drew)); exact HO118.out))) (Kd.R_lt (by (with_reducible repeat (first | apply Kd.R_alloc | apply Kd.R_drewN | apply Kd.R_drew)); exact HO127.out))) (below_size (by repeat (first | (with_reducible first | exact HB.out | apply below_alloc | apply pw_below_drewN | apply below_drew1) | exact HB.out)))); have n6_ := Aside0.mk (below_step (by repeat (first | (with_reducible first | exact HB.out | apply below_alloc | apply pw_below_drewN | apply below_drew1) | exact HB.out)) hb); clear HO115; clear HO118; clear HO122; clear HO127; clear HO129; clear HB; have HO115 := n0_; have HO118 := n1_; have HO122 := n2_; have HO127 := n3_; have HO129 := n4_; have HO132 := n5_; have HB := n6_; clear n0_ n1_ n2_ n3_ n4_ n5_ n6_; (try clear hb); (try clear hb2); (try clear hk); (try clear hi); (try clear ho0); obtain ⟨Ao26, co26, eo26⟩ := Kd.R_slice HO132.out; subst eo26; have p133 : 0 ≤ (0 : Int) := (by omega); have q133 : 0 < (t130.length : Int) := of_decide_eq_true (by first | (with_reducible assumption) | assumption); obtain ⟨ad133, e133, hx133_0⟩ := Kd.at_int (Kd.R_reads' HO132.out).2.2 0 p133 q133; cases e133; have qi133 : (0 < t130.length) = True := eq_true (by omega); (try rw [show ((0 : Int)).toNat = 0 from rfl] at hx133_0); (try rw [Addr.add_zero'] at hx133_0); replace p133 := eq_true p133; replace q133 := eq_true q133; obtain ⟨Ao27, co27, eo27⟩ := Kd.R_slice HO118.out; subst eo27; have p134 : 0 ≤ (2 : Int) := (by omega); have q134 : 2 < (t116.length : Int) := of_decide_eq_true (by first | (with_reducible assumption) | assumption); obtain ⟨ad134, e134, hx134_0⟩ := Kd.at_int (Kd.R_reads' HO118.out).2.2 2 p134 q134; cases e134; (try simp only [show (2 : Int).toNat = 2 from rfl, Nat.reduceMul, Nat.reduceEqDiff, Go.Addr.add, ↓reduceIte] at hx134_0); have qi134 : (2 < t116.length) = True := eq_true (by omega); (try rw [show ((2 : Int)).toNat = 2 from rfl] at hx134_0); replace p134 := eq_true p134; replace q134 := eq_true q134; obtain ⟨Ao28, co28, eo28⟩ := Kd.V_slice HO122.out; subst eo28; have p135 : 0 ≤ (1 : Int) := (by omega); have q135 : 1 < (t119.length : Int) := of_decide_eq_true (by first | (with_reducible assumption) | assumption); obtain ⟨ad135, e135, hx135_0⟩ := Kd.at_int (Kd.V_reads' HO122.out).2.2 1 p135 q135; cases e135; (try simp only [show (1 : Int).toNat = 1 from rfl, Nat.reduceMul, Nat.reduceEqDiff, Go.Addr.add, ↓reduceIte] at hx135_0); have qi135 : (1 < t119.length) = True := eq_true (by omega); (try rw [show ((1 : Int)).toNat = 1 from rfl] at hx135_0); replace p135 := eq_true p135; replace q135 := eq_true q135; obtain ⟨Ao29, co29, eo29⟩ := Kd.R_slice HO127.out; subst eo29) | (go_at_call 17; (with_reducible refine (watershedref6_Ints.calls k _ _ t116 _ _ t123 true _ ?side1 ?side2 ?side3 ?side4 A16.out).mono ?_); (case side1 => repeat (first | exact (Kd.R_reads' HO118.out).2.2 | (with_reducible refine Kd.C_alloc ?_ _) | (with_reducible refine Kd.C_drewN ?_ _) | (with_reducible refine Kd.C_drew ?_))); (case side2 => exact (Kd.R_reads' HO118.out).2.1); (case side3 => repeat (first | exact (Kd.R_reads' HO127.out).2.2 | (with_reducible refine Kd.C_alloc ?_ _) | (with_reducible refine Kd.C_drewN ?_ _) | (with_reducible refine Kd.C_drew ?_))); (case side4 => exact (Kd.R_reads' HO127.out).2.1); rintro e w' ⟨rfl, ⟨nd, rfl⟩⟩) | (go_at_call 19; (with_reducible refine (path_Right.calls k 3 _ _ y113 0 _ _ t116 t137 _ ?side1 ?side2 ?side3 ?side4 A18.out).mono ?_); (case side1 => repeat (first | exact (Kd.R_reads' HO115.out).2.2 | (with_reducible refine Kd.C_alloc ?_ _) | (with_reducible refine Kd.C_drewN ?_ _) | (with_reducible refine Kd.C_drew ?_))); (case side2 => exact (Kd.R_reads' HO115.out).2.1); (case side3 => repeat (first | exact (Kd.R_reads' HO118.out).2.2 | (with_reducible refine Kd.C_alloc ?_ _) | (with_reducible refine Kd.C_drewN ?_ _) | (with_reducible refine Kd.C_drew ?_))); (case side4 => exact (Kd.R_reads' HO118.out).2.1); rintro e w30 ⟨rfl, hb⟩; have n0_ := Aside0.mk (Kd.R_below (by (with_reducible repeat (first | apply Kd.R_alloc | apply Kd.R_drewN | apply Kd.R_drew)); exact HO115.out) hb); have n1_ := Aside0.mk (Kd.R_below (by (with_reducible repeat (first | apply Kd.R_alloc | apply Kd.R_drewN | apply Kd.R_drew)); exact HO118.out) hb); have n2_ := Aside0.mk (Kd.V_below (by (with_reducible repeat (first | apply Kd.V_alloc | apply Kd.V_drewN | apply Kd.V_drew)); exact HO122.out) hb); have n3_ := Aside0.mk (Kd.R_below (by (with_reducible repeat (first | apply Kd.R_alloc | apply Kd.R_drewN | apply Kd.R_drew)); exact HO127.out) hb); have n4_ := Aside0.mk (Kd.V_below (by (with_reducible repeat (first | apply Kd.V_alloc | apply Kd.V_drewN | apply Kd.V_drew)); exact HO129.out) hb); have n5_ := Aside0.mk (Kd.R_below (by (with_reducible repeat (first | apply Kd.R_alloc | apply Kd.R_drewN | apply Kd.R_drew)); exact HO132.out) hb); have n6_ := Aside0.mk (below_step (by repeat (first | (with_reducible first | exact HB.out | apply below_alloc | apply pw_below_drewN | apply below_drew1) | exact HB.out)) hb); clear HO115; clear HO118; clear HO122; clear HO127; clear HO129; clear HO132; clear HB; have HO115 := n0_; have HO118 := n1_; have HO122 := n2_; have HO127 := n3_; have HO129 := n4_; have HO132 := n5_; have HB := n6_; clear n0_ n1_ n2_ n3_ n4_ n5_ n6_; (try clear hb); (try clear hb2); (try clear hk); (try clear hi)))
                          go_ret
                          exact ⟨by first | rfl | (simp [errW_none, errW_some] <;> rfl) | (simp [*, errW_none, errW_some] <;> rfl), by repeat (first | (with_reducible first | exact HB.out | apply below_alloc | apply pw_below_drewN | apply below_drew1) | exact HB.out)⟩
                        · replace c17 := Bool.eq_false_iff.mpr c17
                          subst c17
                          have H1 : (some false) = some r := by rw [if_neg (show ¬ (false = true) by decide)] at H; exact H
                          clear H
                          have H := H1
                          clear H1
                          exact absurd ((Option.some.inj H).trans HR_.out) (by decide)
                      · replace c15 := Bool.eq_false_iff.mpr c15
                        subst c15
                        have H1 : (some false) = some r := by rw [if_neg (show ¬ (false = true) by decide)] at H; exact H
                        clear H
                        have H := H1
                        clear H1
                        exact absurd ((Option.some.inj H).trans HR_.out) (by decide)
                    · rw [if_neg c14] at H
                      have c14b0 : ((rd t119 1) == 1) = false := beq_eq_false_iff_ne.mpr c14
                      have c14b1 : ((rd t119 1) != 1) = true := bne_iff_ne.mpr c14
                      exact absurd ((Option.some.inj H).trans HR_.out) (by decide)
                  · rw [if_neg c13] at H
                    exact absurd H (by simp)
                · rw [if_neg c12] at H
                  have c12b0 : ((t119.length : Int) == 2) = false := beq_eq_false_iff_ne.mpr c12
                  have c12b1 : ((t119.length : Int) != 2) = true := bne_iff_ne.mpr c12
                  exact absurd ((Option.some.inj H).trans HR_.out) (by decide)
              · replace c11 := Bool.eq_false_iff.mpr c11
                subst c11
                have H1 : (some false) = some r := by rw [if_neg (show ¬ (false = true) by decide)] at H; exact H
                clear H
                have H := H1
                clear H1
                exact absurd ((Option.some.inj H).trans HR_.out) (by decide)
            · rw [if_neg c10] at H
              have c10b0 : ((rd t116 2) == 7) = false := beq_eq_false_iff_ne.mpr c10
              have c10b1 : ((rd t116 2) != 7) = true := bne_iff_ne.mpr c10
              exact absurd ((Option.some.inj H).trans HR_.out) (by decide)
          · rw [if_neg c9] at H
            exact absurd H (by simp)
        · rw [if_neg c8] at H
          have c8b0 : ((t116.length : Int) == 3) = false := beq_eq_false_iff_ne.mpr c8
          have c8b1 : ((t116.length : Int) != 3) = true := bne_iff_ne.mpr c8
          exact absurd ((Option.some.inj H).trans HR_.out) (by decide)
      · rw [if_neg c7] at H
        have c7b0 : ((rd t130 0) == 0) = false := beq_eq_false_iff_ne.mpr c7
        have c7b1 : ((rd t130 0) != 0) = true := bne_iff_ne.mpr c7
        exact absurd ((Option.some.inj H).trans HR_.out) (by decide)
    · rw [if_neg c6] at H
      exact absurd H (by simp)
  · rw [if_neg c5] at H
    have c5b0 : ((t130.length : Int) == 1) = false := beq_eq_false_iff_ne.mpr c5
    have c5b1 : ((t130.length : Int) != 1) = true := bne_iff_ne.mpr c5
    exact absurd ((Option.some.inj H).trans HR_.out) (by decide)

end Go.Proofs.Ytpkhdipedmihgaa.P
