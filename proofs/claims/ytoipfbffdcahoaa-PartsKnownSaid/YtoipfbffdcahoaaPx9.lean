-- Written by a program of this session: a scratch copy of the kit's printer in which some functions are external. Lean checks it.
import Derived.Test.YtoipfbffdcahoaaPx0
import Derived.Test.YtoipfbffdcahoaaERepeat
import Derived.Test.YtoipfbffdcahoaaXBase
namespace Go.Proofs.Ytoipfbffdcahoaa.P
open Go.RowKit Go.Proofs.YtoipfbffdcahoaaW.PrintWords Go.Proofs.YtoipfbffdcahoaaW.PrintLast Go.Proofs.YtoipfbffdcahoaaW.PrintMore
attribute [local go_sem] max2_int min2_int max_two min_two max_three min_three max_four min_four   -- for this text's walks alone
set_option linter.unusedVariables false
set_option linter.unusedSimpArgs false

/-! ### rot_orbits: function 40 -/
mutual
def rot_orbits.l0 (stp : FnI) : Nat → List Int → Int → Int → Int → Option (List Int × Int × Bool)
  | 0, _, _, _, _ => none
  | k + 1, x7, x8, x14, x15 => if x15 < x14 then (if 0 ≤ x15 then (if x15 < (x7.length : Int) then (if (rd x7 x15) ≥ 0 then (rot_orbits.l0 stp k x7 x8 x14 (wrap64 (x15 + 1))) else (rot_orbits.l1 stp k x7 x8 x15 x15 x14 x15)) else (none)) else (none)) else (some (x7, x8, true))
def rot_orbits.l1 (stp : FnI) : Nat → List Int → Int → Int → Int → Int → Int → Option (List Int × Int × Bool)
  | 0, _, _, _, _, _, _ => none
  | k + 1, x7, x8, x9, x10, x14, x15 => if 0 ≤ x10 then (if x10 < (x7.length : Int) then (if (rd x7 x10) < 0 then ((stp.f x10).bind fun t426 => (rot_orbits.l1 stp k (x7.set (x10 : Int).toNat x8) x8 x9 t426 x14 x15)) else (if x10 = x9 then (rot_orbits.l0 stp k x7 (wrap64 (x8 + 1)) x14 (wrap64 (x15 + 1))) else (some (([] : List Int), 0, false)))) else (none)) else (none)
end
def rot_orbits.f (stp : FnI) (k : Nat) (a0 : Int) : Option (List Int × Int × Bool) := (slices_Repeat_int_int.f (([(-1)] : List Int)) a0).bind fun t420 => (rot_orbits.l0 stp k t420 0 a0 0)
theorem rot_orbits.mono_l (stp : FnI) : ∀ k, (∀ y0 y1 y2 y3, LeO (rot_orbits.l0 stp k y0 y1 y2 y3) (rot_orbits.l0 stp (k + 1) y0 y1 y2 y3)) ∧ (∀ y0 y1 y2 y3 y4 y5, LeO (rot_orbits.l1 stp k y0 y1 y2 y3 y4 y5) (rot_orbits.l1 stp (k + 1) y0 y1 y2 y3 y4 y5))
  | 0 => ⟨fun _ _ _ _ r h => by simp [rot_orbits.l0] at h, fun _ _ _ _ _ _ r h => by simp [rot_orbits.l1] at h⟩
  | k + 1 => by
    obtain ⟨ih0, ih1⟩ := rot_orbits.mono_l stp k
    refine ⟨?_, ?_⟩
    · intro y0 y1 y2 y3
      unfold rot_orbits.l0
      repeat' first
      | (with_reducible exact ih0 _ _ _ _)
      | (with_reducible exact ih1 _ _ _ _ _ _)
      | (with_reducible exact LeO.refl _)
      | (with_reducible exact LeO.none _)
      | (with_reducible refine LeO.ite ?_ ?_)
      | (with_reducible refine LeO.bind ?_ (fun _ => ?_))
      | exact ih0 _ _ _ _
      | exact ih1 _ _ _ _ _ _
      | exact LeO.none _
      | refine LeO.ite ?_ ?_
      | refine LeO.bind ?_ (fun _ => ?_)
    · intro y0 y1 y2 y3 y4 y5
      unfold rot_orbits.l1
      repeat' first
      | (with_reducible exact ih0 _ _ _ _)
      | (with_reducible exact ih1 _ _ _ _ _ _)
      | (with_reducible exact LeO.refl _)
      | (with_reducible exact LeO.none _)
      | (with_reducible refine LeO.ite ?_ ?_)
      | (with_reducible refine LeO.bind ?_ (fun _ => ?_))
      | exact ih0 _ _ _ _
      | exact ih1 _ _ _ _ _ _
      | exact LeO.none _
      | refine LeO.ite ?_ ?_
      | refine LeO.bind ?_ (fun _ => ?_)
theorem rot_orbits.mono (stp : FnI) : ∀ a0 k, LeO (rot_orbits.f stp k a0) (rot_orbits.f stp (k + 1) a0) := by
  intro a0 k
  obtain ⟨ih0, ih1⟩ := rot_orbits.mono_l stp k
  unfold rot_orbits.f
  repeat' first
      | (with_reducible exact ih0 _ _ _ _)
      | (with_reducible exact ih1 _ _ _ _ _ _)
      | (with_reducible exact LeO.refl _)
      | (with_reducible exact LeO.none _)
      | (with_reducible refine LeO.ite ?_ ?_)
      | (with_reducible refine LeO.bind ?_ (fun _ => ?_))
      | exact ih0 _ _ _ _
      | exact ih1 _ _ _ _ _ _
      | exact LeO.none _
      | refine LeO.ite ?_ ?_
      | refine LeO.bind ?_ (fun _ => ?_)
set_option maxHeartbeats 8000000 in
set_option maxRecDepth 100000 in
theorem rot_orbits.calls (stp : FnI) (g : FuncId) (fr : Array Value) (k : Nat) (a0 : Int) (r1 : List Int) (r2 : Int) (r3 : Bool) (w : World) (hS : FnK stp g fr w) (h : rot_orbits.f stp k a0 = some (r1, r2, r3)) :
    Calls Try.prog 40 #[.int .i64 a0, .func (.func g) #[] fr] w fun e w' => ∃ v0_ : Value, e = .returned (.tuple #[v0_, .int .i64 r2, .bool r3]) ∧ Kd.R (Kd.int .i64) 3 w' w.heap.size (fun _ => True) v0_ r1 ∧ Below w.heap.size w w' := by
  have HB := Aside0.mk (Below.refl w.heap.size w)
  have SK := Aside0.mk hS
  clear hS
  have H : ((slices_Repeat_int_int.f (([(-1)] : List Int)) a0).bind fun t420 => (rot_orbits.l0 stp k t420 0 a0 0)) = some (r1, r2, r3) := h
  clear h
  obtain ⟨y417, hy417⟩ : ∃ y_ : List Int, y_ = (([(-1)] : List Int)) := ⟨_, rfl⟩
  replace H : ((slices_Repeat_int_int.f y417 a0).bind fun t420 => (rot_orbits.l0 stp k t420 0 a0 0)) = some (r1, r2, r3) := by first | (rw [hy417]; with_reducible exact H) | (have H2_ := (Option.bind_some _ _).symm.trans H; rw [hy417]; with_reducible exact H2_) | (have H2_ := (Option.bind_some _ _).symm.trans H; with_reducible exact H2_) | with_reducible exact H | (rw [hy417]; exact H) | exact H
  have Ny417 := Aside0.mk hy417
  clear hy417
  replace H := Option.bind_eq_some_iff.mp H
  obtain ⟨t420, A20, H⟩ := H
  replace H : (rot_orbits.l0 stp k t420 0 a0 0) = some (r1, r2, r3) := H
  have A2 := Aside0.mk A20
  clear A20
  have H' := Aside0.mk H
  clear H
  go_enter Try.func40, Try.ntmps40
  go_wp2_with fail
  go_step3
  go_wp2_with (first | ((with_reducible refine gate_dst (N := 11) rfl ?_); refine Kd.R_lit (Kd.int .i64) _ 3 ?hg (N := 11) ?hd (xs := ([(-1)] : List Int)) (inner := [.int .i64 (-1)]) (ok := fun _ => True) (okp := fun _ => True) ?hr ?hp (fun _ hk => hk) trivial (Below.refl _ _) (Nat.le_refl _) (by simp) ?_; (case hd => rfl); (case hg => rfl); (case hr => first | (go_simp; done) | (go_simp; rfl)); (case hp => exact (Reps.one (show Kd.M (Kd.int .i64) _ _ _ (-1) [.int .i64 (-1)] from rfl) (Reps.none _ _))); intro v418 w3 ho4 hb hg_ hnew_; clear hg_ hnew_; (first | rw [← Ny417.out] at ho4 | (simp only [Int.reduceToNat] at ho4; rw [← Ny417.out] at ho4)); have n0_ := Aside0.mk (Kd.R_lower ho4 (below_size (by repeat (first | (with_reducible first | exact HB.out | apply below_alloc | apply pw_below_drewN | apply below_drew1) | exact HB.out)))); have n1_ := Aside0.mk (below_step (by repeat (first | (with_reducible first | exact HB.out | apply below_alloc | apply pw_below_drewN | apply below_drew1) | exact HB.out)) hb); clear HB; have HO419 := n0_; have HB := n1_; clear n0_ n1_; clear hb ho4; obtain ⟨Ao5, co5, eo5⟩ := Kd.R_slice HO419.out; subst eo5) | ((with_reducible refine gate_callee (f := 42) rfl ?_); refine goesL_ (some 13) rfl rfl Try.func42 (by kernel_rfl) rfl #[.slice Ao5 y417.length co5, .int .i64 a0] rfl (by (try simp only [List.map_toArray, List.map_cons, List.map_nil]); first | done | rfl | (simp only [List.length_drop, List.length_take]; rfl)) ?_; (with_reducible refine (slices_Repeat_int_int.calls _ _ y417 a0 t420 _ ?side1 ?side2 A2.out).mono ?_); (case side1 => repeat (first | exact (Kd.R_reads' HO419.out).2.2 | (with_reducible refine Kd.C_alloc ?_ _) | (with_reducible refine Kd.C_drewN ?_ _) | (with_reducible refine Kd.C_drew ?_))); (case side2 => exact (Kd.R_reads' HO419.out).2.1); rintro e w6 ⟨v421, rfl, ho0, hb⟩; refine ⟨_, rfl, ?_⟩; have n0_ := Aside0.mk (Kd.R_elder' (by (with_reducible repeat (first | apply Kd.R_alloc | apply Kd.R_drewN | apply Kd.R_drew)); exact HO419.out) (Kd.R_base ho0) hb); have n1_ := Aside0.mk (Kd.R_lower (Kd.R_new' ho0 (Kd.R_lt (by (with_reducible repeat (first | apply Kd.R_alloc | apply Kd.R_drewN | apply Kd.R_drew)); exact HO419.out))) (below_size (by repeat (first | (with_reducible first | exact HB.out | apply below_alloc | apply pw_below_drewN | apply below_drew1) | exact HB.out)))); have n2_ := Aside0.mk (below_step (by repeat (first | (with_reducible first | exact HB.out | apply below_alloc | apply pw_below_drewN | apply below_drew1) | exact HB.out)) hb); clear HO419; clear HB; have HO419 := n0_; have HO422 := n1_; have HB := n2_; clear n0_ n1_ n2_; (try clear hb); (try clear hb2); (try clear hk); (try clear hi); (try clear ho0)))
  go_step3
  go_wp2
  go_loopg [8, 15] k (fun kq v8 v15 w' => ∃ (x7_1 : List Int) (x8_1 : Int) (x15_1 : Int), v8 = .int .i64 x8_1 ∧ v15 = .int .i64 x15_1 ∧ Aside0 (rot_orbits.l0 stp kq x7_1 x8_1 a0 x15_1 = some (r1, r2, r3)) ∧ Aside0 (kq ≤ k) ∧ Aside0 (Kd.R (Kd.int .i64) 3 w' w.heap.size (fun _ => True) v421 x7_1) ∧ Aside0 (Below w.heap.size w w'))
  case atStart => exact ⟨(t420), (0), (0), (by first | rfl | (simp; done) | (simp [*]; done)), (by first | rfl | (simp; done) | (simp [*]; done)), H', ⟨Nat.le_refl _⟩, ⟨by (with_reducible repeat (first | apply Kd.R_alloc | apply Kd.R_drewN | apply Kd.R_drew)); exact Kd.R_mono HO422.out (fun _ hk => trivial)⟩, ⟨by repeat (first | (with_reducible first | exact HB.out | apply below_alloc | apply pw_below_drewN | apply below_drew1) | exact HB.out)⟩⟩
  case round =>
    clear H'
    try clear p2
    try clear c4
    obtain ⟨x7_1, x8_1, x15_1, rfl, rfl, HA, HK1, HO_7, HB⟩ := hrel
    cases gk with
    | zero => exact absurd HA.out (by simp [rot_orbits.l0])
    | succ k1 =>
      have H := HA.out
      clear HA
      simp only [rot_orbits.l0] at H
      by_cases c7 : x15_1 < a0
      · rw [if_pos c7] at H
        have c7b0 : decide (x15_1 < a0) = true := decide_eq_true c7
        clear c7
        by_cases c8 : 0 ≤ x15_1
        · rw [if_pos c8] at H
          have c8b0 : decide (0 ≤ x15_1) = true := decide_eq_true c8
          clear c8
          by_cases c9 : x15_1 < (x7_1.length : Int)
          · rw [if_pos c9] at H
            have c9b0 : decide (x15_1 < (x7_1.length : Int)) = true := decide_eq_true c9
            clear c9
            by_cases c10 : (rd x7_1 x15_1) ≥ 0
            · rw [if_pos c10] at H
              have c10b0 : decide (0 ≤ (rd x7_1 x15_1)) = true := decide_eq_true c10
              clear c10
              have H' := Aside0.mk H
              clear H
              obtain ⟨Ao11, co11, eo11⟩ := Kd.R_slice HO_7.out
              subst eo11
              have p423 : 0 ≤ (x15_1 : Int) := of_decide_eq_true (by first | (with_reducible assumption) | assumption)
              have q423 : x15_1 < (x7_1.length : Int) := of_decide_eq_true (by first | (with_reducible assumption) | assumption)
              obtain ⟨ad423, e423, hx423_0⟩ := Kd.at_int (Kd.R_reads' HO_7.out).2.2 x15_1 p423 q423
              cases e423
              replace p423 := eq_true p423
              replace q423 := eq_true q423
              go_wp2
              go_roundg k1
              case measure => have := HK1.out; omega
              case rel => exact ⟨(x7_1), (x8_1), (wrap64 (x15_1 + 1)), (by first | rfl | (simp; done) | (simp [*]; done)), (by first | rfl | (simp; done) | (simp [*]; done)), H', ⟨by have := HK1.out; omega⟩, ⟨by (with_reducible repeat (first | apply Kd.R_alloc | apply Kd.R_drewN | apply Kd.R_drew)); exact HO_7.out⟩, ⟨by repeat (first | (with_reducible first | exact HB.out | apply below_alloc | apply pw_below_drewN | apply below_drew1) | exact HB.out)⟩⟩
            · rw [if_neg c10] at H
              have c10b0 : decide (0 ≤ (rd x7_1 x15_1)) = false := decide_eq_false c10
              clear c10
              have H' := Aside0.mk H
              clear H
              obtain ⟨go12, co12, eo12, gbq, glq, clq, HGq⟩ := Kd.R_form HO_7.out (by have h1_ := of_decide_eq_true c8b0; have h2_ := of_decide_eq_true c9b0; omega)
              subst eo12
              have HGGq := Aside0.mk HGq
              clear gbq glq HGq
              have p423 : 0 ≤ (x15_1 : Int) := of_decide_eq_true (by first | (with_reducible assumption) | assumption)
              have q423 : x15_1 < (x7_1.length : Int) := of_decide_eq_true (by first | (with_reducible assumption) | assumption)
              obtain ⟨ad423, e423, hx423_0⟩ := Kd.at_int (Kd.R_reads' HO_7.out).2.2 x15_1 p423 q423
              cases e423
              (first | simp only [add_plain] at hx423_0 | skip)
              replace p423 := eq_true p423
              replace q423 := eq_true q423
              go_wp2
              go_loopg [10] k1 (fun kq v10 w' => ∃ (x7_2 : List Int) (x10_2 : Int), v10 = .int .i64 x10_2 ∧ Aside0 (rot_orbits.l1 stp kq x7_2 x8_1 x15_1 x10_2 a0 x15_1 = some (r1, r2, r3)) ∧ Aside0 (kq ≤ k1) ∧ Aside0 (Kd.R (Kd.int .i64) 3 w' w.heap.size (fun _ => True) (.slice (some ⟨go12, 0, none⟩) x7_1.length co12) x7_2) ∧ Aside0 (Below w.heap.size w w'))
              case atStart => exact ⟨(x7_1), (x15_1), (by first | rfl | (simp; done) | (simp [*]; done)), H', ⟨Nat.le_refl _⟩, ⟨by (with_reducible repeat (first | apply Kd.R_alloc | apply Kd.R_drewN | apply Kd.R_drew)); exact HO_7.out⟩, ⟨by repeat (first | (with_reducible first | exact HB.out | apply below_alloc | apply pw_below_drewN | apply below_drew1) | exact HB.out)⟩⟩
              case round =>
                clear H'
                try clear c1
                try clear p2
                try clear c4
                try clear p4
                try clear q4
                try clear hx4
                try clear p6
                try clear c7
                try clear c7b0
                try clear c8
                try clear c8b0
                try clear c9
                try clear c9b0
                try clear c10
                try clear c10b0
                try clear hx423_0
                try clear p2
                try clear p423
                try clear q423
                obtain ⟨x7_2, x10_2, rfl, HA, HK2, HO_7, HB⟩ := hrel
                have hl7_2 := (Kd.R_reads' HO_7.out).1
                rw [hl7_2] at HO_7
                (try simp only [hl7_2])
                cases gk with
                | zero => exact absurd HA.out (by simp [rot_orbits.l1])
                | succ k2 =>
                  have H := HA.out
                  clear HA
                  simp only [rot_orbits.l1] at H
                  by_cases c13 : 0 ≤ x10_2
                  · rw [if_pos c13] at H
                    have c13b0 : decide (0 ≤ x10_2) = true := decide_eq_true c13
                    clear c13
                    by_cases c14 : x10_2 < (x7_2.length : Int)
                    · rw [if_pos c14] at H
                      have c14b0 : decide (x10_2 < (x7_2.length : Int)) = true := decide_eq_true c14
                      clear c14
                      by_cases c15 : (rd x7_2 x10_2) < 0
                      · rw [if_pos c15] at H
                        have c15b0 : decide ((rd x7_2 x10_2) < 0) = true := decide_eq_true c15
                        clear c15
                        obtain ⟨y425, hy425⟩ : ∃ y_ : List Int, y_ = (x7_2.set (x10_2 : Int).toNat x8_1) := ⟨_, rfl⟩
                        replace H : ((stp.f x10_2).bind fun t426 => (rot_orbits.l1 stp k2 y425 x8_1 x15_1 t426 a0 x15_1)) = some (r1, r2, r3) := by first | (rw [hy425]; with_reducible exact H) | (have H2_ := (Option.bind_some _ _).symm.trans H; rw [hy425]; with_reducible exact H2_) | (have H2_ := (Option.bind_some _ _).symm.trans H; with_reducible exact H2_) | with_reducible exact H | (rw [hy425]; exact H) | exact H
                        have Ny425 := Aside0.mk hy425
                        clear hy425
                        replace H := Option.bind_eq_some_iff.mp H
                        obtain ⟨t426, A170, H⟩ := H
                        replace H : (rot_orbits.l1 stp k2 y425 x8_1 x15_1 t426 a0 x15_1) = some (r1, r2, r3) := H
                        have A17 := Aside0.mk A170
                        clear A170
                        have H' := Aside0.mk H
                        clear H
                        have p424 : 0 ≤ (x10_2 : Int) := of_decide_eq_true (by first | (with_reducible assumption) | assumption)
                        have q424 : x10_2 < (x7_2.length : Int) := of_decide_eq_true (by first | (with_reducible assumption) | assumption)
                        obtain ⟨ad424, e424, hx424_0⟩ := Kd.at_int (Kd.R_reads' HO_7.out).2.2 x10_2 p424 q424
                        cases e424; (first | simp only [add_plain] at hx424_0 | skip)
                        replace p424 := eq_true p424
                        replace q424 := eq_true q424
                        have p16 : 0 ≤ (x10_2 : Int) := of_decide_eq_true (by first | (with_reducible assumption) | assumption)
                        have q16 : (x10_2 : Int) < ((x7_2.length : Int) : Int) := of_decide_eq_true (by first | (with_reducible assumption) | assumption)
                        obtain ⟨go16, co16, eo16, gb16, gl16, cl16, HG16⟩ := Kd.R_form HO_7.out (by omega)
                        (first | cases eo16 | (injection eo16 with ea_ en_ ec_; (first | subst ea_ | (injection ea_ with ea_; subst ea_)); subst ec_; clear en_))
                        have GB16 := Aside0.mk gb16
                        have GG16 := Aside0.mk HG16
                        clear gb16 gl16 HG16
                        (first | simp only [add_plain] at hx423_0 | skip)
                        (first | simp only [add_plain] at hx424_0 | skip)
                        obtain ⟨hx16_0, hf16_0⟩ := Kd.R_celln 0 HO_7.out (x10_2 : Int) p16 q16
                        replace p16 := eq_true p16
                        replace q16 := eq_true q16
                        have HP18 := Kd.R_putg HO_7.out (x10_2 : Int) x8_1
                        go_wp2_with (first | ((with_reducible refine gate_store (t := 3) (p := 35) rfl ?_); refine store_event (t := 3) (p := 35) (v := ?vo_w19) (w1 := (wr.setCell ⟨go12, (x10_2 : Int).toNat, none⟩ (.int .i64 x8_1))) ?hg ?ho ?hn ?hr ?_; (case ho => rfl); (case hg => rfl); (case hn => rfl); (case hr => first | (go_simp; done) | (go_simp; rfl)); intro w19 hw; have hg : wr.grownBy w19 (some go12) := (by rw [hw]; exact HP18.2); have hp_ : Kd.R (Kd.int .i64) 3 w19 w.heap.size (fun _ => True) (.slice (some ⟨go12, 0, none⟩) x7_2.length co12) y425 := (by rw [hw, Ny425.out]; exact HP18.1); clear HP18; have n0_ := Aside0.mk (hp_); have n1_ := Aside0.mk ((by rw [hw]; exact below_set (HB.out) GB16.out : Below w.heap.size w w19)); clear HO_7; clear HB; have HO_7 := n0_; have HB := n1_; clear n0_ n1_; clear hg hw hp_) | ((with_reducible refine gate_dst (N := 31) rfl ?_); refine goesV_ (some 31) rfl rfl SK.out rfl rfl x10_2 t426 ?hag ?hbw A17.out ?_; (case hag => (try simp only [List.map_toArray, List.map_cons, List.map_nil]); first | done | rfl); (case hbw => exact HB.out); intro w20 hb; have n0_ := Aside0.mk (Kd.R_below (by (with_reducible repeat (first | apply Kd.R_alloc | apply Kd.R_drewN | apply Kd.R_drew)); exact HO_7.out) hb); have n1_ := Aside0.mk (below_step (by repeat (first | (with_reducible first | exact HB.out | apply below_alloc | apply pw_below_drewN | apply below_drew1) | exact HB.out)) hb); clear HO_7; clear HB; have HO_7 := n0_; have HB := n1_; clear n0_ n1_; (try clear hb); (try clear hb2); (try clear hk); (try clear hi)))
                        (try simp only [← hl7_2])
                        go_roundg k2
                        case measure => have := HK1.out; have := HK2.out; omega
                        case rel => exact ⟨(y425), (t426), (by first | rfl | (simp; done) | (simp [*]; done)), H', ⟨by have := HK1.out; have := HK2.out; omega⟩, ⟨by (try simp only [hl7_2]); (with_reducible repeat (first | apply Kd.R_alloc | apply Kd.R_drewN | apply Kd.R_drew)); exact HO_7.out⟩, ⟨by repeat (first | (with_reducible first | exact HB.out | apply below_alloc | apply pw_below_drewN | apply below_drew1) | exact HB.out)⟩⟩
                      · rw [if_neg c15] at H
                        have c15b0 : decide ((rd x7_2 x10_2) < 0) = false := decide_eq_false c15
                        clear c15
                        by_cases c21 : x10_2 = x15_1
                        · rw [if_pos c21] at H
                          have c21b0 : (x10_2 == x15_1) = true := beq_iff_eq.mpr c21
                          have c21b1 : (x10_2 != x15_1) = false := bne_eq_false_iff_eq.mpr c21
                          clear c21
                          have H' := Aside0.mk H
                          clear H
                          have p424 : 0 ≤ (x10_2 : Int) := of_decide_eq_true (by first | (with_reducible assumption) | assumption)
                          have q424 : x10_2 < (x7_2.length : Int) := of_decide_eq_true (by first | (with_reducible assumption) | assumption)
                          obtain ⟨ad424, e424, hx424_0⟩ := Kd.at_int (Kd.R_reads' HO_7.out).2.2 x10_2 p424 q424
                          cases e424; (first | simp only [add_plain] at hx424_0 | skip)
                          replace p424 := eq_true p424
                          replace q424 := eq_true q424
                          go_wp2
                          (try simp only [← hl7_2])
                          go_roundg k2
                          case measure => have := HK1.out; have := HK2.out; omega
                          case rel => exact ⟨(x7_2), (wrap64 (x8_1 + 1)), (wrap64 (x15_1 + 1)), (by first | rfl | (simp; done) | (simp [*]; done)), (by first | rfl | (simp; done) | (simp [*]; done)), H', ⟨by have := HK1.out; have := HK2.out; omega⟩, ⟨by (try simp only [hl7_2]); (with_reducible repeat (first | apply Kd.R_alloc | apply Kd.R_drewN | apply Kd.R_drew)); exact HO_7.out⟩, ⟨by repeat (first | (with_reducible first | exact HB.out | apply below_alloc | apply pw_below_drewN | apply below_drew1) | exact HB.out)⟩⟩
                        · rw [if_neg c21] at H
                          have c21b0 : (x10_2 == x15_1) = false := beq_eq_false_iff_ne.mpr c21
                          have c21b1 : (x10_2 != x15_1) = true := bne_iff_ne.mpr c21
                          simp only [Option.some.injEq, Prod.mk.injEq] at H
                          obtain ⟨rfl, rfl, rfl⟩ := H
                          have p424 : 0 ≤ (x10_2 : Int) := of_decide_eq_true (by first | (with_reducible assumption) | assumption)
                          have q424 : x10_2 < (x7_2.length : Int) := of_decide_eq_true (by first | (with_reducible assumption) | assumption)
                          obtain ⟨ad424, e424, hx424_0⟩ := Kd.at_int (Kd.R_reads' HO_7.out).2.2 x10_2 p424 q424
                          cases e424; (first | simp only [add_plain] at hx424_0 | skip)
                          replace p424 := eq_true p424
                          replace q424 := eq_true q424
                          go_wp2
                          try rw [Exit.noGoto_ret]
                          go_ret3
                          exact ⟨_, by first | rfl | (simp [errW_none, errW_some] <;> rfl) | (simp [*, errW_none, errW_some] <;> rfl), by first | exact Kd.R_nil _ _ _ _ _ | exact Kd.N_nil _ _ _ _ _ | exact Kd.V_nil _ _ _ _ _ | exact Kd.Q_nil _ _ _ _ _ | exact Kd.S_nil _ _ _ _ _, by repeat (first | (with_reducible first | exact HB.out | apply below_alloc | apply pw_below_drewN | apply below_drew1) | exact HB.out)⟩
                    · rw [if_neg c14] at H
                      exact absurd H (by simp)
                  · rw [if_neg c13] at H
                    exact absurd H (by simp)
          · rw [if_neg c9] at H
            exact absurd H (by simp)
        · rw [if_neg c8] at H
          exact absurd H (by simp)
      · rw [if_neg c7] at H
        have c7b0 : decide (x15_1 < a0) = false := decide_eq_false c7
        clear c7
        simp only [Option.some.injEq, Prod.mk.injEq] at H
        obtain ⟨rfl, rfl, rfl⟩ := H
        go_wp2
        try rw [Exit.noGoto_ret]
        go_ret3
        exact ⟨_, by first | rfl | (simp [errW_none, errW_some] <;> rfl) | (simp [*, errW_none, errW_some] <;> rfl), by (with_reducible repeat (first | apply Kd.R_alloc | apply Kd.R_drewN | apply Kd.R_drew)); exact HO_7.out, by repeat (first | (with_reducible first | exact HB.out | apply below_alloc | apply pw_below_drewN | apply below_drew1) | exact HB.out)⟩

end Go.Proofs.Ytoipfbffdcahoaa.P
