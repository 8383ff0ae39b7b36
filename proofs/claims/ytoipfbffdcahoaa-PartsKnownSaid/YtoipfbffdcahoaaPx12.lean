-- Written by a program of this session: a scratch copy of the kit's printer in which some functions are external. Lean checks it.
import Derived.Test.YtoipfbffdcahoaaPx0
import Derived.Test.YtoipfbffdcahoaaPx8
import Derived.Test.YtoipfbffdcahoaaPx10
import Derived.Test.YtoipfbffdcahoaaPx11
import Derived.Test.YtoipfbffdcahoaaEOrb
namespace Go.Proofs.Ytoipfbffdcahoaa.P
open Go.RowKit Go.Proofs.YtoipfbffdcahoaaW.PrintWords Go.Proofs.YtoipfbffdcahoaaW.PrintLast Go.Proofs.YtoipfbffdcahoaaW.PrintMore
attribute [local go_sem] max2_int min2_int max_two min_two max_three min_three max_four min_four   -- for this text's walks alone
set_option linter.unusedVariables false
set_option linter.unusedSimpArgs false

/-! ### rot_Check: function 17 -/
def rot_Check.l0 : Nat → List Int → Int → Int → Int → List Int → List Int → List Int → Option (Int)
  | 0, _, _, _, _, _, _, _ => none
  | k + 1, x19, x20, x21, x467000, x467001, x467002, x467003 => if x21 < x20 then (if 0 ≤ x21 then (if x21 < (x19.length : Int) then (if (rd x19 x21) < 0 then (some 4) else (if (rd x19 x21) > 2147483648 then (some 4) else (rot_Check.l0 k x19 x20 (wrap64 (x21 + 1)) x467000 x467001 x467002 x467003))) else (none)) else (none)) else ((rot_Parts.f k x467000 x467001 x467002 x467003).bind fun bt470 => (if bt470.2 = 1 then ((rot_Faces.f k x467000 x467001 x467002 x467003).bind fun bt474 => (if (wrap64 ((wrap64 (x467000 - (wrap64 ((x467001.length : Int) / 2)))) + bt474.2)) = 2 then (some 0) else (some 8))) else (some 7)))
def rot_Check.f (k : Nat) (a0_0 : Int) (l0_1 : List Int) (l0_2 : List Int) (l0_3 : List Int) : Option (Int) := (rot_shape.f k a0_0 l0_1 l0_2 l0_3).bind fun t467 => (if t467 = 0 then ((rot_turns.f k a0_0 l0_1 l0_2 l0_3).bind fun t468 => (if t468 = true then (rot_Check.l0 k l0_3 (l0_3.length : Int) 0 a0_0 l0_1 l0_2 l0_3) else (some 6))) else (some t467))
theorem rot_Check.mono_l : ∀ k, (∀ y0 y1 y2 y3 y4 y5 y6, LeO (rot_Check.l0 k y0 y1 y2 y3 y4 y5 y6) (rot_Check.l0 (k + 1) y0 y1 y2 y3 y4 y5 y6))
  | 0 => fun _ _ _ _ _ _ _ r h => by simp [rot_Check.l0] at h
  | k + 1 => by
    have ih0 := rot_Check.mono_l k
    · intro y0 y1 y2 y3 y4 y5 y6
      unfold rot_Check.l0
      repeat' first
      | (with_reducible exact ih0 _ _ _ _ _ _ _)
      | (with_reducible exact rot_Faces.mono _ _ _ _ _)
      | (with_reducible exact rot_Parts.mono _ _ _ _ _)
      | (with_reducible exact rot_shape.mono _ _ _ _ _)
      | (with_reducible exact rot_turns.mono _ _ _ _ _)
      | (with_reducible exact LeO.refl _)
      | (with_reducible exact LeO.none _)
      | (with_reducible refine LeO.ite ?_ ?_)
      | (with_reducible refine LeO.bind ?_ (fun _ => ?_))
      | exact ih0 _ _ _ _ _ _ _
      | exact rot_Faces.mono _ _ _ _ _
      | exact rot_Parts.mono _ _ _ _ _
      | exact rot_shape.mono _ _ _ _ _
      | exact rot_turns.mono _ _ _ _ _
      | exact LeO.none _
      | refine LeO.ite ?_ ?_
      | refine LeO.bind ?_ (fun _ => ?_)
theorem rot_Check.mono : ∀ a0 a1 a2 a3 k, LeO (rot_Check.f k a0 a1 a2 a3) (rot_Check.f (k + 1) a0 a1 a2 a3) := by
  intro a0 a1 a2 a3 k
  have ih0 := rot_Check.mono_l k
  unfold rot_Check.f
  repeat' first
      | (with_reducible exact ih0 _ _ _ _ _ _ _)
      | (with_reducible exact rot_Faces.mono _ _ _ _ _)
      | (with_reducible exact rot_Parts.mono _ _ _ _ _)
      | (with_reducible exact rot_shape.mono _ _ _ _ _)
      | (with_reducible exact rot_turns.mono _ _ _ _ _)
      | (with_reducible exact LeO.refl _)
      | (with_reducible exact LeO.none _)
      | (with_reducible refine LeO.ite ?_ ?_)
      | (with_reducible refine LeO.bind ?_ (fun _ => ?_))
      | exact ih0 _ _ _ _ _ _ _
      | exact rot_Faces.mono _ _ _ _ _
      | exact rot_Parts.mono _ _ _ _ _
      | exact rot_shape.mono _ _ _ _ _
      | exact rot_turns.mono _ _ _ _ _
      | exact LeO.none _
      | refine LeO.ite ?_ ?_
      | refine LeO.bind ?_ (fun _ => ?_)
set_option maxHeartbeats 8000000 in
set_option maxRecDepth 100000 in
theorem rot_Check.calls (k : Nat) (a0_0 : Int) (A0_1 : Option Addr) (c0_1 : Nat) (l0_1 : List Int) (A0_2 : Option Addr) (c0_2 : Nat) (l0_2 : List Int) (A0_3 : Option Addr) (c0_3 : Nat) (l0_3 : List Int) (r : Int) (w : World) (hr0_1 : Kd.C (Kd.int .i64) w A0_1 l0_1.length l0_1) (hc0_1 : l0_1.length ≤ c0_1) (hr0_2 : Kd.C (Kd.int .i64) w A0_2 l0_2.length l0_2) (hc0_2 : l0_2.length ≤ c0_2) (hr0_3 : Kd.C (Kd.int .i64) w A0_3 l0_3.length l0_3) (hc0_3 : l0_3.length ≤ c0_3) (h : rot_Check.f k a0_0 l0_1 l0_2 l0_3 = some r) :
    Calls Try.prog 17 #[.agg #[.int .i64 a0_0, .slice A0_1 l0_1.length c0_1, .slice A0_2 l0_2.length c0_2, .slice A0_3 l0_3.length c0_3]] w fun e w' => e = .returned (.int .i64 r) ∧ Below w.heap.size w w' := by
  have hu25 := Try.underlying25
  have HR0_1 := Aside0.mk hr0_1
  have HC0_1 := Aside0.mk hc0_1
  clear hr0_1 hc0_1
  have HR0_2 := Aside0.mk hr0_2
  have HC0_2 := Aside0.mk hc0_2
  clear hr0_2 hc0_2
  have HR0_3 := Aside0.mk hr0_3
  have HC0_3 := Aside0.mk hc0_3
  clear hr0_3 hc0_3
  have HB := Aside0.mk (Below.refl w.heap.size w)
  have H : ((rot_shape.f k a0_0 l0_1 l0_2 l0_3).bind fun t467 => (if t467 = 0 then ((rot_turns.f k a0_0 l0_1 l0_2 l0_3).bind fun t468 => (if t468 = true then (rot_Check.l0 k l0_3 (l0_3.length : Int) 0 a0_0 l0_1 l0_2 l0_3) else (some 6))) else (some t467))) = some r := h
  clear h
  replace H := Option.bind_eq_some_iff.mp H
  obtain ⟨t467, A20, H⟩ := H
  replace H : (if t467 = 0 then ((rot_turns.f k a0_0 l0_1 l0_2 l0_3).bind fun t468 => (if t468 = true then (rot_Check.l0 k l0_3 (l0_3.length : Int) 0 a0_0 l0_1 l0_2 l0_3) else (some 6))) else (some t467)) = some r := H
  have A2 := Aside0.mk A20
  clear A20
  by_cases c3 : t467 = 0
  · rw [if_pos c3] at H
    have c3b0 : (t467 == 0) = true := beq_iff_eq.mpr c3
    have c3b1 : (t467 != 0) = false := bne_eq_false_iff_eq.mpr c3
    clear c3
    replace H := Option.bind_eq_some_iff.mp H
    obtain ⟨t468, A40, H⟩ := H
    replace H : (if t468 = true then (rot_Check.l0 k l0_3 (l0_3.length : Int) 0 a0_0 l0_1 l0_2 l0_3) else (some 6)) = some r := H
    have A4 := Aside0.mk A40
    clear A40
    by_cases c5 : t468 = true
    · subst c5
      have H1 : (rot_Check.l0 k l0_3 (l0_3.length : Int) 0 a0_0 l0_1 l0_2 l0_3) = some r := by rw [if_pos rfl] at H; exact H
      clear H
      have H := H1
      clear H1
      have H' := Aside0.mk H
      clear H
      go_enter Try.func17, Try.ntmps17
      go_wp2_with (first | ((with_reducible refine gate_dst (N := 1) rfl ?_); refine box_event ?hg (N := 1) ?hd (cs := #[.int .i64 a0_0, .slice A0_1 l0_1.length c0_1, .slice A0_2 l0_2.length c0_2, .slice A0_3 l0_3.length c0_3]) (t := 25) ?hr ?_; (case hd => rfl); (case hg => rfl); (case hr => first | (go_simp; done) | (go_simp; rfl)); intro gb466 hg w6 hbox hb; have n0_ := Aside0.mk (below_step (by repeat (first | (with_reducible first | exact HB.out | apply below_alloc | apply pw_below_drewN | apply below_drew1) | exact HB.out)) hb); have n1_ := Aside0.mk (hbox); have n2_ := Aside0.mk ((by rw [hg]; exact (below_size (by repeat (first | (with_reducible first | exact HB.out | apply below_alloc | apply pw_below_drewN | apply below_drew1) | exact HB.out))) : w.heap.size ≤ gb466)); have n3_ := Aside0.mk ((by rw [hg]; exact (below_size (by repeat (first | (with_reducible first | exact HB.out | apply below_alloc | apply pw_below_drewN | apply below_drew1) | exact HB.out))) : w.heap.size ≤ gb466)); clear HB; have HB := n0_; have BK466 := n1_; have GW466 := n2_; have GE466 := n3_; clear n0_ n1_ n2_ n3_; clear hb hbox hg; have hcz7_0 : w6.cell? ⟨gb466, 0, none⟩ = some (.int .i64 a0_0) := (blk_cell BK466.out 0).trans rfl; have hcz7_1 : w6.cell? ⟨gb466, 1, none⟩ = some (.slice A0_1 l0_1.length c0_1) := (blk_cell BK466.out 1).trans rfl; have hcz7_2 : w6.cell? ⟨gb466, 2, none⟩ = some (.slice A0_2 l0_2.length c0_2) := (blk_cell BK466.out 2).trans rfl; have hcz7_3 : w6.cell? ⟨gb466, 3, none⟩ = some (.slice A0_3 l0_3.length c0_3) := (blk_cell BK466.out 3).trans rfl; have hfz7_0 := blk_frozen BK466.out 0; have hfz7_1 := blk_frozen BK466.out 1; have hfz7_2 := blk_frozen BK466.out 2; have hfz7_3 := blk_frozen BK466.out 3) | ((with_reducible refine gate_callee (f := 27) rfl ?_); refine goesL_ (some 11) rfl rfl Try.func27 (by kernel_rfl) rfl #[.agg #[.int .i64 a0_0, .slice A0_1 l0_1.length c0_1, .slice A0_2 l0_2.length c0_2, .slice A0_3 l0_3.length c0_3]] rfl (by (try simp only [List.map_toArray, List.map_cons, List.map_nil]); first | done | rfl | (simp only [List.length_drop, List.length_take]; rfl)) ?_; (with_reducible refine (rot_shape.calls k a0_0 _ _ l0_1 _ _ l0_2 _ _ l0_3 t467 _ ?side1 ?side2 ?side3 ?side4 ?side5 ?side6 A2.out).mono ?_); (case side1 => repeat (first | exact (Kd.C_below HR0_1.out HB.out) | (with_reducible refine Kd.C_alloc ?_ _) | (with_reducible refine Kd.C_drewN ?_ _) | (with_reducible refine Kd.C_drew ?_))); (case side2 => exact HC0_1.out); (case side3 => repeat (first | exact (Kd.C_below HR0_2.out HB.out) | (with_reducible refine Kd.C_alloc ?_ _) | (with_reducible refine Kd.C_drewN ?_ _) | (with_reducible refine Kd.C_drew ?_))); (case side4 => exact HC0_2.out); (case side5 => repeat (first | exact (Kd.C_below HR0_3.out HB.out) | (with_reducible refine Kd.C_alloc ?_ _) | (with_reducible refine Kd.C_drewN ?_ _) | (with_reducible refine Kd.C_drew ?_))); (case side6 => exact HC0_3.out); rintro e w8 ⟨rfl, hb⟩; refine ⟨_, rfl, ?_⟩; have n0_ := Aside0.mk (blk_below (g := gb466) (o := .cells #[.int .i64 a0_0, .slice A0_1 l0_1.length c0_1, .slice A0_2 l0_2.length c0_2, .slice A0_3 l0_3.length c0_3] 25 (0, 0)) (by (with_reducible repeat (first | refine blk_drewN ?_ _ | refine blk_drew ?_ | refine blk_alloc ?_ _)); exact BK466.out) hb); have n1_ := Aside0.mk (below_step (by repeat (first | (with_reducible first | exact HB.out | apply below_alloc | apply pw_below_drewN | apply below_drew1 | refine below_set ?_ GE466.out) | exact HB.out)) hb); clear BK466; clear HB; have BK466 := n0_; have HB := n1_; clear n0_ n1_; (try clear hb); (try clear hb2); (try clear hk); (try clear hi); have hcz9_0 : w8.cell? ⟨gb466, 0, none⟩ = some (.int .i64 a0_0) := (blk_cell BK466.out 0).trans rfl; have hcz9_1 : w8.cell? ⟨gb466, 1, none⟩ = some (.slice A0_1 l0_1.length c0_1) := (blk_cell BK466.out 1).trans rfl; have hcz9_2 : w8.cell? ⟨gb466, 2, none⟩ = some (.slice A0_2 l0_2.length c0_2) := (blk_cell BK466.out 2).trans rfl; have hcz9_3 : w8.cell? ⟨gb466, 3, none⟩ = some (.slice A0_3 l0_3.length c0_3) := (blk_cell BK466.out 3).trans rfl; have hfz9_0 := blk_frozen BK466.out 0; have hfz9_1 := blk_frozen BK466.out 1; have hfz9_2 := blk_frozen BK466.out 2; have hfz9_3 := blk_frozen BK466.out 3) | ((with_reducible refine gate_callee (f := 28) rfl ?_); refine goesL_ (some 16) rfl rfl Try.func28 (by kernel_rfl) rfl #[.agg #[.int .i64 a0_0, .slice A0_1 l0_1.length c0_1, .slice A0_2 l0_2.length c0_2, .slice A0_3 l0_3.length c0_3]] rfl (by (try simp only [List.map_toArray, List.map_cons, List.map_nil]); first | done | rfl | (simp only [List.length_drop, List.length_take]; rfl)) ?_; (with_reducible refine (rot_turns.calls k a0_0 _ _ l0_1 _ _ l0_2 _ _ l0_3 true _ ?side1 ?side2 ?side3 ?side4 ?side5 ?side6 A4.out).mono ?_); (case side1 => repeat (first | exact (Kd.C_below HR0_1.out HB.out) | (with_reducible refine Kd.C_alloc ?_ _) | (with_reducible refine Kd.C_drewN ?_ _) | (with_reducible refine Kd.C_drew ?_))); (case side2 => exact HC0_1.out); (case side3 => repeat (first | exact (Kd.C_below HR0_2.out HB.out) | (with_reducible refine Kd.C_alloc ?_ _) | (with_reducible refine Kd.C_drewN ?_ _) | (with_reducible refine Kd.C_drew ?_))); (case side4 => exact HC0_2.out); (case side5 => repeat (first | exact (Kd.C_below HR0_3.out HB.out) | (with_reducible refine Kd.C_alloc ?_ _) | (with_reducible refine Kd.C_drewN ?_ _) | (with_reducible refine Kd.C_drew ?_))); (case side6 => exact HC0_3.out); rintro e w10 ⟨rfl, hb⟩; refine ⟨_, rfl, ?_⟩; have n0_ := Aside0.mk (blk_below (g := gb466) (o := .cells #[.int .i64 a0_0, .slice A0_1 l0_1.length c0_1, .slice A0_2 l0_2.length c0_2, .slice A0_3 l0_3.length c0_3] 25 (0, 0)) (by (with_reducible repeat (first | refine blk_drewN ?_ _ | refine blk_drew ?_ | refine blk_alloc ?_ _)); exact BK466.out) hb); have n1_ := Aside0.mk (below_step (by repeat (first | (with_reducible first | exact HB.out | apply below_alloc | apply pw_below_drewN | apply below_drew1 | refine below_set ?_ GE466.out) | exact HB.out)) hb); clear BK466; clear HB; have BK466 := n0_; have HB := n1_; clear n0_ n1_; (try clear hb); (try clear hb2); (try clear hk); (try clear hi); have hcz11_0 : w10.cell? ⟨gb466, 0, none⟩ = some (.int .i64 a0_0) := (blk_cell BK466.out 0).trans rfl; have hcz11_1 : w10.cell? ⟨gb466, 1, none⟩ = some (.slice A0_1 l0_1.length c0_1) := (blk_cell BK466.out 1).trans rfl; have hcz11_2 : w10.cell? ⟨gb466, 2, none⟩ = some (.slice A0_2 l0_2.length c0_2) := (blk_cell BK466.out 2).trans rfl; have hcz11_3 : w10.cell? ⟨gb466, 3, none⟩ = some (.slice A0_3 l0_3.length c0_3) := (blk_cell BK466.out 3).trans rfl; have hfz11_0 := blk_frozen BK466.out 0; have hfz11_1 := blk_frozen BK466.out 1; have hfz11_2 := blk_frozen BK466.out 2; have hfz11_3 := blk_frozen BK466.out 3))
      go_loopg [21] k (fun kq v21 w' => ∃ (x21_1 : Int), v21 = .int .i64 x21_1 ∧ Aside0 (rot_Check.l0 kq l0_3 (l0_3.length : Int) x21_1 a0_0 l0_1 l0_2 l0_3 = some r) ∧ Aside0 (kq ≤ k) ∧ Aside0 (w'.heap[gb466]? = some (.cells #[.int .i64 a0_0, (.slice A0_1 l0_1.length c0_1), (.slice A0_2 l0_2.length c0_2), (.slice A0_3 l0_3.length c0_3)] 25 (0, 0))) ∧ Aside0 (Below w.heap.size w w'))
      case atStart => exact ⟨(0), (by first | rfl | (simp; done) | (simp [*]; done)), H', ⟨Nat.le_refl _⟩, ⟨by (with_reducible repeat (first | refine blk_drewN ?_ _ | refine blk_drew ?_ | refine blk_alloc ?_ _)); exact BK466.out⟩, ⟨by repeat (first | (with_reducible first | exact HB.out | apply below_alloc | apply pw_below_drewN | apply below_drew1 | refine below_set ?_ GE466.out) | exact HB.out)⟩⟩
      case round =>
        clear H'
        try clear c1
        try clear c2
        try clear p2
        try clear c3
        try clear c3b0
        try clear c3b1
        try clear c5
        try clear hcz11_0
        try clear hcz11_1
        try clear hcz11_2
        try clear hcz11_3
        try clear hcz7_0
        try clear hcz7_1
        try clear hcz7_2
        try clear hcz7_3
        try clear hcz9_0
        try clear hcz9_1
        try clear hcz9_2
        try clear hcz9_3
        try clear hfz11_0
        try clear hfz11_1
        try clear hfz11_2
        try clear hfz11_3
        try clear hfz7_0
        try clear hfz7_1
        try clear hfz7_2
        try clear hfz7_3
        try clear hfz9_0
        try clear hfz9_1
        try clear hfz9_2
        try clear hfz9_3
        obtain ⟨x21_1, rfl, HA, HK1, BK466, HB⟩ := hrel
        cases gk with
        | zero => exact absurd HA.out (by simp [rot_Check.l0])
        | succ k1 =>
          have H := HA.out
          clear HA
          simp only [rot_Check.l0] at H
          by_cases c12 : x21_1 < (l0_3.length : Int)
          · rw [if_pos c12] at H
            have c12b0 : decide (x21_1 < (l0_3.length : Int)) = true := decide_eq_true c12
            clear c12
            by_cases c13 : 0 ≤ x21_1
            · rw [if_pos c13] at H
              have c13b0 : decide (0 ≤ x21_1) = true := decide_eq_true c13
              clear c13
              by_cases c14 : x21_1 < (l0_3.length : Int)
              · rw [if_pos c14] at H
                have c14b0 : decide (x21_1 < (l0_3.length : Int)) = true := decide_eq_true c14
                clear c14
                by_cases c15 : (rd l0_3 x21_1) < 0
                · rw [if_pos c15] at H
                  have c15b0 : decide ((rd l0_3 x21_1) < 0) = true := decide_eq_true c15
                  clear c15
                  obtain rfl := Option.some.inj H
                  have p469 : 0 ≤ (x21_1 : Int) := of_decide_eq_true (by first | (with_reducible assumption) | assumption)
                  have q469 : x21_1 < (l0_3.length : Int) := of_decide_eq_true (by first | (with_reducible assumption) | assumption)
                  obtain ⟨ad469, e469, hx469_0⟩ := Kd.at_int HR0_3.out x21_1 p469 q469
                  cases e469
                  replace hx469_0 := (HB.out.cell (World.block_lt_of_cell? w _ hx469_0)).trans hx469_0
                  replace p469 := eq_true p469
                  replace q469 := eq_true q469
                  go_wp2
                  go_ret
                  exact ⟨by first | rfl | (simp [errW_none, errW_some] <;> rfl) | (simp [*, errW_none, errW_some] <;> rfl), by repeat (first | (with_reducible first | exact HB.out | apply below_alloc | apply pw_below_drewN | apply below_drew1 | refine below_set ?_ GE466.out) | exact HB.out)⟩
                · rw [if_neg c15] at H
                  have c15b0 : decide ((rd l0_3 x21_1) < 0) = false := decide_eq_false c15
                  clear c15
                  by_cases c16 : (rd l0_3 x21_1) > 2147483648
                  · rw [if_pos c16] at H
                    have c16b0 : decide (2147483648 < (rd l0_3 x21_1)) = true := decide_eq_true c16
                    clear c16
                    obtain rfl := Option.some.inj H
                    have p469 : 0 ≤ (x21_1 : Int) := of_decide_eq_true (by first | (with_reducible assumption) | assumption)
                    have q469 : x21_1 < (l0_3.length : Int) := of_decide_eq_true (by first | (with_reducible assumption) | assumption)
                    obtain ⟨ad469, e469, hx469_0⟩ := Kd.at_int HR0_3.out x21_1 p469 q469
                    cases e469
                    replace hx469_0 := (HB.out.cell (World.block_lt_of_cell? w _ hx469_0)).trans hx469_0
                    replace p469 := eq_true p469
                    replace q469 := eq_true q469
                    go_wp2
                    go_ret
                    exact ⟨by first | rfl | (simp [errW_none, errW_some] <;> rfl) | (simp [*, errW_none, errW_some] <;> rfl), by repeat (first | (with_reducible first | exact HB.out | apply below_alloc | apply pw_below_drewN | apply below_drew1 | refine below_set ?_ GE466.out) | exact HB.out)⟩
                  · rw [if_neg c16] at H
                    have c16b0 : decide (2147483648 < (rd l0_3 x21_1)) = false := decide_eq_false c16
                    clear c16
                    have H' := Aside0.mk H
                    clear H
                    have p469 : 0 ≤ (x21_1 : Int) := of_decide_eq_true (by first | (with_reducible assumption) | assumption)
                    have q469 : x21_1 < (l0_3.length : Int) := of_decide_eq_true (by first | (with_reducible assumption) | assumption)
                    obtain ⟨ad469, e469, hx469_0⟩ := Kd.at_int HR0_3.out x21_1 p469 q469
                    cases e469
                    replace hx469_0 := (HB.out.cell (World.block_lt_of_cell? w _ hx469_0)).trans hx469_0
                    replace p469 := eq_true p469
                    replace q469 := eq_true q469
                    go_wp2
                    go_roundg k1
                    case measure => have := HK1.out; omega
                    case rel => exact ⟨(wrap64 (x21_1 + 1)), (by first | rfl | (simp; done) | (simp [*]; done)), H', ⟨by have := HK1.out; omega⟩, ⟨by (with_reducible repeat (first | refine blk_drewN ?_ _ | refine blk_drew ?_ | refine blk_alloc ?_ _)); exact BK466.out⟩, ⟨by repeat (first | (with_reducible first | exact HB.out | apply below_alloc | apply pw_below_drewN | apply below_drew1 | refine below_set ?_ GE466.out) | exact HB.out)⟩⟩
              · rw [if_neg c14] at H
                exact absurd H (by simp)
            · rw [if_neg c13] at H
              exact absurd H (by simp)
          · rw [if_neg c12] at H
            have c12b0 : decide (x21_1 < (l0_3.length : Int)) = false := decide_eq_false c12
            clear c12
            replace H := Option.bind_eq_some_iff.mp H
            obtain ⟨⟨t470, t473⟩, A170, H⟩ := H
            replace H : (if t473 = 1 then ((rot_Faces.f k1 a0_0 l0_1 l0_2 l0_3).bind fun bt474 => (if (wrap64 ((wrap64 (a0_0 - (wrap64 ((l0_1.length : Int) / 2)))) + bt474.2)) = 2 then (some 0) else (some 8))) else (some 7)) = some r := H
            have A17 := Aside0.mk A170
            clear A170
            by_cases c18 : t473 = 1
            · rw [if_pos c18] at H
              have c18b0 : (t473 == 1) = true := beq_iff_eq.mpr c18
              have c18b1 : (t473 != 1) = false := bne_eq_false_iff_eq.mpr c18
              clear c18
              replace H := Option.bind_eq_some_iff.mp H
              obtain ⟨⟨t474, t477⟩, A190, H⟩ := H
              replace H : (if (wrap64 ((wrap64 (a0_0 - (wrap64 ((l0_1.length : Int) / 2)))) + t477)) = 2 then (some 0) else (some 8)) = some r := H
              have A19 := Aside0.mk A190
              clear A190
              by_cases c20 : (wrap64 ((wrap64 (a0_0 - (wrap64 ((l0_1.length : Int) / 2)))) + t477)) = 2
              · rw [if_pos c20] at H
                have c20b0 : ((wrap64 ((wrap64 (a0_0 - (wrap64 ((l0_1.length : Int) / 2)))) + t477)) == 2) = true := beq_iff_eq.mpr c20
                have c20b1 : ((wrap64 ((wrap64 (a0_0 - (wrap64 ((l0_1.length : Int) / 2)))) + t477)) != 2) = false := bne_eq_false_iff_eq.mpr c20
                clear c20
                obtain rfl := Option.some.inj H
                have hcz21_0 : wr.cell? ⟨gb466, 0, none⟩ = some (.int .i64 a0_0) := (blk_cell BK466.out 0).trans rfl
                have hcz21_1 : wr.cell? ⟨gb466, 1, none⟩ = some (.slice A0_1 l0_1.length c0_1) := (blk_cell BK466.out 1).trans rfl
                have hcz21_2 : wr.cell? ⟨gb466, 2, none⟩ = some (.slice A0_2 l0_2.length c0_2) := (blk_cell BK466.out 2).trans rfl
                have hcz21_3 : wr.cell? ⟨gb466, 3, none⟩ = some (.slice A0_3 l0_3.length c0_3) := (blk_cell BK466.out 3).trans rfl
                have hfz21_0 := blk_frozen BK466.out 0
                have hfz21_1 := blk_frozen BK466.out 1
                have hfz21_2 := blk_frozen BK466.out 2
                have hfz21_3 := blk_frozen BK466.out 3
                go_wp2_with (first | ((with_reducible refine gate_callee (f := 29) rfl ?_); refine goesL_ (some 34) rfl rfl Try.func29 (by kernel_rfl) rfl #[.agg #[.int .i64 a0_0, .slice A0_1 l0_1.length c0_1, .slice A0_2 l0_2.length c0_2, .slice A0_3 l0_3.length c0_3]] rfl (by (try simp only [List.map_toArray, List.map_cons, List.map_nil]); first | done | rfl | (simp only [List.length_drop, List.length_take]; rfl)) ?_; (with_reducible refine (rot_Parts.calls k1 a0_0 _ _ l0_1 _ _ l0_2 _ _ l0_3 t470 t473 _ ?side1 ?side2 ?side3 ?side4 ?side5 ?side6 A17.out).mono ?_); (case side1 => repeat (first | exact (Kd.C_below HR0_1.out HB.out) | (with_reducible refine Kd.C_alloc ?_ _) | (with_reducible refine Kd.C_drewN ?_ _) | (with_reducible refine Kd.C_drew ?_))); (case side2 => exact HC0_1.out); (case side3 => repeat (first | exact (Kd.C_below HR0_2.out HB.out) | (with_reducible refine Kd.C_alloc ?_ _) | (with_reducible refine Kd.C_drewN ?_ _) | (with_reducible refine Kd.C_drew ?_))); (case side4 => exact HC0_2.out); (case side5 => repeat (first | exact (Kd.C_below HR0_3.out HB.out) | (with_reducible refine Kd.C_alloc ?_ _) | (with_reducible refine Kd.C_drewN ?_ _) | (with_reducible refine Kd.C_drew ?_))); (case side6 => exact HC0_3.out); rintro e w22 ⟨v471, rfl, ho0, hb⟩; refine ⟨_, rfl, ?_⟩; have n0_ := Aside0.mk (Kd.R_lower ho0 (below_size (by repeat (first | (with_reducible first | exact HB.out | apply below_alloc | apply pw_below_drewN | apply below_drew1 | refine below_set ?_ GE466.out) | exact HB.out)))); have n1_ := Aside0.mk (blk_below (g := gb466) (o := .cells #[.int .i64 a0_0, .slice A0_1 l0_1.length c0_1, .slice A0_2 l0_2.length c0_2, .slice A0_3 l0_3.length c0_3] 25 (0, 0)) (by (with_reducible repeat (first | refine blk_drewN ?_ _ | refine blk_drew ?_ | refine blk_alloc ?_ _)); exact BK466.out) hb); have n2_ := Aside0.mk (below_step (by repeat (first | (with_reducible first | exact HB.out | apply below_alloc | apply pw_below_drewN | apply below_drew1 | refine below_set ?_ GE466.out) | exact HB.out)) hb); clear BK466; clear HB; have HO472 := n0_; have BK466 := n1_; have HB := n2_; clear n0_ n1_ n2_; (try clear hb); (try clear hb2); (try clear hk); (try clear hi); (try clear ho0); have hcz23_0 : w22.cell? ⟨gb466, 0, none⟩ = some (.int .i64 a0_0) := (blk_cell BK466.out 0).trans rfl; have hcz23_1 : w22.cell? ⟨gb466, 1, none⟩ = some (.slice A0_1 l0_1.length c0_1) := (blk_cell BK466.out 1).trans rfl; have hcz23_2 : w22.cell? ⟨gb466, 2, none⟩ = some (.slice A0_2 l0_2.length c0_2) := (blk_cell BK466.out 2).trans rfl; have hcz23_3 : w22.cell? ⟨gb466, 3, none⟩ = some (.slice A0_3 l0_3.length c0_3) := (blk_cell BK466.out 3).trans rfl; have hfz23_0 := blk_frozen BK466.out 0; have hfz23_1 := blk_frozen BK466.out 1; have hfz23_2 := blk_frozen BK466.out 2; have hfz23_3 := blk_frozen BK466.out 3) | ((with_reducible refine gate_callee (f := 30) rfl ?_); refine goesL_ (some 41) rfl rfl Try.func30 (by kernel_rfl) rfl #[.agg #[.int .i64 a0_0, .slice A0_1 l0_1.length c0_1, .slice A0_2 l0_2.length c0_2, .slice A0_3 l0_3.length c0_3]] rfl (by (try simp only [List.map_toArray, List.map_cons, List.map_nil]); first | done | rfl | (simp only [List.length_drop, List.length_take]; rfl)) ?_; (with_reducible refine (rot_Faces.calls k1 a0_0 _ _ l0_1 _ _ l0_2 _ _ l0_3 t474 t477 _ ?side1 ?side2 ?side3 ?side4 ?side5 ?side6 A19.out).mono ?_); (case side1 => repeat (first | exact (Kd.C_below HR0_1.out HB.out) | (with_reducible refine Kd.C_alloc ?_ _) | (with_reducible refine Kd.C_drewN ?_ _) | (with_reducible refine Kd.C_drew ?_))); (case side2 => exact HC0_1.out); (case side3 => repeat (first | exact (Kd.C_below HR0_2.out HB.out) | (with_reducible refine Kd.C_alloc ?_ _) | (with_reducible refine Kd.C_drewN ?_ _) | (with_reducible refine Kd.C_drew ?_))); (case side4 => exact HC0_2.out); (case side5 => repeat (first | exact (Kd.C_below HR0_3.out HB.out) | (with_reducible refine Kd.C_alloc ?_ _) | (with_reducible refine Kd.C_drewN ?_ _) | (with_reducible refine Kd.C_drew ?_))); (case side6 => exact HC0_3.out); rintro e w24 ⟨v475, rfl, ho0, hb⟩; refine ⟨_, rfl, ?_⟩; have n0_ := Aside0.mk (Kd.R_elder' (by (with_reducible repeat (first | apply Kd.R_alloc | apply Kd.R_drewN | apply Kd.R_drew)); exact HO472.out) (Kd.R_base ho0) hb); have n1_ := Aside0.mk (Kd.R_lower (Kd.R_new' ho0 (Kd.R_lt (by (with_reducible repeat (first | apply Kd.R_alloc | apply Kd.R_drewN | apply Kd.R_drew)); exact HO472.out))) (below_size (by repeat (first | (with_reducible first | exact HB.out | apply below_alloc | apply pw_below_drewN | apply below_drew1 | refine below_set ?_ GE466.out) | exact HB.out)))); have n2_ := Aside0.mk (blk_below (g := gb466) (o := .cells #[.int .i64 a0_0, .slice A0_1 l0_1.length c0_1, .slice A0_2 l0_2.length c0_2, .slice A0_3 l0_3.length c0_3] 25 (0, 0)) (by (with_reducible repeat (first | refine blk_drewN ?_ _ | refine blk_drew ?_ | refine blk_alloc ?_ _)); exact BK466.out) hb); have n3_ := Aside0.mk (below_step (by repeat (first | (with_reducible first | exact HB.out | apply below_alloc | apply pw_below_drewN | apply below_drew1 | refine below_set ?_ GE466.out) | exact HB.out)) hb); clear HO472; clear BK466; clear HB; have HO472 := n0_; have HO476 := n1_; have BK466 := n2_; have HB := n3_; clear n0_ n1_ n2_ n3_; (try clear hb); (try clear hb2); (try clear hk); (try clear hi); (try clear ho0); have hcz25_0 : w24.cell? ⟨gb466, 0, none⟩ = some (.int .i64 a0_0) := (blk_cell BK466.out 0).trans rfl; have hcz25_1 : w24.cell? ⟨gb466, 1, none⟩ = some (.slice A0_1 l0_1.length c0_1) := (blk_cell BK466.out 1).trans rfl; have hcz25_2 : w24.cell? ⟨gb466, 2, none⟩ = some (.slice A0_2 l0_2.length c0_2) := (blk_cell BK466.out 2).trans rfl; have hcz25_3 : w24.cell? ⟨gb466, 3, none⟩ = some (.slice A0_3 l0_3.length c0_3) := (blk_cell BK466.out 3).trans rfl; have hfz25_0 := blk_frozen BK466.out 0; have hfz25_1 := blk_frozen BK466.out 1; have hfz25_2 := blk_frozen BK466.out 2; have hfz25_3 := blk_frozen BK466.out 3))
                go_ret
                exact ⟨by first | rfl | (simp [errW_none, errW_some] <;> rfl) | (simp [*, errW_none, errW_some] <;> rfl), by repeat (first | (with_reducible first | exact HB.out | apply below_alloc | apply pw_below_drewN | apply below_drew1 | refine below_set ?_ GE466.out) | exact HB.out)⟩
              · rw [if_neg c20] at H
                have c20b0 : ((wrap64 ((wrap64 (a0_0 - (wrap64 ((l0_1.length : Int) / 2)))) + t477)) == 2) = false := beq_eq_false_iff_ne.mpr c20
                have c20b1 : ((wrap64 ((wrap64 (a0_0 - (wrap64 ((l0_1.length : Int) / 2)))) + t477)) != 2) = true := bne_iff_ne.mpr c20
                obtain rfl := Option.some.inj H
                have hcz26_0 : wr.cell? ⟨gb466, 0, none⟩ = some (.int .i64 a0_0) := (blk_cell BK466.out 0).trans rfl
                have hcz26_1 : wr.cell? ⟨gb466, 1, none⟩ = some (.slice A0_1 l0_1.length c0_1) := (blk_cell BK466.out 1).trans rfl
                have hcz26_2 : wr.cell? ⟨gb466, 2, none⟩ = some (.slice A0_2 l0_2.length c0_2) := (blk_cell BK466.out 2).trans rfl
                have hcz26_3 : wr.cell? ⟨gb466, 3, none⟩ = some (.slice A0_3 l0_3.length c0_3) := (blk_cell BK466.out 3).trans rfl
                have hfz26_0 := blk_frozen BK466.out 0
                have hfz26_1 := blk_frozen BK466.out 1
                have hfz26_2 := blk_frozen BK466.out 2
                have hfz26_3 := blk_frozen BK466.out 3
                go_wp2_with (first | ((with_reducible refine gate_callee (f := 29) rfl ?_); refine goesL_ (some 34) rfl rfl Try.func29 (by kernel_rfl) rfl #[.agg #[.int .i64 a0_0, .slice A0_1 l0_1.length c0_1, .slice A0_2 l0_2.length c0_2, .slice A0_3 l0_3.length c0_3]] rfl (by (try simp only [List.map_toArray, List.map_cons, List.map_nil]); first | done | rfl | (simp only [List.length_drop, List.length_take]; rfl)) ?_; (with_reducible refine (rot_Parts.calls k1 a0_0 _ _ l0_1 _ _ l0_2 _ _ l0_3 t470 t473 _ ?side1 ?side2 ?side3 ?side4 ?side5 ?side6 A17.out).mono ?_); (case side1 => repeat (first | exact (Kd.C_below HR0_1.out HB.out) | (with_reducible refine Kd.C_alloc ?_ _) | (with_reducible refine Kd.C_drewN ?_ _) | (with_reducible refine Kd.C_drew ?_))); (case side2 => exact HC0_1.out); (case side3 => repeat (first | exact (Kd.C_below HR0_2.out HB.out) | (with_reducible refine Kd.C_alloc ?_ _) | (with_reducible refine Kd.C_drewN ?_ _) | (with_reducible refine Kd.C_drew ?_))); (case side4 => exact HC0_2.out); (case side5 => repeat (first | exact (Kd.C_below HR0_3.out HB.out) | (with_reducible refine Kd.C_alloc ?_ _) | (with_reducible refine Kd.C_drewN ?_ _) | (with_reducible refine Kd.C_drew ?_))); (case side6 => exact HC0_3.out); rintro e w27 ⟨v471, rfl, ho0, hb⟩; refine ⟨_, rfl, ?_⟩; have n0_ := Aside0.mk (Kd.R_lower ho0 (below_size (by repeat (first | (with_reducible first | exact HB.out | apply below_alloc | apply pw_below_drewN | apply below_drew1 | refine below_set ?_ GE466.out) | exact HB.out)))); have n1_ := Aside0.mk (blk_below (g := gb466) (o := .cells #[.int .i64 a0_0, .slice A0_1 l0_1.length c0_1, .slice A0_2 l0_2.length c0_2, .slice A0_3 l0_3.length c0_3] 25 (0, 0)) (by (with_reducible repeat (first | refine blk_drewN ?_ _ | refine blk_drew ?_ | refine blk_alloc ?_ _)); exact BK466.out) hb); have n2_ := Aside0.mk (below_step (by repeat (first | (with_reducible first | exact HB.out | apply below_alloc | apply pw_below_drewN | apply below_drew1 | refine below_set ?_ GE466.out) | exact HB.out)) hb); clear BK466; clear HB; have HO472 := n0_; have BK466 := n1_; have HB := n2_; clear n0_ n1_ n2_; (try clear hb); (try clear hb2); (try clear hk); (try clear hi); (try clear ho0); have hcz28_0 : w27.cell? ⟨gb466, 0, none⟩ = some (.int .i64 a0_0) := (blk_cell BK466.out 0).trans rfl; have hcz28_1 : w27.cell? ⟨gb466, 1, none⟩ = some (.slice A0_1 l0_1.length c0_1) := (blk_cell BK466.out 1).trans rfl; have hcz28_2 : w27.cell? ⟨gb466, 2, none⟩ = some (.slice A0_2 l0_2.length c0_2) := (blk_cell BK466.out 2).trans rfl; have hcz28_3 : w27.cell? ⟨gb466, 3, none⟩ = some (.slice A0_3 l0_3.length c0_3) := (blk_cell BK466.out 3).trans rfl; have hfz28_0 := blk_frozen BK466.out 0; have hfz28_1 := blk_frozen BK466.out 1; have hfz28_2 := blk_frozen BK466.out 2; have hfz28_3 := blk_frozen BK466.out 3) | ((with_reducible refine gate_callee (f := 30) rfl ?_); refine goesL_ (some 41) rfl rfl Try.func30 (by kernel_rfl) rfl #[.agg #[.int .i64 a0_0, .slice A0_1 l0_1.length c0_1, .slice A0_2 l0_2.length c0_2, .slice A0_3 l0_3.length c0_3]] rfl (by (try simp only [List.map_toArray, List.map_cons, List.map_nil]); first | done | rfl | (simp only [List.length_drop, List.length_take]; rfl)) ?_; (with_reducible refine (rot_Faces.calls k1 a0_0 _ _ l0_1 _ _ l0_2 _ _ l0_3 t474 t477 _ ?side1 ?side2 ?side3 ?side4 ?side5 ?side6 A19.out).mono ?_); (case side1 => repeat (first | exact (Kd.C_below HR0_1.out HB.out) | (with_reducible refine Kd.C_alloc ?_ _) | (with_reducible refine Kd.C_drewN ?_ _) | (with_reducible refine Kd.C_drew ?_))); (case side2 => exact HC0_1.out); (case side3 => repeat (first | exact (Kd.C_below HR0_2.out HB.out) | (with_reducible refine Kd.C_alloc ?_ _) | (with_reducible refine Kd.C_drewN ?_ _) | (with_reducible refine Kd.C_drew ?_))); (case side4 => exact HC0_2.out); (case side5 => repeat (first | exact (Kd.C_below HR0_3.out HB.out) | (with_reducible refine Kd.C_alloc ?_ _) | (with_reducible refine Kd.C_drewN ?_ _) | (with_reducible refine Kd.C_drew ?_))); (case side6 => exact HC0_3.out); rintro e w29 ⟨v475, rfl, ho0, hb⟩; refine ⟨_, rfl, ?_⟩; have n0_ := Aside0.mk (Kd.R_elder' (by (with_reducible repeat (first | apply Kd.R_alloc | apply Kd.R_drewN | apply Kd.R_drew)); exact HO472.out) (Kd.R_base ho0) hb); have n1_ := Aside0.mk (Kd.R_lower (Kd.R_new' ho0 (Kd.R_lt (by (with_reducible repeat (first | apply Kd.R_alloc | apply Kd.R_drewN | apply Kd.R_drew)); exact HO472.out))) (below_size (by repeat (first | (with_reducible first | exact HB.out | apply below_alloc | apply pw_below_drewN | apply below_drew1 | refine below_set ?_ GE466.out) | exact HB.out)))); have n2_ := Aside0.mk (blk_below (g := gb466) (o := .cells #[.int .i64 a0_0, .slice A0_1 l0_1.length c0_1, .slice A0_2 l0_2.length c0_2, .slice A0_3 l0_3.length c0_3] 25 (0, 0)) (by (with_reducible repeat (first | refine blk_drewN ?_ _ | refine blk_drew ?_ | refine blk_alloc ?_ _)); exact BK466.out) hb); have n3_ := Aside0.mk (below_step (by repeat (first | (with_reducible first | exact HB.out | apply below_alloc | apply pw_below_drewN | apply below_drew1 | refine below_set ?_ GE466.out) | exact HB.out)) hb); clear HO472; clear BK466; clear HB; have HO472 := n0_; have HO476 := n1_; have BK466 := n2_; have HB := n3_; clear n0_ n1_ n2_ n3_; (try clear hb); (try clear hb2); (try clear hk); (try clear hi); (try clear ho0); have hcz30_0 : w29.cell? ⟨gb466, 0, none⟩ = some (.int .i64 a0_0) := (blk_cell BK466.out 0).trans rfl; have hcz30_1 : w29.cell? ⟨gb466, 1, none⟩ = some (.slice A0_1 l0_1.length c0_1) := (blk_cell BK466.out 1).trans rfl; have hcz30_2 : w29.cell? ⟨gb466, 2, none⟩ = some (.slice A0_2 l0_2.length c0_2) := (blk_cell BK466.out 2).trans rfl; have hcz30_3 : w29.cell? ⟨gb466, 3, none⟩ = some (.slice A0_3 l0_3.length c0_3) := (blk_cell BK466.out 3).trans rfl; have hfz30_0 := blk_frozen BK466.out 0; have hfz30_1 := blk_frozen BK466.out 1; have hfz30_2 := blk_frozen BK466.out 2; have hfz30_3 := blk_frozen BK466.out 3))
                go_ret
                exact ⟨by first | rfl | (simp [errW_none, errW_some] <;> rfl) | (simp [*, errW_none, errW_some] <;> rfl), by repeat (first | (with_reducible first | exact HB.out | apply below_alloc | apply pw_below_drewN | apply below_drew1 | refine below_set ?_ GE466.out) | exact HB.out)⟩
            · rw [if_neg c18] at H
              have c18b0 : (t473 == 1) = false := beq_eq_false_iff_ne.mpr c18
              have c18b1 : (t473 != 1) = true := bne_iff_ne.mpr c18
              obtain rfl := Option.some.inj H
              have hcz31_0 : wr.cell? ⟨gb466, 0, none⟩ = some (.int .i64 a0_0) := (blk_cell BK466.out 0).trans rfl
              have hcz31_1 : wr.cell? ⟨gb466, 1, none⟩ = some (.slice A0_1 l0_1.length c0_1) := (blk_cell BK466.out 1).trans rfl
              have hcz31_2 : wr.cell? ⟨gb466, 2, none⟩ = some (.slice A0_2 l0_2.length c0_2) := (blk_cell BK466.out 2).trans rfl
              have hcz31_3 : wr.cell? ⟨gb466, 3, none⟩ = some (.slice A0_3 l0_3.length c0_3) := (blk_cell BK466.out 3).trans rfl
              have hfz31_0 := blk_frozen BK466.out 0
              have hfz31_1 := blk_frozen BK466.out 1
              have hfz31_2 := blk_frozen BK466.out 2
              have hfz31_3 := blk_frozen BK466.out 3
              go_wp2_with (first | ((with_reducible refine gate_callee (f := 29) rfl ?_); refine goesL_ (some 34) rfl rfl Try.func29 (by kernel_rfl) rfl #[.agg #[.int .i64 a0_0, .slice A0_1 l0_1.length c0_1, .slice A0_2 l0_2.length c0_2, .slice A0_3 l0_3.length c0_3]] rfl (by (try simp only [List.map_toArray, List.map_cons, List.map_nil]); first | done | rfl | (simp only [List.length_drop, List.length_take]; rfl)) ?_; (with_reducible refine (rot_Parts.calls k1 a0_0 _ _ l0_1 _ _ l0_2 _ _ l0_3 t470 t473 _ ?side1 ?side2 ?side3 ?side4 ?side5 ?side6 A17.out).mono ?_); (case side1 => repeat (first | exact (Kd.C_below HR0_1.out HB.out) | (with_reducible refine Kd.C_alloc ?_ _) | (with_reducible refine Kd.C_drewN ?_ _) | (with_reducible refine Kd.C_drew ?_))); (case side2 => exact HC0_1.out); (case side3 => repeat (first | exact (Kd.C_below HR0_2.out HB.out) | (with_reducible refine Kd.C_alloc ?_ _) | (with_reducible refine Kd.C_drewN ?_ _) | (with_reducible refine Kd.C_drew ?_))); (case side4 => exact HC0_2.out); (case side5 => repeat (first | exact (Kd.C_below HR0_3.out HB.out) | (with_reducible refine Kd.C_alloc ?_ _) | (with_reducible refine Kd.C_drewN ?_ _) | (with_reducible refine Kd.C_drew ?_))); (case side6 => exact HC0_3.out); rintro e w32 ⟨v471, rfl, ho0, hb⟩; refine ⟨_, rfl, ?_⟩; have n0_ := Aside0.mk (Kd.R_lower ho0 (below_size (by repeat (first | (with_reducible first | exact HB.out | apply below_alloc | apply pw_below_drewN | apply below_drew1 | refine below_set ?_ GE466.out) | exact HB.out)))); have n1_ := Aside0.mk (blk_below (g := gb466) (o := .cells #[.int .i64 a0_0, .slice A0_1 l0_1.length c0_1, .slice A0_2 l0_2.length c0_2, .slice A0_3 l0_3.length c0_3] 25 (0, 0)) (by (with_reducible repeat (first | refine blk_drewN ?_ _ | refine blk_drew ?_ | refine blk_alloc ?_ _)); exact BK466.out) hb); have n2_ := Aside0.mk (below_step (by repeat (first | (with_reducible first | exact HB.out | apply below_alloc | apply pw_below_drewN | apply below_drew1 | refine below_set ?_ GE466.out) | exact HB.out)) hb); clear BK466; clear HB; have HO472 := n0_; have BK466 := n1_; have HB := n2_; clear n0_ n1_ n2_; (try clear hb); (try clear hb2); (try clear hk); (try clear hi); (try clear ho0)))
              go_ret
              exact ⟨by first | rfl | (simp [errW_none, errW_some] <;> rfl) | (simp [*, errW_none, errW_some] <;> rfl), by repeat (first | (with_reducible first | exact HB.out | apply below_alloc | apply pw_below_drewN | apply below_drew1 | refine below_set ?_ GE466.out) | exact HB.out)⟩
    · replace c5 := Bool.eq_false_iff.mpr c5
      subst c5
      have H1 : (some 6) = some r := by rw [if_neg (show ¬ (false = true) by decide)] at H; exact H
      clear H
      have H := H1
      clear H1
      obtain rfl := Option.some.inj H
      go_enter Try.func17, Try.ntmps17
      go_wp2_with (first | ((with_reducible refine gate_dst (N := 1) rfl ?_); refine box_event ?hg (N := 1) ?hd (cs := #[.int .i64 a0_0, .slice A0_1 l0_1.length c0_1, .slice A0_2 l0_2.length c0_2, .slice A0_3 l0_3.length c0_3]) (t := 25) ?hr ?_; (case hd => rfl); (case hg => rfl); (case hr => first | (go_simp; done) | (go_simp; rfl)); intro gb466 hg w33 hbox hb; have n0_ := Aside0.mk (below_step (by repeat (first | (with_reducible first | exact HB.out | apply below_alloc | apply pw_below_drewN | apply below_drew1) | exact HB.out)) hb); have n1_ := Aside0.mk (hbox); have n2_ := Aside0.mk ((by rw [hg]; exact (below_size (by repeat (first | (with_reducible first | exact HB.out | apply below_alloc | apply pw_below_drewN | apply below_drew1) | exact HB.out))) : w.heap.size ≤ gb466)); have n3_ := Aside0.mk ((by rw [hg]; exact (below_size (by repeat (first | (with_reducible first | exact HB.out | apply below_alloc | apply pw_below_drewN | apply below_drew1) | exact HB.out))) : w.heap.size ≤ gb466)); clear HB; have HB := n0_; have BK466 := n1_; have GW466 := n2_; have GE466 := n3_; clear n0_ n1_ n2_ n3_; clear hb hbox hg; have hcz34_0 : w33.cell? ⟨gb466, 0, none⟩ = some (.int .i64 a0_0) := (blk_cell BK466.out 0).trans rfl; have hcz34_1 : w33.cell? ⟨gb466, 1, none⟩ = some (.slice A0_1 l0_1.length c0_1) := (blk_cell BK466.out 1).trans rfl; have hcz34_2 : w33.cell? ⟨gb466, 2, none⟩ = some (.slice A0_2 l0_2.length c0_2) := (blk_cell BK466.out 2).trans rfl; have hcz34_3 : w33.cell? ⟨gb466, 3, none⟩ = some (.slice A0_3 l0_3.length c0_3) := (blk_cell BK466.out 3).trans rfl; have hfz34_0 := blk_frozen BK466.out 0; have hfz34_1 := blk_frozen BK466.out 1; have hfz34_2 := blk_frozen BK466.out 2; have hfz34_3 := blk_frozen BK466.out 3) | ((with_reducible refine gate_callee (f := 27) rfl ?_); refine goesL_ (some 11) rfl rfl Try.func27 (by kernel_rfl) rfl #[.agg #[.int .i64 a0_0, .slice A0_1 l0_1.length c0_1, .slice A0_2 l0_2.length c0_2, .slice A0_3 l0_3.length c0_3]] rfl (by (try simp only [List.map_toArray, List.map_cons, List.map_nil]); first | done | rfl | (simp only [List.length_drop, List.length_take]; rfl)) ?_; (with_reducible refine (rot_shape.calls k a0_0 _ _ l0_1 _ _ l0_2 _ _ l0_3 t467 _ ?side1 ?side2 ?side3 ?side4 ?side5 ?side6 A2.out).mono ?_); (case side1 => repeat (first | exact (Kd.C_below HR0_1.out HB.out) | (with_reducible refine Kd.C_alloc ?_ _) | (with_reducible refine Kd.C_drewN ?_ _) | (with_reducible refine Kd.C_drew ?_))); (case side2 => exact HC0_1.out); (case side3 => repeat (first | exact (Kd.C_below HR0_2.out HB.out) | (with_reducible refine Kd.C_alloc ?_ _) | (with_reducible refine Kd.C_drewN ?_ _) | (with_reducible refine Kd.C_drew ?_))); (case side4 => exact HC0_2.out); (case side5 => repeat (first | exact (Kd.C_below HR0_3.out HB.out) | (with_reducible refine Kd.C_alloc ?_ _) | (with_reducible refine Kd.C_drewN ?_ _) | (with_reducible refine Kd.C_drew ?_))); (case side6 => exact HC0_3.out); rintro e w35 ⟨rfl, hb⟩; refine ⟨_, rfl, ?_⟩; have n0_ := Aside0.mk (blk_below (g := gb466) (o := .cells #[.int .i64 a0_0, .slice A0_1 l0_1.length c0_1, .slice A0_2 l0_2.length c0_2, .slice A0_3 l0_3.length c0_3] 25 (0, 0)) (by (with_reducible repeat (first | refine blk_drewN ?_ _ | refine blk_drew ?_ | refine blk_alloc ?_ _)); exact BK466.out) hb); have n1_ := Aside0.mk (below_step (by repeat (first | (with_reducible first | exact HB.out | apply below_alloc | apply pw_below_drewN | apply below_drew1 | refine below_set ?_ GE466.out) | exact HB.out)) hb); clear BK466; clear HB; have BK466 := n0_; have HB := n1_; clear n0_ n1_; (try clear hb); (try clear hb2); (try clear hk); (try clear hi); have hcz36_0 : w35.cell? ⟨gb466, 0, none⟩ = some (.int .i64 a0_0) := (blk_cell BK466.out 0).trans rfl; have hcz36_1 : w35.cell? ⟨gb466, 1, none⟩ = some (.slice A0_1 l0_1.length c0_1) := (blk_cell BK466.out 1).trans rfl; have hcz36_2 : w35.cell? ⟨gb466, 2, none⟩ = some (.slice A0_2 l0_2.length c0_2) := (blk_cell BK466.out 2).trans rfl; have hcz36_3 : w35.cell? ⟨gb466, 3, none⟩ = some (.slice A0_3 l0_3.length c0_3) := (blk_cell BK466.out 3).trans rfl; have hfz36_0 := blk_frozen BK466.out 0; have hfz36_1 := blk_frozen BK466.out 1; have hfz36_2 := blk_frozen BK466.out 2; have hfz36_3 := blk_frozen BK466.out 3) | ((with_reducible refine gate_callee (f := 28) rfl ?_); refine goesL_ (some 16) rfl rfl Try.func28 (by kernel_rfl) rfl #[.agg #[.int .i64 a0_0, .slice A0_1 l0_1.length c0_1, .slice A0_2 l0_2.length c0_2, .slice A0_3 l0_3.length c0_3]] rfl (by (try simp only [List.map_toArray, List.map_cons, List.map_nil]); first | done | rfl | (simp only [List.length_drop, List.length_take]; rfl)) ?_; (with_reducible refine (rot_turns.calls k a0_0 _ _ l0_1 _ _ l0_2 _ _ l0_3 false _ ?side1 ?side2 ?side3 ?side4 ?side5 ?side6 A4.out).mono ?_); (case side1 => repeat (first | exact (Kd.C_below HR0_1.out HB.out) | (with_reducible refine Kd.C_alloc ?_ _) | (with_reducible refine Kd.C_drewN ?_ _) | (with_reducible refine Kd.C_drew ?_))); (case side2 => exact HC0_1.out); (case side3 => repeat (first | exact (Kd.C_below HR0_2.out HB.out) | (with_reducible refine Kd.C_alloc ?_ _) | (with_reducible refine Kd.C_drewN ?_ _) | (with_reducible refine Kd.C_drew ?_))); (case side4 => exact HC0_2.out); (case side5 => repeat (first | exact (Kd.C_below HR0_3.out HB.out) | (with_reducible refine Kd.C_alloc ?_ _) | (with_reducible refine Kd.C_drewN ?_ _) | (with_reducible refine Kd.C_drew ?_))); (case side6 => exact HC0_3.out); rintro e w37 ⟨rfl, hb⟩; refine ⟨_, rfl, ?_⟩; have n0_ := Aside0.mk (blk_below (g := gb466) (o := .cells #[.int .i64 a0_0, .slice A0_1 l0_1.length c0_1, .slice A0_2 l0_2.length c0_2, .slice A0_3 l0_3.length c0_3] 25 (0, 0)) (by (with_reducible repeat (first | refine blk_drewN ?_ _ | refine blk_drew ?_ | refine blk_alloc ?_ _)); exact BK466.out) hb); have n1_ := Aside0.mk (below_step (by repeat (first | (with_reducible first | exact HB.out | apply below_alloc | apply pw_below_drewN | apply below_drew1 | refine below_set ?_ GE466.out) | exact HB.out)) hb); clear BK466; clear HB; have BK466 := n0_; have HB := n1_; clear n0_ n1_; (try clear hb); (try clear hb2); (try clear hk); (try clear hi)))
      go_ret
      exact ⟨by first | rfl | (simp [errW_none, errW_some] <;> rfl) | (simp [*, errW_none, errW_some] <;> rfl), by repeat (first | (with_reducible first | exact HB.out | apply below_alloc | apply pw_below_drewN | apply below_drew1 | refine below_set ?_ GE466.out) | exact HB.out)⟩
  · rw [if_neg c3] at H
    have c3b0 : (t467 == 0) = false := beq_eq_false_iff_ne.mpr c3
    have c3b1 : (t467 != 0) = true := bne_iff_ne.mpr c3
    obtain rfl := Option.some.inj H
    go_enter Try.func17, Try.ntmps17
    go_wp2_with (first | ((with_reducible refine gate_dst (N := 1) rfl ?_); refine box_event ?hg (N := 1) ?hd (cs := #[.int .i64 a0_0, .slice A0_1 l0_1.length c0_1, .slice A0_2 l0_2.length c0_2, .slice A0_3 l0_3.length c0_3]) (t := 25) ?hr ?_; (case hd => rfl); (case hg => rfl); (case hr => first | (go_simp; done) | (go_simp; rfl)); intro gb466 hg w38 hbox hb; have n0_ := Aside0.mk (below_step (by repeat (first | (with_reducible first | exact HB.out | apply below_alloc | apply pw_below_drewN | apply below_drew1) | exact HB.out)) hb); have n1_ := Aside0.mk (hbox); have n2_ := Aside0.mk ((by rw [hg]; exact (below_size (by repeat (first | (with_reducible first | exact HB.out | apply below_alloc | apply pw_below_drewN | apply below_drew1) | exact HB.out))) : w.heap.size ≤ gb466)); have n3_ := Aside0.mk ((by rw [hg]; exact (below_size (by repeat (first | (with_reducible first | exact HB.out | apply below_alloc | apply pw_below_drewN | apply below_drew1) | exact HB.out))) : w.heap.size ≤ gb466)); clear HB; have HB := n0_; have BK466 := n1_; have GW466 := n2_; have GE466 := n3_; clear n0_ n1_ n2_ n3_; clear hb hbox hg; have hcz39_0 : w38.cell? ⟨gb466, 0, none⟩ = some (.int .i64 a0_0) := (blk_cell BK466.out 0).trans rfl; have hcz39_1 : w38.cell? ⟨gb466, 1, none⟩ = some (.slice A0_1 l0_1.length c0_1) := (blk_cell BK466.out 1).trans rfl; have hcz39_2 : w38.cell? ⟨gb466, 2, none⟩ = some (.slice A0_2 l0_2.length c0_2) := (blk_cell BK466.out 2).trans rfl; have hcz39_3 : w38.cell? ⟨gb466, 3, none⟩ = some (.slice A0_3 l0_3.length c0_3) := (blk_cell BK466.out 3).trans rfl; have hfz39_0 := blk_frozen BK466.out 0; have hfz39_1 := blk_frozen BK466.out 1; have hfz39_2 := blk_frozen BK466.out 2; have hfz39_3 := blk_frozen BK466.out 3) | ((with_reducible refine gate_callee (f := 27) rfl ?_); refine goesL_ (some 11) rfl rfl Try.func27 (by kernel_rfl) rfl #[.agg #[.int .i64 a0_0, .slice A0_1 l0_1.length c0_1, .slice A0_2 l0_2.length c0_2, .slice A0_3 l0_3.length c0_3]] rfl (by (try simp only [List.map_toArray, List.map_cons, List.map_nil]); first | done | rfl | (simp only [List.length_drop, List.length_take]; rfl)) ?_; (with_reducible refine (rot_shape.calls k a0_0 _ _ l0_1 _ _ l0_2 _ _ l0_3 t467 _ ?side1 ?side2 ?side3 ?side4 ?side5 ?side6 A2.out).mono ?_); (case side1 => repeat (first | exact (Kd.C_below HR0_1.out HB.out) | (with_reducible refine Kd.C_alloc ?_ _) | (with_reducible refine Kd.C_drewN ?_ _) | (with_reducible refine Kd.C_drew ?_))); (case side2 => exact HC0_1.out); (case side3 => repeat (first | exact (Kd.C_below HR0_2.out HB.out) | (with_reducible refine Kd.C_alloc ?_ _) | (with_reducible refine Kd.C_drewN ?_ _) | (with_reducible refine Kd.C_drew ?_))); (case side4 => exact HC0_2.out); (case side5 => repeat (first | exact (Kd.C_below HR0_3.out HB.out) | (with_reducible refine Kd.C_alloc ?_ _) | (with_reducible refine Kd.C_drewN ?_ _) | (with_reducible refine Kd.C_drew ?_))); (case side6 => exact HC0_3.out); rintro e w40 ⟨rfl, hb⟩; refine ⟨_, rfl, ?_⟩; have n0_ := Aside0.mk (blk_below (g := gb466) (o := .cells #[.int .i64 a0_0, .slice A0_1 l0_1.length c0_1, .slice A0_2 l0_2.length c0_2, .slice A0_3 l0_3.length c0_3] 25 (0, 0)) (by (with_reducible repeat (first | refine blk_drewN ?_ _ | refine blk_drew ?_ | refine blk_alloc ?_ _)); exact BK466.out) hb); have n1_ := Aside0.mk (below_step (by repeat (first | (with_reducible first | exact HB.out | apply below_alloc | apply pw_below_drewN | apply below_drew1 | refine below_set ?_ GE466.out) | exact HB.out)) hb); clear BK466; clear HB; have BK466 := n0_; have HB := n1_; clear n0_ n1_; (try clear hb); (try clear hb2); (try clear hk); (try clear hi)))
    go_ret
    exact ⟨by first | rfl | (simp [errW_none, errW_some] <;> rfl) | (simp [*, errW_none, errW_some] <;> rfl), by repeat (first | (with_reducible first | exact HB.out | apply below_alloc | apply pw_below_drewN | apply below_drew1 | refine below_set ?_ GE466.out) | exact HB.out)⟩

end Go.Proofs.Ytoipfbffdcahoaa.P
