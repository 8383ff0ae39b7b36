-- Written by a program of this session: a scratch copy of the kit's printer in which some functions are external. Lean checks it.
import Derived.Test.YtoipfbffdcahoaaPx0
import Derived.Test.YtoipfbffdcahoaaPx8
import Derived.Test.YtoipfbffdcahoaaEHead
import Derived.Test.YtoipfbffdcahoaaERepeat
namespace Go.Proofs.Ytoipfbffdcahoaa.P
open Go.RowKit Go.Proofs.YtoipfbffdcahoaaW.PrintWords Go.Proofs.YtoipfbffdcahoaaW.PrintLast Go.Proofs.YtoipfbffdcahoaaW.PrintMore
attribute [local go_sem] max2_int min2_int max_two min_two max_three min_three max_four min_four   -- for this text's walks alone
set_option linter.unusedVariables false
set_option linter.unusedSimpArgs false

/-! ### rot_fine: function 43 -/
def rot_fine.f (k : Nat) (a0_0 : Int) (l0_1 : List Int) (l0_2 : List Int) (l0_3 : List Int) : Option (Bool) := (rot_shape.f k a0_0 l0_1 l0_2 l0_3).bind fun t450 => (if t450 = 0 then (some true) else (if a0_0 = 0 then (some ((l0_1.length : Int) == 0)) else (some false)))
theorem rot_fine.mono : ∀ a0 a1 a2 a3 k, LeO (rot_fine.f k a0 a1 a2 a3) (rot_fine.f (k + 1) a0 a1 a2 a3) := by
  intro a0 a1 a2 a3 k
  unfold rot_fine.f
  repeat' first
      | (with_reducible exact rot_shape.mono _ _ _ _ _)
      | (with_reducible exact LeO.refl _)
      | (with_reducible exact LeO.none _)
      | (with_reducible refine LeO.ite ?_ ?_)
      | (with_reducible refine LeO.bind ?_ (fun _ => ?_))
      | exact rot_shape.mono _ _ _ _ _
      | exact LeO.none _
      | refine LeO.ite ?_ ?_
      | refine LeO.bind ?_ (fun _ => ?_)
set_option maxHeartbeats 8000000 in
set_option maxRecDepth 100000 in
theorem rot_fine.calls (k : Nat) (a0_0 : Int) (A0_1 : Option Addr) (c0_1 : Nat) (l0_1 : List Int) (A0_2 : Option Addr) (c0_2 : Nat) (l0_2 : List Int) (A0_3 : Option Addr) (c0_3 : Nat) (l0_3 : List Int) (r : Bool) (w : World) (hr0_1 : Kd.C (Kd.int .i64) w A0_1 l0_1.length l0_1) (hc0_1 : l0_1.length ≤ c0_1) (hr0_2 : Kd.C (Kd.int .i64) w A0_2 l0_2.length l0_2) (hc0_2 : l0_2.length ≤ c0_2) (hr0_3 : Kd.C (Kd.int .i64) w A0_3 l0_3.length l0_3) (hc0_3 : l0_3.length ≤ c0_3) (h : rot_fine.f k a0_0 l0_1 l0_2 l0_3 = some r) :
    Calls Try.prog 43 #[.agg #[.int .i64 a0_0, .slice A0_1 l0_1.length c0_1, .slice A0_2 l0_2.length c0_2, .slice A0_3 l0_3.length c0_3]] w fun e w' => e = .returned (.bool r) ∧ Below w.heap.size w w' := by
  have hu25 := Try.underlying25
  have HR0_1 := Aside0.mk hr0_1
  have HC0_1 := Aside0.mk hc0_1
  clear hr0_1 hc0_1
  have HR0_2 := Aside0.mk hr0_2
  have HC0_2 := Aside0.mk hc0_2
  clear hr0_2 hc0_2
  have HR0_3 := Aside0.mk hr0_3
  have HC0_3 := Aside0.mk hc0_3
  clear hr0_3 hc0_3
  have HB := Aside0.mk (Below.refl w.heap.size w)
  have H : ((rot_shape.f k a0_0 l0_1 l0_2 l0_3).bind fun t450 => (if t450 = 0 then (some true) else (if a0_0 = 0 then (some ((l0_1.length : Int) == 0)) else (some false)))) = some r := h
  clear h
  replace H := Option.bind_eq_some_iff.mp H
  obtain ⟨t450, A20, H⟩ := H
  replace H : (if t450 = 0 then (some true) else (if a0_0 = 0 then (some ((l0_1.length : Int) == 0)) else (some false))) = some r := H
  have A2 := Aside0.mk A20
  clear A20
  by_cases c3 : t450 = 0
  · rw [if_pos c3] at H
    have c3b0 : (t450 == 0) = true := beq_iff_eq.mpr c3
    have c3b1 : (t450 != 0) = false := bne_eq_false_iff_eq.mpr c3
    clear c3
    obtain rfl := Option.some.inj H
    go_enter Try.func43, Try.ntmps43
    go_wp2_with (first | ((with_reducible refine gate_dst (N := 1) rfl ?_); (try (refine gate_guard (by rfl) ?_; dsimp only)); refine box_event ?hg (N := 1) ?hd (cs := #[.int .i64 a0_0, .slice A0_1 l0_1.length c0_1, .slice A0_2 l0_2.length c0_2, .slice A0_3 l0_3.length c0_3]) (t := 25) ?hr ?_; (case hd => rfl); (case hg => rfl); (case hr => first | (go_simp; done) | (go_simp; rfl)); intro gb449 hg w4 hbox hb; have n0_ := Aside0.mk (below_step (by repeat (first | (with_reducible first | exact HB.out | apply below_alloc | apply pw_below_drewN | apply below_drew1) | exact HB.out)) hb); have n1_ := Aside0.mk (hbox); have n2_ := Aside0.mk ((by rw [hg]; exact (below_size (by repeat (first | (with_reducible first | exact HB.out | apply below_alloc | apply pw_below_drewN | apply below_drew1) | exact HB.out))) : w.heap.size ≤ gb449)); have n3_ := Aside0.mk ((by rw [hg]; exact (below_size (by repeat (first | (with_reducible first | exact HB.out | apply below_alloc | apply pw_below_drewN | apply below_drew1) | exact HB.out))) : w.heap.size ≤ gb449)); clear HB; have HB := n0_; have BK449 := n1_; have GW449 := n2_; have GE449 := n3_; clear n0_ n1_ n2_ n3_; clear hb hbox hg; have hcz5_0 : w4.cell? ⟨gb449, 0, none⟩ = some (.int .i64 a0_0) := (blk_cell BK449.out 0).trans rfl; have hcz5_1 : w4.cell? ⟨gb449, 1, none⟩ = some (.slice A0_1 l0_1.length c0_1) := (blk_cell BK449.out 1).trans rfl; have hcz5_2 : w4.cell? ⟨gb449, 2, none⟩ = some (.slice A0_2 l0_2.length c0_2) := (blk_cell BK449.out 2).trans rfl; have hcz5_3 : w4.cell? ⟨gb449, 3, none⟩ = some (.slice A0_3 l0_3.length c0_3) := (blk_cell BK449.out 3).trans rfl; have hfz5_0 := blk_frozen BK449.out 0; have hfz5_1 := blk_frozen BK449.out 1; have hfz5_2 := blk_frozen BK449.out 2; have hfz5_3 := blk_frozen BK449.out 3) | ((with_reducible refine gate_callee (f := 27) rfl ?_); refine goesL_ (some 5) rfl rfl Try.func27 (by kernel_rfl) rfl #[.agg #[.int .i64 a0_0, .slice A0_1 l0_1.length c0_1, .slice A0_2 l0_2.length c0_2, .slice A0_3 l0_3.length c0_3]] rfl (by (try simp only [List.map_toArray, List.map_cons, List.map_nil]); first | done | rfl | (simp only [List.length_drop, List.length_take]; rfl)) ?_; (with_reducible refine (rot_shape.calls k a0_0 _ _ l0_1 _ _ l0_2 _ _ l0_3 t450 _ ?side1 ?side2 ?side3 ?side4 ?side5 ?side6 A2.out).mono ?_); (case side1 => repeat (first | exact (Kd.C_below HR0_1.out HB.out) | (with_reducible refine Kd.C_alloc ?_ _) | (with_reducible refine Kd.C_drewN ?_ _) | (with_reducible refine Kd.C_drew ?_))); (case side2 => exact HC0_1.out); (case side3 => repeat (first | exact (Kd.C_below HR0_2.out HB.out) | (with_reducible refine Kd.C_alloc ?_ _) | (with_reducible refine Kd.C_drewN ?_ _) | (with_reducible refine Kd.C_drew ?_))); (case side4 => exact HC0_2.out); (case side5 => repeat (first | exact (Kd.C_below HR0_3.out HB.out) | (with_reducible refine Kd.C_alloc ?_ _) | (with_reducible refine Kd.C_drewN ?_ _) | (with_reducible refine Kd.C_drew ?_))); (case side6 => exact HC0_3.out); rintro e w6 ⟨rfl, hb⟩; refine ⟨_, rfl, ?_⟩; have n0_ := Aside0.mk (blk_below (g := gb449) (o := .cells #[.int .i64 a0_0, .slice A0_1 l0_1.length c0_1, .slice A0_2 l0_2.length c0_2, .slice A0_3 l0_3.length c0_3] 25 (0, 0)) (by (with_reducible repeat (first | refine blk_drewN ?_ _ | refine blk_drew ?_ | refine blk_alloc ?_ _)); exact BK449.out) hb); have n1_ := Aside0.mk (below_step (by repeat (first | (with_reducible first | exact HB.out | apply below_alloc | apply pw_below_drewN | apply below_drew1 | refine below_set ?_ GE449.out) | exact HB.out)) hb); clear BK449; clear HB; have BK449 := n0_; have HB := n1_; clear n0_ n1_; (try clear hb); (try clear hb2); (try clear hk); (try clear hi)))
    go_ret
    exact ⟨by first | rfl | (simp [errW_none, errW_some] <;> rfl) | (simp [*, errW_none, errW_some] <;> rfl), by repeat (first | (with_reducible first | exact HB.out | apply below_alloc | apply pw_below_drewN | apply below_drew1 | refine below_set ?_ GE449.out) | exact HB.out)⟩
  · rw [if_neg c3] at H
    have c3b0 : (t450 == 0) = false := beq_eq_false_iff_ne.mpr c3
    have c3b1 : (t450 != 0) = true := bne_iff_ne.mpr c3
    by_cases c7 : a0_0 = 0
    · rw [if_pos c7] at H
      have c7b0 : (a0_0 == 0) = true := beq_iff_eq.mpr c7
      have c7b1 : (a0_0 != 0) = false := bne_eq_false_iff_eq.mpr c7
      clear c7
      obtain rfl := Option.some.inj H
      go_enter Try.func43, Try.ntmps43
      go_wp2_with (first | ((with_reducible refine gate_dst (N := 1) rfl ?_); (try (refine gate_guard (by rfl) ?_; dsimp only)); refine box_event ?hg (N := 1) ?hd (cs := #[.int .i64 a0_0, .slice A0_1 l0_1.length c0_1, .slice A0_2 l0_2.length c0_2, .slice A0_3 l0_3.length c0_3]) (t := 25) ?hr ?_; (case hd => rfl); (case hg => rfl); (case hr => first | (go_simp; done) | (go_simp; rfl)); intro gb449 hg w8 hbox hb; have n0_ := Aside0.mk (below_step (by repeat (first | (with_reducible first | exact HB.out | apply below_alloc | apply pw_below_drewN | apply below_drew1) | exact HB.out)) hb); have n1_ := Aside0.mk (hbox); have n2_ := Aside0.mk ((by rw [hg]; exact (below_size (by repeat (first | (with_reducible first | exact HB.out | apply below_alloc | apply pw_below_drewN | apply below_drew1) | exact HB.out))) : w.heap.size ≤ gb449)); have n3_ := Aside0.mk ((by rw [hg]; exact (below_size (by repeat (first | (with_reducible first | exact HB.out | apply below_alloc | apply pw_below_drewN | apply below_drew1) | exact HB.out))) : w.heap.size ≤ gb449)); clear HB; have HB := n0_; have BK449 := n1_; have GW449 := n2_; have GE449 := n3_; clear n0_ n1_ n2_ n3_; clear hb hbox hg; have hcz9_0 : w8.cell? ⟨gb449, 0, none⟩ = some (.int .i64 a0_0) := (blk_cell BK449.out 0).trans rfl; have hcz9_1 : w8.cell? ⟨gb449, 1, none⟩ = some (.slice A0_1 l0_1.length c0_1) := (blk_cell BK449.out 1).trans rfl; have hcz9_2 : w8.cell? ⟨gb449, 2, none⟩ = some (.slice A0_2 l0_2.length c0_2) := (blk_cell BK449.out 2).trans rfl; have hcz9_3 : w8.cell? ⟨gb449, 3, none⟩ = some (.slice A0_3 l0_3.length c0_3) := (blk_cell BK449.out 3).trans rfl; have hfz9_0 := blk_frozen BK449.out 0; have hfz9_1 := blk_frozen BK449.out 1; have hfz9_2 := blk_frozen BK449.out 2; have hfz9_3 := blk_frozen BK449.out 3) | ((with_reducible refine gate_callee (f := 27) rfl ?_); refine goesL_ (some 5) rfl rfl Try.func27 (by kernel_rfl) rfl #[.agg #[.int .i64 a0_0, .slice A0_1 l0_1.length c0_1, .slice A0_2 l0_2.length c0_2, .slice A0_3 l0_3.length c0_3]] rfl (by (try simp only [List.map_toArray, List.map_cons, List.map_nil]); first | done | rfl | (simp only [List.length_drop, List.length_take]; rfl)) ?_; (with_reducible refine (rot_shape.calls k a0_0 _ _ l0_1 _ _ l0_2 _ _ l0_3 t450 _ ?side1 ?side2 ?side3 ?side4 ?side5 ?side6 A2.out).mono ?_); (case side1 => repeat (first | exact (Kd.C_below HR0_1.out HB.out) | (with_reducible refine Kd.C_alloc ?_ _) | (with_reducible refine Kd.C_drewN ?_ _) | (with_reducible refine Kd.C_drew ?_))); (case side2 => exact HC0_1.out); (case side3 => repeat (first | exact (Kd.C_below HR0_2.out HB.out) | (with_reducible refine Kd.C_alloc ?_ _) | (with_reducible refine Kd.C_drewN ?_ _) | (with_reducible refine Kd.C_drew ?_))); (case side4 => exact HC0_2.out); (case side5 => repeat (first | exact (Kd.C_below HR0_3.out HB.out) | (with_reducible refine Kd.C_alloc ?_ _) | (with_reducible refine Kd.C_drewN ?_ _) | (with_reducible refine Kd.C_drew ?_))); (case side6 => exact HC0_3.out); rintro e w10 ⟨rfl, hb⟩; refine ⟨_, rfl, ?_⟩; have n0_ := Aside0.mk (blk_below (g := gb449) (o := .cells #[.int .i64 a0_0, .slice A0_1 l0_1.length c0_1, .slice A0_2 l0_2.length c0_2, .slice A0_3 l0_3.length c0_3] 25 (0, 0)) (by (with_reducible repeat (first | refine blk_drewN ?_ _ | refine blk_drew ?_ | refine blk_alloc ?_ _)); exact BK449.out) hb); have n1_ := Aside0.mk (below_step (by repeat (first | (with_reducible first | exact HB.out | apply below_alloc | apply pw_below_drewN | apply below_drew1 | refine below_set ?_ GE449.out) | exact HB.out)) hb); clear BK449; clear HB; have BK449 := n0_; have HB := n1_; clear n0_ n1_; (try clear hb); (try clear hb2); (try clear hk); (try clear hi); have hcz11_0 : w10.cell? ⟨gb449, 0, none⟩ = some (.int .i64 a0_0) := (blk_cell BK449.out 0).trans rfl; have hcz11_1 : w10.cell? ⟨gb449, 1, none⟩ = some (.slice A0_1 l0_1.length c0_1) := (blk_cell BK449.out 1).trans rfl; have hcz11_2 : w10.cell? ⟨gb449, 2, none⟩ = some (.slice A0_2 l0_2.length c0_2) := (blk_cell BK449.out 2).trans rfl; have hcz11_3 : w10.cell? ⟨gb449, 3, none⟩ = some (.slice A0_3 l0_3.length c0_3) := (blk_cell BK449.out 3).trans rfl; have hfz11_0 := blk_frozen BK449.out 0; have hfz11_1 := blk_frozen BK449.out 1; have hfz11_2 := blk_frozen BK449.out 2; have hfz11_3 := blk_frozen BK449.out 3))
      go_ret
      exact ⟨by first | rfl | (simp [errW_none, errW_some] <;> rfl) | (simp [*, errW_none, errW_some] <;> rfl), by repeat (first | (with_reducible first | exact HB.out | apply below_alloc | apply pw_below_drewN | apply below_drew1 | refine below_set ?_ GE449.out) | exact HB.out)⟩
    · rw [if_neg c7] at H
      have c7b0 : (a0_0 == 0) = false := beq_eq_false_iff_ne.mpr c7
      have c7b1 : (a0_0 != 0) = true := bne_iff_ne.mpr c7
      obtain rfl := Option.some.inj H
      go_enter Try.func43, Try.ntmps43
      go_wp2_with (first | ((with_reducible refine gate_dst (N := 1) rfl ?_); (try (refine gate_guard (by rfl) ?_; dsimp only)); refine box_event ?hg (N := 1) ?hd (cs := #[.int .i64 a0_0, .slice A0_1 l0_1.length c0_1, .slice A0_2 l0_2.length c0_2, .slice A0_3 l0_3.length c0_3]) (t := 25) ?hr ?_; (case hd => rfl); (case hg => rfl); (case hr => first | (go_simp; done) | (go_simp; rfl)); intro gb449 hg w12 hbox hb; have n0_ := Aside0.mk (below_step (by repeat (first | (with_reducible first | exact HB.out | apply below_alloc | apply pw_below_drewN | apply below_drew1) | exact HB.out)) hb); have n1_ := Aside0.mk (hbox); have n2_ := Aside0.mk ((by rw [hg]; exact (below_size (by repeat (first | (with_reducible first | exact HB.out | apply below_alloc | apply pw_below_drewN | apply below_drew1) | exact HB.out))) : w.heap.size ≤ gb449)); have n3_ := Aside0.mk ((by rw [hg]; exact (below_size (by repeat (first | (with_reducible first | exact HB.out | apply below_alloc | apply pw_below_drewN | apply below_drew1) | exact HB.out))) : w.heap.size ≤ gb449)); clear HB; have HB := n0_; have BK449 := n1_; have GW449 := n2_; have GE449 := n3_; clear n0_ n1_ n2_ n3_; clear hb hbox hg; have hcz13_0 : w12.cell? ⟨gb449, 0, none⟩ = some (.int .i64 a0_0) := (blk_cell BK449.out 0).trans rfl; have hcz13_1 : w12.cell? ⟨gb449, 1, none⟩ = some (.slice A0_1 l0_1.length c0_1) := (blk_cell BK449.out 1).trans rfl; have hcz13_2 : w12.cell? ⟨gb449, 2, none⟩ = some (.slice A0_2 l0_2.length c0_2) := (blk_cell BK449.out 2).trans rfl; have hcz13_3 : w12.cell? ⟨gb449, 3, none⟩ = some (.slice A0_3 l0_3.length c0_3) := (blk_cell BK449.out 3).trans rfl; have hfz13_0 := blk_frozen BK449.out 0; have hfz13_1 := blk_frozen BK449.out 1; have hfz13_2 := blk_frozen BK449.out 2; have hfz13_3 := blk_frozen BK449.out 3) | ((with_reducible refine gate_callee (f := 27) rfl ?_); refine goesL_ (some 5) rfl rfl Try.func27 (by kernel_rfl) rfl #[.agg #[.int .i64 a0_0, .slice A0_1 l0_1.length c0_1, .slice A0_2 l0_2.length c0_2, .slice A0_3 l0_3.length c0_3]] rfl (by (try simp only [List.map_toArray, List.map_cons, List.map_nil]); first | done | rfl | (simp only [List.length_drop, List.length_take]; rfl)) ?_; (with_reducible refine (rot_shape.calls k a0_0 _ _ l0_1 _ _ l0_2 _ _ l0_3 t450 _ ?side1 ?side2 ?side3 ?side4 ?side5 ?side6 A2.out).mono ?_); (case side1 => repeat (first | exact (Kd.C_below HR0_1.out HB.out) | (with_reducible refine Kd.C_alloc ?_ _) | (with_reducible refine Kd.C_drewN ?_ _) | (with_reducible refine Kd.C_drew ?_))); (case side2 => exact HC0_1.out); (case side3 => repeat (first | exact (Kd.C_below HR0_2.out HB.out) | (with_reducible refine Kd.C_alloc ?_ _) | (with_reducible refine Kd.C_drewN ?_ _) | (with_reducible refine Kd.C_drew ?_))); (case side4 => exact HC0_2.out); (case side5 => repeat (first | exact (Kd.C_below HR0_3.out HB.out) | (with_reducible refine Kd.C_alloc ?_ _) | (with_reducible refine Kd.C_drewN ?_ _) | (with_reducible refine Kd.C_drew ?_))); (case side6 => exact HC0_3.out); rintro e w14 ⟨rfl, hb⟩; refine ⟨_, rfl, ?_⟩; have n0_ := Aside0.mk (blk_below (g := gb449) (o := .cells #[.int .i64 a0_0, .slice A0_1 l0_1.length c0_1, .slice A0_2 l0_2.length c0_2, .slice A0_3 l0_3.length c0_3] 25 (0, 0)) (by (with_reducible repeat (first | refine blk_drewN ?_ _ | refine blk_drew ?_ | refine blk_alloc ?_ _)); exact BK449.out) hb); have n1_ := Aside0.mk (below_step (by repeat (first | (with_reducible first | exact HB.out | apply below_alloc | apply pw_below_drewN | apply below_drew1 | refine below_set ?_ GE449.out) | exact HB.out)) hb); clear BK449; clear HB; have BK449 := n0_; have HB := n1_; clear n0_ n1_; (try clear hb); (try clear hb2); (try clear hk); (try clear hi); have hcz15_0 : w14.cell? ⟨gb449, 0, none⟩ = some (.int .i64 a0_0) := (blk_cell BK449.out 0).trans rfl; have hcz15_1 : w14.cell? ⟨gb449, 1, none⟩ = some (.slice A0_1 l0_1.length c0_1) := (blk_cell BK449.out 1).trans rfl; have hcz15_2 : w14.cell? ⟨gb449, 2, none⟩ = some (.slice A0_2 l0_2.length c0_2) := (blk_cell BK449.out 2).trans rfl; have hcz15_3 : w14.cell? ⟨gb449, 3, none⟩ = some (.slice A0_3 l0_3.length c0_3) := (blk_cell BK449.out 3).trans rfl; have hfz15_0 := blk_frozen BK449.out 0; have hfz15_1 := blk_frozen BK449.out 1; have hfz15_2 := blk_frozen BK449.out 2; have hfz15_3 := blk_frozen BK449.out 3))
      go_ret
      exact ⟨by first | rfl | (simp [errW_none, errW_some] <;> rfl) | (simp [*, errW_none, errW_some] <;> rfl), by repeat (first | (with_reducible first | exact HB.out | apply below_alloc | apply pw_below_drewN | apply below_drew1 | refine below_set ?_ GE449.out) | exact HB.out)⟩

/-! ### rot_Parts: function 29 -/
mutual
def rot_Parts.l0 : Nat → List Int → Int → Int → Int → Int → List Int → List Int → List Int → Option (List Int × Int)
  | 0, _, _, _, _, _, _, _, _ => none
  | k + 1, x4, x5, x19, x20, x452000, x452001, x452002, x452003 => if x20 < x19 then (if 0 ≤ x20 then (if x20 < (x4.length : Int) then (if (rd x4 x20) ≥ 0 then (rot_Parts.l0 k x4 x5 x19 (wrap64 (x20 + 1)) x452000 x452001 x452002 x452003) else (rot_Parts.l1 k (x4.set (x20 : Int).toNat x5) x5 true x19 x20 x452000 x452001 x452002 x452003)) else (none)) else (none)) else (some (x4, x5))
def rot_Parts.l1 : Nat → List Int → Int → Bool → Int → Int → Int → List Int → List Int → List Int → Option (List Int × Int)
  | 0, _, _, _, _, _, _, _, _, _ => none
  | k + 1, x4, x5, x7, x19, x20, x452000, x452001, x452002, x452003 => if x7 = true then (rot_Parts.l2 k x4 x5 false x19 x20 x452001 (x452001.length : Int) 0 x452000 x452001 x452002 x452003) else (rot_Parts.l0 k x4 (wrap64 (x5 + 1)) x19 (wrap64 (x20 + 1)) x452000 x452001 x452002 x452003)
def rot_Parts.l2 : Nat → List Int → Int → Bool → Int → Int → List Int → Int → Int → Int → List Int → List Int → List Int → Option (List Int × Int)
  | 0, _, _, _, _, _, _, _, _, _, _, _, _ => none
  | k + 1, x4, x5, x7, x19, x20, x34, x35, x36, x452000, x452001, x452002, x452003 => if x36 < x35 then (if 0 ≤ x36 then (if x36 < (x34.length : Int) then ((rot_Head.f x452000 x452001 x452002 x452003 x36).bind fun t462 => (if 0 ≤ (rd x34 x36) then (if (rd x34 x36) < (x4.length : Int) then (if (rd x4 (rd x34 x36)) = x5 then (if 0 ≤ t462 then (if t462 < (x4.length : Int) then (if (rd x4 t462) < 0 then (rot_Parts.l2 k (x4.set (t462 : Int).toNat x5) x5 true x19 x20 x34 x35 (wrap64 (x36 + 1)) x452000 x452001 x452002 x452003) else (rot_Parts.l2 k x4 x5 x7 x19 x20 x34 x35 (wrap64 (x36 + 1)) x452000 x452001 x452002 x452003)) else (none)) else (none)) else (rot_Parts.l2 k x4 x5 x7 x19 x20 x34 x35 (wrap64 (x36 + 1)) x452000 x452001 x452002 x452003)) else (none)) else (none))) else (none)) else (none)) else (rot_Parts.l1 k x4 x5 x7 x19 x20 x452000 x452001 x452002 x452003)
end
def rot_Parts.f (k : Nat) (a0_0 : Int) (l0_1 : List Int) (l0_2 : List Int) (l0_3 : List Int) : Option (List Int × Int) := (rot_fine.f k a0_0 l0_1 l0_2 l0_3).bind fun t452 => (if t452 = true then ((slices_Repeat_int_int.f (([(-1)] : List Int)) a0_0).bind fun t456 => (rot_Parts.l0 k t456 0 (t456.length : Int) 0 a0_0 l0_1 l0_2 l0_3)) else (some (([] : List Int), 0)))
theorem rot_Parts.mono_l : ∀ k, (∀ y0 y1 y2 y3 y4 y5 y6 y7, LeO (rot_Parts.l0 k y0 y1 y2 y3 y4 y5 y6 y7) (rot_Parts.l0 (k + 1) y0 y1 y2 y3 y4 y5 y6 y7)) ∧ (∀ y0 y1 y2 y3 y4 y5 y6 y7 y8, LeO (rot_Parts.l1 k y0 y1 y2 y3 y4 y5 y6 y7 y8) (rot_Parts.l1 (k + 1) y0 y1 y2 y3 y4 y5 y6 y7 y8)) ∧ (∀ y0 y1 y2 y3 y4 y5 y6 y7 y8 y9 y10 y11, LeO (rot_Parts.l2 k y0 y1 y2 y3 y4 y5 y6 y7 y8 y9 y10 y11) (rot_Parts.l2 (k + 1) y0 y1 y2 y3 y4 y5 y6 y7 y8 y9 y10 y11))
  | 0 => ⟨fun _ _ _ _ _ _ _ _ r h => by simp [rot_Parts.l0] at h, fun _ _ _ _ _ _ _ _ _ r h => by simp [rot_Parts.l1] at h, fun _ _ _ _ _ _ _ _ _ _ _ _ r h => by simp [rot_Parts.l2] at h⟩
  | k + 1 => by
    obtain ⟨ih0, ih1, ih2⟩ := rot_Parts.mono_l k
    refine ⟨?_, ?_, ?_⟩
    · intro y0 y1 y2 y3 y4 y5 y6 y7
      unfold rot_Parts.l0
      repeat' first
      | (with_reducible exact ih0 _ _ _ _ _ _ _ _)
      | (with_reducible exact ih1 _ _ _ _ _ _ _ _ _)
      | (with_reducible exact ih2 _ _ _ _ _ _ _ _ _ _ _ _)
      | (with_reducible exact rot_fine.mono _ _ _ _ _)
      | (with_reducible exact LeO.refl _)
      | (with_reducible exact LeO.none _)
      | (with_reducible refine LeO.ite ?_ ?_)
      | (with_reducible refine LeO.bind ?_ (fun _ => ?_))
      | exact ih0 _ _ _ _ _ _ _ _
      | exact ih1 _ _ _ _ _ _ _ _ _
      | exact ih2 _ _ _ _ _ _ _ _ _ _ _ _
      | exact rot_fine.mono _ _ _ _ _
      | exact LeO.none _
      | refine LeO.ite ?_ ?_
      | refine LeO.bind ?_ (fun _ => ?_)
    · intro y0 y1 y2 y3 y4 y5 y6 y7 y8
      unfold rot_Parts.l1
      repeat' first
      | (with_reducible exact ih0 _ _ _ _ _ _ _ _)
      | (with_reducible exact ih1 _ _ _ _ _ _ _ _ _)
      | (with_reducible exact ih2 _ _ _ _ _ _ _ _ _ _ _ _)
      | (with_reducible exact rot_fine.mono _ _ _ _ _)
      | (with_reducible exact LeO.refl _)
      | (with_reducible exact LeO.none _)
      | (with_reducible refine LeO.ite ?_ ?_)
      | (with_reducible refine LeO.bind ?_ (fun _ => ?_))
      | exact ih0 _ _ _ _ _ _ _ _
      | exact ih1 _ _ _ _ _ _ _ _ _
      | exact ih2 _ _ _ _ _ _ _ _ _ _ _ _
      | exact rot_fine.mono _ _ _ _ _
      | exact LeO.none _
      | refine LeO.ite ?_ ?_
      | refine LeO.bind ?_ (fun _ => ?_)
    · intro y0 y1 y2 y3 y4 y5 y6 y7 y8 y9 y10 y11
      unfold rot_Parts.l2
      repeat' first
      | (with_reducible exact ih0 _ _ _ _ _ _ _ _)
      | (with_reducible exact ih1 _ _ _ _ _ _ _ _ _)
      | (with_reducible exact ih2 _ _ _ _ _ _ _ _ _ _ _ _)
      | (with_reducible exact rot_fine.mono _ _ _ _ _)
      | (with_reducible exact LeO.refl _)
      | (with_reducible exact LeO.none _)
      | (with_reducible refine LeO.ite ?_ ?_)
      | (with_reducible refine LeO.bind ?_ (fun _ => ?_))
      | exact ih0 _ _ _ _ _ _ _ _
      | exact ih1 _ _ _ _ _ _ _ _ _
      | exact ih2 _ _ _ _ _ _ _ _ _ _ _ _
      | exact rot_fine.mono _ _ _ _ _
      | exact LeO.none _
      | refine LeO.ite ?_ ?_
      | refine LeO.bind ?_ (fun _ => ?_)
theorem rot_Parts.mono : ∀ a0 a1 a2 a3 k, LeO (rot_Parts.f k a0 a1 a2 a3) (rot_Parts.f (k + 1) a0 a1 a2 a3) := by
  intro a0 a1 a2 a3 k
  obtain ⟨ih0, ih1, ih2⟩ := rot_Parts.mono_l k
  unfold rot_Parts.f
  repeat' first
      | (with_reducible exact ih0 _ _ _ _ _ _ _ _)
      | (with_reducible exact ih1 _ _ _ _ _ _ _ _ _)
      | (with_reducible exact ih2 _ _ _ _ _ _ _ _ _ _ _ _)
      | (with_reducible exact rot_fine.mono _ _ _ _ _)
      | (with_reducible exact LeO.refl _)
      | (with_reducible exact LeO.none _)
      | (with_reducible refine LeO.ite ?_ ?_)
      | (with_reducible refine LeO.bind ?_ (fun _ => ?_))
      | exact ih0 _ _ _ _ _ _ _ _
      | exact ih1 _ _ _ _ _ _ _ _ _
      | exact ih2 _ _ _ _ _ _ _ _ _ _ _ _
      | exact rot_fine.mono _ _ _ _ _
      | exact LeO.none _
      | refine LeO.ite ?_ ?_
      | refine LeO.bind ?_ (fun _ => ?_)
set_option maxHeartbeats 8000000 in
set_option maxRecDepth 100000 in
theorem rot_Parts.calls (k : Nat) (a0_0 : Int) (A0_1 : Option Addr) (c0_1 : Nat) (l0_1 : List Int) (A0_2 : Option Addr) (c0_2 : Nat) (l0_2 : List Int) (A0_3 : Option Addr) (c0_3 : Nat) (l0_3 : List Int) (r1 : List Int) (r2 : Int) (w : World) (hr0_1 : Kd.C (Kd.int .i64) w A0_1 l0_1.length l0_1) (hc0_1 : l0_1.length ≤ c0_1) (hr0_2 : Kd.C (Kd.int .i64) w A0_2 l0_2.length l0_2) (hc0_2 : l0_2.length ≤ c0_2) (hr0_3 : Kd.C (Kd.int .i64) w A0_3 l0_3.length l0_3) (hc0_3 : l0_3.length ≤ c0_3) (h : rot_Parts.f k a0_0 l0_1 l0_2 l0_3 = some (r1, r2)) :
    Calls Try.prog 29 #[.agg #[.int .i64 a0_0, .slice A0_1 l0_1.length c0_1, .slice A0_2 l0_2.length c0_2, .slice A0_3 l0_3.length c0_3]] w fun e w' => ∃ v0_ : Value, e = .returned (.tuple #[v0_, .int .i64 r2]) ∧ Kd.R (Kd.int .i64) 3 w' w.heap.size (fun _ => True) v0_ r1 ∧ Below w.heap.size w w' := by
  have hu25 := Try.underlying25
  have HR0_1 := Aside0.mk hr0_1
  have HC0_1 := Aside0.mk hc0_1
  clear hr0_1 hc0_1
  have HR0_2 := Aside0.mk hr0_2
  have HC0_2 := Aside0.mk hc0_2
  clear hr0_2 hc0_2
  have HR0_3 := Aside0.mk hr0_3
  have HC0_3 := Aside0.mk hc0_3
  clear hr0_3 hc0_3
  have HB := Aside0.mk (Below.refl w.heap.size w)
  have H : ((rot_fine.f k a0_0 l0_1 l0_2 l0_3).bind fun t452 => (if t452 = true then ((slices_Repeat_int_int.f (([(-1)] : List Int)) a0_0).bind fun t456 => (rot_Parts.l0 k t456 0 (t456.length : Int) 0 a0_0 l0_1 l0_2 l0_3)) else (some (([] : List Int), 0)))) = some (r1, r2) := h
  clear h
  replace H := Option.bind_eq_some_iff.mp H
  obtain ⟨t452, A20, H⟩ := H
  replace H : (if t452 = true then ((slices_Repeat_int_int.f (([(-1)] : List Int)) a0_0).bind fun t456 => (rot_Parts.l0 k t456 0 (t456.length : Int) 0 a0_0 l0_1 l0_2 l0_3)) else (some (([] : List Int), 0))) = some (r1, r2) := H
  have A2 := Aside0.mk A20
  clear A20
  by_cases c3 : t452 = true
  · subst c3
    have H1 : ((slices_Repeat_int_int.f (([(-1)] : List Int)) a0_0).bind fun t456 => (rot_Parts.l0 k t456 0 (t456.length : Int) 0 a0_0 l0_1 l0_2 l0_3)) = some (r1, r2) := by rw [if_pos rfl] at H; exact H
    clear H
    have H := H1
    clear H1
    obtain ⟨y453, hy453⟩ : ∃ y_ : List Int, y_ = (([(-1)] : List Int)) := ⟨_, rfl⟩
    replace H : ((slices_Repeat_int_int.f y453 a0_0).bind fun t456 => (rot_Parts.l0 k t456 0 (t456.length : Int) 0 a0_0 l0_1 l0_2 l0_3)) = some (r1, r2) := by first | (rw [hy453]; with_reducible exact H) | (have H2_ := (Option.bind_some _ _).symm.trans H; rw [hy453]; with_reducible exact H2_) | (have H2_ := (Option.bind_some _ _).symm.trans H; with_reducible exact H2_) | with_reducible exact H | (rw [hy453]; exact H) | exact H
    have Ny453 := Aside0.mk hy453
    clear hy453
    replace H := Option.bind_eq_some_iff.mp H
    obtain ⟨t456, A40, H⟩ := H
    replace H : (rot_Parts.l0 k t456 0 (t456.length : Int) 0 a0_0 l0_1 l0_2 l0_3) = some (r1, r2) := H
    have A4 := Aside0.mk A40
    clear A40
    have H' := Aside0.mk H
    clear H
    go_enter Try.func29, Try.ntmps29
    go_wp2_with (first | ((with_reducible refine gate_dst (N := 1) rfl ?_); refine box_event ?hg (N := 1) ?hd (cs := #[.int .i64 a0_0, .slice A0_1 l0_1.length c0_1, .slice A0_2 l0_2.length c0_2, .slice A0_3 l0_3.length c0_3]) (t := 25) ?hr ?_; (case hd => rfl); (case hg => rfl); (case hr => first | (go_simp; done) | (go_simp; rfl)); intro gb451 hg w5 hbox hb; have n0_ := Aside0.mk (below_step (by repeat (first | (with_reducible first | exact HB.out | apply below_alloc | apply pw_below_drewN | apply below_drew1) | exact HB.out)) hb); have n1_ := Aside0.mk (hbox); have n2_ := Aside0.mk ((by rw [hg]; exact (below_size (by repeat (first | (with_reducible first | exact HB.out | apply below_alloc | apply pw_below_drewN | apply below_drew1) | exact HB.out))) : w.heap.size ≤ gb451)); have n3_ := Aside0.mk ((by rw [hg]; exact (below_size (by repeat (first | (with_reducible first | exact HB.out | apply below_alloc | apply pw_below_drewN | apply below_drew1) | exact HB.out))) : w.heap.size ≤ gb451)); clear HB; have HB := n0_; have BK451 := n1_; have GW451 := n2_; have GE451 := n3_; clear n0_ n1_ n2_ n3_; clear hb hbox hg; have hcz6_0 : w5.cell? ⟨gb451, 0, none⟩ = some (.int .i64 a0_0) := (blk_cell BK451.out 0).trans rfl; have hcz6_1 : w5.cell? ⟨gb451, 1, none⟩ = some (.slice A0_1 l0_1.length c0_1) := (blk_cell BK451.out 1).trans rfl; have hcz6_2 : w5.cell? ⟨gb451, 2, none⟩ = some (.slice A0_2 l0_2.length c0_2) := (blk_cell BK451.out 2).trans rfl; have hcz6_3 : w5.cell? ⟨gb451, 3, none⟩ = some (.slice A0_3 l0_3.length c0_3) := (blk_cell BK451.out 3).trans rfl; have hfz6_0 := blk_frozen BK451.out 0; have hfz6_1 := blk_frozen BK451.out 1; have hfz6_2 := blk_frozen BK451.out 2; have hfz6_3 := blk_frozen BK451.out 3) | ((with_reducible refine gate_callee (f := 43) rfl ?_); refine goesL_ (some 12) rfl rfl Try.func43 (by kernel_rfl) rfl #[.agg #[.int .i64 a0_0, .slice A0_1 l0_1.length c0_1, .slice A0_2 l0_2.length c0_2, .slice A0_3 l0_3.length c0_3]] rfl (by (try simp only [List.map_toArray, List.map_cons, List.map_nil]); first | done | rfl | (simp only [List.length_drop, List.length_take]; rfl)) ?_; (with_reducible refine (rot_fine.calls k a0_0 _ _ l0_1 _ _ l0_2 _ _ l0_3 true _ ?side1 ?side2 ?side3 ?side4 ?side5 ?side6 A2.out).mono ?_); (case side1 => repeat (first | exact (Kd.C_below HR0_1.out HB.out) | (with_reducible refine Kd.C_alloc ?_ _) | (with_reducible refine Kd.C_drewN ?_ _) | (with_reducible refine Kd.C_drew ?_))); (case side2 => exact HC0_1.out); (case side3 => repeat (first | exact (Kd.C_below HR0_2.out HB.out) | (with_reducible refine Kd.C_alloc ?_ _) | (with_reducible refine Kd.C_drewN ?_ _) | (with_reducible refine Kd.C_drew ?_))); (case side4 => exact HC0_2.out); (case side5 => repeat (first | exact (Kd.C_below HR0_3.out HB.out) | (with_reducible refine Kd.C_alloc ?_ _) | (with_reducible refine Kd.C_drewN ?_ _) | (with_reducible refine Kd.C_drew ?_))); (case side6 => exact HC0_3.out); rintro e w7 ⟨rfl, hb⟩; refine ⟨_, rfl, ?_⟩; have n0_ := Aside0.mk (blk_below (g := gb451) (o := .cells #[.int .i64 a0_0, .slice A0_1 l0_1.length c0_1, .slice A0_2 l0_2.length c0_2, .slice A0_3 l0_3.length c0_3] 25 (0, 0)) (by (with_reducible repeat (first | refine blk_drewN ?_ _ | refine blk_drew ?_ | refine blk_alloc ?_ _)); exact BK451.out) hb); have n1_ := Aside0.mk (below_step (by repeat (first | (with_reducible first | exact HB.out | apply below_alloc | apply pw_below_drewN | apply below_drew1 | refine below_set ?_ GE451.out) | exact HB.out)) hb); clear BK451; clear HB; have BK451 := n0_; have HB := n1_; clear n0_ n1_; (try clear hb); (try clear hb2); (try clear hk); (try clear hi)) | ((with_reducible refine gate_dst (N := 14) rfl ?_); refine Kd.R_lit (Kd.int .i64) _ 3 ?hg (N := 14) ?hd (xs := ([(-1)] : List Int)) (inner := [.int .i64 (-1)]) (ok := fun _ => True) (okp := fun _ => True) ?hr ?hp (fun _ hk => hk) trivial (Below.refl _ _) (Nat.le_refl _) (by simp) ?_; (case hd => rfl); (case hg => rfl); (case hr => first | (go_simp; done) | (go_simp; rfl)); (case hp => exact (Reps.one (show Kd.M (Kd.int .i64) _ _ _ (-1) [.int .i64 (-1)] from rfl) (Reps.none _ _))); intro v454 w8 ho9 hb hg_ hnew_; clear hg_ hnew_; (first | rw [← Ny453.out] at ho9 | (simp only [Int.reduceToNat] at ho9; rw [← Ny453.out] at ho9)); have n0_ := Aside0.mk (Kd.R_lower ho9 (below_size (by repeat (first | (with_reducible first | exact HB.out | apply below_alloc | apply pw_below_drewN | apply below_drew1 | refine below_set ?_ GE451.out) | exact HB.out)))); have n1_ := Aside0.mk (blk_below (g := gb451) (o := .cells #[.int .i64 a0_0, .slice A0_1 l0_1.length c0_1, .slice A0_2 l0_2.length c0_2, .slice A0_3 l0_3.length c0_3] 25 (0, 0)) (by (with_reducible repeat (first | refine blk_drewN ?_ _ | refine blk_drew ?_ | refine blk_alloc ?_ _)); exact BK451.out) hb); have n2_ := Aside0.mk (below_step (by repeat (first | (with_reducible first | exact HB.out | apply below_alloc | apply pw_below_drewN | apply below_drew1 | refine below_set ?_ GE451.out) | exact HB.out)) hb); clear BK451; clear HB; have HO455 := n0_; have BK451 := n1_; have HB := n2_; clear n0_ n1_ n2_; clear hb ho9; have hcz10_0 : w8.cell? ⟨gb451, 0, none⟩ = some (.int .i64 a0_0) := (blk_cell BK451.out 0).trans rfl; have hcz10_1 : w8.cell? ⟨gb451, 1, none⟩ = some (.slice A0_1 l0_1.length c0_1) := (blk_cell BK451.out 1).trans rfl; have hcz10_2 : w8.cell? ⟨gb451, 2, none⟩ = some (.slice A0_2 l0_2.length c0_2) := (blk_cell BK451.out 2).trans rfl; have hcz10_3 : w8.cell? ⟨gb451, 3, none⟩ = some (.slice A0_3 l0_3.length c0_3) := (blk_cell BK451.out 3).trans rfl; have hfz10_0 := blk_frozen BK451.out 0; have hfz10_1 := blk_frozen BK451.out 1; have hfz10_2 := blk_frozen BK451.out 2; have hfz10_3 := blk_frozen BK451.out 3; obtain ⟨Ao11, co11, eo11⟩ := Kd.R_slice HO455.out; subst eo11) | ((with_reducible refine gate_callee (f := 42) rfl ?_); refine goesL_ (some 17) rfl rfl Try.func42 (by kernel_rfl) rfl #[.slice Ao11 y453.length co11, .int .i64 a0_0] rfl (by (try simp only [List.map_toArray, List.map_cons, List.map_nil]); first | done | rfl | (simp only [List.length_drop, List.length_take]; rfl)) ?_; (with_reducible refine (slices_Repeat_int_int.calls _ _ y453 a0_0 t456 _ ?side1 ?side2 A4.out).mono ?_); (case side1 => repeat (first | exact (Kd.R_reads' HO455.out).2.2 | (with_reducible refine Kd.C_alloc ?_ _) | (with_reducible refine Kd.C_drewN ?_ _) | (with_reducible refine Kd.C_drew ?_))); (case side2 => exact (Kd.R_reads' HO455.out).2.1); rintro e w12 ⟨v457, rfl, ho0, hb⟩; refine ⟨_, rfl, ?_⟩; have n0_ := Aside0.mk (Kd.R_elder' (by (with_reducible repeat (first | apply Kd.R_alloc | apply Kd.R_drewN | apply Kd.R_drew)); exact HO455.out) (Kd.R_base ho0) hb); have n1_ := Aside0.mk (Kd.R_lower (Kd.R_new' ho0 (Kd.R_lt (by (with_reducible repeat (first | apply Kd.R_alloc | apply Kd.R_drewN | apply Kd.R_drew)); exact HO455.out))) (below_size (by repeat (first | (with_reducible first | exact HB.out | apply below_alloc | apply pw_below_drewN | apply below_drew1 | refine below_set ?_ GE451.out) | exact HB.out)))); have n2_ := Aside0.mk (blk_below (g := gb451) (o := .cells #[.int .i64 a0_0, .slice A0_1 l0_1.length c0_1, .slice A0_2 l0_2.length c0_2, .slice A0_3 l0_3.length c0_3] 25 (0, 0)) (by (with_reducible repeat (first | refine blk_drewN ?_ _ | refine blk_drew ?_ | refine blk_alloc ?_ _)); exact BK451.out) hb); have n3_ := Aside0.mk (below_step (by repeat (first | (with_reducible first | exact HB.out | apply below_alloc | apply pw_below_drewN | apply below_drew1 | refine below_set ?_ GE451.out) | exact HB.out)) hb); clear HO455; clear BK451; clear HB; have HO455 := n0_; have HO458 := n1_; have BK451 := n2_; have HB := n3_; clear n0_ n1_ n2_ n3_; (try clear hb); (try clear hb2); (try clear hk); (try clear hi); (try clear ho0); obtain ⟨Ao13, co13, eo13⟩ := Kd.R_slice HO458.out; subst eo13))
    go_loopg [5, 20] k (fun kq v5 v20 w' => ∃ (x4_1 : List Int) (x5_1 : Int) (x20_1 : Int), v5 = .int .i64 x5_1 ∧ v20 = .int .i64 x20_1 ∧ Aside0 (rot_Parts.l0 kq x4_1 x5_1 (t456.length : Int) x20_1 a0_0 l0_1 l0_2 l0_3 = some (r1, r2)) ∧ Aside0 (kq ≤ k) ∧ Aside0 (Kd.R (Kd.int .i64) 3 w' w.heap.size (fun _ => True) (.slice Ao13 t456.length co13) x4_1) ∧ Aside0 (w'.heap[gb451]? = some (.cells #[.int .i64 a0_0, (.slice A0_1 l0_1.length c0_1), (.slice A0_2 l0_2.length c0_2), (.slice A0_3 l0_3.length c0_3)] 25 (0, 0))) ∧ Aside0 (Below w.heap.size w w'))
    case atStart => exact ⟨(t456), (0), (0), (by first | rfl | (simp; done) | (simp [*]; done)), (by first | rfl | (simp; done) | (simp [*]; done)), H', ⟨Nat.le_refl _⟩, ⟨by (with_reducible repeat (first | apply Kd.R_alloc | apply Kd.R_drewN | apply Kd.R_drew)); exact Kd.R_mono HO458.out (fun _ hk => trivial)⟩, ⟨by (with_reducible repeat (first | refine blk_drewN ?_ _ | refine blk_drew ?_ | refine blk_alloc ?_ _)); exact BK451.out⟩, ⟨by repeat (first | (with_reducible first | exact HB.out | apply below_alloc | apply pw_below_drewN | apply below_drew1 | refine below_set ?_ GE451.out) | exact HB.out)⟩⟩
    case round =>
      clear H'
      try clear c2
      try clear p2
      try clear c3
      try clear c4
      try clear hcz10_0
      try clear hcz10_1
      try clear hcz10_2
      try clear hcz10_3
      try clear hcz6_0
      try clear hcz6_1
      try clear hcz6_2
      try clear hcz6_3
      try clear hfz10_0
      try clear hfz10_1
      try clear hfz10_2
      try clear hfz10_3
      try clear hfz6_0
      try clear hfz6_1
      try clear hfz6_2
      try clear hfz6_3
      obtain ⟨x4_1, x5_1, x20_1, rfl, rfl, HA, HK1, HO_4, BK451, HB⟩ := hrel
      have hl4_1 := (Kd.R_reads' HO_4.out).1
      rw [hl4_1] at HO_4
      (try simp only [hl4_1])
      (try simp only [hl4_1] at BK451)
      cases gk with
      | zero => exact absurd HA.out (by simp [rot_Parts.l0])
      | succ k1 =>
        have H := HA.out
        clear HA
        simp only [rot_Parts.l0] at H
        by_cases c14 : x20_1 < (t456.length : Int)
        · rw [if_pos c14] at H
          have c14b0 : decide (x20_1 < (t456.length : Int)) = true := decide_eq_true c14
          have cq_b3 : decide (x20_1 < (x4_1.length : Int)) = true := by have h_ := c14b0; first | rwa [hl4_1] at h_ | rwa [← hl4_1] at h_
          clear c14
          by_cases c15 : 0 ≤ x20_1
          · rw [if_pos c15] at H
            have c15b0 : decide (0 ≤ x20_1) = true := decide_eq_true c15
            clear c15
            by_cases c16 : x20_1 < (x4_1.length : Int)
            · rw [if_pos c16] at H
              have c16b0 : decide (x20_1 < (x4_1.length : Int)) = true := decide_eq_true c16
              clear c16
              by_cases c17 : (rd x4_1 x20_1) ≥ 0
              · rw [if_pos c17] at H
                have c17b0 : decide (0 ≤ (rd x4_1 x20_1)) = true := decide_eq_true c17
                clear c17
                have H' := Aside0.mk H
                clear H
                have p459 : 0 ≤ (x20_1 : Int) := of_decide_eq_true (by first | (with_reducible assumption) | assumption)
                have q459 : x20_1 < (x4_1.length : Int) := of_decide_eq_true (by first | (with_reducible assumption) | assumption)
                obtain ⟨ad459, e459, hx459_0⟩ := Kd.at_int (Kd.R_reads' HO_4.out).2.2 x20_1 p459 q459
                cases e459
                replace p459 := eq_true p459
                replace q459 := eq_true q459
                go_wp2
                (try simp only [← hl4_1])
                go_roundg k1
                case measure => have := HK1.out; omega
                case rel => exact ⟨(x4_1), (x5_1), (wrap64 (x20_1 + 1)), (by first | rfl | (simp; done) | (simp [*]; done)), (by first | rfl | (simp; done) | (simp [*]; done)), H', ⟨by have := HK1.out; omega⟩, ⟨by (try simp only [hl4_1]); (with_reducible repeat (first | apply Kd.R_alloc | apply Kd.R_drewN | apply Kd.R_drew)); exact HO_4.out⟩, ⟨by (try simp only [hl4_1]); (with_reducible repeat (first | refine blk_drewN ?_ _ | refine blk_drew ?_ | refine blk_alloc ?_ _)); exact BK451.out⟩, ⟨by repeat (first | (with_reducible first | exact HB.out | apply below_alloc | apply pw_below_drewN | apply below_drew1 | refine below_set ?_ GE451.out) | exact HB.out)⟩⟩
              · rw [if_neg c17] at H
                have c17b0 : decide (0 ≤ (rd x4_1 x20_1)) = false := decide_eq_false c17
                clear c17
                obtain ⟨y460, hy460⟩ : ∃ y_ : List Int, y_ = (x4_1.set (x20_1 : Int).toNat x5_1) := ⟨_, rfl⟩
                replace H : (rot_Parts.l1 k1 y460 x5_1 true (t456.length : Int) x20_1 a0_0 l0_1 l0_2 l0_3) = some (r1, r2) := by first | (rw [hy460]; with_reducible exact H) | (have H2_ := (Option.bind_some _ _).symm.trans H; rw [hy460]; with_reducible exact H2_) | (have H2_ := (Option.bind_some _ _).symm.trans H; with_reducible exact H2_) | with_reducible exact H | (rw [hy460]; exact H) | exact H
                have Ny460 := Aside0.mk hy460
                clear hy460
                have H' := Aside0.mk H
                clear H
                have p459 : 0 ≤ (x20_1 : Int) := of_decide_eq_true (by first | (with_reducible assumption) | assumption)
                have q459 : x20_1 < (x4_1.length : Int) := of_decide_eq_true (by first | (with_reducible assumption) | assumption)
                obtain ⟨ad459, e459, hx459_0⟩ := Kd.at_int (Kd.R_reads' HO_4.out).2.2 x20_1 p459 q459
                cases e459
                replace p459 := eq_true p459
                replace q459 := eq_true q459
                have p18 : 0 ≤ (x20_1 : Int) := of_decide_eq_true (by first | (with_reducible assumption) | assumption)
                have q18 : (x20_1 : Int) < ((x4_1.length : Int) : Int) := of_decide_eq_true (by first | (with_reducible assumption) | assumption)
                obtain ⟨go18, co18, eo18, gb18, gl18, cl18, HG18⟩ := Kd.R_form HO_4.out (by omega)
                (first | cases eo18 | (injection eo18 with ea_ en_ ec_; (first | subst ea_ | (injection ea_ with ea_; subst ea_)); subst ec_; clear en_))
                have GB18 := Aside0.mk gb18
                have GG18 := Aside0.mk HG18
                clear gb18 gl18 HG18
                (first | simp only [add_plain] at hx459_0 | skip)
                obtain ⟨hx18_0, hf18_0⟩ := Kd.R_celln 0 HO_4.out (x20_1 : Int) p18 q18
                replace p18 := eq_true p18
                replace q18 := eq_true q18
                have HP19 := Kd.R_putg HO_4.out (x20_1 : Int) x5_1
                go_wp2_with (first | ((with_reducible refine gate_store (t := 3) (p := 31) rfl ?_); refine store_event (t := 3) (p := 31) (v := ?vo_w20) (w1 := (wr.setCell ⟨go18, (x20_1 : Int).toNat, none⟩ (.int .i64 x5_1))) ?hg ?ho ?hn ?hr ?_; (case ho => rfl); (case hg => rfl); (case hn => rfl); (case hr => first | (go_simp; done) | (go_simp; rfl)); intro w20 hw; have hg : wr.grownBy w20 (some go18) := (by rw [hw]; exact HP19.2); have hp_ : Kd.R (Kd.int .i64) 3 w20 w.heap.size (fun _ => True) (.slice (some ⟨go18, 0, none⟩) x4_1.length co13) y460 := (by rw [hw, Ny460.out]; exact HP19.1); clear HP19; have n0_ := Aside0.mk (hp_); have n1_ := Aside0.mk (blk_grown (g := gb451) (o := .cells #[.int .i64 a0_0, .slice A0_1 l0_1.length c0_1, .slice A0_2 l0_2.length c0_2, .slice A0_3 l0_3.length c0_3] 25 (0, 0)) (by (with_reducible repeat (first | refine blk_drewN ?_ _ | refine blk_drew ?_ | refine blk_alloc ?_ _)); exact BK451.out) hg (Kd.R_ne HO_4.out BK451.out (by decide))); have n2_ := Aside0.mk ((by rw [hw]; exact below_set (HB.out) GB18.out : Below w.heap.size w w20)); clear HO_4; clear BK451; clear HB; have HO_4 := n0_; have BK451 := n1_; have HB := n2_; clear n0_ n1_ n2_; clear hg hw hp_))
                go_loopg [7] k1 (fun kq v7 w' => ∃ (x4_2 : List Int) (x7_2 : Bool), v7 = .bool x7_2 ∧ Aside0 (rot_Parts.l1 kq x4_2 x5_1 x7_2 (t456.length : Int) x20_1 a0_0 l0_1 l0_2 l0_3 = some (r1, r2)) ∧ Aside0 (kq ≤ k1) ∧ Aside0 (Kd.R (Kd.int .i64) 3 w' w.heap.size (fun _ => True) (.slice (some ⟨go18, 0, none⟩) x4_1.length co13) x4_2) ∧ Aside0 (w'.heap[gb451]? = some (.cells #[.int .i64 a0_0, (.slice A0_1 l0_1.length c0_1), (.slice A0_2 l0_2.length c0_2), (.slice A0_3 l0_3.length c0_3)] 25 (0, 0))) ∧ Aside0 (Below w.heap.size w w'))
                case atStart => exact ⟨(y460), (true), (by first | rfl | (simp; done) | (simp [*]; done)), H', ⟨Nat.le_refl _⟩, ⟨by (try simp only [hl4_1]); (with_reducible repeat (first | apply Kd.R_alloc | apply Kd.R_drewN | apply Kd.R_drew)); exact HO_4.out⟩, ⟨by (try simp only [hl4_1]); (with_reducible repeat (first | refine blk_drewN ?_ _ | refine blk_drew ?_ | refine blk_alloc ?_ _)); exact BK451.out⟩, ⟨by repeat (first | (with_reducible first | exact HB.out | apply below_alloc | apply pw_below_drewN | apply below_drew1 | refine below_set ?_ GE451.out) | exact HB.out)⟩⟩
                case round =>
                  clear H'
                  try clear c1
                  try clear p1
                  try clear q1
                  try clear hx1
                  try clear hf1
                  try clear c2
                  try clear p2
                  try clear c3
                  try clear c4
                  try clear p4
                  try clear q4
                  try clear hx4
                  try clear p6
                  try clear c14
                  try clear c14b0
                  try clear c15
                  try clear c15b0
                  try clear c16
                  try clear c16b0
                  try clear c17
                  try clear c17b0
                  try clear p18
                  try clear q18
                  try clear hx18
                  try clear hf18
                  try clear hcz10_0
                  try clear hcz10_1
                  try clear hcz10_2
                  try clear hcz10_3
                  try clear hcz6_0
                  try clear hcz6_1
                  try clear hcz6_2
                  try clear hcz6_3
                  try clear hfz10_0
                  try clear hfz10_1
                  try clear hfz10_2
                  try clear hfz10_3
                  try clear hfz6_0
                  try clear hfz6_1
                  try clear hfz6_2
                  try clear hfz6_3
                  try clear hx18_0
                  try clear hx459_0
                  try clear p18
                  try clear p2
                  try clear p459
                  try clear q18
                  try clear q459
                  obtain ⟨x4_2, x7_2, rfl, HA, HK2, HO_4, BK451, HB⟩ := hrel
                  have hl4_2 := (Kd.R_reads' HO_4.out).1
                  rw [hl4_2] at HO_4
                  (try simp only [hl4_2])
                  (try simp only [hl4_2] at BK451)
                  cases gk with
                  | zero => exact absurd HA.out (by simp [rot_Parts.l1])
                  | succ k2 =>
                    have H := HA.out
                    clear HA
                    simp only [rot_Parts.l1] at H
                    by_cases c21 : x7_2 = true
                    · subst c21
                      have H1 : (rot_Parts.l2 k2 x4_2 x5_1 false (t456.length : Int) x20_1 l0_1 (l0_1.length : Int) 0 a0_0 l0_1 l0_2 l0_3) = some (r1, r2) := by rw [if_pos rfl] at H; exact H
                      clear H
                      have H := H1
                      clear H1
                      have H' := Aside0.mk H
                      clear H
                      have hcz22_0 : wr.cell? ⟨gb451, 0, none⟩ = some (.int .i64 a0_0) := (blk_cell BK451.out 0).trans rfl
                      have hcz22_1 : wr.cell? ⟨gb451, 1, none⟩ = some (.slice A0_1 l0_1.length c0_1) := (blk_cell BK451.out 1).trans rfl
                      have hcz22_2 : wr.cell? ⟨gb451, 2, none⟩ = some (.slice A0_2 l0_2.length c0_2) := (blk_cell BK451.out 2).trans rfl
                      have hcz22_3 : wr.cell? ⟨gb451, 3, none⟩ = some (.slice A0_3 l0_3.length c0_3) := (blk_cell BK451.out 3).trans rfl
                      have hfz22_0 := blk_frozen BK451.out 0
                      have hfz22_1 := blk_frozen BK451.out 1
                      have hfz22_2 := blk_frozen BK451.out 2
                      have hfz22_3 := blk_frozen BK451.out 3
                      go_wp2
                      go_loopg [7, 36] k2 (fun kq v7 v36 w' => ∃ (x4_3 : List Int) (x7_3 : Bool) (x36_3 : Int), v7 = .bool x7_3 ∧ v36 = .int .i64 x36_3 ∧ Aside0 (rot_Parts.l2 kq x4_3 x5_1 x7_3 (t456.length : Int) x20_1 l0_1 (l0_1.length : Int) x36_3 a0_0 l0_1 l0_2 l0_3 = some (r1, r2)) ∧ Aside0 (kq ≤ k2) ∧ Aside0 (Kd.R (Kd.int .i64) 3 w' w.heap.size (fun _ => True) (.slice (some ⟨go18, 0, none⟩) x4_2.length co13) x4_3) ∧ Aside0 (w'.heap[gb451]? = some (.cells #[.int .i64 a0_0, (.slice A0_1 l0_1.length c0_1), (.slice A0_2 l0_2.length c0_2), (.slice A0_3 l0_3.length c0_3)] 25 (0, 0))) ∧ Aside0 (Below w.heap.size w w'))
                      case atStart => exact ⟨(x4_2), (false), (0), (by first | rfl | (simp; done) | (simp [*]; done)), (by first | rfl | (simp; done) | (simp [*]; done)), H', ⟨Nat.le_refl _⟩, ⟨by (try simp only [hl4_1]); (try simp only [hl4_2]); (with_reducible repeat (first | apply Kd.R_alloc | apply Kd.R_drewN | apply Kd.R_drew)); exact HO_4.out⟩, ⟨by (try simp only [hl4_1]); (try simp only [hl4_2]); (with_reducible repeat (first | refine blk_drewN ?_ _ | refine blk_drew ?_ | refine blk_alloc ?_ _)); exact BK451.out⟩, ⟨by repeat (first | (with_reducible first | exact HB.out | apply below_alloc | apply pw_below_drewN | apply below_drew1 | refine below_set ?_ GE451.out) | exact HB.out)⟩⟩
                      case round =>
                        clear H'
                        try clear c1
                        try clear p1
                        try clear q1
                        try clear hx1
                        try clear hf1
                        try clear c2
                        try clear p2
                        try clear c3
                        try clear c4
                        try clear p4
                        try clear q4
                        try clear hx4
                        try clear p6
                        try clear c14
                        try clear c14b0
                        try clear c15
                        try clear c15b0
                        try clear c16
                        try clear c16b0
                        try clear c17
                        try clear c17b0
                        try clear p18
                        try clear q18
                        try clear hx18
                        try clear hf18
                        try clear c21
                        try clear hcz10_0
                        try clear hcz10_1
                        try clear hcz10_2
                        try clear hcz10_3
                        try clear hcz22_0
                        try clear hcz22_1
                        try clear hcz22_2
                        try clear hcz22_3
                        try clear hcz6_0
                        try clear hcz6_1
                        try clear hcz6_2
                        try clear hcz6_3
                        try clear hfz10_0
                        try clear hfz10_1
                        try clear hfz10_2
                        try clear hfz10_3
                        try clear hfz22_0
                        try clear hfz22_1
                        try clear hfz22_2
                        try clear hfz22_3
                        try clear hfz6_0
                        try clear hfz6_1
                        try clear hfz6_2
                        try clear hfz6_3
                        try clear hx18_0
                        try clear hx459_0
                        try clear p1
                        try clear p18
                        try clear p2
                        try clear p4
                        try clear p459
                        try clear p6
                        try clear q1
                        try clear q18
                        try clear q4
                        try clear q459
                        obtain ⟨x4_3, x7_3, x36_3, rfl, rfl, HA, HK3, HO_4, BK451, HB⟩ := hrel
                        have hl4_3 := (Kd.R_reads' HO_4.out).1
                        rw [hl4_3] at HO_4
                        (try simp only [hl4_3])
                        (try simp only [hl4_3] at BK451)
                        cases gk with
                        | zero => exact absurd HA.out (by simp [rot_Parts.l2])
                        | succ k3 =>
                          have H := HA.out
                          clear HA
                          simp only [rot_Parts.l2] at H
                          by_cases c23 : x36_3 < (l0_1.length : Int)
                          · rw [if_pos c23] at H
                            have c23b0 : decide (x36_3 < (l0_1.length : Int)) = true := decide_eq_true c23
                            clear c23
                            by_cases c24 : 0 ≤ x36_3
                            · rw [if_pos c24] at H
                              have c24b0 : decide (0 ≤ x36_3) = true := decide_eq_true c24
                              clear c24
                              by_cases c25 : x36_3 < (l0_1.length : Int)
                              · rw [if_pos c25] at H
                                have c25b0 : decide (x36_3 < (l0_1.length : Int)) = true := decide_eq_true c25
                                clear c25
                                replace H := Option.bind_eq_some_iff.mp H
                                obtain ⟨t462, A260, H⟩ := H
                                replace H : (if 0 ≤ (rd l0_1 x36_3) then (if (rd l0_1 x36_3) < (x4_3.length : Int) then (if (rd x4_3 (rd l0_1 x36_3)) = x5_1 then (if 0 ≤ t462 then (if t462 < (x4_3.length : Int) then (if (rd x4_3 t462) < 0 then (rot_Parts.l2 k3 (x4_3.set (t462 : Int).toNat x5_1) x5_1 true (t456.length : Int) x20_1 l0_1 (l0_1.length : Int) (wrap64 (x36_3 + 1)) a0_0 l0_1 l0_2 l0_3) else (rot_Parts.l2 k3 x4_3 x5_1 x7_3 (t456.length : Int) x20_1 l0_1 (l0_1.length : Int) (wrap64 (x36_3 + 1)) a0_0 l0_1 l0_2 l0_3)) else (none)) else (none)) else (rot_Parts.l2 k3 x4_3 x5_1 x7_3 (t456.length : Int) x20_1 l0_1 (l0_1.length : Int) (wrap64 (x36_3 + 1)) a0_0 l0_1 l0_2 l0_3)) else (none)) else (none)) = some (r1, r2) := H
                                have A26 := Aside0.mk A260
                                clear A260
                                by_cases c27 : 0 ≤ (rd l0_1 x36_3)
                                · rw [if_pos c27] at H
                                  have c27b0 : decide (0 ≤ (rd l0_1 x36_3)) = true := decide_eq_true c27
                                  clear c27
                                  by_cases c28 : (rd l0_1 x36_3) < (x4_3.length : Int)
                                  · rw [if_pos c28] at H
                                    have c28b0 : decide ((rd l0_1 x36_3) < (x4_3.length : Int)) = true := decide_eq_true c28
                                    clear c28
                                    by_cases c29 : (rd x4_3 (rd l0_1 x36_3)) = x5_1
                                    · rw [if_pos c29] at H
                                      have c29b0 : ((rd x4_3 (rd l0_1 x36_3)) == x5_1) = true := beq_iff_eq.mpr c29
                                      have c29b1 : ((rd x4_3 (rd l0_1 x36_3)) != x5_1) = false := bne_eq_false_iff_eq.mpr c29
                                      clear c29
                                      by_cases c30 : 0 ≤ t462
                                      · rw [if_pos c30] at H
                                        have c30b0 : decide (0 ≤ t462) = true := decide_eq_true c30
                                        clear c30
                                        by_cases c31 : t462 < (x4_3.length : Int)
                                        · rw [if_pos c31] at H
                                          have c31b0 : decide (t462 < (x4_3.length : Int)) = true := decide_eq_true c31
                                          clear c31
                                          by_cases c32 : (rd x4_3 t462) < 0
                                          · rw [if_pos c32] at H
                                            have c32b0 : decide ((rd x4_3 t462) < 0) = true := decide_eq_true c32
                                            clear c32
                                            obtain ⟨y465, hy465⟩ : ∃ y_ : List Int, y_ = (x4_3.set (t462 : Int).toNat x5_1) := ⟨_, rfl⟩
                                            replace H : (rot_Parts.l2 k3 y465 x5_1 true (t456.length : Int) x20_1 l0_1 (l0_1.length : Int) (wrap64 (x36_3 + 1)) a0_0 l0_1 l0_2 l0_3) = some (r1, r2) := by first | (rw [hy465]; with_reducible exact H) | (have H2_ := (Option.bind_some _ _).symm.trans H; rw [hy465]; with_reducible exact H2_) | (have H2_ := (Option.bind_some _ _).symm.trans H; with_reducible exact H2_) | with_reducible exact H | (rw [hy465]; exact H) | exact H
                                            have Ny465 := Aside0.mk hy465
                                            clear hy465
                                            have H' := Aside0.mk H
                                            clear H
                                            have p461 : 0 ≤ (x36_3 : Int) := of_decide_eq_true (by first | (with_reducible assumption) | assumption)
                                            have q461 : x36_3 < (l0_1.length : Int) := of_decide_eq_true (by first | (with_reducible assumption) | assumption)
                                            obtain ⟨ad461, e461, hx461_0⟩ := Kd.at_int HR0_1.out x36_3 p461 q461
                                            cases e461
                                            replace hx461_0 := (HB.out.cell (World.block_lt_of_cell? w _ hx461_0)).trans hx461_0
                                            replace p461 := eq_true p461
                                            replace q461 := eq_true q461
                                            have hcz34_0 : wr.cell? ⟨gb451, 0, none⟩ = some (.int .i64 a0_0) := (blk_cell BK451.out 0).trans rfl
                                            have hcz34_1 : wr.cell? ⟨gb451, 1, none⟩ = some (.slice (some ad461) l0_1.length c0_1) := (blk_cell BK451.out 1).trans rfl
                                            have hcz34_2 : wr.cell? ⟨gb451, 2, none⟩ = some (.slice A0_2 l0_2.length c0_2) := (blk_cell BK451.out 2).trans rfl
                                            have hcz34_3 : wr.cell? ⟨gb451, 3, none⟩ = some (.slice A0_3 l0_3.length c0_3) := (blk_cell BK451.out 3).trans rfl
                                            have hfz34_0 := blk_frozen BK451.out 0
                                            have hfz34_1 := blk_frozen BK451.out 1
                                            have hfz34_2 := blk_frozen BK451.out 2
                                            have hfz34_3 := blk_frozen BK451.out 3
                                            go_wp2_with (first | ((with_reducible refine gate_callee (f := 35) rfl ?_); refine goesL_ (some 43) rfl rfl Try.func35 (by kernel_rfl) rfl #[.agg #[.int .i64 a0_0, .slice (some ad461) l0_1.length c0_1, .slice A0_2 l0_2.length c0_2, .slice A0_3 l0_3.length c0_3], .int .i64 x36_3] rfl (by (try simp only [List.map_toArray, List.map_cons, List.map_nil]); first | done | rfl | (simp only [List.length_drop, List.length_take]; rfl)) ?_; (with_reducible refine (rot_Head.calls a0_0 _ _ l0_1 _ _ l0_2 _ _ l0_3 x36_3 t462 _ ?side1 ?side2 ?side3 ?side4 ?side5 ?side6 A26.out).mono ?_); (case side1 => repeat (first | exact (Kd.C_below HR0_1.out HB.out) | (with_reducible refine Kd.C_alloc ?_ _) | (with_reducible refine Kd.C_drewN ?_ _) | (with_reducible refine Kd.C_drew ?_))); (case side2 => exact HC0_1.out); (case side3 => repeat (first | exact (Kd.C_below HR0_2.out HB.out) | (with_reducible refine Kd.C_alloc ?_ _) | (with_reducible refine Kd.C_drewN ?_ _) | (with_reducible refine Kd.C_drew ?_))); (case side4 => exact HC0_2.out); (case side5 => repeat (first | exact (Kd.C_below HR0_3.out HB.out) | (with_reducible refine Kd.C_alloc ?_ _) | (with_reducible refine Kd.C_drewN ?_ _) | (with_reducible refine Kd.C_drew ?_))); (case side6 => exact HC0_3.out); rintro e w35 ⟨rfl, hb⟩; refine ⟨_, rfl, ?_⟩; have n0_ := Aside0.mk (Kd.R_below (by (with_reducible repeat (first | apply Kd.R_alloc | apply Kd.R_drewN | apply Kd.R_drew)); exact HO_4.out) hb); have n1_ := Aside0.mk (blk_below (g := gb451) (o := .cells #[.int .i64 a0_0, .slice (some ad461) l0_1.length c0_1, .slice A0_2 l0_2.length c0_2, .slice A0_3 l0_3.length c0_3] 25 (0, 0)) (by (with_reducible repeat (first | refine blk_drewN ?_ _ | refine blk_drew ?_ | refine blk_alloc ?_ _)); exact BK451.out) hb); have n2_ := Aside0.mk (below_step (by repeat (first | (with_reducible first | exact HB.out | apply below_alloc | apply pw_below_drewN | apply below_drew1 | refine below_set ?_ GE451.out) | exact HB.out)) hb); clear HO_4; clear BK451; clear HB; have HO_4 := n0_; have BK451 := n1_; have HB := n2_; clear n0_ n1_ n2_; (try clear hb); (try clear hb2); (try clear hk); (try clear hi); have p463 : 0 ≤ ((rd l0_1 x36_3) : Int) := of_decide_eq_true (by first | (with_reducible assumption) | assumption); have q463 : (rd l0_1 x36_3) < (x4_3.length : Int) := of_decide_eq_true (by first | (with_reducible assumption) | assumption); obtain ⟨ad463, e463, hx463_0⟩ := Kd.at_int (Kd.R_reads' HO_4.out).2.2 (rd l0_1 x36_3) p463 q463; obtain rfl : (⟨go18, 0, none⟩ : Addr) = ad463 := (by injection e463); (first | simp only [add_plain] at hx463_0 | simp only [add_at] at hx463_0 | simp only [Addr.add, Nat.zero_add] at hx463_0 | skip); replace p463 := eq_true p463; replace q463 := eq_true q463; have p464 : 0 ≤ (t462 : Int) := of_decide_eq_true (by first | (with_reducible assumption) | assumption); have q464 : t462 < (x4_3.length : Int) := of_decide_eq_true (by first | (with_reducible assumption) | assumption); obtain ⟨ad464, e464, hx464_0⟩ := Kd.at_int (Kd.R_reads' HO_4.out).2.2 t462 p464 q464; obtain rfl : (⟨go18, 0, none⟩ : Addr) = ad464 := (by injection e464); (first | simp only [add_plain] at hx464_0 | simp only [add_at] at hx464_0 | simp only [Addr.add, Nat.zero_add] at hx464_0 | skip); replace p464 := eq_true p464; replace q464 := eq_true q464; have p33 : 0 ≤ (t462 : Int) := of_decide_eq_true (by first | (with_reducible assumption) | assumption); have q33 : (t462 : Int) < ((x4_3.length : Int) : Int) := of_decide_eq_true (by first | (with_reducible assumption) | assumption); obtain ⟨hx33_0, hf33_0⟩ := Kd.R_celln 0 HO_4.out (t462 : Int) p33 q33; replace p33 := eq_true p33; replace q33 := eq_true q33; obtain ⟨hy36_, hz36_⟩ := Kd.R_celln 0 HO_4.out (t462 : Int) (of_decide_eq_true (by first | (with_reducible assumption) | assumption)) (of_decide_eq_true (by first | (with_reducible assumption) | assumption)); have HP36 := Kd.R_putg HO_4.out (t462 : Int) x5_1) | ((with_reducible refine gate_store (t := 3) (p := 60) rfl ?_); refine store_event (t := 3) (p := 60) (v := ?vo_w37) (w1 := (w35.setCell ⟨go18, (t462 : Int).toNat, none⟩ (.int .i64 x5_1))) ?hg ?ho ?hn ?hr ?_; (case ho => rfl); (case hg => rfl); (case hn => rfl); (case hr => first | (go_simp; done) | (go_simp; rfl)); intro w37 hw; have hg : w35.grownBy w37 (some go18) := (by rw [hw]; exact HP36.2); have hp_ : Kd.R (Kd.int .i64) 3 w37 w.heap.size (fun _ => True) (.slice (some ⟨go18, 0, none⟩) x4_3.length co13) y465 := (by rw [hw, Ny465.out]; exact HP36.1); clear HP36; have n0_ := Aside0.mk (hp_); have n1_ := Aside0.mk (blk_grown (g := gb451) (o := .cells #[.int .i64 a0_0, .slice (some ad461) l0_1.length c0_1, .slice A0_2 l0_2.length c0_2, .slice A0_3 l0_3.length c0_3] 25 (0, 0)) (by (with_reducible repeat (first | refine blk_drewN ?_ _ | refine blk_drew ?_ | refine blk_alloc ?_ _)); exact BK451.out) hg (Kd.R_ne HO_4.out BK451.out (by decide))); have n2_ := Aside0.mk ((by rw [hw]; exact below_set (HB.out) GB18.out : Below w.heap.size w w37)); clear HO_4; clear BK451; clear HB; have HO_4 := n0_; have BK451 := n1_; have HB := n2_; clear n0_ n1_ n2_; clear hg hw hp_))
                                            (try simp only [← hl4_3])
                                            go_roundg k3
                                            case measure => have := HK1.out; have := HK2.out; have := HK3.out; omega
                                            case rel => exact ⟨(y465), (true), (wrap64 (x36_3 + 1)), (by first | rfl | (simp; done) | (simp [*]; done)), (by first | rfl | (simp; done) | (simp [*]; done)), H', ⟨by have := HK1.out; have := HK2.out; have := HK3.out; omega⟩, ⟨by (try simp only [hl4_1]); (try simp only [hl4_2]); (try simp only [hl4_3]); (with_reducible repeat (first | apply Kd.R_alloc | apply Kd.R_drewN | apply Kd.R_drew)); exact HO_4.out⟩, ⟨by (try simp only [hl4_1]); (try simp only [hl4_2]); (try simp only [hl4_3]); (with_reducible repeat (first | refine blk_drewN ?_ _ | refine blk_drew ?_ | refine blk_alloc ?_ _)); exact BK451.out⟩, ⟨by repeat (first | (with_reducible first | exact HB.out | apply below_alloc | apply pw_below_drewN | apply below_drew1 | refine below_set ?_ GE451.out) | exact HB.out)⟩⟩
                                          · rw [if_neg c32] at H
                                            have c32b0 : decide ((rd x4_3 t462) < 0) = false := decide_eq_false c32
                                            clear c32
                                            have H' := Aside0.mk H
                                            clear H
                                            have p461 : 0 ≤ (x36_3 : Int) := of_decide_eq_true (by first | (with_reducible assumption) | assumption)
                                            have q461 : x36_3 < (l0_1.length : Int) := of_decide_eq_true (by first | (with_reducible assumption) | assumption)
                                            obtain ⟨ad461, e461, hx461_0⟩ := Kd.at_int HR0_1.out x36_3 p461 q461
                                            cases e461
                                            replace hx461_0 := (HB.out.cell (World.block_lt_of_cell? w _ hx461_0)).trans hx461_0
                                            replace p461 := eq_true p461
                                            replace q461 := eq_true q461
                                            have hcz38_0 : wr.cell? ⟨gb451, 0, none⟩ = some (.int .i64 a0_0) := (blk_cell BK451.out 0).trans rfl
                                            have hcz38_1 : wr.cell? ⟨gb451, 1, none⟩ = some (.slice (some ad461) l0_1.length c0_1) := (blk_cell BK451.out 1).trans rfl
                                            have hcz38_2 : wr.cell? ⟨gb451, 2, none⟩ = some (.slice A0_2 l0_2.length c0_2) := (blk_cell BK451.out 2).trans rfl
                                            have hcz38_3 : wr.cell? ⟨gb451, 3, none⟩ = some (.slice A0_3 l0_3.length c0_3) := (blk_cell BK451.out 3).trans rfl
                                            have hfz38_0 := blk_frozen BK451.out 0
                                            have hfz38_1 := blk_frozen BK451.out 1
                                            have hfz38_2 := blk_frozen BK451.out 2
                                            have hfz38_3 := blk_frozen BK451.out 3
                                            go_wp2_with (first | ((with_reducible refine gate_callee (f := 35) rfl ?_); refine goesL_ (some 43) rfl rfl Try.func35 (by kernel_rfl) rfl #[.agg #[.int .i64 a0_0, .slice (some ad461) l0_1.length c0_1, .slice A0_2 l0_2.length c0_2, .slice A0_3 l0_3.length c0_3], .int .i64 x36_3] rfl (by (try simp only [List.map_toArray, List.map_cons, List.map_nil]); first | done | rfl | (simp only [List.length_drop, List.length_take]; rfl)) ?_; (with_reducible refine (rot_Head.calls a0_0 _ _ l0_1 _ _ l0_2 _ _ l0_3 x36_3 t462 _ ?side1 ?side2 ?side3 ?side4 ?side5 ?side6 A26.out).mono ?_); (case side1 => repeat (first | exact (Kd.C_below HR0_1.out HB.out) | (with_reducible refine Kd.C_alloc ?_ _) | (with_reducible refine Kd.C_drewN ?_ _) | (with_reducible refine Kd.C_drew ?_))); (case side2 => exact HC0_1.out); (case side3 => repeat (first | exact (Kd.C_below HR0_2.out HB.out) | (with_reducible refine Kd.C_alloc ?_ _) | (with_reducible refine Kd.C_drewN ?_ _) | (with_reducible refine Kd.C_drew ?_))); (case side4 => exact HC0_2.out); (case side5 => repeat (first | exact (Kd.C_below HR0_3.out HB.out) | (with_reducible refine Kd.C_alloc ?_ _) | (with_reducible refine Kd.C_drewN ?_ _) | (with_reducible refine Kd.C_drew ?_))); (case side6 => exact HC0_3.out); rintro e w39 ⟨rfl, hb⟩; refine ⟨_, rfl, ?_⟩; have n0_ := Aside0.mk (Kd.R_below (by (with_reducible repeat (first | apply Kd.R_alloc | apply Kd.R_drewN | apply Kd.R_drew)); exact HO_4.out) hb); have n1_ := Aside0.mk (blk_below (g := gb451) (o := .cells #[.int .i64 a0_0, .slice (some ad461) l0_1.length c0_1, .slice A0_2 l0_2.length c0_2, .slice A0_3 l0_3.length c0_3] 25 (0, 0)) (by (with_reducible repeat (first | refine blk_drewN ?_ _ | refine blk_drew ?_ | refine blk_alloc ?_ _)); exact BK451.out) hb); have n2_ := Aside0.mk (below_step (by repeat (first | (with_reducible first | exact HB.out | apply below_alloc | apply pw_below_drewN | apply below_drew1 | refine below_set ?_ GE451.out) | exact HB.out)) hb); clear HO_4; clear BK451; clear HB; have HO_4 := n0_; have BK451 := n1_; have HB := n2_; clear n0_ n1_ n2_; (try clear hb); (try clear hb2); (try clear hk); (try clear hi); have p463 : 0 ≤ ((rd l0_1 x36_3) : Int) := of_decide_eq_true (by first | (with_reducible assumption) | assumption); have q463 : (rd l0_1 x36_3) < (x4_3.length : Int) := of_decide_eq_true (by first | (with_reducible assumption) | assumption); obtain ⟨ad463, e463, hx463_0⟩ := Kd.at_int (Kd.R_reads' HO_4.out).2.2 (rd l0_1 x36_3) p463 q463; obtain rfl : (⟨go18, 0, none⟩ : Addr) = ad463 := (by injection e463); (first | simp only [add_plain] at hx463_0 | simp only [add_at] at hx463_0 | simp only [Addr.add, Nat.zero_add] at hx463_0 | skip); replace p463 := eq_true p463; replace q463 := eq_true q463; have p464 : 0 ≤ (t462 : Int) := of_decide_eq_true (by first | (with_reducible assumption) | assumption); have q464 : t462 < (x4_3.length : Int) := of_decide_eq_true (by first | (with_reducible assumption) | assumption); obtain ⟨ad464, e464, hx464_0⟩ := Kd.at_int (Kd.R_reads' HO_4.out).2.2 t462 p464 q464; obtain rfl : (⟨go18, 0, none⟩ : Addr) = ad464 := (by injection e464); (first | simp only [add_plain] at hx464_0 | simp only [add_at] at hx464_0 | simp only [Addr.add, Nat.zero_add] at hx464_0 | skip); replace p464 := eq_true p464; replace q464 := eq_true q464))
                                            (try simp only [← hl4_3])
                                            go_roundg k3
                                            case measure => have := HK1.out; have := HK2.out; have := HK3.out; omega
                                            case rel => exact ⟨(x4_3), (x7_3), (wrap64 (x36_3 + 1)), (by first | rfl | (simp; done) | (simp [*]; done)), (by first | rfl | (simp; done) | (simp [*]; done)), H', ⟨by have := HK1.out; have := HK2.out; have := HK3.out; omega⟩, ⟨by (try simp only [hl4_1]); (try simp only [hl4_2]); (try simp only [hl4_3]); (with_reducible repeat (first | apply Kd.R_alloc | apply Kd.R_drewN | apply Kd.R_drew)); exact HO_4.out⟩, ⟨by (try simp only [hl4_1]); (try simp only [hl4_2]); (try simp only [hl4_3]); (with_reducible repeat (first | refine blk_drewN ?_ _ | refine blk_drew ?_ | refine blk_alloc ?_ _)); exact BK451.out⟩, ⟨by repeat (first | (with_reducible first | exact HB.out | apply below_alloc | apply pw_below_drewN | apply below_drew1 | refine below_set ?_ GE451.out) | exact HB.out)⟩⟩
                                        · rw [if_neg c31] at H
                                          exact absurd H (by simp)
                                      · rw [if_neg c30] at H
                                        exact absurd H (by simp)
                                    · rw [if_neg c29] at H
                                      have c29b0 : ((rd x4_3 (rd l0_1 x36_3)) == x5_1) = false := beq_eq_false_iff_ne.mpr c29
                                      have c29b1 : ((rd x4_3 (rd l0_1 x36_3)) != x5_1) = true := bne_iff_ne.mpr c29
                                      have H' := Aside0.mk H
                                      clear H
                                      have p461 : 0 ≤ (x36_3 : Int) := of_decide_eq_true (by first | (with_reducible assumption) | assumption)
                                      have q461 : x36_3 < (l0_1.length : Int) := of_decide_eq_true (by first | (with_reducible assumption) | assumption)
                                      obtain ⟨ad461, e461, hx461_0⟩ := Kd.at_int HR0_1.out x36_3 p461 q461
                                      cases e461
                                      replace hx461_0 := (HB.out.cell (World.block_lt_of_cell? w _ hx461_0)).trans hx461_0
                                      replace p461 := eq_true p461
                                      replace q461 := eq_true q461
                                      have hcz40_0 : wr.cell? ⟨gb451, 0, none⟩ = some (.int .i64 a0_0) := (blk_cell BK451.out 0).trans rfl
                                      have hcz40_1 : wr.cell? ⟨gb451, 1, none⟩ = some (.slice (some ad461) l0_1.length c0_1) := (blk_cell BK451.out 1).trans rfl
                                      have hcz40_2 : wr.cell? ⟨gb451, 2, none⟩ = some (.slice A0_2 l0_2.length c0_2) := (blk_cell BK451.out 2).trans rfl
                                      have hcz40_3 : wr.cell? ⟨gb451, 3, none⟩ = some (.slice A0_3 l0_3.length c0_3) := (blk_cell BK451.out 3).trans rfl
                                      have hfz40_0 := blk_frozen BK451.out 0
                                      have hfz40_1 := blk_frozen BK451.out 1
                                      have hfz40_2 := blk_frozen BK451.out 2
                                      have hfz40_3 := blk_frozen BK451.out 3
                                      go_wp2_with (first | ((with_reducible refine gate_callee (f := 35) rfl ?_); refine goesL_ (some 43) rfl rfl Try.func35 (by kernel_rfl) rfl #[.agg #[.int .i64 a0_0, .slice (some ad461) l0_1.length c0_1, .slice A0_2 l0_2.length c0_2, .slice A0_3 l0_3.length c0_3], .int .i64 x36_3] rfl (by (try simp only [List.map_toArray, List.map_cons, List.map_nil]); first | done | rfl | (simp only [List.length_drop, List.length_take]; rfl)) ?_; (with_reducible refine (rot_Head.calls a0_0 _ _ l0_1 _ _ l0_2 _ _ l0_3 x36_3 t462 _ ?side1 ?side2 ?side3 ?side4 ?side5 ?side6 A26.out).mono ?_); (case side1 => repeat (first | exact (Kd.C_below HR0_1.out HB.out) | (with_reducible refine Kd.C_alloc ?_ _) | (with_reducible refine Kd.C_drewN ?_ _) | (with_reducible refine Kd.C_drew ?_))); (case side2 => exact HC0_1.out); (case side3 => repeat (first | exact (Kd.C_below HR0_2.out HB.out) | (with_reducible refine Kd.C_alloc ?_ _) | (with_reducible refine Kd.C_drewN ?_ _) | (with_reducible refine Kd.C_drew ?_))); (case side4 => exact HC0_2.out); (case side5 => repeat (first | exact (Kd.C_below HR0_3.out HB.out) | (with_reducible refine Kd.C_alloc ?_ _) | (with_reducible refine Kd.C_drewN ?_ _) | (with_reducible refine Kd.C_drew ?_))); (case side6 => exact HC0_3.out); rintro e w41 ⟨rfl, hb⟩; refine ⟨_, rfl, ?_⟩; have n0_ := Aside0.mk (Kd.R_below (by (with_reducible repeat (first | apply Kd.R_alloc | apply Kd.R_drewN | apply Kd.R_drew)); exact HO_4.out) hb); have n1_ := Aside0.mk (blk_below (g := gb451) (o := .cells #[.int .i64 a0_0, .slice (some ad461) l0_1.length c0_1, .slice A0_2 l0_2.length c0_2, .slice A0_3 l0_3.length c0_3] 25 (0, 0)) (by (with_reducible repeat (first | refine blk_drewN ?_ _ | refine blk_drew ?_ | refine blk_alloc ?_ _)); exact BK451.out) hb); have n2_ := Aside0.mk (below_step (by repeat (first | (with_reducible first | exact HB.out | apply below_alloc | apply pw_below_drewN | apply below_drew1 | refine below_set ?_ GE451.out) | exact HB.out)) hb); clear HO_4; clear BK451; clear HB; have HO_4 := n0_; have BK451 := n1_; have HB := n2_; clear n0_ n1_ n2_; (try clear hb); (try clear hb2); (try clear hk); (try clear hi); have p463 : 0 ≤ ((rd l0_1 x36_3) : Int) := of_decide_eq_true (by first | (with_reducible assumption) | assumption); have q463 : (rd l0_1 x36_3) < (x4_3.length : Int) := of_decide_eq_true (by first | (with_reducible assumption) | assumption); obtain ⟨ad463, e463, hx463_0⟩ := Kd.at_int (Kd.R_reads' HO_4.out).2.2 (rd l0_1 x36_3) p463 q463; obtain rfl : (⟨go18, 0, none⟩ : Addr) = ad463 := (by injection e463); (first | simp only [add_plain] at hx463_0 | simp only [add_at] at hx463_0 | simp only [Addr.add, Nat.zero_add] at hx463_0 | skip); replace p463 := eq_true p463; replace q463 := eq_true q463))
                                      (try simp only [← hl4_3])
                                      go_roundg k3
                                      case measure => have := HK1.out; have := HK2.out; have := HK3.out; omega
                                      case rel => exact ⟨(x4_3), (x7_3), (wrap64 (x36_3 + 1)), (by first | rfl | (simp; done) | (simp [*]; done)), (by first | rfl | (simp; done) | (simp [*]; done)), H', ⟨by have := HK1.out; have := HK2.out; have := HK3.out; omega⟩, ⟨by (try simp only [hl4_1]); (try simp only [hl4_2]); (try simp only [hl4_3]); (with_reducible repeat (first | apply Kd.R_alloc | apply Kd.R_drewN | apply Kd.R_drew)); exact HO_4.out⟩, ⟨by (try simp only [hl4_1]); (try simp only [hl4_2]); (try simp only [hl4_3]); (with_reducible repeat (first | refine blk_drewN ?_ _ | refine blk_drew ?_ | refine blk_alloc ?_ _)); exact BK451.out⟩, ⟨by repeat (first | (with_reducible first | exact HB.out | apply below_alloc | apply pw_below_drewN | apply below_drew1 | refine below_set ?_ GE451.out) | exact HB.out)⟩⟩
                                  · rw [if_neg c28] at H
                                    exact absurd H (by simp)
                                · rw [if_neg c27] at H
                                  exact absurd H (by simp)
                              · rw [if_neg c25] at H
                                exact absurd H (by simp)
                            · rw [if_neg c24] at H
                              exact absurd H (by simp)
                          · rw [if_neg c23] at H
                            have c23b0 : decide (x36_3 < (l0_1.length : Int)) = false := decide_eq_false c23
                            clear c23
                            have H' := Aside0.mk H
                            clear H
                            go_wp2
                            (try simp only [← hl4_2, ← hl4_3])
                            go_roundg k3
                            case measure => have := HK1.out; have := HK2.out; have := HK3.out; omega
                            case rel => exact ⟨(x4_3), (x7_3), (by first | rfl | (simp; done) | (simp [*]; done)), H', ⟨by have := HK1.out; have := HK2.out; have := HK3.out; omega⟩, ⟨by (try simp only [hl4_1]); (try simp only [hl4_2]); (try simp only [hl4_3]); (with_reducible repeat (first | apply Kd.R_alloc | apply Kd.R_drewN | apply Kd.R_drew)); exact HO_4.out⟩, ⟨by (try simp only [hl4_1]); (try simp only [hl4_2]); (try simp only [hl4_3]); (with_reducible repeat (first | refine blk_drewN ?_ _ | refine blk_drew ?_ | refine blk_alloc ?_ _)); exact BK451.out⟩, ⟨by repeat (first | (with_reducible first | exact HB.out | apply below_alloc | apply pw_below_drewN | apply below_drew1 | refine below_set ?_ GE451.out) | exact HB.out)⟩⟩
                    · replace c21 := Bool.eq_false_iff.mpr c21
                      subst c21
                      have H1 : (rot_Parts.l0 k2 x4_2 (wrap64 (x5_1 + 1)) (t456.length : Int) (wrap64 (x20_1 + 1)) a0_0 l0_1 l0_2 l0_3) = some (r1, r2) := by rw [if_neg (show ¬ (false = true) by decide)] at H; exact H
                      clear H
                      have H := H1
                      clear H1
                      have H' := Aside0.mk H
                      clear H
                      go_wp2
                      (try simp only [← hl4_1, ← hl4_2])
                      go_roundg k2
                      case measure => have := HK1.out; have := HK2.out; omega
                      case rel => exact ⟨(x4_2), (wrap64 (x5_1 + 1)), (wrap64 (x20_1 + 1)), (by first | rfl | (simp; done) | (simp [*]; done)), (by first | rfl | (simp; done) | (simp [*]; done)), H', ⟨by have := HK1.out; have := HK2.out; omega⟩, ⟨by (try simp only [hl4_1]); (try simp only [hl4_2]); (with_reducible repeat (first | apply Kd.R_alloc | apply Kd.R_drewN | apply Kd.R_drew)); exact HO_4.out⟩, ⟨by (try simp only [hl4_1]); (try simp only [hl4_2]); (with_reducible repeat (first | refine blk_drewN ?_ _ | refine blk_drew ?_ | refine blk_alloc ?_ _)); exact BK451.out⟩, ⟨by repeat (first | (with_reducible first | exact HB.out | apply below_alloc | apply pw_below_drewN | apply below_drew1 | refine below_set ?_ GE451.out) | exact HB.out)⟩⟩
            · rw [if_neg c16] at H
              exact absurd H (by simp)
          · rw [if_neg c15] at H
            exact absurd H (by simp)
        · rw [if_neg c14] at H
          have c14b0 : decide (x20_1 < (t456.length : Int)) = false := decide_eq_false c14
          have cq_b3 : decide (x20_1 < (x4_1.length : Int)) = false := by have h_ := c14b0; first | rwa [hl4_1] at h_ | rwa [← hl4_1] at h_
          clear c14
          simp only [Option.some.injEq, Prod.mk.injEq] at H
          obtain ⟨rfl, rfl⟩ := H
          go_wp2
          go_ret2
          exact ⟨_, by first | rfl | (simp [errW_none, errW_some] <;> rfl) | (simp [*, errW_none, errW_some] <;> rfl), by (with_reducible repeat (first | apply Kd.R_alloc | apply Kd.R_drewN | apply Kd.R_drew)); exact HO_4.out, by repeat (first | (with_reducible first | exact HB.out | apply below_alloc | apply pw_below_drewN | apply below_drew1 | refine below_set ?_ GE451.out) | exact HB.out)⟩
  · replace c3 := Bool.eq_false_iff.mpr c3
    subst c3
    have H1 : (some (([] : List Int), 0)) = some (r1, r2) := by rw [if_neg (show ¬ (false = true) by decide)] at H; exact H
    clear H
    have H := H1
    clear H1
    simp only [Option.some.injEq, Prod.mk.injEq] at H
    obtain ⟨rfl, rfl⟩ := H
    go_enter Try.func29, Try.ntmps29
    go_wp2_with (first | ((with_reducible refine gate_dst (N := 1) rfl ?_); refine box_event ?hg (N := 1) ?hd (cs := #[.int .i64 a0_0, .slice A0_1 l0_1.length c0_1, .slice A0_2 l0_2.length c0_2, .slice A0_3 l0_3.length c0_3]) (t := 25) ?hr ?_; (case hd => rfl); (case hg => rfl); (case hr => first | (go_simp; done) | (go_simp; rfl)); intro gb451 hg w42 hbox hb; have n0_ := Aside0.mk (below_step (by repeat (first | (with_reducible first | exact HB.out | apply below_alloc | apply pw_below_drewN | apply below_drew1) | exact HB.out)) hb); have n1_ := Aside0.mk (hbox); have n2_ := Aside0.mk ((by rw [hg]; exact (below_size (by repeat (first | (with_reducible first | exact HB.out | apply below_alloc | apply pw_below_drewN | apply below_drew1) | exact HB.out))) : w.heap.size ≤ gb451)); have n3_ := Aside0.mk ((by rw [hg]; exact (below_size (by repeat (first | (with_reducible first | exact HB.out | apply below_alloc | apply pw_below_drewN | apply below_drew1) | exact HB.out))) : w.heap.size ≤ gb451)); clear HB; have HB := n0_; have BK451 := n1_; have GW451 := n2_; have GE451 := n3_; clear n0_ n1_ n2_ n3_; clear hb hbox hg; have hcz43_0 : w42.cell? ⟨gb451, 0, none⟩ = some (.int .i64 a0_0) := (blk_cell BK451.out 0).trans rfl; have hcz43_1 : w42.cell? ⟨gb451, 1, none⟩ = some (.slice A0_1 l0_1.length c0_1) := (blk_cell BK451.out 1).trans rfl; have hcz43_2 : w42.cell? ⟨gb451, 2, none⟩ = some (.slice A0_2 l0_2.length c0_2) := (blk_cell BK451.out 2).trans rfl; have hcz43_3 : w42.cell? ⟨gb451, 3, none⟩ = some (.slice A0_3 l0_3.length c0_3) := (blk_cell BK451.out 3).trans rfl; have hfz43_0 := blk_frozen BK451.out 0; have hfz43_1 := blk_frozen BK451.out 1; have hfz43_2 := blk_frozen BK451.out 2; have hfz43_3 := blk_frozen BK451.out 3) | ((with_reducible refine gate_callee (f := 43) rfl ?_); refine goesL_ (some 12) rfl rfl Try.func43 (by kernel_rfl) rfl #[.agg #[.int .i64 a0_0, .slice A0_1 l0_1.length c0_1, .slice A0_2 l0_2.length c0_2, .slice A0_3 l0_3.length c0_3]] rfl (by (try simp only [List.map_toArray, List.map_cons, List.map_nil]); first | done | rfl | (simp only [List.length_drop, List.length_take]; rfl)) ?_; (with_reducible refine (rot_fine.calls k a0_0 _ _ l0_1 _ _ l0_2 _ _ l0_3 false _ ?side1 ?side2 ?side3 ?side4 ?side5 ?side6 A2.out).mono ?_); (case side1 => repeat (first | exact (Kd.C_below HR0_1.out HB.out) | (with_reducible refine Kd.C_alloc ?_ _) | (with_reducible refine Kd.C_drewN ?_ _) | (with_reducible refine Kd.C_drew ?_))); (case side2 => exact HC0_1.out); (case side3 => repeat (first | exact (Kd.C_below HR0_2.out HB.out) | (with_reducible refine Kd.C_alloc ?_ _) | (with_reducible refine Kd.C_drewN ?_ _) | (with_reducible refine Kd.C_drew ?_))); (case side4 => exact HC0_2.out); (case side5 => repeat (first | exact (Kd.C_below HR0_3.out HB.out) | (with_reducible refine Kd.C_alloc ?_ _) | (with_reducible refine Kd.C_drewN ?_ _) | (with_reducible refine Kd.C_drew ?_))); (case side6 => exact HC0_3.out); rintro e w44 ⟨rfl, hb⟩; refine ⟨_, rfl, ?_⟩; have n0_ := Aside0.mk (blk_below (g := gb451) (o := .cells #[.int .i64 a0_0, .slice A0_1 l0_1.length c0_1, .slice A0_2 l0_2.length c0_2, .slice A0_3 l0_3.length c0_3] 25 (0, 0)) (by (with_reducible repeat (first | refine blk_drewN ?_ _ | refine blk_drew ?_ | refine blk_alloc ?_ _)); exact BK451.out) hb); have n1_ := Aside0.mk (below_step (by repeat (first | (with_reducible first | exact HB.out | apply below_alloc | apply pw_below_drewN | apply below_drew1 | refine below_set ?_ GE451.out) | exact HB.out)) hb); clear BK451; clear HB; have BK451 := n0_; have HB := n1_; clear n0_ n1_; (try clear hb); (try clear hb2); (try clear hk); (try clear hi)))
    go_ret2
    exact ⟨_, by first | rfl | (simp [errW_none, errW_some] <;> rfl) | (simp [*, errW_none, errW_some] <;> rfl), by first | exact Kd.R_nil _ _ _ _ _ | exact Kd.N_nil _ _ _ _ _ | exact Kd.V_nil _ _ _ _ _ | exact Kd.Q_nil _ _ _ _ _ | exact Kd.S_nil _ _ _ _ _, by repeat (first | (with_reducible first | exact HB.out | apply below_alloc | apply pw_below_drewN | apply below_drew1 | refine below_set ?_ GE451.out) | exact HB.out)⟩

end Go.Proofs.Ytoipfbffdcahoaa.P
