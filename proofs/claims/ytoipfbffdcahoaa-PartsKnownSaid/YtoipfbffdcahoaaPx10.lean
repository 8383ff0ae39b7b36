-- Written by a program of this session: a scratch copy of the kit's printer in which some functions are external. Lean checks it.
import Derived.Test.YtoipfbffdcahoaaPx0
import Derived.Test.YtoipfbffdcahoaaEOrb
import Derived.Test.YtoipfbffdcahoaaERepeat
namespace Go.Proofs.Ytoipfbffdcahoaa.P
open Go.RowKit Go.Proofs.YtoipfbffdcahoaaW.PrintWords Go.Proofs.YtoipfbffdcahoaaW.PrintLast Go.Proofs.YtoipfbffdcahoaaW.PrintMore
attribute [local go_sem] max2_int min2_int max_two min_two max_three min_three max_four min_four   -- for this text's walks alone
set_option linter.unusedVariables false
set_option linter.unusedSimpArgs false

/-! ### rot_turns: function 28 -/
def rot_turns.l0 : Nat → List Int → List Int → List Int → Int → Int → Int → List Int → List Int → List Int → Option (Bool)
  | 0, _, _, _, _, _, _, _, _, _ => none
  | k + 1, x3, x6, x25, x26, x27, x428000, x428001, x428002, x428003 => if x27 < x26 then (if 0 ≤ x27 then (if x27 < (x25.length : Int) then (if x27 < (x428002.length : Int) then (if 0 ≤ (rd x428002 x27) then (if (rd x428002 x27) < (x428001.length : Int) then (if (rd x428001 (rd x428002 x27)) = (rd x25 x27) then (if 0 ≤ (rd x25 x27) then (if (rd x25 x27) < (x6.length : Int) then (if (rd x6 (rd x25 x27)) ≥ 0 then (if x27 < (x3.length : Int) then (if (rd x6 (rd x25 x27)) = (rd x3 x27) then (rot_turns.l0 k x3 (x6.set ((rd x25 x27) : Int).toNat (rd x3 x27)) x25 x26 (wrap64 (x27 + 1)) x428000 x428001 x428002 x428003) else (some false)) else (none)) else (if x27 < (x3.length : Int) then (rot_turns.l0 k x3 (x6.set ((rd x25 x27) : Int).toNat (rd x3 x27)) x25 x26 (wrap64 (x27 + 1)) x428000 x428001 x428002 x428003) else (none))) else (none)) else (none)) else (some false)) else (none)) else (none)) else (none)) else (none)) else (none)) else (some true)
def rot_turns.f (k : Nat) (a0_0 : Int) (l0_1 : List Int) (l0_2 : List Int) (l0_3 : List Int) : Option (Bool) := (rot_orbitsT.f k (l0_1.length : Int) a0_0 l0_1 l0_2 l0_3).bind fun bt428 => (if bt428.2.2 = true then ((slices_Repeat_int_int.f (([(-1)] : List Int)) a0_0).bind fun t436 => (rot_turns.l0 k bt428.1 t436 l0_1 (l0_1.length : Int) 0 a0_0 l0_1 l0_2 l0_3)) else (some false))
theorem rot_turns.mono_l : ∀ k, (∀ y0 y1 y2 y3 y4 y5 y6 y7 y8, LeO (rot_turns.l0 k y0 y1 y2 y3 y4 y5 y6 y7 y8) (rot_turns.l0 (k + 1) y0 y1 y2 y3 y4 y5 y6 y7 y8))
  | 0 => fun _ _ _ _ _ _ _ _ _ r h => by simp [rot_turns.l0] at h
  | k + 1 => by
    have ih0 := rot_turns.mono_l k
    · intro y0 y1 y2 y3 y4 y5 y6 y7 y8
      unfold rot_turns.l0
      repeat' first
      | (with_reducible exact ih0 _ _ _ _ _ _ _ _ _)
      | (with_reducible exact rot_orbitsT.mono _ _ _ _ _ _)
      | (with_reducible exact LeO.refl _)
      | (with_reducible exact LeO.none _)
      | (with_reducible refine LeO.ite ?_ ?_)
      | (with_reducible refine LeO.bind ?_ (fun _ => ?_))
      | exact ih0 _ _ _ _ _ _ _ _ _
      | exact rot_orbitsT.mono _ _ _ _ _ _
      | exact LeO.none _
      | refine LeO.ite ?_ ?_
      | refine LeO.bind ?_ (fun _ => ?_)
theorem rot_turns.mono : ∀ a0 a1 a2 a3 k, LeO (rot_turns.f k a0 a1 a2 a3) (rot_turns.f (k + 1) a0 a1 a2 a3) := by
  intro a0 a1 a2 a3 k
  have ih0 := rot_turns.mono_l k
  unfold rot_turns.f
  repeat' first
      | (with_reducible exact ih0 _ _ _ _ _ _ _ _ _)
      | (with_reducible exact rot_orbitsT.mono _ _ _ _ _ _)
      | (with_reducible exact LeO.refl _)
      | (with_reducible exact LeO.none _)
      | (with_reducible refine LeO.ite ?_ ?_)
      | (with_reducible refine LeO.bind ?_ (fun _ => ?_))
      | exact ih0 _ _ _ _ _ _ _ _ _
      | exact rot_orbitsT.mono _ _ _ _ _ _
      | exact LeO.none _
      | refine LeO.ite ?_ ?_
      | refine LeO.bind ?_ (fun _ => ?_)
set_option maxHeartbeats 8000000 in
set_option maxRecDepth 100000 in
theorem rot_turns.calls (k : Nat) (a0_0 : Int) (A0_1 : Option Addr) (c0_1 : Nat) (l0_1 : List Int) (A0_2 : Option Addr) (c0_2 : Nat) (l0_2 : List Int) (A0_3 : Option Addr) (c0_3 : Nat) (l0_3 : List Int) (r : Bool) (w : World) (hr0_1 : Kd.C (Kd.int .i64) w A0_1 l0_1.length l0_1) (hc0_1 : l0_1.length ≤ c0_1) (hr0_2 : Kd.C (Kd.int .i64) w A0_2 l0_2.length l0_2) (hc0_2 : l0_2.length ≤ c0_2) (hr0_3 : Kd.C (Kd.int .i64) w A0_3 l0_3.length l0_3) (hc0_3 : l0_3.length ≤ c0_3) (h : rot_turns.f k a0_0 l0_1 l0_2 l0_3 = some r) :
    Calls Try.prog 28 #[.agg #[.int .i64 a0_0, .slice A0_1 l0_1.length c0_1, .slice A0_2 l0_2.length c0_2, .slice A0_3 l0_3.length c0_3]] w fun e w' => e = .returned (.bool r) ∧ Below w.heap.size w w' := by
  have hu25 := Try.underlying25
  have HR0_1 := Aside0.mk hr0_1
  have HC0_1 := Aside0.mk hc0_1
  clear hr0_1 hc0_1
  have HR0_2 := Aside0.mk hr0_2
  have HC0_2 := Aside0.mk hc0_2
  clear hr0_2 hc0_2
  have HR0_3 := Aside0.mk hr0_3
  have HC0_3 := Aside0.mk hc0_3
  clear hr0_3 hc0_3
  have HB := Aside0.mk (Below.refl w.heap.size w)
  have H : ((rot_orbitsT.f k (l0_1.length : Int) a0_0 l0_1 l0_2 l0_3).bind fun bt428 => (if bt428.2.2 = true then ((slices_Repeat_int_int.f (([(-1)] : List Int)) a0_0).bind fun t436 => (rot_turns.l0 k bt428.1 t436 l0_1 (l0_1.length : Int) 0 a0_0 l0_1 l0_2 l0_3)) else (some false))) = some r := h
  clear h
  replace H := Option.bind_eq_some_iff.mp H
  obtain ⟨⟨t428, t431, t432⟩, A20, H⟩ := H
  replace H : (if t432 = true then ((slices_Repeat_int_int.f (([(-1)] : List Int)) a0_0).bind fun t436 => (rot_turns.l0 k t428 t436 l0_1 (l0_1.length : Int) 0 a0_0 l0_1 l0_2 l0_3)) else (some false)) = some r := H
  have A2 := Aside0.mk A20
  clear A20
  by_cases c3 : t432 = true
  · subst c3
    have H1 : ((slices_Repeat_int_int.f (([(-1)] : List Int)) a0_0).bind fun t436 => (rot_turns.l0 k t428 t436 l0_1 (l0_1.length : Int) 0 a0_0 l0_1 l0_2 l0_3)) = some r := by rw [if_pos rfl] at H; exact H
    clear H
    have H := H1
    clear H1
    obtain ⟨y433, hy433⟩ : ∃ y_ : List Int, y_ = (([(-1)] : List Int)) := ⟨_, rfl⟩
    replace H : ((slices_Repeat_int_int.f y433 a0_0).bind fun t436 => (rot_turns.l0 k t428 t436 l0_1 (l0_1.length : Int) 0 a0_0 l0_1 l0_2 l0_3)) = some r := by first | (rw [hy433]; with_reducible exact H) | (have H2_ := (Option.bind_some _ _).symm.trans H; rw [hy433]; with_reducible exact H2_) | (have H2_ := (Option.bind_some _ _).symm.trans H; with_reducible exact H2_) | with_reducible exact H | (rw [hy433]; exact H) | exact H
    have Ny433 := Aside0.mk hy433
    clear hy433
    replace H := Option.bind_eq_some_iff.mp H
    obtain ⟨t436, A40, H⟩ := H
    replace H : (rot_turns.l0 k t428 t436 l0_1 (l0_1.length : Int) 0 a0_0 l0_1 l0_2 l0_3) = some r := H
    have A4 := Aside0.mk A40
    clear A40
    have H' := Aside0.mk H
    clear H
    have hmf : ∀ (fn : Fn) (first cap : Array Value) (w : World), (Instr.makeFunc fn first cap).run Try.prog w = .ok (.func fn first cap) w := fun _ _ _ _ => rfl
    go_enter Try.func28, Try.ntmps28
    go_wp2_with (first | ((with_reducible refine gate_dst (N := 1) rfl ?_); refine box_event ?hg (N := 1) ?hd (cs := #[.int .i64 a0_0, .slice A0_1 l0_1.length c0_1, .slice A0_2 l0_2.length c0_2, .slice A0_3 l0_3.length c0_3]) (t := 25) ?hr ?_; (case hd => rfl); (case hg => rfl); (case hr => first | (go_simp; done) | (go_simp; rfl)); intro gb427 hg w5 hbox hb; have n0_ := Aside0.mk (below_step (by repeat (first | (with_reducible first | exact HB.out | apply below_alloc | apply pw_below_drewN | apply below_drew1) | exact HB.out)) hb); have n1_ := Aside0.mk (hbox); have n2_ := Aside0.mk ((by rw [hg]; exact (below_size (by repeat (first | (with_reducible first | exact HB.out | apply below_alloc | apply pw_below_drewN | apply below_drew1) | exact HB.out))) : w.heap.size ≤ gb427)); have n3_ := Aside0.mk ((by rw [hg]; exact (below_size (by repeat (first | (with_reducible first | exact HB.out | apply below_alloc | apply pw_below_drewN | apply below_drew1) | exact HB.out))) : w.heap.size ≤ gb427)); clear HB; have HB := n0_; have BK427 := n1_; have GW427 := n2_; have GE427 := n3_; clear n0_ n1_ n2_ n3_; clear hb hbox hg; have hcz6_0 : w5.cell? ⟨gb427, 0, none⟩ = some (.int .i64 a0_0) := (blk_cell BK427.out 0).trans rfl; have hcz6_1 : w5.cell? ⟨gb427, 1, none⟩ = some (.slice A0_1 l0_1.length c0_1) := (blk_cell BK427.out 1).trans rfl; have hcz6_2 : w5.cell? ⟨gb427, 2, none⟩ = some (.slice A0_2 l0_2.length c0_2) := (blk_cell BK427.out 2).trans rfl; have hcz6_3 : w5.cell? ⟨gb427, 3, none⟩ = some (.slice A0_3 l0_3.length c0_3) := (blk_cell BK427.out 3).trans rfl; have hfz6_0 := blk_frozen BK427.out 0; have hfz6_1 := blk_frozen BK427.out 1; have hfz6_2 := blk_frozen BK427.out 2; have hfz6_3 := blk_frozen BK427.out 3) | (go_at_call 40; (with_reducible refine (rot_orbitsT.calls k (l0_1.length : Int) a0_0 _ _ l0_1 _ _ l0_2 _ _ l0_3 t428 t431 true _ ?side1 ?side2 ?side3 ?side4 ?side5 ?side6 A2.out _ BK427.out).mono ?_); (case side1 => repeat (first | exact (Kd.C_below HR0_1.out HB.out) | (with_reducible refine Kd.C_alloc ?_ _) | (with_reducible refine Kd.C_drewN ?_ _) | (with_reducible refine Kd.C_drew ?_))); (case side2 => exact HC0_1.out); (case side3 => repeat (first | exact (Kd.C_below HR0_2.out HB.out) | (with_reducible refine Kd.C_alloc ?_ _) | (with_reducible refine Kd.C_drewN ?_ _) | (with_reducible refine Kd.C_drew ?_))); (case side4 => exact HC0_2.out); (case side5 => repeat (first | exact (Kd.C_below HR0_3.out HB.out) | (with_reducible refine Kd.C_alloc ?_ _) | (with_reducible refine Kd.C_drewN ?_ _) | (with_reducible refine Kd.C_drew ?_))); (case side6 => exact HC0_3.out); rintro e w7 ⟨v429, rfl, ho0, hb⟩; have n0_ := Aside0.mk (Kd.R_lower ho0 (below_size (by repeat (first | (with_reducible first | exact HB.out | apply below_alloc | apply pw_below_drewN | apply below_drew1 | refine below_set ?_ GE427.out) | exact HB.out)))); have n1_ := Aside0.mk (blk_below (g := gb427) (o := .cells #[.int .i64 a0_0, .slice A0_1 l0_1.length c0_1, .slice A0_2 l0_2.length c0_2, .slice A0_3 l0_3.length c0_3] 25 (0, 0)) (by (with_reducible repeat (first | refine blk_drewN ?_ _ | refine blk_drew ?_ | refine blk_alloc ?_ _)); exact BK427.out) hb); have n2_ := Aside0.mk (below_step (by repeat (first | (with_reducible first | exact HB.out | apply below_alloc | apply pw_below_drewN | apply below_drew1 | refine below_set ?_ GE427.out) | exact HB.out)) hb); clear BK427; clear HB; have HO430 := n0_; have BK427 := n1_; have HB := n2_; clear n0_ n1_ n2_; (try clear hb); (try clear hb2); (try clear hk); (try clear hi); (try clear ho0)) | ((with_reducible refine gate_dst (N := 20) rfl ?_); refine Kd.R_lit (Kd.int .i64) _ 3 ?hg (N := 20) ?hd (xs := ([(-1)] : List Int)) (inner := [.int .i64 (-1)]) (ok := fun _ => True) (okp := fun _ => True) ?hr ?hp (fun _ hk => hk) trivial (Below.refl _ _) (Nat.le_refl _) (by simp) ?_; (case hd => rfl); (case hg => rfl); (case hr => first | (go_simp; done) | (go_simp; rfl)); (case hp => exact (Reps.one (show Kd.M (Kd.int .i64) _ _ _ (-1) [.int .i64 (-1)] from rfl) (Reps.none _ _))); intro v434 w8 ho9 hb hg_ hnew_; clear hg_ hnew_; (first | rw [← Ny433.out] at ho9 | (simp only [Int.reduceToNat] at ho9; rw [← Ny433.out] at ho9)); have n0_ := Aside0.mk (Kd.R_elder' (by (with_reducible repeat (first | apply Kd.R_alloc | apply Kd.R_drewN | apply Kd.R_drew)); exact HO430.out) (Kd.R_base ho9) hb); have n1_ := Aside0.mk (Kd.R_lower (Kd.R_new' ho9 (Kd.R_lt (by (with_reducible repeat (first | apply Kd.R_alloc | apply Kd.R_drewN | apply Kd.R_drew)); exact HO430.out))) (below_size (by repeat (first | (with_reducible first | exact HB.out | apply below_alloc | apply pw_below_drewN | apply below_drew1 | refine below_set ?_ GE427.out) | exact HB.out)))); have n2_ := Aside0.mk (blk_below (g := gb427) (o := .cells #[.int .i64 a0_0, .slice A0_1 l0_1.length c0_1, .slice A0_2 l0_2.length c0_2, .slice A0_3 l0_3.length c0_3] 25 (0, 0)) (by (with_reducible repeat (first | refine blk_drewN ?_ _ | refine blk_drew ?_ | refine blk_alloc ?_ _)); exact BK427.out) hb); have n3_ := Aside0.mk (below_step (by repeat (first | (with_reducible first | exact HB.out | apply below_alloc | apply pw_below_drewN | apply below_drew1 | refine below_set ?_ GE427.out) | exact HB.out)) hb); clear HO430; clear BK427; clear HB; have HO430 := n0_; have HO435 := n1_; have BK427 := n2_; have HB := n3_; clear n0_ n1_ n2_ n3_; clear hb ho9; have hcz10_0 : w8.cell? ⟨gb427, 0, none⟩ = some (.int .i64 a0_0) := (blk_cell BK427.out 0).trans rfl; have hcz10_1 : w8.cell? ⟨gb427, 1, none⟩ = some (.slice A0_1 l0_1.length c0_1) := (blk_cell BK427.out 1).trans rfl; have hcz10_2 : w8.cell? ⟨gb427, 2, none⟩ = some (.slice A0_2 l0_2.length c0_2) := (blk_cell BK427.out 2).trans rfl; have hcz10_3 : w8.cell? ⟨gb427, 3, none⟩ = some (.slice A0_3 l0_3.length c0_3) := (blk_cell BK427.out 3).trans rfl; have hfz10_0 := blk_frozen BK427.out 0; have hfz10_1 := blk_frozen BK427.out 1; have hfz10_2 := blk_frozen BK427.out 2; have hfz10_3 := blk_frozen BK427.out 3; obtain ⟨Ao11, co11, eo11⟩ := Kd.R_slice HO435.out; subst eo11) | (go_at_call 42; (with_reducible refine (slices_Repeat_int_int.calls _ _ y433 a0_0 t436 _ ?side1 ?side2 A4.out).mono ?_); (case side1 => repeat (first | exact (Kd.R_reads' HO435.out).2.2 | (with_reducible refine Kd.C_alloc ?_ _) | (with_reducible refine Kd.C_drewN ?_ _) | (with_reducible refine Kd.C_drew ?_))); (case side2 => exact (Kd.R_reads' HO435.out).2.1); rintro e w12 ⟨v437, rfl, ho0, hb⟩; have n0_ := Aside0.mk (Kd.R_elder' (by (with_reducible repeat (first | apply Kd.R_alloc | apply Kd.R_drewN | apply Kd.R_drew)); exact HO430.out) (Kd.R_base ho0) hb); have n1_ := Aside0.mk (Kd.R_elder' (by (with_reducible repeat (first | apply Kd.R_alloc | apply Kd.R_drewN | apply Kd.R_drew)); exact HO435.out) (Kd.R_base ho0) hb); have n2_ := Aside0.mk (Kd.R_lower (Kd.R_new' (Kd.R_new' ho0 (Kd.R_lt (by (with_reducible repeat (first | apply Kd.R_alloc | apply Kd.R_drewN | apply Kd.R_drew)); exact HO430.out))) (Kd.R_lt (by (with_reducible repeat (first | apply Kd.R_alloc | apply Kd.R_drewN | apply Kd.R_drew)); exact HO435.out))) (below_size (by repeat (first | (with_reducible first | exact HB.out | apply below_alloc | apply pw_below_drewN | apply below_drew1 | refine below_set ?_ GE427.out) | exact HB.out)))); have n3_ := Aside0.mk (blk_below (g := gb427) (o := .cells #[.int .i64 a0_0, .slice A0_1 l0_1.length c0_1, .slice A0_2 l0_2.length c0_2, .slice A0_3 l0_3.length c0_3] 25 (0, 0)) (by (with_reducible repeat (first | refine blk_drewN ?_ _ | refine blk_drew ?_ | refine blk_alloc ?_ _)); exact BK427.out) hb); have n4_ := Aside0.mk (below_step (by repeat (first | (with_reducible first | exact HB.out | apply below_alloc | apply pw_below_drewN | apply below_drew1 | refine below_set ?_ GE427.out) | exact HB.out)) hb); clear HO430; clear HO435; clear BK427; clear HB; have HO430 := n0_; have HO435 := n1_; have HO438 := n2_; have BK427 := n3_; have HB := n4_; clear n0_ n1_ n2_ n3_ n4_; (try clear hb); (try clear hb2); (try clear hk); (try clear hi); (try clear ho0); have hcz13_0 : w12.cell? ⟨gb427, 0, none⟩ = some (.int .i64 a0_0) := (blk_cell BK427.out 0).trans rfl; have hcz13_1 : w12.cell? ⟨gb427, 1, none⟩ = some (.slice A0_1 l0_1.length c0_1) := (blk_cell BK427.out 1).trans rfl; have hcz13_2 : w12.cell? ⟨gb427, 2, none⟩ = some (.slice A0_2 l0_2.length c0_2) := (blk_cell BK427.out 2).trans rfl; have hcz13_3 : w12.cell? ⟨gb427, 3, none⟩ = some (.slice A0_3 l0_3.length c0_3) := (blk_cell BK427.out 3).trans rfl; have hfz13_0 := blk_frozen BK427.out 0; have hfz13_1 := blk_frozen BK427.out 1; have hfz13_2 := blk_frozen BK427.out 2; have hfz13_3 := blk_frozen BK427.out 3))
    repeat (go_quiet (first | ((with_reducible refine gate_dst (N := 1) rfl ?_); refine box_event ?hg (N := 1) ?hd (cs := #[.int .i64 a0_0, .slice A0_1 l0_1.length c0_1, .slice A0_2 l0_2.length c0_2, .slice A0_3 l0_3.length c0_3]) (t := 25) ?hr ?_; (case hd => rfl); (case hg => rfl); (case hr => first | (go_simp; done) | (go_simp; rfl)); intro gb427 hg w5 hbox hb; have n0_ := Aside0.mk (below_step (by repeat (first | (with_reducible first | exact HB.out | apply below_alloc | apply pw_below_drewN | apply below_drew1) | exact HB.out)) hb); have n1_ := Aside0.mk (hbox); have n2_ := Aside0.mk ((by rw [hg]; exact (below_size (by repeat (first | (with_reducible first | exact HB.out | apply below_alloc | apply pw_below_drewN | apply below_drew1) | exact HB.out))) : w.heap.size ≤ gb427)); have n3_ := Aside0.mk ((by rw [hg]; exact (below_size (by repeat (first | (with_reducible first | exact HB.out | apply below_alloc | apply pw_below_drewN | apply below_drew1) | exact HB.out))) : w.heap.size ≤ gb427)); clear HB; have HB := n0_; have BK427 := n1_; have GW427 := n2_; have GE427 := n3_; clear n0_ n1_ n2_ n3_; clear hb hbox hg; have hcz6_0 : w5.cell? ⟨gb427, 0, none⟩ = some (.int .i64 a0_0) := (blk_cell BK427.out 0).trans rfl; have hcz6_1 : w5.cell? ⟨gb427, 1, none⟩ = some (.slice A0_1 l0_1.length c0_1) := (blk_cell BK427.out 1).trans rfl; have hcz6_2 : w5.cell? ⟨gb427, 2, none⟩ = some (.slice A0_2 l0_2.length c0_2) := (blk_cell BK427.out 2).trans rfl; have hcz6_3 : w5.cell? ⟨gb427, 3, none⟩ = some (.slice A0_3 l0_3.length c0_3) := (blk_cell BK427.out 3).trans rfl; have hfz6_0 := blk_frozen BK427.out 0; have hfz6_1 := blk_frozen BK427.out 1; have hfz6_2 := blk_frozen BK427.out 2; have hfz6_3 := blk_frozen BK427.out 3) | (go_at_call 40; (with_reducible refine (rot_orbitsT.calls k (l0_1.length : Int) a0_0 _ _ l0_1 _ _ l0_2 _ _ l0_3 t428 t431 true _ ?side1 ?side2 ?side3 ?side4 ?side5 ?side6 A2.out _ BK427.out).mono ?_); (case side1 => repeat (first | exact (Kd.C_below HR0_1.out HB.out) | (with_reducible refine Kd.C_alloc ?_ _) | (with_reducible refine Kd.C_drewN ?_ _) | (with_reducible refine Kd.C_drew ?_))); (case side2 => exact HC0_1.out); (case side3 => repeat (first | exact (Kd.C_below HR0_2.out HB.out) | (with_reducible refine Kd.C_alloc ?_ _) | (with_reducible refine Kd.C_drewN ?_ _) | (with_reducible refine Kd.C_drew ?_))); (case side4 => exact HC0_2.out); (case side5 => repeat (first | exact (Kd.C_below HR0_3.out HB.out) | (with_reducible refine Kd.C_alloc ?_ _) | (with_reducible refine Kd.C_drewN ?_ _) | (with_reducible refine Kd.C_drew ?_))); (case side6 => exact HC0_3.out); rintro e w7 ⟨v429, rfl, ho0, hb⟩; have n0_ := Aside0.mk (Kd.R_lower ho0 (below_size (by repeat (first | (with_reducible first | exact HB.out | apply below_alloc | apply pw_below_drewN | apply below_drew1 | refine below_set ?_ GE427.out) | exact HB.out)))); have n1_ := Aside0.mk (blk_below (g := gb427) (o := .cells #[.int .i64 a0_0, .slice A0_1 l0_1.length c0_1, .slice A0_2 l0_2.length c0_2, .slice A0_3 l0_3.length c0_3] 25 (0, 0)) (by (with_reducible repeat (first | refine blk_drewN ?_ _ | refine blk_drew ?_ | refine blk_alloc ?_ _)); exact BK427.out) hb); have n2_ := Aside0.mk (below_step (by repeat (first | (with_reducible first | exact HB.out | apply below_alloc | apply pw_below_drewN | apply below_drew1 | refine below_set ?_ GE427.out) | exact HB.out)) hb); clear BK427; clear HB; have HO430 := n0_; have BK427 := n1_; have HB := n2_; clear n0_ n1_ n2_; (try clear hb); (try clear hb2); (try clear hk); (try clear hi); (try clear ho0)) | ((with_reducible refine gate_dst (N := 20) rfl ?_); refine Kd.R_lit (Kd.int .i64) _ 3 ?hg (N := 20) ?hd (xs := ([(-1)] : List Int)) (inner := [.int .i64 (-1)]) (ok := fun _ => True) (okp := fun _ => True) ?hr ?hp (fun _ hk => hk) trivial (Below.refl _ _) (Nat.le_refl _) (by simp) ?_; (case hd => rfl); (case hg => rfl); (case hr => first | (go_simp; done) | (go_simp; rfl)); (case hp => exact (Reps.one (show Kd.M (Kd.int .i64) _ _ _ (-1) [.int .i64 (-1)] from rfl) (Reps.none _ _))); intro v434 w8 ho9 hb hg_ hnew_; clear hg_ hnew_; (first | rw [← Ny433.out] at ho9 | (simp only [Int.reduceToNat] at ho9; rw [← Ny433.out] at ho9)); have n0_ := Aside0.mk (Kd.R_elder' (by (with_reducible repeat (first | apply Kd.R_alloc | apply Kd.R_drewN | apply Kd.R_drew)); exact HO430.out) (Kd.R_base ho9) hb); have n1_ := Aside0.mk (Kd.R_lower (Kd.R_new' ho9 (Kd.R_lt (by (with_reducible repeat (first | apply Kd.R_alloc | apply Kd.R_drewN | apply Kd.R_drew)); exact HO430.out))) (below_size (by repeat (first | (with_reducible first | exact HB.out | apply below_alloc | apply pw_below_drewN | apply below_drew1 | refine below_set ?_ GE427.out) | exact HB.out)))); have n2_ := Aside0.mk (blk_below (g := gb427) (o := .cells #[.int .i64 a0_0, .slice A0_1 l0_1.length c0_1, .slice A0_2 l0_2.length c0_2, .slice A0_3 l0_3.length c0_3] 25 (0, 0)) (by (with_reducible repeat (first | refine blk_drewN ?_ _ | refine blk_drew ?_ | refine blk_alloc ?_ _)); exact BK427.out) hb); have n3_ := Aside0.mk (below_step (by repeat (first | (with_reducible first | exact HB.out | apply below_alloc | apply pw_below_drewN | apply below_drew1 | refine below_set ?_ GE427.out) | exact HB.out)) hb); clear HO430; clear BK427; clear HB; have HO430 := n0_; have HO435 := n1_; have BK427 := n2_; have HB := n3_; clear n0_ n1_ n2_ n3_; clear hb ho9; have hcz10_0 : w8.cell? ⟨gb427, 0, none⟩ = some (.int .i64 a0_0) := (blk_cell BK427.out 0).trans rfl; have hcz10_1 : w8.cell? ⟨gb427, 1, none⟩ = some (.slice A0_1 l0_1.length c0_1) := (blk_cell BK427.out 1).trans rfl; have hcz10_2 : w8.cell? ⟨gb427, 2, none⟩ = some (.slice A0_2 l0_2.length c0_2) := (blk_cell BK427.out 2).trans rfl; have hcz10_3 : w8.cell? ⟨gb427, 3, none⟩ = some (.slice A0_3 l0_3.length c0_3) := (blk_cell BK427.out 3).trans rfl; have hfz10_0 := blk_frozen BK427.out 0; have hfz10_1 := blk_frozen BK427.out 1; have hfz10_2 := blk_frozen BK427.out 2; have hfz10_3 := blk_frozen BK427.out 3; obtain ⟨Ao11, co11, eo11⟩ := Kd.R_slice HO435.out; subst eo11) | (go_at_call 42; (with_reducible refine (slices_Repeat_int_int.calls _ _ y433 a0_0 t436 _ ?side1 ?side2 A4.out).mono ?_); (case side1 => repeat (first | exact (Kd.R_reads' HO435.out).2.2 | (with_reducible refine Kd.C_alloc ?_ _) | (with_reducible refine Kd.C_drewN ?_ _) | (with_reducible refine Kd.C_drew ?_))); (case side2 => exact (Kd.R_reads' HO435.out).2.1); rintro e w12 ⟨v437, rfl, ho0, hb⟩; have n0_ := Aside0.mk (Kd.R_elder' (by (with_reducible repeat (first | apply Kd.R_alloc | apply Kd.R_drewN | apply Kd.R_drew)); exact HO430.out) (Kd.R_base ho0) hb); have n1_ := Aside0.mk (Kd.R_elder' (by (with_reducible repeat (first | apply Kd.R_alloc | apply Kd.R_drewN | apply Kd.R_drew)); exact HO435.out) (Kd.R_base ho0) hb); have n2_ := Aside0.mk (Kd.R_lower (Kd.R_new' (Kd.R_new' ho0 (Kd.R_lt (by (with_reducible repeat (first | apply Kd.R_alloc | apply Kd.R_drewN | apply Kd.R_drew)); exact HO430.out))) (Kd.R_lt (by (with_reducible repeat (first | apply Kd.R_alloc | apply Kd.R_drewN | apply Kd.R_drew)); exact HO435.out))) (below_size (by repeat (first | (with_reducible first | exact HB.out | apply below_alloc | apply pw_below_drewN | apply below_drew1 | refine below_set ?_ GE427.out) | exact HB.out)))); have n3_ := Aside0.mk (blk_below (g := gb427) (o := .cells #[.int .i64 a0_0, .slice A0_1 l0_1.length c0_1, .slice A0_2 l0_2.length c0_2, .slice A0_3 l0_3.length c0_3] 25 (0, 0)) (by (with_reducible repeat (first | refine blk_drewN ?_ _ | refine blk_drew ?_ | refine blk_alloc ?_ _)); exact BK427.out) hb); have n4_ := Aside0.mk (below_step (by repeat (first | (with_reducible first | exact HB.out | apply below_alloc | apply pw_below_drewN | apply below_drew1 | refine below_set ?_ GE427.out) | exact HB.out)) hb); clear HO430; clear HO435; clear BK427; clear HB; have HO430 := n0_; have HO435 := n1_; have HO438 := n2_; have BK427 := n3_; have HB := n4_; clear n0_ n1_ n2_ n3_ n4_; (try clear hb); (try clear hb2); (try clear hk); (try clear hi); (try clear ho0); have hcz13_0 : w12.cell? ⟨gb427, 0, none⟩ = some (.int .i64 a0_0) := (blk_cell BK427.out 0).trans rfl; have hcz13_1 : w12.cell? ⟨gb427, 1, none⟩ = some (.slice A0_1 l0_1.length c0_1) := (blk_cell BK427.out 1).trans rfl; have hcz13_2 : w12.cell? ⟨gb427, 2, none⟩ = some (.slice A0_2 l0_2.length c0_2) := (blk_cell BK427.out 2).trans rfl; have hcz13_3 : w12.cell? ⟨gb427, 3, none⟩ = some (.slice A0_3 l0_3.length c0_3) := (blk_cell BK427.out 3).trans rfl; have hfz13_0 := blk_frozen BK427.out 0; have hfz13_1 := blk_frozen BK427.out 1; have hfz13_2 := blk_frozen BK427.out 2; have hfz13_3 := blk_frozen BK427.out 3)); try go_wp2_with (first | ((with_reducible refine gate_dst (N := 1) rfl ?_); refine box_event ?hg (N := 1) ?hd (cs := #[.int .i64 a0_0, .slice A0_1 l0_1.length c0_1, .slice A0_2 l0_2.length c0_2, .slice A0_3 l0_3.length c0_3]) (t := 25) ?hr ?_; (case hd => rfl); (case hg => rfl); (case hr => first | (go_simp; done) | (go_simp; rfl)); intro gb427 hg w5 hbox hb; have n0_ := Aside0.mk (below_step (by repeat (first | (with_reducible first | exact HB.out | apply below_alloc | apply pw_below_drewN | apply below_drew1) | exact HB.out)) hb); have n1_ := Aside0.mk (hbox); have n2_ := Aside0.mk ((by rw [hg]; exact (below_size (by repeat (first | (with_reducible first | exact HB.out | apply below_alloc | apply pw_below_drewN | apply below_drew1) | exact HB.out))) : w.heap.size ≤ gb427)); have n3_ := Aside0.mk ((by rw [hg]; exact (below_size (by repeat (first | (with_reducible first | exact HB.out | apply below_alloc | apply pw_below_drewN | apply below_drew1) | exact HB.out))) : w.heap.size ≤ gb427)); clear HB; have HB := n0_; have BK427 := n1_; have GW427 := n2_; have GE427 := n3_; clear n0_ n1_ n2_ n3_; clear hb hbox hg; have hcz6_0 : w5.cell? ⟨gb427, 0, none⟩ = some (.int .i64 a0_0) := (blk_cell BK427.out 0).trans rfl; have hcz6_1 : w5.cell? ⟨gb427, 1, none⟩ = some (.slice A0_1 l0_1.length c0_1) := (blk_cell BK427.out 1).trans rfl; have hcz6_2 : w5.cell? ⟨gb427, 2, none⟩ = some (.slice A0_2 l0_2.length c0_2) := (blk_cell BK427.out 2).trans rfl; have hcz6_3 : w5.cell? ⟨gb427, 3, none⟩ = some (.slice A0_3 l0_3.length c0_3) := (blk_cell BK427.out 3).trans rfl; have hfz6_0 := blk_frozen BK427.out 0; have hfz6_1 := blk_frozen BK427.out 1; have hfz6_2 := blk_frozen BK427.out 2; have hfz6_3 := blk_frozen BK427.out 3) | (go_at_call 40; (with_reducible refine (rot_orbitsT.calls k (l0_1.length : Int) a0_0 _ _ l0_1 _ _ l0_2 _ _ l0_3 t428 t431 true _ ?side1 ?side2 ?side3 ?side4 ?side5 ?side6 A2.out _ BK427.out).mono ?_); (case side1 => repeat (first | exact (Kd.C_below HR0_1.out HB.out) | (with_reducible refine Kd.C_alloc ?_ _) | (with_reducible refine Kd.C_drewN ?_ _) | (with_reducible refine Kd.C_drew ?_))); (case side2 => exact HC0_1.out); (case side3 => repeat (first | exact (Kd.C_below HR0_2.out HB.out) | (with_reducible refine Kd.C_alloc ?_ _) | (with_reducible refine Kd.C_drewN ?_ _) | (with_reducible refine Kd.C_drew ?_))); (case side4 => exact HC0_2.out); (case side5 => repeat (first | exact (Kd.C_below HR0_3.out HB.out) | (with_reducible refine Kd.C_alloc ?_ _) | (with_reducible refine Kd.C_drewN ?_ _) | (with_reducible refine Kd.C_drew ?_))); (case side6 => exact HC0_3.out); rintro e w7 ⟨v429, rfl, ho0, hb⟩; have n0_ := Aside0.mk (Kd.R_lower ho0 (below_size (by repeat (first | (with_reducible first | exact HB.out | apply below_alloc | apply pw_below_drewN | apply below_drew1 | refine below_set ?_ GE427.out) | exact HB.out)))); have n1_ := Aside0.mk (blk_below (g := gb427) (o := .cells #[.int .i64 a0_0, .slice A0_1 l0_1.length c0_1, .slice A0_2 l0_2.length c0_2, .slice A0_3 l0_3.length c0_3] 25 (0, 0)) (by (with_reducible repeat (first | refine blk_drewN ?_ _ | refine blk_drew ?_ | refine blk_alloc ?_ _)); exact BK427.out) hb); have n2_ := Aside0.mk (below_step (by repeat (first | (with_reducible first | exact HB.out | apply below_alloc | apply pw_below_drewN | apply below_drew1 | refine below_set ?_ GE427.out) | exact HB.out)) hb); clear BK427; clear HB; have HO430 := n0_; have BK427 := n1_; have HB := n2_; clear n0_ n1_ n2_; (try clear hb); (try clear hb2); (try clear hk); (try clear hi); (try clear ho0)) | ((with_reducible refine gate_dst (N := 20) rfl ?_); refine Kd.R_lit (Kd.int .i64) _ 3 ?hg (N := 20) ?hd (xs := ([(-1)] : List Int)) (inner := [.int .i64 (-1)]) (ok := fun _ => True) (okp := fun _ => True) ?hr ?hp (fun _ hk => hk) trivial (Below.refl _ _) (Nat.le_refl _) (by simp) ?_; (case hd => rfl); (case hg => rfl); (case hr => first | (go_simp; done) | (go_simp; rfl)); (case hp => exact (Reps.one (show Kd.M (Kd.int .i64) _ _ _ (-1) [.int .i64 (-1)] from rfl) (Reps.none _ _))); intro v434 w8 ho9 hb hg_ hnew_; clear hg_ hnew_; (first | rw [← Ny433.out] at ho9 | (simp only [Int.reduceToNat] at ho9; rw [← Ny433.out] at ho9)); have n0_ := Aside0.mk (Kd.R_elder' (by (with_reducible repeat (first | apply Kd.R_alloc | apply Kd.R_drewN | apply Kd.R_drew)); exact HO430.out) (Kd.R_base ho9) hb); have n1_ := Aside0.mk (Kd.R_lower (Kd.R_new' ho9 (Kd.R_lt (by (with_reducible repeat (first | apply Kd.R_alloc | apply Kd.R_drewN | apply Kd.R_drew)); exact HO430.out))) (below_size (by repeat (first | (with_reducible first | exact HB.out | apply below_alloc | apply pw_below_drewN | apply below_drew1 | refine below_set ?_ GE427.out) | exact HB.out)))); have n2_ := Aside0.mk (blk_below (g := gb427) (o := .cells #[.int .i64 a0_0, .slice A0_1 l0_1.length c0_1, .slice A0_2 l0_2.length c0_2, .slice A0_3 l0_3.length c0_3] 25 (0, 0)) (by (with_reducible repeat (first | refine blk_drewN ?_ _ | refine blk_drew ?_ | refine blk_alloc ?_ _)); exact BK427.out) hb); have n3_ := Aside0.mk (below_step (by repeat (first | (with_reducible first | exact HB.out | apply below_alloc | apply pw_below_drewN | apply below_drew1 | refine below_set ?_ GE427.out) | exact HB.out)) hb); clear HO430; clear BK427; clear HB; have HO430 := n0_; have HO435 := n1_; have BK427 := n2_; have HB := n3_; clear n0_ n1_ n2_ n3_; clear hb ho9; have hcz10_0 : w8.cell? ⟨gb427, 0, none⟩ = some (.int .i64 a0_0) := (blk_cell BK427.out 0).trans rfl; have hcz10_1 : w8.cell? ⟨gb427, 1, none⟩ = some (.slice A0_1 l0_1.length c0_1) := (blk_cell BK427.out 1).trans rfl; have hcz10_2 : w8.cell? ⟨gb427, 2, none⟩ = some (.slice A0_2 l0_2.length c0_2) := (blk_cell BK427.out 2).trans rfl; have hcz10_3 : w8.cell? ⟨gb427, 3, none⟩ = some (.slice A0_3 l0_3.length c0_3) := (blk_cell BK427.out 3).trans rfl; have hfz10_0 := blk_frozen BK427.out 0; have hfz10_1 := blk_frozen BK427.out 1; have hfz10_2 := blk_frozen BK427.out 2; have hfz10_3 := blk_frozen BK427.out 3; obtain ⟨Ao11, co11, eo11⟩ := Kd.R_slice HO435.out; subst eo11) | (go_at_call 42; (with_reducible refine (slices_Repeat_int_int.calls _ _ y433 a0_0 t436 _ ?side1 ?side2 A4.out).mono ?_); (case side1 => repeat (first | exact (Kd.R_reads' HO435.out).2.2 | (with_reducible refine Kd.C_alloc ?_ _) | (with_reducible refine Kd.C_drewN ?_ _) | (with_reducible refine Kd.C_drew ?_))); (case side2 => exact (Kd.R_reads' HO435.out).2.1); rintro e w12 ⟨v437, rfl, ho0, hb⟩; have n0_ := Aside0.mk (Kd.R_elder' (by (with_reducible repeat (first | apply Kd.R_alloc | apply Kd.R_drewN | apply Kd.R_drew)); exact HO430.out) (Kd.R_base ho0) hb); have n1_ := Aside0.mk (Kd.R_elder' (by (with_reducible repeat (first | apply Kd.R_alloc | apply Kd.R_drewN | apply Kd.R_drew)); exact HO435.out) (Kd.R_base ho0) hb); have n2_ := Aside0.mk (Kd.R_lower (Kd.R_new' (Kd.R_new' ho0 (Kd.R_lt (by (with_reducible repeat (first | apply Kd.R_alloc | apply Kd.R_drewN | apply Kd.R_drew)); exact HO430.out))) (Kd.R_lt (by (with_reducible repeat (first | apply Kd.R_alloc | apply Kd.R_drewN | apply Kd.R_drew)); exact HO435.out))) (below_size (by repeat (first | (with_reducible first | exact HB.out | apply below_alloc | apply pw_below_drewN | apply below_drew1 | refine below_set ?_ GE427.out) | exact HB.out)))); have n3_ := Aside0.mk (blk_below (g := gb427) (o := .cells #[.int .i64 a0_0, .slice A0_1 l0_1.length c0_1, .slice A0_2 l0_2.length c0_2, .slice A0_3 l0_3.length c0_3] 25 (0, 0)) (by (with_reducible repeat (first | refine blk_drewN ?_ _ | refine blk_drew ?_ | refine blk_alloc ?_ _)); exact BK427.out) hb); have n4_ := Aside0.mk (below_step (by repeat (first | (with_reducible first | exact HB.out | apply below_alloc | apply pw_below_drewN | apply below_drew1 | refine below_set ?_ GE427.out) | exact HB.out)) hb); clear HO430; clear HO435; clear BK427; clear HB; have HO430 := n0_; have HO435 := n1_; have HO438 := n2_; have BK427 := n3_; have HB := n4_; clear n0_ n1_ n2_ n3_ n4_; (try clear hb); (try clear hb2); (try clear hk); (try clear hi); (try clear ho0); have hcz13_0 : w12.cell? ⟨gb427, 0, none⟩ = some (.int .i64 a0_0) := (blk_cell BK427.out 0).trans rfl; have hcz13_1 : w12.cell? ⟨gb427, 1, none⟩ = some (.slice A0_1 l0_1.length c0_1) := (blk_cell BK427.out 1).trans rfl; have hcz13_2 : w12.cell? ⟨gb427, 2, none⟩ = some (.slice A0_2 l0_2.length c0_2) := (blk_cell BK427.out 2).trans rfl; have hcz13_3 : w12.cell? ⟨gb427, 3, none⟩ = some (.slice A0_3 l0_3.length c0_3) := (blk_cell BK427.out 3).trans rfl; have hfz13_0 := blk_frozen BK427.out 0; have hfz13_1 := blk_frozen BK427.out 1; have hfz13_2 := blk_frozen BK427.out 2; have hfz13_3 := blk_frozen BK427.out 3)))
    go_loopg [27] k (fun kq v27 w' => ∃ (x6_1 : List Int) (x27_1 : Int), v27 = .int .i64 x27_1 ∧ Aside0 (rot_turns.l0 kq t428 x6_1 l0_1 (l0_1.length : Int) x27_1 a0_0 l0_1 l0_2 l0_3 = some r) ∧ Aside0 (kq ≤ k) ∧ Aside0 (Kd.R (Kd.int .i64) 3 w' w.heap.size (fun k_ => some k_ ≠ (v437 : Value).ownBlock) v429 t428) ∧ Aside0 (Kd.R (Kd.int .i64) 3 w' w.heap.size (fun k_ => some k_ ≠ (v429 : Value).ownBlock) v437 x6_1) ∧ Aside0 (w'.heap[gb427]? = some (.cells #[.int .i64 a0_0, (.slice A0_1 l0_1.length c0_1), (.slice A0_2 l0_2.length c0_2), (.slice A0_3 l0_3.length c0_3)] 25 (0, 0))) ∧ Aside0 (Below w.heap.size w w'))
    case atStart => exact ⟨(t436), (0), (by first | rfl | (simp; done) | (simp [*]; done)), H', ⟨Nat.le_refl _⟩, ⟨by (with_reducible repeat (first | apply Kd.R_alloc | apply Kd.R_drewN | apply Kd.R_drew)); exact Kd.R_mono HO430.out (fun _ hk => hk.2)⟩, ⟨by (with_reducible repeat (first | apply Kd.R_alloc | apply Kd.R_drewN | apply Kd.R_drew)); exact Kd.R_mono HO438.out (fun _ hk => hk.1.2)⟩, ⟨by (with_reducible repeat (first | refine blk_drewN ?_ _ | refine blk_drew ?_ | refine blk_alloc ?_ _)); exact BK427.out⟩, ⟨by repeat (first | (with_reducible first | exact HB.out | apply below_alloc | apply pw_below_drewN | apply below_drew1 | refine below_set ?_ GE427.out) | exact HB.out)⟩⟩
    case round =>
      clear H'
      try clear c2
      try clear p2
      try clear c3
      try clear hcz10_0
      try clear hcz10_1
      try clear hcz10_2
      try clear hcz10_3
      try clear hcz13_0
      try clear hcz13_1
      try clear hcz13_2
      try clear hcz13_3
      try clear hcz6_0
      try clear hcz6_1
      try clear hcz6_2
      try clear hcz6_3
      try clear hfz10_0
      try clear hfz10_1
      try clear hfz10_2
      try clear hfz10_3
      try clear hfz13_0
      try clear hfz13_1
      try clear hfz13_2
      try clear hfz13_3
      try clear hfz6_0
      try clear hfz6_1
      try clear hfz6_2
      try clear hfz6_3
      obtain ⟨x6_1, x27_1, rfl, HA, HK1, HO_3, HO_6, BK427, HB⟩ := hrel
      cases gk with
      | zero => exact absurd HA.out (by simp [rot_turns.l0])
      | succ k1 =>
        have H := HA.out
        clear HA
        simp only [rot_turns.l0] at H
        by_cases c14 : x27_1 < (l0_1.length : Int)
        · rw [if_pos c14] at H
          have c14b0 : decide (x27_1 < (l0_1.length : Int)) = true := decide_eq_true c14
          clear c14
          by_cases c15 : 0 ≤ x27_1
          · rw [if_pos c15] at H
            have c15b0 : decide (0 ≤ x27_1) = true := decide_eq_true c15
            clear c15
            by_cases c16 : x27_1 < (l0_1.length : Int)
            · rw [if_pos c16] at H
              have c16b0 : decide (x27_1 < (l0_1.length : Int)) = true := decide_eq_true c16
              clear c16
              by_cases c17 : x27_1 < (l0_2.length : Int)
              · rw [if_pos c17] at H
                have c17b0 : decide (x27_1 < (l0_2.length : Int)) = true := decide_eq_true c17
                clear c17
                by_cases c18 : 0 ≤ (rd l0_2 x27_1)
                · rw [if_pos c18] at H
                  have c18b0 : decide (0 ≤ (rd l0_2 x27_1)) = true := decide_eq_true c18
                  clear c18
                  by_cases c19 : (rd l0_2 x27_1) < (l0_1.length : Int)
                  · rw [if_pos c19] at H
                    have c19b0 : decide ((rd l0_2 x27_1) < (l0_1.length : Int)) = true := decide_eq_true c19
                    clear c19
                    by_cases c20 : (rd l0_1 (rd l0_2 x27_1)) = (rd l0_1 x27_1)
                    · rw [if_pos c20] at H
                      have c20b0 : ((rd l0_1 (rd l0_2 x27_1)) == (rd l0_1 x27_1)) = true := beq_iff_eq.mpr c20
                      have c20b1 : ((rd l0_1 (rd l0_2 x27_1)) != (rd l0_1 x27_1)) = false := bne_eq_false_iff_eq.mpr c20
                      clear c20
                      by_cases c21 : 0 ≤ (rd l0_1 x27_1)
                      · rw [if_pos c21] at H
                        have c21b0 : decide (0 ≤ (rd l0_1 x27_1)) = true := decide_eq_true c21
                        clear c21
                        by_cases c22 : (rd l0_1 x27_1) < (x6_1.length : Int)
                        · rw [if_pos c22] at H
                          have c22b0 : decide ((rd l0_1 x27_1) < (x6_1.length : Int)) = true := decide_eq_true c22
                          clear c22
                          by_cases c23 : (rd x6_1 (rd l0_1 x27_1)) ≥ 0
                          · rw [if_pos c23] at H
                            have c23b0 : decide (0 ≤ (rd x6_1 (rd l0_1 x27_1))) = true := decide_eq_true c23
                            clear c23
                            by_cases c24 : x27_1 < (t428.length : Int)
                            · rw [if_pos c24] at H
                              have c24b0 : decide (x27_1 < (t428.length : Int)) = true := decide_eq_true c24
                              clear c24
                              by_cases c25 : (rd x6_1 (rd l0_1 x27_1)) = (rd t428 x27_1)
                              · rw [if_pos c25] at H
                                have c25b0 : ((rd x6_1 (rd l0_1 x27_1)) == (rd t428 x27_1)) = true := beq_iff_eq.mpr c25
                                have c25b1 : ((rd x6_1 (rd l0_1 x27_1)) != (rd t428 x27_1)) = false := bne_eq_false_iff_eq.mpr c25
                                clear c25
                                obtain ⟨y446, hy446⟩ : ∃ y_ : List Int, y_ = (x6_1.set ((rd l0_1 x27_1) : Int).toNat (rd t428 x27_1)) := ⟨_, rfl⟩
                                replace H : (rot_turns.l0 k1 t428 y446 l0_1 (l0_1.length : Int) (wrap64 (x27_1 + 1)) a0_0 l0_1 l0_2 l0_3) = some r := by first | (rw [hy446]; with_reducible exact H) | (have H2_ := (Option.bind_some _ _).symm.trans H; rw [hy446]; with_reducible exact H2_) | (have H2_ := (Option.bind_some _ _).symm.trans H; with_reducible exact H2_) | with_reducible exact H | (rw [hy446]; exact H) | exact H
                                have Ny446 := Aside0.mk hy446
                                clear hy446
                                have H' := Aside0.mk H
                                clear H
                                have p439 : 0 ≤ (x27_1 : Int) := of_decide_eq_true (by first | (with_reducible assumption) | assumption)
                                have q439 : x27_1 < (l0_1.length : Int) := of_decide_eq_true (by first | (with_reducible assumption) | assumption)
                                obtain ⟨ad439, e439, hx439_0⟩ := Kd.at_int HR0_1.out x27_1 p439 q439
                                cases e439
                                replace hx439_0 := (HB.out.cell (World.block_lt_of_cell? w _ hx439_0)).trans hx439_0
                                replace p439 := eq_true p439
                                replace q439 := eq_true q439
                                have hcz27_0 : wr.cell? ⟨gb427, 0, none⟩ = some (.int .i64 a0_0) := (blk_cell BK427.out 0).trans rfl
                                have hcz27_1 : wr.cell? ⟨gb427, 1, none⟩ = some (.slice (some ad439) l0_1.length c0_1) := (blk_cell BK427.out 1).trans rfl
                                have hcz27_2 : wr.cell? ⟨gb427, 2, none⟩ = some (.slice A0_2 l0_2.length c0_2) := (blk_cell BK427.out 2).trans rfl
                                have hcz27_3 : wr.cell? ⟨gb427, 3, none⟩ = some (.slice A0_3 l0_3.length c0_3) := (blk_cell BK427.out 3).trans rfl
                                have hfz27_0 := blk_frozen BK427.out 0
                                have hfz27_1 := blk_frozen BK427.out 1
                                have hfz27_2 := blk_frozen BK427.out 2
                                have hfz27_3 := blk_frozen BK427.out 3
                                have p440 : 0 ≤ (x27_1 : Int) := of_decide_eq_true (by first | (with_reducible assumption) | assumption)
                                have q440 : x27_1 < (l0_2.length : Int) := of_decide_eq_true (by first | (with_reducible assumption) | assumption)
                                obtain ⟨ad440, e440, hx440_0⟩ := Kd.at_int HR0_2.out x27_1 p440 q440
                                cases e440
                                replace hx440_0 := (HB.out.cell (World.block_lt_of_cell? w _ hx440_0)).trans hx440_0
                                replace p440 := eq_true p440
                                replace q440 := eq_true q440
                                have p441 : 0 ≤ ((rd l0_2 x27_1) : Int) := of_decide_eq_true (by first | (with_reducible assumption) | assumption)
                                have q441 : (rd l0_2 x27_1) < (l0_1.length : Int) := of_decide_eq_true (by first | (with_reducible assumption) | assumption)
                                obtain ⟨ad441, e441, hx441_0⟩ := Kd.at_int HR0_1.out (rd l0_2 x27_1) p441 q441
                                obtain rfl : ad439 = ad441 := (by injection e441)
                                replace hx441_0 := (HB.out.cell (World.block_lt_of_cell? w _ hx441_0)).trans hx441_0
                                replace p441 := eq_true p441
                                replace q441 := eq_true q441
                                obtain ⟨Ao28, co28, eo28⟩ := Kd.R_slice HO_6.out
                                subst eo28
                                have p442 : 0 ≤ ((rd l0_1 x27_1) : Int) := of_decide_eq_true (by first | (with_reducible assumption) | assumption)
                                have q442 : (rd l0_1 x27_1) < (x6_1.length : Int) := of_decide_eq_true (by first | (with_reducible assumption) | assumption)
                                obtain ⟨ad442, e442, hx442_0⟩ := Kd.at_int (Kd.R_reads' HO_6.out).2.2 (rd l0_1 x27_1) p442 q442
                                cases e442
                                replace p442 := eq_true p442
                                replace q442 := eq_true q442
                                have p443 : 0 ≤ ((rd l0_1 x27_1) : Int) := of_decide_eq_true (by first | (with_reducible assumption) | assumption)
                                have q443 : (rd l0_1 x27_1) < (x6_1.length : Int) := of_decide_eq_true (by first | (with_reducible assumption) | assumption)
                                obtain ⟨ad443, e443, hx443_0⟩ := Kd.at_int (Kd.R_reads' HO_6.out).2.2 (rd l0_1 x27_1) p443 q443
                                obtain rfl : ad442 = ad443 := (by injection e443)
                                replace p443 := eq_true p443
                                replace q443 := eq_true q443
                                obtain ⟨Ao29, co29, eo29⟩ := Kd.R_slice HO_3.out
                                subst eo29
                                have p444 : 0 ≤ (x27_1 : Int) := of_decide_eq_true (by first | (with_reducible assumption) | assumption)
                                have q444 : x27_1 < (t428.length : Int) := of_decide_eq_true (by first | (with_reducible assumption) | assumption)
                                obtain ⟨ad444, e444, hx444_0⟩ := Kd.at_int (Kd.R_reads' HO_3.out).2.2 x27_1 p444 q444
                                cases e444
                                replace p444 := eq_true p444
                                replace q444 := eq_true q444
                                have p445 : 0 ≤ (x27_1 : Int) := of_decide_eq_true (by first | (with_reducible assumption) | assumption)
                                have q445 : x27_1 < (t428.length : Int) := of_decide_eq_true (by first | (with_reducible assumption) | assumption)
                                obtain ⟨ad445, e445, hx445_0⟩ := Kd.at_int (Kd.R_reads' HO_3.out).2.2 x27_1 p445 q445
                                obtain rfl : ad444 = ad445 := (by injection e445)
                                replace p445 := eq_true p445
                                replace q445 := eq_true q445
                                have p26 : 0 ≤ ((rd l0_1 x27_1) : Int) := of_decide_eq_true (by first | (with_reducible assumption) | assumption)
                                have q26 : ((rd l0_1 x27_1) : Int) < ((x6_1.length : Int) : Int) := of_decide_eq_true (by first | (with_reducible assumption) | assumption)
                                obtain ⟨go26, co26, eo26, gb26, gl26, cl26, HG26⟩ := Kd.R_form HO_6.out (by omega)
                                (first | cases eo26 | (injection eo26 with ea_ en_ ec_; (first | subst ea_ | (injection ea_ with ea_; subst ea_)); subst ec_; clear en_))
                                have GB26 := Aside0.mk gb26
                                have GG26 := Aside0.mk HG26
                                clear gb26 gl26 HG26
                                (first | simp only [add_plain] at hx442_0 | skip)
                                (first | simp only [add_plain] at hx443_0 | skip)
                                obtain ⟨hx26_0, hf26_0⟩ := Kd.R_celln 0 HO_6.out ((rd l0_1 x27_1) : Int) p26 q26
                                replace p26 := eq_true p26
                                replace q26 := eq_true q26
                                have HP30 := Kd.R_putg HO_6.out ((rd l0_1 x27_1) : Int) (rd t428 x27_1)
                                go_wp2_with (first | ((with_reducible refine gate_store (t := 3) (p := 67) rfl ?_); (try (rw [drewN_self wr]; generalize hq_ : World.drewN wr _ = wr; have n0_ := Aside0.mk (Kd.R_at hq_ HO_3.out); have n1_ := Aside0.mk (Kd.R_at hq_ HO_6.out); have n2_ := Aside0.mk (blk_at hq_ BK427.out); have n3_ := Aside0.mk (below_at hq_ HB.out); clear hq_ HO_3 HO_6 BK427 HB; have HO_3 := n0_; have HO_6 := n1_; have BK427 := n2_; have HB := n3_; clear n0_ n1_ n2_ n3_; (try (have HP30 := Kd.R_putg HO_6.out ((rd l0_1 x27_1) : Int) (rd t428 x27_1)); (try (obtain ⟨hx26_0, hf26_0⟩ := Kd.R_celln 0 HO_6.out ((rd l0_1 x27_1) : Int) (of_eq_true p26) (of_eq_true q26)))))); refine store_event (t := 3) (p := 67) (v := ?vo_w31) (w1 := (wr.setCell ⟨go26, ((rd l0_1 x27_1) : Int).toNat, none⟩ (.int .i64 (rd t428 x27_1)))) ?hg ?ho ?hn ?hr ?_; (case ho => rfl); (case hg => rfl); (case hn => rfl); (case hr => first | (go_simp; done) | (go_simp; rfl)); intro w31 hw; have hg : wr.grownBy w31 (some go26) := (by rw [hw]; exact HP30.2); have hp_ : Kd.R (Kd.int .i64) 3 w31 w.heap.size (fun k_ => some k_ ≠ (.slice (some ad444) t428.length co29 : Value).ownBlock) (.slice (some ⟨go26, 0, none⟩) x6_1.length co28) y446 := (by rw [hw, Ny446.out]; exact HP30.1); clear HP30; have n0_ := Aside0.mk (Kd.R_after (v := (.slice (some ⟨go26, 0, none⟩) x6_1.length co28)) (v1 := (.slice (some ⟨go26, 0, none⟩) x6_1.length co28)) (ok := (fun _ => True)) (by (with_reducible repeat (first | apply Kd.R_alloc | apply Kd.R_drewN | apply Kd.R_drew)); exact Kd.R_mono HO_3.out (fun _ hk => ⟨trivial, hk⟩)) hg (.inl rfl)); have n1_ := Aside0.mk (hp_); have n2_ := Aside0.mk (blk_grown (g := gb427) (o := .cells #[.int .i64 a0_0, .slice (some ad439) l0_1.length c0_1, .slice (some ad440) l0_2.length c0_2, .slice A0_3 l0_3.length c0_3] 25 (0, 0)) (by (with_reducible repeat (first | refine blk_drewN ?_ _ | refine blk_drew ?_ | refine blk_alloc ?_ _)); exact BK427.out) hg (Kd.R_ne HO_6.out BK427.out (by decide))); have n3_ := Aside0.mk ((by rw [hw]; exact below_set (HB.out) GB26.out : Below w.heap.size w w31)); clear HO_3; clear HO_6; clear BK427; clear HB; have HO_3 := n0_; have HO_6 := n1_; have BK427 := n2_; have HB := n3_; clear n0_ n1_ n2_ n3_; clear hg hw hp_))
                                repeat (go_quiet (first | ((with_reducible refine gate_store (t := 3) (p := 67) rfl ?_); (try (rw [drewN_self wr]; generalize hq_ : World.drewN wr _ = wr; have n0_ := Aside0.mk (Kd.R_at hq_ HO_3.out); have n1_ := Aside0.mk (Kd.R_at hq_ HO_6.out); have n2_ := Aside0.mk (blk_at hq_ BK427.out); have n3_ := Aside0.mk (below_at hq_ HB.out); clear hq_ HO_3 HO_6 BK427 HB; have HO_3 := n0_; have HO_6 := n1_; have BK427 := n2_; have HB := n3_; clear n0_ n1_ n2_ n3_; (try (have HP30 := Kd.R_putg HO_6.out ((rd l0_1 x27_1) : Int) (rd t428 x27_1)); (try (obtain ⟨hx26_0, hf26_0⟩ := Kd.R_celln 0 HO_6.out ((rd l0_1 x27_1) : Int) (of_eq_true p26) (of_eq_true q26)))))); refine store_event (t := 3) (p := 67) (v := ?vo_w31) (w1 := (wr.setCell ⟨go26, ((rd l0_1 x27_1) : Int).toNat, none⟩ (.int .i64 (rd t428 x27_1)))) ?hg ?ho ?hn ?hr ?_; (case ho => rfl); (case hg => rfl); (case hn => rfl); (case hr => first | (go_simp; done) | (go_simp; rfl)); intro w31 hw; have hg : wr.grownBy w31 (some go26) := (by rw [hw]; exact HP30.2); have hp_ : Kd.R (Kd.int .i64) 3 w31 w.heap.size (fun k_ => some k_ ≠ (.slice (some ad444) t428.length co29 : Value).ownBlock) (.slice (some ⟨go26, 0, none⟩) x6_1.length co28) y446 := (by rw [hw, Ny446.out]; exact HP30.1); clear HP30; have n0_ := Aside0.mk (Kd.R_after (v := (.slice (some ⟨go26, 0, none⟩) x6_1.length co28)) (v1 := (.slice (some ⟨go26, 0, none⟩) x6_1.length co28)) (ok := (fun _ => True)) (by (with_reducible repeat (first | apply Kd.R_alloc | apply Kd.R_drewN | apply Kd.R_drew)); exact Kd.R_mono HO_3.out (fun _ hk => ⟨trivial, hk⟩)) hg (.inl rfl)); have n1_ := Aside0.mk (hp_); have n2_ := Aside0.mk (blk_grown (g := gb427) (o := .cells #[.int .i64 a0_0, .slice (some ad439) l0_1.length c0_1, .slice (some ad440) l0_2.length c0_2, .slice A0_3 l0_3.length c0_3] 25 (0, 0)) (by (with_reducible repeat (first | refine blk_drewN ?_ _ | refine blk_drew ?_ | refine blk_alloc ?_ _)); exact BK427.out) hg (Kd.R_ne HO_6.out BK427.out (by decide))); have n3_ := Aside0.mk ((by rw [hw]; exact below_set (HB.out) GB26.out : Below w.heap.size w w31)); clear HO_3; clear HO_6; clear BK427; clear HB; have HO_3 := n0_; have HO_6 := n1_; have BK427 := n2_; have HB := n3_; clear n0_ n1_ n2_ n3_; clear hg hw hp_)); try go_wp2_with (first | ((with_reducible refine gate_store (t := 3) (p := 67) rfl ?_); (try (rw [drewN_self wr]; generalize hq_ : World.drewN wr _ = wr; have n0_ := Aside0.mk (Kd.R_at hq_ HO_3.out); have n1_ := Aside0.mk (Kd.R_at hq_ HO_6.out); have n2_ := Aside0.mk (blk_at hq_ BK427.out); have n3_ := Aside0.mk (below_at hq_ HB.out); clear hq_ HO_3 HO_6 BK427 HB; have HO_3 := n0_; have HO_6 := n1_; have BK427 := n2_; have HB := n3_; clear n0_ n1_ n2_ n3_; (try (have HP30 := Kd.R_putg HO_6.out ((rd l0_1 x27_1) : Int) (rd t428 x27_1)); (try (obtain ⟨hx26_0, hf26_0⟩ := Kd.R_celln 0 HO_6.out ((rd l0_1 x27_1) : Int) (of_eq_true p26) (of_eq_true q26)))))); refine store_event (t := 3) (p := 67) (v := ?vo_w31) (w1 := (wr.setCell ⟨go26, ((rd l0_1 x27_1) : Int).toNat, none⟩ (.int .i64 (rd t428 x27_1)))) ?hg ?ho ?hn ?hr ?_; (case ho => rfl); (case hg => rfl); (case hn => rfl); (case hr => first | (go_simp; done) | (go_simp; rfl)); intro w31 hw; have hg : wr.grownBy w31 (some go26) := (by rw [hw]; exact HP30.2); have hp_ : Kd.R (Kd.int .i64) 3 w31 w.heap.size (fun k_ => some k_ ≠ (.slice (some ad444) t428.length co29 : Value).ownBlock) (.slice (some ⟨go26, 0, none⟩) x6_1.length co28) y446 := (by rw [hw, Ny446.out]; exact HP30.1); clear HP30; have n0_ := Aside0.mk (Kd.R_after (v := (.slice (some ⟨go26, 0, none⟩) x6_1.length co28)) (v1 := (.slice (some ⟨go26, 0, none⟩) x6_1.length co28)) (ok := (fun _ => True)) (by (with_reducible repeat (first | apply Kd.R_alloc | apply Kd.R_drewN | apply Kd.R_drew)); exact Kd.R_mono HO_3.out (fun _ hk => ⟨trivial, hk⟩)) hg (.inl rfl)); have n1_ := Aside0.mk (hp_); have n2_ := Aside0.mk (blk_grown (g := gb427) (o := .cells #[.int .i64 a0_0, .slice (some ad439) l0_1.length c0_1, .slice (some ad440) l0_2.length c0_2, .slice A0_3 l0_3.length c0_3] 25 (0, 0)) (by (with_reducible repeat (first | refine blk_drewN ?_ _ | refine blk_drew ?_ | refine blk_alloc ?_ _)); exact BK427.out) hg (Kd.R_ne HO_6.out BK427.out (by decide))); have n3_ := Aside0.mk ((by rw [hw]; exact below_set (HB.out) GB26.out : Below w.heap.size w w31)); clear HO_3; clear HO_6; clear BK427; clear HB; have HO_3 := n0_; have HO_6 := n1_; have BK427 := n2_; have HB := n3_; clear n0_ n1_ n2_ n3_; clear hg hw hp_)))
                                go_roundg k1
                                case measure => have := HK1.out; omega
                                case rel => exact ⟨(y446), (wrap64 (x27_1 + 1)), (by first | rfl | (simp; done) | (simp [*]; done)), H', ⟨by have := HK1.out; omega⟩, ⟨by (with_reducible repeat (first | apply Kd.R_alloc | apply Kd.R_drewN | apply Kd.R_drew)); exact Kd.R_mono HO_3.out (fun _ hk => hk.2)⟩, ⟨by (with_reducible repeat (first | apply Kd.R_alloc | apply Kd.R_drewN | apply Kd.R_drew)); exact HO_6.out⟩, ⟨by (with_reducible repeat (first | refine blk_drewN ?_ _ | refine blk_drew ?_ | refine blk_alloc ?_ _)); exact BK427.out⟩, ⟨by repeat (first | (with_reducible first | exact HB.out | apply below_alloc | apply pw_below_drewN | apply below_drew1 | refine below_set ?_ GE427.out) | exact HB.out)⟩⟩
                              · rw [if_neg c25] at H
                                have c25b0 : ((rd x6_1 (rd l0_1 x27_1)) == (rd t428 x27_1)) = false := beq_eq_false_iff_ne.mpr c25
                                have c25b1 : ((rd x6_1 (rd l0_1 x27_1)) != (rd t428 x27_1)) = true := bne_iff_ne.mpr c25
                                obtain rfl := Option.some.inj H
                                have p439 : 0 ≤ (x27_1 : Int) := of_decide_eq_true (by first | (with_reducible assumption) | assumption)
                                have q439 : x27_1 < (l0_1.length : Int) := of_decide_eq_true (by first | (with_reducible assumption) | assumption)
                                obtain ⟨ad439, e439, hx439_0⟩ := Kd.at_int HR0_1.out x27_1 p439 q439
                                cases e439
                                replace hx439_0 := (HB.out.cell (World.block_lt_of_cell? w _ hx439_0)).trans hx439_0
                                replace p439 := eq_true p439
                                replace q439 := eq_true q439
                                have hcz32_0 : wr.cell? ⟨gb427, 0, none⟩ = some (.int .i64 a0_0) := (blk_cell BK427.out 0).trans rfl
                                have hcz32_1 : wr.cell? ⟨gb427, 1, none⟩ = some (.slice (some ad439) l0_1.length c0_1) := (blk_cell BK427.out 1).trans rfl
                                have hcz32_2 : wr.cell? ⟨gb427, 2, none⟩ = some (.slice A0_2 l0_2.length c0_2) := (blk_cell BK427.out 2).trans rfl
                                have hcz32_3 : wr.cell? ⟨gb427, 3, none⟩ = some (.slice A0_3 l0_3.length c0_3) := (blk_cell BK427.out 3).trans rfl
                                have hfz32_0 := blk_frozen BK427.out 0
                                have hfz32_1 := blk_frozen BK427.out 1
                                have hfz32_2 := blk_frozen BK427.out 2
                                have hfz32_3 := blk_frozen BK427.out 3
                                have p440 : 0 ≤ (x27_1 : Int) := of_decide_eq_true (by first | (with_reducible assumption) | assumption)
                                have q440 : x27_1 < (l0_2.length : Int) := of_decide_eq_true (by first | (with_reducible assumption) | assumption)
                                obtain ⟨ad440, e440, hx440_0⟩ := Kd.at_int HR0_2.out x27_1 p440 q440
                                cases e440
                                replace hx440_0 := (HB.out.cell (World.block_lt_of_cell? w _ hx440_0)).trans hx440_0
                                replace p440 := eq_true p440
                                replace q440 := eq_true q440
                                have p441 : 0 ≤ ((rd l0_2 x27_1) : Int) := of_decide_eq_true (by first | (with_reducible assumption) | assumption)
                                have q441 : (rd l0_2 x27_1) < (l0_1.length : Int) := of_decide_eq_true (by first | (with_reducible assumption) | assumption)
                                obtain ⟨ad441, e441, hx441_0⟩ := Kd.at_int HR0_1.out (rd l0_2 x27_1) p441 q441
                                obtain rfl : ad439 = ad441 := (by injection e441)
                                replace hx441_0 := (HB.out.cell (World.block_lt_of_cell? w _ hx441_0)).trans hx441_0
                                replace p441 := eq_true p441
                                replace q441 := eq_true q441
                                obtain ⟨Ao33, co33, eo33⟩ := Kd.R_slice HO_6.out
                                subst eo33
                                have p442 : 0 ≤ ((rd l0_1 x27_1) : Int) := of_decide_eq_true (by first | (with_reducible assumption) | assumption)
                                have q442 : (rd l0_1 x27_1) < (x6_1.length : Int) := of_decide_eq_true (by first | (with_reducible assumption) | assumption)
                                obtain ⟨ad442, e442, hx442_0⟩ := Kd.at_int (Kd.R_reads' HO_6.out).2.2 (rd l0_1 x27_1) p442 q442
                                cases e442
                                replace p442 := eq_true p442
                                replace q442 := eq_true q442
                                have p443 : 0 ≤ ((rd l0_1 x27_1) : Int) := of_decide_eq_true (by first | (with_reducible assumption) | assumption)
                                have q443 : (rd l0_1 x27_1) < (x6_1.length : Int) := of_decide_eq_true (by first | (with_reducible assumption) | assumption)
                                obtain ⟨ad443, e443, hx443_0⟩ := Kd.at_int (Kd.R_reads' HO_6.out).2.2 (rd l0_1 x27_1) p443 q443
                                obtain rfl : ad442 = ad443 := (by injection e443)
                                replace p443 := eq_true p443
                                replace q443 := eq_true q443
                                obtain ⟨Ao34, co34, eo34⟩ := Kd.R_slice HO_3.out
                                subst eo34
                                have p444 : 0 ≤ (x27_1 : Int) := of_decide_eq_true (by first | (with_reducible assumption) | assumption)
                                have q444 : x27_1 < (t428.length : Int) := of_decide_eq_true (by first | (with_reducible assumption) | assumption)
                                obtain ⟨ad444, e444, hx444_0⟩ := Kd.at_int (Kd.R_reads' HO_3.out).2.2 x27_1 p444 q444
                                cases e444
                                replace p444 := eq_true p444
                                replace q444 := eq_true q444
                                go_wp2
                                repeat (go_quiet (fail); try go_wp2)
                                go_ret
                                exact ⟨by first | rfl | (simp [errW_none, errW_some] <;> rfl) | (simp [*, errW_none, errW_some] <;> rfl), by repeat (first | (with_reducible first | exact HB.out | apply below_alloc | apply pw_below_drewN | apply below_drew1 | refine below_set ?_ GE427.out) | exact HB.out)⟩
                            · rw [if_neg c24] at H
                              exact absurd H (by simp)
                          · rw [if_neg c23] at H
                            have c23b0 : decide (0 ≤ (rd x6_1 (rd l0_1 x27_1))) = false := decide_eq_false c23
                            clear c23
                            by_cases c35 : x27_1 < (t428.length : Int)
                            · rw [if_pos c35] at H
                              have c35b0 : decide (x27_1 < (t428.length : Int)) = true := decide_eq_true c35
                              clear c35
                              obtain ⟨y448, hy448⟩ : ∃ y_ : List Int, y_ = (x6_1.set ((rd l0_1 x27_1) : Int).toNat (rd t428 x27_1)) := ⟨_, rfl⟩
                              replace H : (rot_turns.l0 k1 t428 y448 l0_1 (l0_1.length : Int) (wrap64 (x27_1 + 1)) a0_0 l0_1 l0_2 l0_3) = some r := by first | (rw [hy448]; with_reducible exact H) | (have H2_ := (Option.bind_some _ _).symm.trans H; rw [hy448]; with_reducible exact H2_) | (have H2_ := (Option.bind_some _ _).symm.trans H; with_reducible exact H2_) | with_reducible exact H | (rw [hy448]; exact H) | exact H
                              have Ny448 := Aside0.mk hy448
                              clear hy448
                              have H' := Aside0.mk H
                              clear H
                              have p439 : 0 ≤ (x27_1 : Int) := of_decide_eq_true (by first | (with_reducible assumption) | assumption)
                              have q439 : x27_1 < (l0_1.length : Int) := of_decide_eq_true (by first | (with_reducible assumption) | assumption)
                              obtain ⟨ad439, e439, hx439_0⟩ := Kd.at_int HR0_1.out x27_1 p439 q439
                              cases e439
                              replace hx439_0 := (HB.out.cell (World.block_lt_of_cell? w _ hx439_0)).trans hx439_0
                              replace p439 := eq_true p439
                              replace q439 := eq_true q439
                              have hcz37_0 : wr.cell? ⟨gb427, 0, none⟩ = some (.int .i64 a0_0) := (blk_cell BK427.out 0).trans rfl
                              have hcz37_1 : wr.cell? ⟨gb427, 1, none⟩ = some (.slice (some ad439) l0_1.length c0_1) := (blk_cell BK427.out 1).trans rfl
                              have hcz37_2 : wr.cell? ⟨gb427, 2, none⟩ = some (.slice A0_2 l0_2.length c0_2) := (blk_cell BK427.out 2).trans rfl
                              have hcz37_3 : wr.cell? ⟨gb427, 3, none⟩ = some (.slice A0_3 l0_3.length c0_3) := (blk_cell BK427.out 3).trans rfl
                              have hfz37_0 := blk_frozen BK427.out 0
                              have hfz37_1 := blk_frozen BK427.out 1
                              have hfz37_2 := blk_frozen BK427.out 2
                              have hfz37_3 := blk_frozen BK427.out 3
                              have p440 : 0 ≤ (x27_1 : Int) := of_decide_eq_true (by first | (with_reducible assumption) | assumption)
                              have q440 : x27_1 < (l0_2.length : Int) := of_decide_eq_true (by first | (with_reducible assumption) | assumption)
                              obtain ⟨ad440, e440, hx440_0⟩ := Kd.at_int HR0_2.out x27_1 p440 q440
                              cases e440
                              replace hx440_0 := (HB.out.cell (World.block_lt_of_cell? w _ hx440_0)).trans hx440_0
                              replace p440 := eq_true p440
                              replace q440 := eq_true q440
                              have p441 : 0 ≤ ((rd l0_2 x27_1) : Int) := of_decide_eq_true (by first | (with_reducible assumption) | assumption)
                              have q441 : (rd l0_2 x27_1) < (l0_1.length : Int) := of_decide_eq_true (by first | (with_reducible assumption) | assumption)
                              obtain ⟨ad441, e441, hx441_0⟩ := Kd.at_int HR0_1.out (rd l0_2 x27_1) p441 q441
                              obtain rfl : ad439 = ad441 := (by injection e441)
                              replace hx441_0 := (HB.out.cell (World.block_lt_of_cell? w _ hx441_0)).trans hx441_0
                              replace p441 := eq_true p441
                              replace q441 := eq_true q441
                              obtain ⟨Ao38, co38, eo38⟩ := Kd.R_slice HO_6.out
                              subst eo38
                              have p442 : 0 ≤ ((rd l0_1 x27_1) : Int) := of_decide_eq_true (by first | (with_reducible assumption) | assumption)
                              have q442 : (rd l0_1 x27_1) < (x6_1.length : Int) := of_decide_eq_true (by first | (with_reducible assumption) | assumption)
                              obtain ⟨ad442, e442, hx442_0⟩ := Kd.at_int (Kd.R_reads' HO_6.out).2.2 (rd l0_1 x27_1) p442 q442
                              cases e442
                              replace p442 := eq_true p442
                              replace q442 := eq_true q442
                              obtain ⟨Ao39, co39, eo39⟩ := Kd.R_slice HO_3.out
                              subst eo39
                              have p447 : 0 ≤ (x27_1 : Int) := of_decide_eq_true (by first | (with_reducible assumption) | assumption)
                              have q447 : x27_1 < (t428.length : Int) := of_decide_eq_true (by first | (with_reducible assumption) | assumption)
                              obtain ⟨ad447, e447, hx447_0⟩ := Kd.at_int (Kd.R_reads' HO_3.out).2.2 x27_1 p447 q447
                              cases e447
                              replace p447 := eq_true p447
                              replace q447 := eq_true q447
                              have p36 : 0 ≤ ((rd l0_1 x27_1) : Int) := of_decide_eq_true (by first | (with_reducible assumption) | assumption)
                              have q36 : ((rd l0_1 x27_1) : Int) < ((x6_1.length : Int) : Int) := of_decide_eq_true (by first | (with_reducible assumption) | assumption)
                              obtain ⟨go36, co36, eo36, gb36, gl36, cl36, HG36⟩ := Kd.R_form HO_6.out (by omega)
                              (first | cases eo36 | (injection eo36 with ea_ en_ ec_; (first | subst ea_ | (injection ea_ with ea_; subst ea_)); subst ec_; clear en_))
                              have GB36 := Aside0.mk gb36
                              have GG36 := Aside0.mk HG36
                              clear gb36 gl36 HG36
                              (first | simp only [add_plain] at hx442_0 | skip)
                              (first | simp only [add_plain] at hx443_0 | skip)
                              obtain ⟨hx36_0, hf36_0⟩ := Kd.R_celln 0 HO_6.out ((rd l0_1 x27_1) : Int) p36 q36
                              replace p36 := eq_true p36
                              replace q36 := eq_true q36
                              have HP40 := Kd.R_putg HO_6.out ((rd l0_1 x27_1) : Int) (rd t428 x27_1)
                              go_wp2_with (first | ((with_reducible refine gate_store (t := 3) (p := 67) rfl ?_); (try (rw [drewN_self wr]; generalize hq_ : World.drewN wr _ = wr; have n0_ := Aside0.mk (Kd.R_at hq_ HO_3.out); have n1_ := Aside0.mk (Kd.R_at hq_ HO_6.out); have n2_ := Aside0.mk (blk_at hq_ BK427.out); have n3_ := Aside0.mk (below_at hq_ HB.out); clear hq_ HO_3 HO_6 BK427 HB; have HO_3 := n0_; have HO_6 := n1_; have BK427 := n2_; have HB := n3_; clear n0_ n1_ n2_ n3_; (try (have HP40 := Kd.R_putg HO_6.out ((rd l0_1 x27_1) : Int) (rd t428 x27_1)); (try (obtain ⟨hx36_0, hf36_0⟩ := Kd.R_celln 0 HO_6.out ((rd l0_1 x27_1) : Int) (of_eq_true p36) (of_eq_true q36)))))); refine store_event (t := 3) (p := 67) (v := ?vo_w41) (w1 := (wr.setCell ⟨go36, ((rd l0_1 x27_1) : Int).toNat, none⟩ (.int .i64 (rd t428 x27_1)))) ?hg ?ho ?hn ?hr ?_; (case ho => rfl); (case hg => rfl); (case hn => rfl); (case hr => first | (go_simp; done) | (go_simp; rfl)); intro w41 hw; have hg : wr.grownBy w41 (some go36) := (by rw [hw]; exact HP40.2); have hp_ : Kd.R (Kd.int .i64) 3 w41 w.heap.size (fun k_ => some k_ ≠ (.slice (some ad447) t428.length co39 : Value).ownBlock) (.slice (some ⟨go36, 0, none⟩) x6_1.length co38) y448 := (by rw [hw, Ny448.out]; exact HP40.1); clear HP40; have n0_ := Aside0.mk (Kd.R_after (v := (.slice (some ⟨go36, 0, none⟩) x6_1.length co38)) (v1 := (.slice (some ⟨go36, 0, none⟩) x6_1.length co38)) (ok := (fun _ => True)) (by (with_reducible repeat (first | apply Kd.R_alloc | apply Kd.R_drewN | apply Kd.R_drew)); exact Kd.R_mono HO_3.out (fun _ hk => ⟨trivial, hk⟩)) hg (.inl rfl)); have n1_ := Aside0.mk (hp_); have n2_ := Aside0.mk (blk_grown (g := gb427) (o := .cells #[.int .i64 a0_0, .slice (some ad439) l0_1.length c0_1, .slice (some ad440) l0_2.length c0_2, .slice A0_3 l0_3.length c0_3] 25 (0, 0)) (by (with_reducible repeat (first | refine blk_drewN ?_ _ | refine blk_drew ?_ | refine blk_alloc ?_ _)); exact BK427.out) hg (Kd.R_ne HO_6.out BK427.out (by decide))); have n3_ := Aside0.mk ((by rw [hw]; exact below_set (HB.out) GB36.out : Below w.heap.size w w41)); clear HO_3; clear HO_6; clear BK427; clear HB; have HO_3 := n0_; have HO_6 := n1_; have BK427 := n2_; have HB := n3_; clear n0_ n1_ n2_ n3_; clear hg hw hp_))
                              repeat (go_quiet (first | ((with_reducible refine gate_store (t := 3) (p := 67) rfl ?_); (try (rw [drewN_self wr]; generalize hq_ : World.drewN wr _ = wr; have n0_ := Aside0.mk (Kd.R_at hq_ HO_3.out); have n1_ := Aside0.mk (Kd.R_at hq_ HO_6.out); have n2_ := Aside0.mk (blk_at hq_ BK427.out); have n3_ := Aside0.mk (below_at hq_ HB.out); clear hq_ HO_3 HO_6 BK427 HB; have HO_3 := n0_; have HO_6 := n1_; have BK427 := n2_; have HB := n3_; clear n0_ n1_ n2_ n3_; (try (have HP40 := Kd.R_putg HO_6.out ((rd l0_1 x27_1) : Int) (rd t428 x27_1)); (try (obtain ⟨hx36_0, hf36_0⟩ := Kd.R_celln 0 HO_6.out ((rd l0_1 x27_1) : Int) (of_eq_true p36) (of_eq_true q36)))))); refine store_event (t := 3) (p := 67) (v := ?vo_w41) (w1 := (wr.setCell ⟨go36, ((rd l0_1 x27_1) : Int).toNat, none⟩ (.int .i64 (rd t428 x27_1)))) ?hg ?ho ?hn ?hr ?_; (case ho => rfl); (case hg => rfl); (case hn => rfl); (case hr => first | (go_simp; done) | (go_simp; rfl)); intro w41 hw; have hg : wr.grownBy w41 (some go36) := (by rw [hw]; exact HP40.2); have hp_ : Kd.R (Kd.int .i64) 3 w41 w.heap.size (fun k_ => some k_ ≠ (.slice (some ad447) t428.length co39 : Value).ownBlock) (.slice (some ⟨go36, 0, none⟩) x6_1.length co38) y448 := (by rw [hw, Ny448.out]; exact HP40.1); clear HP40; have n0_ := Aside0.mk (Kd.R_after (v := (.slice (some ⟨go36, 0, none⟩) x6_1.length co38)) (v1 := (.slice (some ⟨go36, 0, none⟩) x6_1.length co38)) (ok := (fun _ => True)) (by (with_reducible repeat (first | apply Kd.R_alloc | apply Kd.R_drewN | apply Kd.R_drew)); exact Kd.R_mono HO_3.out (fun _ hk => ⟨trivial, hk⟩)) hg (.inl rfl)); have n1_ := Aside0.mk (hp_); have n2_ := Aside0.mk (blk_grown (g := gb427) (o := .cells #[.int .i64 a0_0, .slice (some ad439) l0_1.length c0_1, .slice (some ad440) l0_2.length c0_2, .slice A0_3 l0_3.length c0_3] 25 (0, 0)) (by (with_reducible repeat (first | refine blk_drewN ?_ _ | refine blk_drew ?_ | refine blk_alloc ?_ _)); exact BK427.out) hg (Kd.R_ne HO_6.out BK427.out (by decide))); have n3_ := Aside0.mk ((by rw [hw]; exact below_set (HB.out) GB36.out : Below w.heap.size w w41)); clear HO_3; clear HO_6; clear BK427; clear HB; have HO_3 := n0_; have HO_6 := n1_; have BK427 := n2_; have HB := n3_; clear n0_ n1_ n2_ n3_; clear hg hw hp_)); try go_wp2_with (first | ((with_reducible refine gate_store (t := 3) (p := 67) rfl ?_); (try (rw [drewN_self wr]; generalize hq_ : World.drewN wr _ = wr; have n0_ := Aside0.mk (Kd.R_at hq_ HO_3.out); have n1_ := Aside0.mk (Kd.R_at hq_ HO_6.out); have n2_ := Aside0.mk (blk_at hq_ BK427.out); have n3_ := Aside0.mk (below_at hq_ HB.out); clear hq_ HO_3 HO_6 BK427 HB; have HO_3 := n0_; have HO_6 := n1_; have BK427 := n2_; have HB := n3_; clear n0_ n1_ n2_ n3_; (try (have HP40 := Kd.R_putg HO_6.out ((rd l0_1 x27_1) : Int) (rd t428 x27_1)); (try (obtain ⟨hx36_0, hf36_0⟩ := Kd.R_celln 0 HO_6.out ((rd l0_1 x27_1) : Int) (of_eq_true p36) (of_eq_true q36)))))); refine store_event (t := 3) (p := 67) (v := ?vo_w41) (w1 := (wr.setCell ⟨go36, ((rd l0_1 x27_1) : Int).toNat, none⟩ (.int .i64 (rd t428 x27_1)))) ?hg ?ho ?hn ?hr ?_; (case ho => rfl); (case hg => rfl); (case hn => rfl); (case hr => first | (go_simp; done) | (go_simp; rfl)); intro w41 hw; have hg : wr.grownBy w41 (some go36) := (by rw [hw]; exact HP40.2); have hp_ : Kd.R (Kd.int .i64) 3 w41 w.heap.size (fun k_ => some k_ ≠ (.slice (some ad447) t428.length co39 : Value).ownBlock) (.slice (some ⟨go36, 0, none⟩) x6_1.length co38) y448 := (by rw [hw, Ny448.out]; exact HP40.1); clear HP40; have n0_ := Aside0.mk (Kd.R_after (v := (.slice (some ⟨go36, 0, none⟩) x6_1.length co38)) (v1 := (.slice (some ⟨go36, 0, none⟩) x6_1.length co38)) (ok := (fun _ => True)) (by (with_reducible repeat (first | apply Kd.R_alloc | apply Kd.R_drewN | apply Kd.R_drew)); exact Kd.R_mono HO_3.out (fun _ hk => ⟨trivial, hk⟩)) hg (.inl rfl)); have n1_ := Aside0.mk (hp_); have n2_ := Aside0.mk (blk_grown (g := gb427) (o := .cells #[.int .i64 a0_0, .slice (some ad439) l0_1.length c0_1, .slice (some ad440) l0_2.length c0_2, .slice A0_3 l0_3.length c0_3] 25 (0, 0)) (by (with_reducible repeat (first | refine blk_drewN ?_ _ | refine blk_drew ?_ | refine blk_alloc ?_ _)); exact BK427.out) hg (Kd.R_ne HO_6.out BK427.out (by decide))); have n3_ := Aside0.mk ((by rw [hw]; exact below_set (HB.out) GB36.out : Below w.heap.size w w41)); clear HO_3; clear HO_6; clear BK427; clear HB; have HO_3 := n0_; have HO_6 := n1_; have BK427 := n2_; have HB := n3_; clear n0_ n1_ n2_ n3_; clear hg hw hp_)))
                              go_roundg k1
                              case measure => have := HK1.out; omega
                              case rel => exact ⟨(y448), (wrap64 (x27_1 + 1)), (by first | rfl | (simp; done) | (simp [*]; done)), H', ⟨by have := HK1.out; omega⟩, ⟨by (with_reducible repeat (first | apply Kd.R_alloc | apply Kd.R_drewN | apply Kd.R_drew)); exact Kd.R_mono HO_3.out (fun _ hk => hk.2)⟩, ⟨by (with_reducible repeat (first | apply Kd.R_alloc | apply Kd.R_drewN | apply Kd.R_drew)); exact HO_6.out⟩, ⟨by (with_reducible repeat (first | refine blk_drewN ?_ _ | refine blk_drew ?_ | refine blk_alloc ?_ _)); exact BK427.out⟩, ⟨by repeat (first | (with_reducible first | exact HB.out | apply below_alloc | apply pw_below_drewN | apply below_drew1 | refine below_set ?_ GE427.out) | exact HB.out)⟩⟩
                            · rw [if_neg c35] at H
                              exact absurd H (by simp)
                        · rw [if_neg c22] at H
                          exact absurd H (by simp)
                      · rw [if_neg c21] at H
                        exact absurd H (by simp)
                    · rw [if_neg c20] at H
                      have c20b0 : ((rd l0_1 (rd l0_2 x27_1)) == (rd l0_1 x27_1)) = false := beq_eq_false_iff_ne.mpr c20
                      have c20b1 : ((rd l0_1 (rd l0_2 x27_1)) != (rd l0_1 x27_1)) = true := bne_iff_ne.mpr c20
                      obtain rfl := Option.some.inj H
                      have p439 : 0 ≤ (x27_1 : Int) := of_decide_eq_true (by first | (with_reducible assumption) | assumption)
                      have q439 : x27_1 < (l0_1.length : Int) := of_decide_eq_true (by first | (with_reducible assumption) | assumption)
                      obtain ⟨ad439, e439, hx439_0⟩ := Kd.at_int HR0_1.out x27_1 p439 q439
                      cases e439
                      replace hx439_0 := (HB.out.cell (World.block_lt_of_cell? w _ hx439_0)).trans hx439_0
                      replace p439 := eq_true p439
                      replace q439 := eq_true q439
                      have hcz42_0 : wr.cell? ⟨gb427, 0, none⟩ = some (.int .i64 a0_0) := (blk_cell BK427.out 0).trans rfl
                      have hcz42_1 : wr.cell? ⟨gb427, 1, none⟩ = some (.slice (some ad439) l0_1.length c0_1) := (blk_cell BK427.out 1).trans rfl
                      have hcz42_2 : wr.cell? ⟨gb427, 2, none⟩ = some (.slice A0_2 l0_2.length c0_2) := (blk_cell BK427.out 2).trans rfl
                      have hcz42_3 : wr.cell? ⟨gb427, 3, none⟩ = some (.slice A0_3 l0_3.length c0_3) := (blk_cell BK427.out 3).trans rfl
                      have hfz42_0 := blk_frozen BK427.out 0
                      have hfz42_1 := blk_frozen BK427.out 1
                      have hfz42_2 := blk_frozen BK427.out 2
                      have hfz42_3 := blk_frozen BK427.out 3
                      have p440 : 0 ≤ (x27_1 : Int) := of_decide_eq_true (by first | (with_reducible assumption) | assumption)
                      have q440 : x27_1 < (l0_2.length : Int) := of_decide_eq_true (by first | (with_reducible assumption) | assumption)
                      obtain ⟨ad440, e440, hx440_0⟩ := Kd.at_int HR0_2.out x27_1 p440 q440
                      cases e440
                      replace hx440_0 := (HB.out.cell (World.block_lt_of_cell? w _ hx440_0)).trans hx440_0
                      replace p440 := eq_true p440
                      replace q440 := eq_true q440
                      have p441 : 0 ≤ ((rd l0_2 x27_1) : Int) := of_decide_eq_true (by first | (with_reducible assumption) | assumption)
                      have q441 : (rd l0_2 x27_1) < (l0_1.length : Int) := of_decide_eq_true (by first | (with_reducible assumption) | assumption)
                      obtain ⟨ad441, e441, hx441_0⟩ := Kd.at_int HR0_1.out (rd l0_2 x27_1) p441 q441
                      obtain rfl : ad439 = ad441 := (by injection e441)
                      replace hx441_0 := (HB.out.cell (World.block_lt_of_cell? w _ hx441_0)).trans hx441_0
                      replace p441 := eq_true p441
                      replace q441 := eq_true q441
                      go_wp2
                      repeat (go_quiet (fail); try go_wp2)
                      go_ret
                      exact ⟨by first | rfl | (simp [errW_none, errW_some] <;> rfl) | (simp [*, errW_none, errW_some] <;> rfl), by repeat (first | (with_reducible first | exact HB.out | apply below_alloc | apply pw_below_drewN | apply below_drew1 | refine below_set ?_ GE427.out) | exact HB.out)⟩
                  · rw [if_neg c19] at H
                    exact absurd H (by simp)
                · rw [if_neg c18] at H
                  exact absurd H (by simp)
              · rw [if_neg c17] at H
                exact absurd H (by simp)
            · rw [if_neg c16] at H
              exact absurd H (by simp)
          · rw [if_neg c15] at H
            exact absurd H (by simp)
        · rw [if_neg c14] at H
          have c14b0 : decide (x27_1 < (l0_1.length : Int)) = false := decide_eq_false c14
          clear c14
          obtain rfl := Option.some.inj H
          go_wp2
          repeat (go_quiet (fail); try go_wp2)
          go_ret
          exact ⟨by first | rfl | (simp [errW_none, errW_some] <;> rfl) | (simp [*, errW_none, errW_some] <;> rfl), by repeat (first | (with_reducible first | exact HB.out | apply below_alloc | apply pw_below_drewN | apply below_drew1 | refine below_set ?_ GE427.out) | exact HB.out)⟩
  · replace c3 := Bool.eq_false_iff.mpr c3
    subst c3
    have H1 : (some false) = some r := by rw [if_neg (show ¬ (false = true) by decide)] at H; exact H
    clear H
    have H := H1
    clear H1
    obtain rfl := Option.some.inj H
    have hmf : ∀ (fn : Fn) (first cap : Array Value) (w : World), (Instr.makeFunc fn first cap).run Try.prog w = .ok (.func fn first cap) w := fun _ _ _ _ => rfl
    go_enter Try.func28, Try.ntmps28
    go_wp2_with (first | ((with_reducible refine gate_dst (N := 1) rfl ?_); refine box_event ?hg (N := 1) ?hd (cs := #[.int .i64 a0_0, .slice A0_1 l0_1.length c0_1, .slice A0_2 l0_2.length c0_2, .slice A0_3 l0_3.length c0_3]) (t := 25) ?hr ?_; (case hd => rfl); (case hg => rfl); (case hr => first | (go_simp; done) | (go_simp; rfl)); intro gb427 hg w43 hbox hb; have n0_ := Aside0.mk (below_step (by repeat (first | (with_reducible first | exact HB.out | apply below_alloc | apply pw_below_drewN | apply below_drew1) | exact HB.out)) hb); have n1_ := Aside0.mk (hbox); have n2_ := Aside0.mk ((by rw [hg]; exact (below_size (by repeat (first | (with_reducible first | exact HB.out | apply below_alloc | apply pw_below_drewN | apply below_drew1) | exact HB.out))) : w.heap.size ≤ gb427)); have n3_ := Aside0.mk ((by rw [hg]; exact (below_size (by repeat (first | (with_reducible first | exact HB.out | apply below_alloc | apply pw_below_drewN | apply below_drew1) | exact HB.out))) : w.heap.size ≤ gb427)); clear HB; have HB := n0_; have BK427 := n1_; have GW427 := n2_; have GE427 := n3_; clear n0_ n1_ n2_ n3_; clear hb hbox hg; have hcz44_0 : w43.cell? ⟨gb427, 0, none⟩ = some (.int .i64 a0_0) := (blk_cell BK427.out 0).trans rfl; have hcz44_1 : w43.cell? ⟨gb427, 1, none⟩ = some (.slice A0_1 l0_1.length c0_1) := (blk_cell BK427.out 1).trans rfl; have hcz44_2 : w43.cell? ⟨gb427, 2, none⟩ = some (.slice A0_2 l0_2.length c0_2) := (blk_cell BK427.out 2).trans rfl; have hcz44_3 : w43.cell? ⟨gb427, 3, none⟩ = some (.slice A0_3 l0_3.length c0_3) := (blk_cell BK427.out 3).trans rfl; have hfz44_0 := blk_frozen BK427.out 0; have hfz44_1 := blk_frozen BK427.out 1; have hfz44_2 := blk_frozen BK427.out 2; have hfz44_3 := blk_frozen BK427.out 3) | (go_at_call 40; (with_reducible refine (rot_orbitsT.calls k (l0_1.length : Int) a0_0 _ _ l0_1 _ _ l0_2 _ _ l0_3 t428 t431 false _ ?side1 ?side2 ?side3 ?side4 ?side5 ?side6 A2.out _ BK427.out).mono ?_); (case side1 => repeat (first | exact (Kd.C_below HR0_1.out HB.out) | (with_reducible refine Kd.C_alloc ?_ _) | (with_reducible refine Kd.C_drewN ?_ _) | (with_reducible refine Kd.C_drew ?_))); (case side2 => exact HC0_1.out); (case side3 => repeat (first | exact (Kd.C_below HR0_2.out HB.out) | (with_reducible refine Kd.C_alloc ?_ _) | (with_reducible refine Kd.C_drewN ?_ _) | (with_reducible refine Kd.C_drew ?_))); (case side4 => exact HC0_2.out); (case side5 => repeat (first | exact (Kd.C_below HR0_3.out HB.out) | (with_reducible refine Kd.C_alloc ?_ _) | (with_reducible refine Kd.C_drewN ?_ _) | (with_reducible refine Kd.C_drew ?_))); (case side6 => exact HC0_3.out); rintro e w45 ⟨v429, rfl, ho0, hb⟩; have n0_ := Aside0.mk (Kd.R_lower ho0 (below_size (by repeat (first | (with_reducible first | exact HB.out | apply below_alloc | apply pw_below_drewN | apply below_drew1 | refine below_set ?_ GE427.out) | exact HB.out)))); have n1_ := Aside0.mk (blk_below (g := gb427) (o := .cells #[.int .i64 a0_0, .slice A0_1 l0_1.length c0_1, .slice A0_2 l0_2.length c0_2, .slice A0_3 l0_3.length c0_3] 25 (0, 0)) (by (with_reducible repeat (first | refine blk_drewN ?_ _ | refine blk_drew ?_ | refine blk_alloc ?_ _)); exact BK427.out) hb); have n2_ := Aside0.mk (below_step (by repeat (first | (with_reducible first | exact HB.out | apply below_alloc | apply pw_below_drewN | apply below_drew1 | refine below_set ?_ GE427.out) | exact HB.out)) hb); clear BK427; clear HB; have HO430 := n0_; have BK427 := n1_; have HB := n2_; clear n0_ n1_ n2_; (try clear hb); (try clear hb2); (try clear hk); (try clear hi); (try clear ho0)))
    repeat (go_quiet (first | ((with_reducible refine gate_dst (N := 1) rfl ?_); refine box_event ?hg (N := 1) ?hd (cs := #[.int .i64 a0_0, .slice A0_1 l0_1.length c0_1, .slice A0_2 l0_2.length c0_2, .slice A0_3 l0_3.length c0_3]) (t := 25) ?hr ?_; (case hd => rfl); (case hg => rfl); (case hr => first | (go_simp; done) | (go_simp; rfl)); intro gb427 hg w43 hbox hb; have n0_ := Aside0.mk (below_step (by repeat (first | (with_reducible first | exact HB.out | apply below_alloc | apply pw_below_drewN | apply below_drew1) | exact HB.out)) hb); have n1_ := Aside0.mk (hbox); have n2_ := Aside0.mk ((by rw [hg]; exact (below_size (by repeat (first | (with_reducible first | exact HB.out | apply below_alloc | apply pw_below_drewN | apply below_drew1) | exact HB.out))) : w.heap.size ≤ gb427)); have n3_ := Aside0.mk ((by rw [hg]; exact (below_size (by repeat (first | (with_reducible first | exact HB.out | apply below_alloc | apply pw_below_drewN | apply below_drew1) | exact HB.out))) : w.heap.size ≤ gb427)); clear HB; have HB := n0_; have BK427 := n1_; have GW427 := n2_; have GE427 := n3_; clear n0_ n1_ n2_ n3_; clear hb hbox hg; have hcz44_0 : w43.cell? ⟨gb427, 0, none⟩ = some (.int .i64 a0_0) := (blk_cell BK427.out 0).trans rfl; have hcz44_1 : w43.cell? ⟨gb427, 1, none⟩ = some (.slice A0_1 l0_1.length c0_1) := (blk_cell BK427.out 1).trans rfl; have hcz44_2 : w43.cell? ⟨gb427, 2, none⟩ = some (.slice A0_2 l0_2.length c0_2) := (blk_cell BK427.out 2).trans rfl; have hcz44_3 : w43.cell? ⟨gb427, 3, none⟩ = some (.slice A0_3 l0_3.length c0_3) := (blk_cell BK427.out 3).trans rfl; have hfz44_0 := blk_frozen BK427.out 0; have hfz44_1 := blk_frozen BK427.out 1; have hfz44_2 := blk_frozen BK427.out 2; have hfz44_3 := blk_frozen BK427.out 3) | (go_at_call 40; (with_reducible refine (rot_orbitsT.calls k (l0_1.length : Int) a0_0 _ _ l0_1 _ _ l0_2 _ _ l0_3 t428 t431 false _ ?side1 ?side2 ?side3 ?side4 ?side5 ?side6 A2.out _ BK427.out).mono ?_); (case side1 => repeat (first | exact (Kd.C_below HR0_1.out HB.out) | (with_reducible refine Kd.C_alloc ?_ _) | (with_reducible refine Kd.C_drewN ?_ _) | (with_reducible refine Kd.C_drew ?_))); (case side2 => exact HC0_1.out); (case side3 => repeat (first | exact (Kd.C_below HR0_2.out HB.out) | (with_reducible refine Kd.C_alloc ?_ _) | (with_reducible refine Kd.C_drewN ?_ _) | (with_reducible refine Kd.C_drew ?_))); (case side4 => exact HC0_2.out); (case side5 => repeat (first | exact (Kd.C_below HR0_3.out HB.out) | (with_reducible refine Kd.C_alloc ?_ _) | (with_reducible refine Kd.C_drewN ?_ _) | (with_reducible refine Kd.C_drew ?_))); (case side6 => exact HC0_3.out); rintro e w45 ⟨v429, rfl, ho0, hb⟩; have n0_ := Aside0.mk (Kd.R_lower ho0 (below_size (by repeat (first | (with_reducible first | exact HB.out | apply below_alloc | apply pw_below_drewN | apply below_drew1 | refine below_set ?_ GE427.out) | exact HB.out)))); have n1_ := Aside0.mk (blk_below (g := gb427) (o := .cells #[.int .i64 a0_0, .slice A0_1 l0_1.length c0_1, .slice A0_2 l0_2.length c0_2, .slice A0_3 l0_3.length c0_3] 25 (0, 0)) (by (with_reducible repeat (first | refine blk_drewN ?_ _ | refine blk_drew ?_ | refine blk_alloc ?_ _)); exact BK427.out) hb); have n2_ := Aside0.mk (below_step (by repeat (first | (with_reducible first | exact HB.out | apply below_alloc | apply pw_below_drewN | apply below_drew1 | refine below_set ?_ GE427.out) | exact HB.out)) hb); clear BK427; clear HB; have HO430 := n0_; have BK427 := n1_; have HB := n2_; clear n0_ n1_ n2_; (try clear hb); (try clear hb2); (try clear hk); (try clear hi); (try clear ho0))); try go_wp2_with (first | ((with_reducible refine gate_dst (N := 1) rfl ?_); refine box_event ?hg (N := 1) ?hd (cs := #[.int .i64 a0_0, .slice A0_1 l0_1.length c0_1, .slice A0_2 l0_2.length c0_2, .slice A0_3 l0_3.length c0_3]) (t := 25) ?hr ?_; (case hd => rfl); (case hg => rfl); (case hr => first | (go_simp; done) | (go_simp; rfl)); intro gb427 hg w43 hbox hb; have n0_ := Aside0.mk (below_step (by repeat (first | (with_reducible first | exact HB.out | apply below_alloc | apply pw_below_drewN | apply below_drew1) | exact HB.out)) hb); have n1_ := Aside0.mk (hbox); have n2_ := Aside0.mk ((by rw [hg]; exact (below_size (by repeat (first | (with_reducible first | exact HB.out | apply below_alloc | apply pw_below_drewN | apply below_drew1) | exact HB.out))) : w.heap.size ≤ gb427)); have n3_ := Aside0.mk ((by rw [hg]; exact (below_size (by repeat (first | (with_reducible first | exact HB.out | apply below_alloc | apply pw_below_drewN | apply below_drew1) | exact HB.out))) : w.heap.size ≤ gb427)); clear HB; have HB := n0_; have BK427 := n1_; have GW427 := n2_; have GE427 := n3_; clear n0_ n1_ n2_ n3_; clear hb hbox hg; have hcz44_0 : w43.cell? ⟨gb427, 0, none⟩ = some (.int .i64 a0_0) := (blk_cell BK427.out 0).trans rfl; have hcz44_1 : w43.cell? ⟨gb427, 1, none⟩ = some (.slice A0_1 l0_1.length c0_1) := (blk_cell BK427.out 1).trans rfl; have hcz44_2 : w43.cell? ⟨gb427, 2, none⟩ = some (.slice A0_2 l0_2.length c0_2) := (blk_cell BK427.out 2).trans rfl; have hcz44_3 : w43.cell? ⟨gb427, 3, none⟩ = some (.slice A0_3 l0_3.length c0_3) := (blk_cell BK427.out 3).trans rfl; have hfz44_0 := blk_frozen BK427.out 0; have hfz44_1 := blk_frozen BK427.out 1; have hfz44_2 := blk_frozen BK427.out 2; have hfz44_3 := blk_frozen BK427.out 3) | (go_at_call 40; (with_reducible refine (rot_orbitsT.calls k (l0_1.length : Int) a0_0 _ _ l0_1 _ _ l0_2 _ _ l0_3 t428 t431 false _ ?side1 ?side2 ?side3 ?side4 ?side5 ?side6 A2.out _ BK427.out).mono ?_); (case side1 => repeat (first | exact (Kd.C_below HR0_1.out HB.out) | (with_reducible refine Kd.C_alloc ?_ _) | (with_reducible refine Kd.C_drewN ?_ _) | (with_reducible refine Kd.C_drew ?_))); (case side2 => exact HC0_1.out); (case side3 => repeat (first | exact (Kd.C_below HR0_2.out HB.out) | (with_reducible refine Kd.C_alloc ?_ _) | (with_reducible refine Kd.C_drewN ?_ _) | (with_reducible refine Kd.C_drew ?_))); (case side4 => exact HC0_2.out); (case side5 => repeat (first | exact (Kd.C_below HR0_3.out HB.out) | (with_reducible refine Kd.C_alloc ?_ _) | (with_reducible refine Kd.C_drewN ?_ _) | (with_reducible refine Kd.C_drew ?_))); (case side6 => exact HC0_3.out); rintro e w45 ⟨v429, rfl, ho0, hb⟩; have n0_ := Aside0.mk (Kd.R_lower ho0 (below_size (by repeat (first | (with_reducible first | exact HB.out | apply below_alloc | apply pw_below_drewN | apply below_drew1 | refine below_set ?_ GE427.out) | exact HB.out)))); have n1_ := Aside0.mk (blk_below (g := gb427) (o := .cells #[.int .i64 a0_0, .slice A0_1 l0_1.length c0_1, .slice A0_2 l0_2.length c0_2, .slice A0_3 l0_3.length c0_3] 25 (0, 0)) (by (with_reducible repeat (first | refine blk_drewN ?_ _ | refine blk_drew ?_ | refine blk_alloc ?_ _)); exact BK427.out) hb); have n2_ := Aside0.mk (below_step (by repeat (first | (with_reducible first | exact HB.out | apply below_alloc | apply pw_below_drewN | apply below_drew1 | refine below_set ?_ GE427.out) | exact HB.out)) hb); clear BK427; clear HB; have HO430 := n0_; have BK427 := n1_; have HB := n2_; clear n0_ n1_ n2_; (try clear hb); (try clear hb2); (try clear hk); (try clear hi); (try clear ho0))))
    go_ret
    exact ⟨by first | rfl | (simp [errW_none, errW_some] <;> rfl) | (simp [*, errW_none, errW_some] <;> rfl), by repeat (first | (with_reducible first | exact HB.out | apply below_alloc | apply pw_below_drewN | apply below_drew1 | refine below_set ?_ GE427.out) | exact HB.out)⟩

end Go.Proofs.Ytoipfbffdcahoaa.P
