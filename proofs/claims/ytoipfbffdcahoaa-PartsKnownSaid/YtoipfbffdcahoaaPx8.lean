-- Written by a program of this session: a scratch copy of the kit's printer in which some functions are external. Lean checks it.
import Derived.Test.YtoipfbffdcahoaaPx0
namespace Go.Proofs.Ytoipfbffdcahoaa.P
open Go.RowKit Go.Proofs.YtoipfbffdcahoaaW.PrintWords Go.Proofs.YtoipfbffdcahoaaW.PrintLast Go.Proofs.YtoipfbffdcahoaaW.PrintMore
attribute [local go_sem] max2_int min2_int max_two min_two max_three min_three max_four min_four   -- for this text's walks alone
set_option linter.unusedVariables false
set_option linter.unusedSimpArgs false

-- NOT PRINTED: function 6 (watershedlaw11_PartsScale)

/-! ### rot_shape: function 27 -/
mutual
def rot_shape.j0 : Nat → Int → Bool → Int → List Int → List Int → List Int → Option (Int)
  | 0, _, _, _, _, _, _ => none
  | k + 1, x3, x11, x415000, x415001, x415002, x415003 => if x11 = true then (some 2) else (if (x415002.length : Int) = x3 then (if (x415003.length : Int) = x3 then (if (Int.tmod x3 2) = 0 then (rot_shape.l0 k x3 x415002 (x415002.length : Int) 0 x415000 x415001 x415002 x415003) else (some 5)) else (some 5)) else (some 5))
def rot_shape.l0 : Nat → Int → List Int → Int → Int → Int → List Int → List Int → List Int → Option (Int)
  | 0, _, _, _, _, _, _, _, _ => none
  | k + 1, x3, x38, x39, x40, x415000, x415001, x415002, x415003 => if x40 < x39 then (if 0 ≤ x40 then (if x40 < (x38.length : Int) then (if (rd x38 x40) < 0 then (some 5) else (if (rd x38 x40) ≥ x3 then (some 5) else (rot_shape.l0 k x3 x38 x39 (wrap64 (x40 + 1)) x415000 x415001 x415002 x415003))) else (none)) else (none)) else (if x415000 < 1 then (some 3) else (rot_shape.l1 k x415001 (x415001.length : Int) 0 x415000 x415001 x415002 x415003))
def rot_shape.l1 : Nat → List Int → Int → Int → Int → List Int → List Int → List Int → Option (Int)
  | 0, _, _, _, _, _, _, _ => none
  | k + 1, x56, x57, x58, x415000, x415001, x415002, x415003 => if x58 < x57 then (if 0 ≤ x58 then (if x58 < (x56.length : Int) then (if (rd x56 x58) < 0 then (some 3) else (if (rd x56 x58) ≥ x415000 then (some 3) else (rot_shape.l1 k x56 x57 (wrap64 (x58 + 1)) x415000 x415001 x415002 x415003))) else (none)) else (none)) else (some 0)
end
def rot_shape.f (k : Nat) (a0_0 : Int) (l0_1 : List Int) (l0_2 : List Int) (l0_3 : List Int) : Option (Int) := if a0_0 > 60 then (rot_shape.j0 k (l0_1.length : Int) true a0_0 l0_1 l0_2 l0_3) else (rot_shape.j0 k (l0_1.length : Int) (decide ((l0_1.length : Int) > 240)) a0_0 l0_1 l0_2 l0_3)
theorem rot_shape.mono_l : ∀ k, (∀ y0 y1 y2 y3 y4 y5, LeO (rot_shape.j0 k y0 y1 y2 y3 y4 y5) (rot_shape.j0 (k + 1) y0 y1 y2 y3 y4 y5)) ∧ (∀ y0 y1 y2 y3 y4 y5 y6 y7, LeO (rot_shape.l0 k y0 y1 y2 y3 y4 y5 y6 y7) (rot_shape.l0 (k + 1) y0 y1 y2 y3 y4 y5 y6 y7)) ∧ (∀ y0 y1 y2 y3 y4 y5 y6, LeO (rot_shape.l1 k y0 y1 y2 y3 y4 y5 y6) (rot_shape.l1 (k + 1) y0 y1 y2 y3 y4 y5 y6))
  | 0 => ⟨fun _ _ _ _ _ _ r h => by simp [rot_shape.j0] at h, fun _ _ _ _ _ _ _ _ r h => by simp [rot_shape.l0] at h, fun _ _ _ _ _ _ _ r h => by simp [rot_shape.l1] at h⟩
  | k + 1 => by
    obtain ⟨ih0, ih1, ih2⟩ := rot_shape.mono_l k
    refine ⟨?_, ?_, ?_⟩
    · intro y0 y1 y2 y3 y4 y5
      unfold rot_shape.j0
      repeat' first
      | (with_reducible exact ih0 _ _ _ _ _ _)
      | (with_reducible exact ih1 _ _ _ _ _ _ _ _)
      | (with_reducible exact ih2 _ _ _ _ _ _ _)
      | (with_reducible exact LeO.refl _)
      | (with_reducible exact LeO.none _)
      | (with_reducible refine LeO.ite ?_ ?_)
      | (with_reducible refine LeO.bind ?_ (fun _ => ?_))
      | exact ih0 _ _ _ _ _ _
      | exact ih1 _ _ _ _ _ _ _ _
      | exact ih2 _ _ _ _ _ _ _
      | exact LeO.none _
      | refine LeO.ite ?_ ?_
      | refine LeO.bind ?_ (fun _ => ?_)
    · intro y0 y1 y2 y3 y4 y5 y6 y7
      unfold rot_shape.l0
      repeat' first
      | (with_reducible exact ih0 _ _ _ _ _ _)
      | (with_reducible exact ih1 _ _ _ _ _ _ _ _)
      | (with_reducible exact ih2 _ _ _ _ _ _ _)
      | (with_reducible exact LeO.refl _)
      | (with_reducible exact LeO.none _)
      | (with_reducible refine LeO.ite ?_ ?_)
      | (with_reducible refine LeO.bind ?_ (fun _ => ?_))
      | exact ih0 _ _ _ _ _ _
      | exact ih1 _ _ _ _ _ _ _ _
      | exact ih2 _ _ _ _ _ _ _
      | exact LeO.none _
      | refine LeO.ite ?_ ?_
      | refine LeO.bind ?_ (fun _ => ?_)
    · intro y0 y1 y2 y3 y4 y5 y6
      unfold rot_shape.l1
      repeat' first
      | (with_reducible exact ih0 _ _ _ _ _ _)
      | (with_reducible exact ih1 _ _ _ _ _ _ _ _)
      | (with_reducible exact ih2 _ _ _ _ _ _ _)
      | (with_reducible exact LeO.refl _)
      | (with_reducible exact LeO.none _)
      | (with_reducible refine LeO.ite ?_ ?_)
      | (with_reducible refine LeO.bind ?_ (fun _ => ?_))
      | exact ih0 _ _ _ _ _ _
      | exact ih1 _ _ _ _ _ _ _ _
      | exact ih2 _ _ _ _ _ _ _
      | exact LeO.none _
      | refine LeO.ite ?_ ?_
      | refine LeO.bind ?_ (fun _ => ?_)
theorem rot_shape.mono : ∀ a0 a1 a2 a3 k, LeO (rot_shape.f k a0 a1 a2 a3) (rot_shape.f (k + 1) a0 a1 a2 a3) := by
  intro a0 a1 a2 a3 k
  obtain ⟨ih0, ih1, ih2⟩ := rot_shape.mono_l k
  unfold rot_shape.f
  repeat' first
      | (with_reducible exact ih0 _ _ _ _ _ _)
      | (with_reducible exact ih1 _ _ _ _ _ _ _ _)
      | (with_reducible exact ih2 _ _ _ _ _ _ _)
      | (with_reducible exact LeO.refl _)
      | (with_reducible exact LeO.none _)
      | (with_reducible refine LeO.ite ?_ ?_)
      | (with_reducible refine LeO.bind ?_ (fun _ => ?_))
      | exact ih0 _ _ _ _ _ _
      | exact ih1 _ _ _ _ _ _ _ _
      | exact ih2 _ _ _ _ _ _ _
      | exact LeO.none _
      | refine LeO.ite ?_ ?_
      | refine LeO.bind ?_ (fun _ => ?_)
set_option maxHeartbeats 8000000 in
set_option maxRecDepth 100000 in
theorem rot_shape.calls (k : Nat) (a0_0 : Int) (A0_1 : Option Addr) (c0_1 : Nat) (l0_1 : List Int) (A0_2 : Option Addr) (c0_2 : Nat) (l0_2 : List Int) (A0_3 : Option Addr) (c0_3 : Nat) (l0_3 : List Int) (r : Int) (w : World) (hr0_1 : Kd.C (Kd.int .i64) w A0_1 l0_1.length l0_1) (hc0_1 : l0_1.length ≤ c0_1) (hr0_2 : Kd.C (Kd.int .i64) w A0_2 l0_2.length l0_2) (hc0_2 : l0_2.length ≤ c0_2) (hr0_3 : Kd.C (Kd.int .i64) w A0_3 l0_3.length l0_3) (hc0_3 : l0_3.length ≤ c0_3) (h : rot_shape.f k a0_0 l0_1 l0_2 l0_3 = some r) :
    Calls Try.prog 27 #[.agg #[.int .i64 a0_0, .slice A0_1 l0_1.length c0_1, .slice A0_2 l0_2.length c0_2, .slice A0_3 l0_3.length c0_3]] w fun e w' => e = .returned (.int .i64 r) ∧ Below w.heap.size w w' := by
  have hu25 := Try.underlying25
  have HR0_1 := Aside0.mk hr0_1
  have HC0_1 := Aside0.mk hc0_1
  clear hr0_1 hc0_1
  have HR0_2 := Aside0.mk hr0_2
  have HC0_2 := Aside0.mk hc0_2
  clear hr0_2 hc0_2
  have HR0_3 := Aside0.mk hr0_3
  have HC0_3 := Aside0.mk hc0_3
  clear hr0_3 hc0_3
  have HB := Aside0.mk (Below.refl w.heap.size w)
  have H : (if a0_0 > 60 then (rot_shape.j0 k (l0_1.length : Int) true a0_0 l0_1 l0_2 l0_3) else (rot_shape.j0 k (l0_1.length : Int) (decide ((l0_1.length : Int) > 240)) a0_0 l0_1 l0_2 l0_3)) = some r := h
  clear h
  have HC2 := Aside0.mk H
  clear H
  go_enter Try.func27, Try.ntmps27
  go_upto_region 2 with (first | ((with_reducible refine gate_dst (N := 1) rfl ?_); (try (refine gate_guard (by rfl) ?_; dsimp only)); refine box_event ?hg (N := 1) ?hd (cs := #[.int .i64 a0_0, .slice A0_1 l0_1.length c0_1, .slice A0_2 l0_2.length c0_2, .slice A0_3 l0_3.length c0_3]) (t := 25) ?hr ?_; (case hd => rfl); (case hg => rfl); (case hr => first | (go_simp; done) | (go_simp; rfl)); intro gb414 hg w3 hbox hb; have n0_ := Aside0.mk (below_step (by repeat (first | (with_reducible first | exact HB.out | apply below_alloc | apply pw_below_drewN | apply below_drew1) | exact HB.out)) hb); have n1_ := Aside0.mk (hbox); have n2_ := Aside0.mk ((by rw [hg]; exact (below_size (by repeat (first | (with_reducible first | exact HB.out | apply below_alloc | apply pw_below_drewN | apply below_drew1) | exact HB.out))) : w.heap.size ≤ gb414)); have n3_ := Aside0.mk ((by rw [hg]; exact (below_size (by repeat (first | (with_reducible first | exact HB.out | apply below_alloc | apply pw_below_drewN | apply below_drew1) | exact HB.out))) : w.heap.size ≤ gb414)); clear HB; have HB := n0_; have BK414 := n1_; have GW414 := n2_; have GE414 := n3_; clear n0_ n1_ n2_ n3_; clear hb hbox hg; have hcz4_0 : w3.cell? ⟨gb414, 0, none⟩ = some (.int .i64 a0_0) := (blk_cell BK414.out 0).trans rfl; have hcz4_1 : w3.cell? ⟨gb414, 1, none⟩ = some (.slice A0_1 l0_1.length c0_1) := (blk_cell BK414.out 1).trans rfl; have hcz4_2 : w3.cell? ⟨gb414, 2, none⟩ = some (.slice A0_2 l0_2.length c0_2) := (blk_cell BK414.out 2).trans rfl; have hcz4_3 : w3.cell? ⟨gb414, 3, none⟩ = some (.slice A0_3 l0_3.length c0_3) := (blk_cell BK414.out 3).trans rfl; have hfz4_0 := blk_frozen BK414.out 0; have hfz4_1 := blk_frozen BK414.out 1; have hfz4_2 := blk_frozen BK414.out 2; have hfz4_3 := blk_frozen BK414.out 3))
  (try simp only [Act.put, List.setIfInBounds_toArray, List.set_cons_zero, List.set_cons_succ])
  go_cut [11] (fun v11 wc => ∃ (kq : Nat) (x11_1 : Bool), v11 = .bool x11_1 ∧ Aside0 (rot_shape.j0 kq (l0_1.length : Int) x11_1 a0_0 l0_1 l0_2 l0_3 = some r) ∧ Aside0 (kq ≤ k) ∧ Aside0 (wc.heap[gb414]? = some (.cells #[.int .i64 a0_0, (.slice A0_1 l0_1.length c0_1), (.slice A0_2 l0_2.length c0_2), (.slice A0_3 l0_3.length c0_3)] 25 (0, 0))) ∧ Aside0 (Below w.heap.size w wc))
  case first =>
    have H := HC2.out
    clear HC2
    by_cases c5 : a0_0 > 60
    · rw [if_pos c5] at H
      have c5b0 : decide (60 < a0_0) = true := decide_eq_true c5
      clear c5
      (first | rw [c5b0] | (simp only [i64_w, i32_w]; rw [c5b0]) | skip)
      have H' := Aside0.mk H
      clear H
      have hcz6_0 : w3.cell? ⟨gb414, 0, none⟩ = some (.int .i64 a0_0) := (blk_cell BK414.out 0).trans rfl
      have hcz6_1 : w3.cell? ⟨gb414, 1, none⟩ = some (.slice A0_1 l0_1.length c0_1) := (blk_cell BK414.out 1).trans rfl
      have hcz6_2 : w3.cell? ⟨gb414, 2, none⟩ = some (.slice A0_2 l0_2.length c0_2) := (blk_cell BK414.out 2).trans rfl
      have hcz6_3 : w3.cell? ⟨gb414, 3, none⟩ = some (.slice A0_3 l0_3.length c0_3) := (blk_cell BK414.out 3).trans rfl
      have hfz6_0 := blk_frozen BK414.out 0
      have hfz6_1 := blk_frozen BK414.out 1
      have hfz6_2 := blk_frozen BK414.out 2
      have hfz6_3 := blk_frozen BK414.out 3
      go_wp2
      go_meet
      case rel => exact ⟨_, (true), (by first | rfl | (simp; done) | (simp [*]; done)), H', ⟨by first | omega | exact Nat.le_refl _⟩, ⟨by (with_reducible repeat (first | refine blk_drewN ?_ _ | refine blk_drew ?_ | refine blk_alloc ?_ _)); exact BK414.out⟩, ⟨by repeat (first | (with_reducible first | exact HB.out | apply below_alloc | apply pw_below_drewN | apply below_drew1 | refine below_set ?_ GE414.out) | exact HB.out)⟩⟩
    · rw [if_neg c5] at H
      have c5b0 : decide (60 < a0_0) = false := decide_eq_false c5
      clear c5
      (first | rw [c5b0] | (simp only [i64_w, i32_w]; rw [c5b0]) | skip)
      have H' := Aside0.mk H
      clear H
      have hcz7_0 : w3.cell? ⟨gb414, 0, none⟩ = some (.int .i64 a0_0) := (blk_cell BK414.out 0).trans rfl
      have hcz7_1 : w3.cell? ⟨gb414, 1, none⟩ = some (.slice A0_1 l0_1.length c0_1) := (blk_cell BK414.out 1).trans rfl
      have hcz7_2 : w3.cell? ⟨gb414, 2, none⟩ = some (.slice A0_2 l0_2.length c0_2) := (blk_cell BK414.out 2).trans rfl
      have hcz7_3 : w3.cell? ⟨gb414, 3, none⟩ = some (.slice A0_3 l0_3.length c0_3) := (blk_cell BK414.out 3).trans rfl
      have hfz7_0 := blk_frozen BK414.out 0
      have hfz7_1 := blk_frozen BK414.out 1
      have hfz7_2 := blk_frozen BK414.out 2
      have hfz7_3 := blk_frozen BK414.out 3
      go_wp2
      go_meet
      case rel => exact ⟨_, (decide ((l0_1.length : Int) > 240)), (by first | rfl | (simp; done) | (simp [*]; done)), H', ⟨by first | omega | exact Nat.le_refl _⟩, ⟨by (with_reducible repeat (first | refine blk_drewN ?_ _ | refine blk_drew ?_ | refine blk_alloc ?_ _)); exact BK414.out⟩, ⟨by repeat (first | (with_reducible first | exact HB.out | apply below_alloc | apply pw_below_drewN | apply below_drew1 | refine below_set ?_ GE414.out) | exact HB.out)⟩⟩
  case rest =>
    clear HC2
    try clear c2
    try clear p2
    try clear c5
    try clear c5b0
    try clear hcz4_0
    try clear hcz4_1
    try clear hcz4_2
    try clear hcz4_3
    try clear hcz6_0
    try clear hcz6_1
    try clear hcz6_2
    try clear hcz6_3
    try clear hcz7_0
    try clear hcz7_1
    try clear hcz7_2
    try clear hcz7_3
    try clear hfz4_0
    try clear hfz4_1
    try clear hfz4_2
    try clear hfz4_3
    try clear hfz6_0
    try clear hfz6_1
    try clear hfz6_2
    try clear hfz6_3
    try clear hfz7_0
    try clear hfz7_1
    try clear hfz7_2
    try clear hfz7_3
    obtain ⟨kq, x11_1, rfl, HA, HJ1, BK414, HB⟩ := hcut
    cases kq with
    | zero => exact absurd HA.out (by simp [rot_shape.j0])
    | succ kj1 =>
      have H := HA.out
      clear HA
      simp only [rot_shape.j0] at H
      by_cases c8 : x11_1 = true
      · subst c8
        have H1 : (some 2) = some r := by rw [if_pos rfl] at H; exact H
        clear H
        have H := H1
        clear H1
        obtain rfl := Option.some.inj H
        go_wp2
        go_ret
        exact ⟨by first | rfl | (simp [errW_none, errW_some] <;> rfl) | (simp [*, errW_none, errW_some] <;> rfl), by repeat (first | (with_reducible first | exact HB.out | apply below_alloc | apply pw_below_drewN | apply below_drew1 | refine below_set ?_ GE414.out) | exact HB.out)⟩
      · replace c8 := Bool.eq_false_iff.mpr c8
        subst c8
        have H1 : (if (l0_2.length : Int) = (l0_1.length : Int) then (if (l0_3.length : Int) = (l0_1.length : Int) then (if (Int.tmod (l0_1.length : Int) 2) = 0 then (rot_shape.l0 kj1 (l0_1.length : Int) l0_2 (l0_2.length : Int) 0 a0_0 l0_1 l0_2 l0_3) else (some 5)) else (some 5)) else (some 5)) = some r := by rw [if_neg (show ¬ (false = true) by decide)] at H; exact H
        clear H
        have H := H1
        clear H1
        by_cases c9 : (l0_2.length : Int) = (l0_1.length : Int)
        · rw [if_pos c9] at H
          have c9b0 : ((l0_2.length : Int) == (l0_1.length : Int)) = true := beq_iff_eq.mpr c9
          have c9b1 : ((l0_2.length : Int) != (l0_1.length : Int)) = false := bne_eq_false_iff_eq.mpr c9
          have c9b2 : (l0_2.length == l0_1.length) = true := by first | simpa using c9 | (simp at c9 ⊢; omega)
          clear c9
          by_cases c10 : (l0_3.length : Int) = (l0_1.length : Int)
          · rw [if_pos c10] at H
            have c10b0 : ((l0_3.length : Int) == (l0_1.length : Int)) = true := beq_iff_eq.mpr c10
            have c10b1 : ((l0_3.length : Int) != (l0_1.length : Int)) = false := bne_eq_false_iff_eq.mpr c10
            have c10b2 : (l0_3.length == l0_1.length) = true := by first | simpa using c10 | (simp at c10 ⊢; omega)
            clear c10
            by_cases c11 : (Int.tmod (l0_1.length : Int) 2) = 0
            · rw [if_pos c11] at H
              have c11b0 : ((Int.tmod (l0_1.length : Int) 2) == 0) = true := beq_iff_eq.mpr c11
              have c11b1 : ((Int.tmod (l0_1.length : Int) 2) != 0) = false := bne_eq_false_iff_eq.mpr c11
              have c11b3 : ((l0_1.length : Int) % 2 != 0) = false := by have h_ := c11b1; rwa [Int.tmod_eq_emod_of_nonneg (by omega)] at h_
              clear c11
              have H' := Aside0.mk H
              clear H
              have hcz12_0 : wc.cell? ⟨gb414, 0, none⟩ = some (.int .i64 a0_0) := (blk_cell BK414.out 0).trans rfl
              have hcz12_1 : wc.cell? ⟨gb414, 1, none⟩ = some (.slice A0_1 l0_1.length c0_1) := (blk_cell BK414.out 1).trans rfl
              have hcz12_2 : wc.cell? ⟨gb414, 2, none⟩ = some (.slice A0_2 l0_2.length c0_2) := (blk_cell BK414.out 2).trans rfl
              have hcz12_3 : wc.cell? ⟨gb414, 3, none⟩ = some (.slice A0_3 l0_3.length c0_3) := (blk_cell BK414.out 3).trans rfl
              have hfz12_0 := blk_frozen BK414.out 0
              have hfz12_1 := blk_frozen BK414.out 1
              have hfz12_2 := blk_frozen BK414.out 2
              have hfz12_3 := blk_frozen BK414.out 3
              go_wp2
              go_loopg [40] kj1 (fun kq v40 w' => ∃ (x40_2 : Int), v40 = .int .i64 x40_2 ∧ Aside0 (rot_shape.l0 kq (l0_1.length : Int) l0_2 (l0_2.length : Int) x40_2 a0_0 l0_1 l0_2 l0_3 = some r) ∧ Aside0 (kq ≤ kj1) ∧ Aside0 (w'.heap[gb414]? = some (.cells #[.int .i64 a0_0, (.slice A0_1 l0_1.length c0_1), (.slice A0_2 l0_2.length c0_2), (.slice A0_3 l0_3.length c0_3)] 25 (0, 0))) ∧ Aside0 (Below w.heap.size w w'))
              case atStart => exact ⟨(0), (by first | rfl | (simp; done) | (simp [*]; done)), H', ⟨Nat.le_refl _⟩, ⟨by (with_reducible repeat (first | refine blk_drewN ?_ _ | refine blk_drew ?_ | refine blk_alloc ?_ _)); exact BK414.out⟩, ⟨by repeat (first | (with_reducible first | exact HB.out | apply below_alloc | apply pw_below_drewN | apply below_drew1 | refine below_set ?_ GE414.out) | exact HB.out)⟩⟩
              case round =>
                clear H'
                try clear c1
                try clear c2
                try clear p2
                try clear c5
                try clear c5b0
                try clear c8
                try clear c9
                try clear c9b0
                try clear c9b1
                try clear c9b2
                try clear c10
                try clear c10b0
                try clear c10b1
                try clear c10b2
                try clear c11
                try clear c11b0
                try clear c11b1
                try clear hcz12_0
                try clear hcz12_1
                try clear hcz12_2
                try clear hcz12_3
                try clear hcz4_0
                try clear hcz4_1
                try clear hcz4_2
                try clear hcz4_3
                try clear hcz6_0
                try clear hcz6_1
                try clear hcz6_2
                try clear hcz6_3
                try clear hcz7_0
                try clear hcz7_1
                try clear hcz7_2
                try clear hcz7_3
                try clear hfz12_0
                try clear hfz12_1
                try clear hfz12_2
                try clear hfz12_3
                try clear hfz4_0
                try clear hfz4_1
                try clear hfz4_2
                try clear hfz4_3
                try clear hfz6_0
                try clear hfz6_1
                try clear hfz6_2
                try clear hfz6_3
                try clear hfz7_0
                try clear hfz7_1
                try clear hfz7_2
                try clear hfz7_3
                try clear p2
                obtain ⟨x40_2, rfl, HA, HK2, BK414, HB⟩ := hrel
                cases gk with
                | zero => exact absurd HA.out (by simp [rot_shape.l0])
                | succ k2 =>
                  have H := HA.out
                  clear HA
                  simp only [rot_shape.l0] at H
                  by_cases c13 : x40_2 < (l0_2.length : Int)
                  · rw [if_pos c13] at H
                    have c13b0 : decide (x40_2 < (l0_2.length : Int)) = true := decide_eq_true c13
                    clear c13
                    by_cases c14 : 0 ≤ x40_2
                    · rw [if_pos c14] at H
                      have c14b0 : decide (0 ≤ x40_2) = true := decide_eq_true c14
                      clear c14
                      by_cases c15 : x40_2 < (l0_2.length : Int)
                      · rw [if_pos c15] at H
                        have c15b0 : decide (x40_2 < (l0_2.length : Int)) = true := decide_eq_true c15
                        clear c15
                        by_cases c16 : (rd l0_2 x40_2) < 0
                        · rw [if_pos c16] at H
                          have c16b0 : decide ((rd l0_2 x40_2) < 0) = true := decide_eq_true c16
                          clear c16
                          obtain rfl := Option.some.inj H
                          have p415 : 0 ≤ (x40_2 : Int) := of_decide_eq_true (by first | (with_reducible assumption) | assumption)
                          have q415 : x40_2 < (l0_2.length : Int) := of_decide_eq_true (by first | (with_reducible assumption) | assumption)
                          obtain ⟨ad415, e415, hx415_0⟩ := Kd.at_int HR0_2.out x40_2 p415 q415
                          cases e415
                          replace hx415_0 := (HB.out.cell (World.block_lt_of_cell? w _ hx415_0)).trans hx415_0
                          replace p415 := eq_true p415
                          replace q415 := eq_true q415
                          go_wp2
                          go_ret
                          exact ⟨by first | rfl | (simp [errW_none, errW_some] <;> rfl) | (simp [*, errW_none, errW_some] <;> rfl), by repeat (first | (with_reducible first | exact HB.out | apply below_alloc | apply pw_below_drewN | apply below_drew1 | refine below_set ?_ GE414.out) | exact HB.out)⟩
                        · rw [if_neg c16] at H
                          have c16b0 : decide ((rd l0_2 x40_2) < 0) = false := decide_eq_false c16
                          clear c16
                          by_cases c17 : (rd l0_2 x40_2) ≥ (l0_1.length : Int)
                          · rw [if_pos c17] at H
                            have c17b0 : decide ((l0_1.length : Int) ≤ (rd l0_2 x40_2)) = true := decide_eq_true c17
                            clear c17
                            obtain rfl := Option.some.inj H
                            have p415 : 0 ≤ (x40_2 : Int) := of_decide_eq_true (by first | (with_reducible assumption) | assumption)
                            have q415 : x40_2 < (l0_2.length : Int) := of_decide_eq_true (by first | (with_reducible assumption) | assumption)
                            obtain ⟨ad415, e415, hx415_0⟩ := Kd.at_int HR0_2.out x40_2 p415 q415
                            cases e415
                            replace hx415_0 := (HB.out.cell (World.block_lt_of_cell? w _ hx415_0)).trans hx415_0
                            replace p415 := eq_true p415
                            replace q415 := eq_true q415
                            go_wp2
                            go_ret
                            exact ⟨by first | rfl | (simp [errW_none, errW_some] <;> rfl) | (simp [*, errW_none, errW_some] <;> rfl), by repeat (first | (with_reducible first | exact HB.out | apply below_alloc | apply pw_below_drewN | apply below_drew1 | refine below_set ?_ GE414.out) | exact HB.out)⟩
                          · rw [if_neg c17] at H
                            have c17b0 : decide ((l0_1.length : Int) ≤ (rd l0_2 x40_2)) = false := decide_eq_false c17
                            clear c17
                            have H' := Aside0.mk H
                            clear H
                            have p415 : 0 ≤ (x40_2 : Int) := of_decide_eq_true (by first | (with_reducible assumption) | assumption)
                            have q415 : x40_2 < (l0_2.length : Int) := of_decide_eq_true (by first | (with_reducible assumption) | assumption)
                            obtain ⟨ad415, e415, hx415_0⟩ := Kd.at_int HR0_2.out x40_2 p415 q415
                            cases e415
                            replace hx415_0 := (HB.out.cell (World.block_lt_of_cell? w _ hx415_0)).trans hx415_0
                            replace p415 := eq_true p415
                            replace q415 := eq_true q415
                            go_wp2
                            go_roundg k2
                            case measure => have := HJ1.out; have := HK2.out; omega
                            case rel => exact ⟨(wrap64 (x40_2 + 1)), (by first | rfl | (simp; done) | (simp [*]; done)), H', ⟨by have := HJ1.out; have := HK2.out; omega⟩, ⟨by (with_reducible repeat (first | refine blk_drewN ?_ _ | refine blk_drew ?_ | refine blk_alloc ?_ _)); exact BK414.out⟩, ⟨by repeat (first | (with_reducible first | exact HB.out | apply below_alloc | apply pw_below_drewN | apply below_drew1 | refine below_set ?_ GE414.out) | exact HB.out)⟩⟩
                      · rw [if_neg c15] at H
                        exact absurd H (by simp)
                    · rw [if_neg c14] at H
                      exact absurd H (by simp)
                  · rw [if_neg c13] at H
                    have c13b0 : decide (x40_2 < (l0_2.length : Int)) = false := decide_eq_false c13
                    clear c13
                    by_cases c18 : a0_0 < 1
                    · rw [if_pos c18] at H
                      have c18b0 : decide (a0_0 < 1) = true := decide_eq_true c18
                      clear c18
                      obtain rfl := Option.some.inj H
                      have hcz19_0 : wr.cell? ⟨gb414, 0, none⟩ = some (.int .i64 a0_0) := (blk_cell BK414.out 0).trans rfl
                      have hcz19_1 : wr.cell? ⟨gb414, 1, none⟩ = some (.slice A0_1 l0_1.length c0_1) := (blk_cell BK414.out 1).trans rfl
                      have hcz19_2 : wr.cell? ⟨gb414, 2, none⟩ = some (.slice A0_2 l0_2.length c0_2) := (blk_cell BK414.out 2).trans rfl
                      have hcz19_3 : wr.cell? ⟨gb414, 3, none⟩ = some (.slice A0_3 l0_3.length c0_3) := (blk_cell BK414.out 3).trans rfl
                      have hfz19_0 := blk_frozen BK414.out 0
                      have hfz19_1 := blk_frozen BK414.out 1
                      have hfz19_2 := blk_frozen BK414.out 2
                      have hfz19_3 := blk_frozen BK414.out 3
                      go_wp2
                      go_ret
                      exact ⟨by first | rfl | (simp [errW_none, errW_some] <;> rfl) | (simp [*, errW_none, errW_some] <;> rfl), by repeat (first | (with_reducible first | exact HB.out | apply below_alloc | apply pw_below_drewN | apply below_drew1 | refine below_set ?_ GE414.out) | exact HB.out)⟩
                    · rw [if_neg c18] at H
                      have c18b0 : decide (a0_0 < 1) = false := decide_eq_false c18
                      clear c18
                      have H' := Aside0.mk H
                      clear H
                      have hcz20_0 : wr.cell? ⟨gb414, 0, none⟩ = some (.int .i64 a0_0) := (blk_cell BK414.out 0).trans rfl
                      have hcz20_1 : wr.cell? ⟨gb414, 1, none⟩ = some (.slice A0_1 l0_1.length c0_1) := (blk_cell BK414.out 1).trans rfl
                      have hcz20_2 : wr.cell? ⟨gb414, 2, none⟩ = some (.slice A0_2 l0_2.length c0_2) := (blk_cell BK414.out 2).trans rfl
                      have hcz20_3 : wr.cell? ⟨gb414, 3, none⟩ = some (.slice A0_3 l0_3.length c0_3) := (blk_cell BK414.out 3).trans rfl
                      have hfz20_0 := blk_frozen BK414.out 0
                      have hfz20_1 := blk_frozen BK414.out 1
                      have hfz20_2 := blk_frozen BK414.out 2
                      have hfz20_3 := blk_frozen BK414.out 3
                      go_wp2
                      go_loopg [58] k2 (fun kq v58 w' => ∃ (x58_3 : Int), v58 = .int .i64 x58_3 ∧ Aside0 (rot_shape.l1 kq l0_1 (l0_1.length : Int) x58_3 a0_0 l0_1 l0_2 l0_3 = some r) ∧ Aside0 (kq ≤ k2) ∧ Aside0 (w'.heap[gb414]? = some (.cells #[.int .i64 a0_0, (.slice A0_1 l0_1.length c0_1), (.slice A0_2 l0_2.length c0_2), (.slice A0_3 l0_3.length c0_3)] 25 (0, 0))) ∧ Aside0 (Below w.heap.size w w'))
                      case atStart => exact ⟨(0), (by first | rfl | (simp; done) | (simp [*]; done)), H', ⟨Nat.le_refl _⟩, ⟨by (with_reducible repeat (first | refine blk_drewN ?_ _ | refine blk_drew ?_ | refine blk_alloc ?_ _)); exact BK414.out⟩, ⟨by repeat (first | (with_reducible first | exact HB.out | apply below_alloc | apply pw_below_drewN | apply below_drew1 | refine below_set ?_ GE414.out) | exact HB.out)⟩⟩
                      case round =>
                        clear H'
                        try clear c1
                        try clear c2
                        try clear p2
                        try clear p4
                        try clear q4
                        try clear hx4
                        try clear c5
                        try clear c5b0
                        try clear p6
                        try clear c8
                        try clear c9
                        try clear c9b0
                        try clear c9b1
                        try clear c9b2
                        try clear c10
                        try clear c10b0
                        try clear c10b1
                        try clear c10b2
                        try clear c11
                        try clear c11b0
                        try clear c11b1
                        try clear c13
                        try clear c13b0
                        try clear c14
                        try clear c14b0
                        try clear c15
                        try clear c15b0
                        try clear c16
                        try clear c16b0
                        try clear c17
                        try clear c17b0
                        try clear c18
                        try clear c18b0
                        try clear hcz12_0
                        try clear hcz12_1
                        try clear hcz12_2
                        try clear hcz12_3
                        try clear hcz19_0
                        try clear hcz19_1
                        try clear hcz19_2
                        try clear hcz19_3
                        try clear hcz20_0
                        try clear hcz20_1
                        try clear hcz20_2
                        try clear hcz20_3
                        try clear hcz4_0
                        try clear hcz4_1
                        try clear hcz4_2
                        try clear hcz4_3
                        try clear hcz6_0
                        try clear hcz6_1
                        try clear hcz6_2
                        try clear hcz6_3
                        try clear hcz7_0
                        try clear hcz7_1
                        try clear hcz7_2
                        try clear hcz7_3
                        try clear hfz12_0
                        try clear hfz12_1
                        try clear hfz12_2
                        try clear hfz12_3
                        try clear hfz19_0
                        try clear hfz19_1
                        try clear hfz19_2
                        try clear hfz19_3
                        try clear hfz20_0
                        try clear hfz20_1
                        try clear hfz20_2
                        try clear hfz20_3
                        try clear hfz4_0
                        try clear hfz4_1
                        try clear hfz4_2
                        try clear hfz4_3
                        try clear hfz6_0
                        try clear hfz6_1
                        try clear hfz6_2
                        try clear hfz6_3
                        try clear hfz7_0
                        try clear hfz7_1
                        try clear hfz7_2
                        try clear hfz7_3
                        try clear hx415_0
                        try clear p2
                        try clear p415
                        try clear q415
                        obtain ⟨x58_3, rfl, HA, HK3, BK414, HB⟩ := hrel
                        cases gk with
                        | zero => exact absurd HA.out (by simp [rot_shape.l1])
                        | succ k3 =>
                          have H := HA.out
                          clear HA
                          simp only [rot_shape.l1] at H
                          by_cases c21 : x58_3 < (l0_1.length : Int)
                          · rw [if_pos c21] at H
                            have c21b0 : decide (x58_3 < (l0_1.length : Int)) = true := decide_eq_true c21
                            clear c21
                            by_cases c22 : 0 ≤ x58_3
                            · rw [if_pos c22] at H
                              have c22b0 : decide (0 ≤ x58_3) = true := decide_eq_true c22
                              clear c22
                              by_cases c23 : x58_3 < (l0_1.length : Int)
                              · rw [if_pos c23] at H
                                have c23b0 : decide (x58_3 < (l0_1.length : Int)) = true := decide_eq_true c23
                                clear c23
                                by_cases c24 : (rd l0_1 x58_3) < 0
                                · rw [if_pos c24] at H
                                  have c24b0 : decide ((rd l0_1 x58_3) < 0) = true := decide_eq_true c24
                                  clear c24
                                  obtain rfl := Option.some.inj H
                                  have p416 : 0 ≤ (x58_3 : Int) := of_decide_eq_true (by first | (with_reducible assumption) | assumption)
                                  have q416 : x58_3 < (l0_1.length : Int) := of_decide_eq_true (by first | (with_reducible assumption) | assumption)
                                  obtain ⟨ad416, e416, hx416_0⟩ := Kd.at_int HR0_1.out x58_3 p416 q416
                                  cases e416
                                  replace hx416_0 := (HB.out.cell (World.block_lt_of_cell? w _ hx416_0)).trans hx416_0
                                  replace p416 := eq_true p416
                                  replace q416 := eq_true q416
                                  go_wp2
                                  go_ret
                                  exact ⟨by first | rfl | (simp [errW_none, errW_some] <;> rfl) | (simp [*, errW_none, errW_some] <;> rfl), by repeat (first | (with_reducible first | exact HB.out | apply below_alloc | apply pw_below_drewN | apply below_drew1 | refine below_set ?_ GE414.out) | exact HB.out)⟩
                                · rw [if_neg c24] at H
                                  have c24b0 : decide ((rd l0_1 x58_3) < 0) = false := decide_eq_false c24
                                  clear c24
                                  by_cases c25 : (rd l0_1 x58_3) ≥ a0_0
                                  · rw [if_pos c25] at H
                                    have c25b0 : decide (a0_0 ≤ (rd l0_1 x58_3)) = true := decide_eq_true c25
                                    clear c25
                                    obtain rfl := Option.some.inj H
                                    have p416 : 0 ≤ (x58_3 : Int) := of_decide_eq_true (by first | (with_reducible assumption) | assumption)
                                    have q416 : x58_3 < (l0_1.length : Int) := of_decide_eq_true (by first | (with_reducible assumption) | assumption)
                                    obtain ⟨ad416, e416, hx416_0⟩ := Kd.at_int HR0_1.out x58_3 p416 q416
                                    cases e416
                                    replace hx416_0 := (HB.out.cell (World.block_lt_of_cell? w _ hx416_0)).trans hx416_0
                                    replace p416 := eq_true p416
                                    replace q416 := eq_true q416
                                    have hcz26_0 : wr.cell? ⟨gb414, 0, none⟩ = some (.int .i64 a0_0) := (blk_cell BK414.out 0).trans rfl
                                    have hcz26_1 : wr.cell? ⟨gb414, 1, none⟩ = some (.slice (some ad416) l0_1.length c0_1) := (blk_cell BK414.out 1).trans rfl
                                    have hcz26_2 : wr.cell? ⟨gb414, 2, none⟩ = some (.slice A0_2 l0_2.length c0_2) := (blk_cell BK414.out 2).trans rfl
                                    have hcz26_3 : wr.cell? ⟨gb414, 3, none⟩ = some (.slice A0_3 l0_3.length c0_3) := (blk_cell BK414.out 3).trans rfl
                                    have hfz26_0 := blk_frozen BK414.out 0
                                    have hfz26_1 := blk_frozen BK414.out 1
                                    have hfz26_2 := blk_frozen BK414.out 2
                                    have hfz26_3 := blk_frozen BK414.out 3
                                    go_wp2
                                    go_ret
                                    exact ⟨by first | rfl | (simp [errW_none, errW_some] <;> rfl) | (simp [*, errW_none, errW_some] <;> rfl), by repeat (first | (with_reducible first | exact HB.out | apply below_alloc | apply pw_below_drewN | apply below_drew1 | refine below_set ?_ GE414.out) | exact HB.out)⟩
                                  · rw [if_neg c25] at H
                                    have c25b0 : decide (a0_0 ≤ (rd l0_1 x58_3)) = false := decide_eq_false c25
                                    clear c25
                                    have H' := Aside0.mk H
                                    clear H
                                    have p416 : 0 ≤ (x58_3 : Int) := of_decide_eq_true (by first | (with_reducible assumption) | assumption)
                                    have q416 : x58_3 < (l0_1.length : Int) := of_decide_eq_true (by first | (with_reducible assumption) | assumption)
                                    obtain ⟨ad416, e416, hx416_0⟩ := Kd.at_int HR0_1.out x58_3 p416 q416
                                    cases e416
                                    replace hx416_0 := (HB.out.cell (World.block_lt_of_cell? w _ hx416_0)).trans hx416_0
                                    replace p416 := eq_true p416
                                    replace q416 := eq_true q416
                                    have hcz27_0 : wr.cell? ⟨gb414, 0, none⟩ = some (.int .i64 a0_0) := (blk_cell BK414.out 0).trans rfl
                                    have hcz27_1 : wr.cell? ⟨gb414, 1, none⟩ = some (.slice (some ad416) l0_1.length c0_1) := (blk_cell BK414.out 1).trans rfl
                                    have hcz27_2 : wr.cell? ⟨gb414, 2, none⟩ = some (.slice A0_2 l0_2.length c0_2) := (blk_cell BK414.out 2).trans rfl
                                    have hcz27_3 : wr.cell? ⟨gb414, 3, none⟩ = some (.slice A0_3 l0_3.length c0_3) := (blk_cell BK414.out 3).trans rfl
                                    have hfz27_0 := blk_frozen BK414.out 0
                                    have hfz27_1 := blk_frozen BK414.out 1
                                    have hfz27_2 := blk_frozen BK414.out 2
                                    have hfz27_3 := blk_frozen BK414.out 3
                                    go_wp2
                                    go_roundg k3
                                    case measure => have := HJ1.out; have := HK2.out; have := HK3.out; omega
                                    case rel => exact ⟨(wrap64 (x58_3 + 1)), (by first | rfl | (simp; done) | (simp [*]; done)), H', ⟨by have := HJ1.out; have := HK2.out; have := HK3.out; omega⟩, ⟨by (with_reducible repeat (first | refine blk_drewN ?_ _ | refine blk_drew ?_ | refine blk_alloc ?_ _)); exact BK414.out⟩, ⟨by repeat (first | (with_reducible first | exact HB.out | apply below_alloc | apply pw_below_drewN | apply below_drew1 | refine below_set ?_ GE414.out) | exact HB.out)⟩⟩
                              · rw [if_neg c23] at H
                                exact absurd H (by simp)
                            · rw [if_neg c22] at H
                              exact absurd H (by simp)
                          · rw [if_neg c21] at H
                            have c21b0 : decide (x58_3 < (l0_1.length : Int)) = false := decide_eq_false c21
                            clear c21
                            obtain rfl := Option.some.inj H
                            go_wp2
                            go_ret
                            exact ⟨by first | rfl | (simp [errW_none, errW_some] <;> rfl) | (simp [*, errW_none, errW_some] <;> rfl), by repeat (first | (with_reducible first | exact HB.out | apply below_alloc | apply pw_below_drewN | apply below_drew1 | refine below_set ?_ GE414.out) | exact HB.out)⟩
            · rw [if_neg c11] at H
              have c11b0 : ((Int.tmod (l0_1.length : Int) 2) == 0) = false := beq_eq_false_iff_ne.mpr c11
              have c11b1 : ((Int.tmod (l0_1.length : Int) 2) != 0) = true := bne_iff_ne.mpr c11
              have c11b3 : ((l0_1.length : Int) % 2 != 0) = true := by have h_ := c11b1; rwa [Int.tmod_eq_emod_of_nonneg (by omega)] at h_
              obtain rfl := Option.some.inj H
              have hcz28_0 : wc.cell? ⟨gb414, 0, none⟩ = some (.int .i64 a0_0) := (blk_cell BK414.out 0).trans rfl
              have hcz28_1 : wc.cell? ⟨gb414, 1, none⟩ = some (.slice A0_1 l0_1.length c0_1) := (blk_cell BK414.out 1).trans rfl
              have hcz28_2 : wc.cell? ⟨gb414, 2, none⟩ = some (.slice A0_2 l0_2.length c0_2) := (blk_cell BK414.out 2).trans rfl
              have hcz28_3 : wc.cell? ⟨gb414, 3, none⟩ = some (.slice A0_3 l0_3.length c0_3) := (blk_cell BK414.out 3).trans rfl
              have hfz28_0 := blk_frozen BK414.out 0
              have hfz28_1 := blk_frozen BK414.out 1
              have hfz28_2 := blk_frozen BK414.out 2
              have hfz28_3 := blk_frozen BK414.out 3
              go_wp2
              go_ret
              exact ⟨by first | rfl | (simp [errW_none, errW_some] <;> rfl) | (simp [*, errW_none, errW_some] <;> rfl), by repeat (first | (with_reducible first | exact HB.out | apply below_alloc | apply pw_below_drewN | apply below_drew1 | refine below_set ?_ GE414.out) | exact HB.out)⟩
          · rw [if_neg c10] at H
            have c10b0 : ((l0_3.length : Int) == (l0_1.length : Int)) = false := beq_eq_false_iff_ne.mpr c10
            have c10b1 : ((l0_3.length : Int) != (l0_1.length : Int)) = true := bne_iff_ne.mpr c10
            have c10b2 : (l0_3.length == l0_1.length) = false := by first | simpa using c10 | (simp at c10 ⊢; omega)
            obtain rfl := Option.some.inj H
            have hcz29_0 : wc.cell? ⟨gb414, 0, none⟩ = some (.int .i64 a0_0) := (blk_cell BK414.out 0).trans rfl
            have hcz29_1 : wc.cell? ⟨gb414, 1, none⟩ = some (.slice A0_1 l0_1.length c0_1) := (blk_cell BK414.out 1).trans rfl
            have hcz29_2 : wc.cell? ⟨gb414, 2, none⟩ = some (.slice A0_2 l0_2.length c0_2) := (blk_cell BK414.out 2).trans rfl
            have hcz29_3 : wc.cell? ⟨gb414, 3, none⟩ = some (.slice A0_3 l0_3.length c0_3) := (blk_cell BK414.out 3).trans rfl
            have hfz29_0 := blk_frozen BK414.out 0
            have hfz29_1 := blk_frozen BK414.out 1
            have hfz29_2 := blk_frozen BK414.out 2
            have hfz29_3 := blk_frozen BK414.out 3
            go_wp2
            go_ret
            exact ⟨by first | rfl | (simp [errW_none, errW_some] <;> rfl) | (simp [*, errW_none, errW_some] <;> rfl), by repeat (first | (with_reducible first | exact HB.out | apply below_alloc | apply pw_below_drewN | apply below_drew1 | refine below_set ?_ GE414.out) | exact HB.out)⟩
        · rw [if_neg c9] at H
          have c9b0 : ((l0_2.length : Int) == (l0_1.length : Int)) = false := beq_eq_false_iff_ne.mpr c9
          have c9b1 : ((l0_2.length : Int) != (l0_1.length : Int)) = true := bne_iff_ne.mpr c9
          have c9b2 : (l0_2.length == l0_1.length) = false := by first | simpa using c9 | (simp at c9 ⊢; omega)
          obtain rfl := Option.some.inj H
          have hcz30_0 : wc.cell? ⟨gb414, 0, none⟩ = some (.int .i64 a0_0) := (blk_cell BK414.out 0).trans rfl
          have hcz30_1 : wc.cell? ⟨gb414, 1, none⟩ = some (.slice A0_1 l0_1.length c0_1) := (blk_cell BK414.out 1).trans rfl
          have hcz30_2 : wc.cell? ⟨gb414, 2, none⟩ = some (.slice A0_2 l0_2.length c0_2) := (blk_cell BK414.out 2).trans rfl
          have hcz30_3 : wc.cell? ⟨gb414, 3, none⟩ = some (.slice A0_3 l0_3.length c0_3) := (blk_cell BK414.out 3).trans rfl
          have hfz30_0 := blk_frozen BK414.out 0
          have hfz30_1 := blk_frozen BK414.out 1
          have hfz30_2 := blk_frozen BK414.out 2
          have hfz30_3 := blk_frozen BK414.out 3
          go_wp2
          go_ret
          exact ⟨by first | rfl | (simp [errW_none, errW_some] <;> rfl) | (simp [*, errW_none, errW_some] <;> rfl), by repeat (first | (with_reducible first | exact HB.out | apply below_alloc | apply pw_below_drewN | apply below_drew1 | refine below_set ?_ GE414.out) | exact HB.out)⟩

end Go.Proofs.Ytoipfbffdcahoaa.P
