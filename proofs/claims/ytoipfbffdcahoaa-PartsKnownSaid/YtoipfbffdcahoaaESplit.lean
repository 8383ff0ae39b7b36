/- parts.Split: flows, taken apart: walked from a print of a like form. -/
import Derived.Test.YtoipfbffdcahoaaEWalk
import Derived.Test.YtoipfbffdcahoaaPx12
import Derived.Test.YtoipfbffdcahoaaPx1
namespace Go.Proofs.Ytoipfbffdcahoaa.P
open Go.RowKit Go.Proofs.YtoipfbffdcahoaaW.PrintWords Go.Proofs.YtoipfbffdcahoaaW.PrintLast Go.Proofs.YtoipfbffdcahoaaW.PrintMore
attribute [local go_sem] max2_int min2_int max_two min_two max_three min_three max_four min_four
set_option linter.unusedVariables false
set_option linter.unusedSimpArgs false

def splitL (k : Nat) (a0 : Int) (l1 l2 l3 : List Int) (s t : Int) : Nat → List Int → List S28 → Option (List S28)
  | 0, _, out => some out
  | m + 1, left, out => (parts_walk_part.f k a0 l1 l2 l3 s t left).bind fun r => if r.2.2.2 = true then (parts_lay.f k left r.1 r.2.1 r.2.2.1 (-1)).bind fun left' => splitL k a0 l1 l2 l3 s t m left' (out ++ [⟨r.1, r.2.1, r.2.2.1⟩]) else some out
theorem splitL.mono (a0 : Int) (l1 l2 l3 : List Int) (s t : Int) (k : Nat) : ∀ m left out, LeO (splitL k a0 l1 l2 l3 s t m left out) (splitL (k + 1) a0 l1 l2 l3 s t m left out)
  | 0, _, _ => LeO.refl _
  | m + 1, left, out => by
    unfold splitL
    refine LeO.bind (parts_walk_part.mono _ _ _ _ _ _ _ _) (fun _ => ?_)
    refine LeO.ite ?_ (LeO.refl _)
    exact LeO.bind (parts_lay.mono _ _ _ _ _ _) (fun _ => splitL.mono a0 l1 l2 l3 s t k m _ _)
def split_go (k : Nat) (a0 : Int) (l1 l2 l3 : List Int) (s t : Int) (l6 : List Int) : Option (List S28) := if l1.length ≤ 1048576 then splitL k a0 l1 l2 l3 s t (l1.length + 1) l6 [] else none
theorem split_go.mono : ∀ a0 l1 l2 l3 s t l6 k, LeO (split_go k a0 l1 l2 l3 s t l6) (split_go (k + 1) a0 l1 l2 l3 s t l6) := by
  intro a0 l1 l2 l3 s t l6 k
  unfold split_go
  exact LeO.ite (splitL.mono _ _ _ _ _ _ _ _ _ _) (LeO.none _)

/-! ### parts_Split: function 9 -/
def parts_Split.f (k : Nat) (a0_0 : Int) (l0_1 : List Int) (l0_2 : List Int) (l0_3 : List Int) (a1 : Int) (a2 : Int) (l3 : List Int) : Option ((List (S28))) := (rot_Check.f k a0_0 l0_1 l0_2 l0_3).bind fun t214 => (if t214 = 0 then (if (l3.length : Int) = (l0_1.length : Int) then ((slices_Clone_int_int.f l3).bind fun t215 => (split_go k a0_0 l0_1 l0_2 l0_3 a1 a2 t215)) else (some ([] : List (S28)))) else (some ([] : List (S28))))
theorem parts_Split.mono : ∀ a0 a1 a2 a3 a4 a5 a6 k, LeO (parts_Split.f k a0 a1 a2 a3 a4 a5 a6) (parts_Split.f (k + 1) a0 a1 a2 a3 a4 a5 a6) := by
  intro a0 a1 a2 a3 a4 a5 a6 k
  unfold parts_Split.f
  repeat' first
      | (with_reducible exact rot_Check.mono _ _ _ _ _)
      | (with_reducible exact split_go.mono _ _ _ _ _ _ _ _)
      | (with_reducible exact LeO.refl _)
      | (with_reducible exact LeO.none _)
      | (with_reducible refine LeO.ite ?_ ?_)
      | (with_reducible refine LeO.bind ?_ (fun _ => ?_))
      | exact rot_Check.mono _ _ _ _ _
      | exact LeO.none _
      | refine LeO.ite ?_ ?_
      | refine LeO.bind ?_ (fun _ => ?_)
def parts_Split.T3 : Bool × List (List Nat × List Nat) := (true, [([], []), ([], []), ([], []), ([], []), ([3], [3]), ([0, 1, 2, 4], [0, 1, 2, 4]), ([5], [5]), ([6, 4, 0, 1, 2, 3, 4, 5, 6], [6])])
def parts_Split.B3 : List Nat := [0, 0, 0, 0, 8, 31, 63, 127]
theorem parts_Split.tab3 : rtab .any (opsOf Try.f9 3) = parts_Split.T3 := by kernel_rfl
theorem parts_Split.bits3 : waitsOk parts_Split.T3.2 parts_Split.B3 = true := by kernel_rfl
set_option maxHeartbeats 8000000 in
set_option maxRecDepth 100000 in
theorem parts_Split.calls (k : Nat) (a0_0 : Int) (A0_1 : Option Addr) (c0_1 : Nat) (l0_1 : List Int) (A0_2 : Option Addr) (c0_2 : Nat) (l0_2 : List Int) (A0_3 : Option Addr) (c0_3 : Nat) (l0_3 : List Int) (a1 : Int) (a2 : Int) (A3 : Option Addr) (c3 : Nat) (l3 : List Int) (r : List (S28)) (w : World) (hr0_1 : Kd.C (Kd.int .i64) w A0_1 l0_1.length l0_1) (hc0_1 : l0_1.length ≤ c0_1) (hr0_2 : Kd.C (Kd.int .i64) w A0_2 l0_2.length l0_2) (hc0_2 : l0_2.length ≤ c0_2) (hr0_3 : Kd.C (Kd.int .i64) w A0_3 l0_3.length l0_3) (hc0_3 : l0_3.length ≤ c0_3) (hr3 : Kd.C (Kd.int .i64) w A3 l3.length l3) (hc3 : l3.length ≤ c3) (h : parts_Split.f k a0_0 l0_1 l0_2 l0_3 a1 a2 l3 = some r) :
    Calls Try.prog 9 #[.agg #[.int .i64 a0_0, .slice A0_1 l0_1.length c0_1, .slice A0_2 l0_2.length c0_2, .slice A0_3 l0_3.length c0_3], .int .i64 a1, .int .i64 a2, .slice A3 l3.length c3] w fun e w' => ∃ v0_ : Value, e = .returned (v0_) ∧ Kd.S k28 28 w' w.heap.size (fun _ => True) v0_ r ∧ Below w.heap.size w w' := by
  have hu25 := Try.underlying25
  have hu50 := Try.underlying50
  have HR0_1 := Aside0.mk hr0_1
  have HC0_1 := Aside0.mk hc0_1
  clear hr0_1 hc0_1
  have HR0_2 := Aside0.mk hr0_2
  have HC0_2 := Aside0.mk hc0_2
  clear hr0_2 hc0_2
  have HR0_3 := Aside0.mk hr0_3
  have HC0_3 := Aside0.mk hc0_3
  clear hr0_3 hc0_3
  have HR3 := Aside0.mk hr3
  have HC3 := Aside0.mk hc3
  clear hr3 hc3
  have HB := Aside0.mk (Below.refl w.heap.size w)
  have H : ((rot_Check.f k a0_0 l0_1 l0_2 l0_3).bind fun t214 => (if t214 = 0 then (if (l3.length : Int) = (l0_1.length : Int) then ((slices_Clone_int_int.f l3).bind fun t215 => (split_go k a0_0 l0_1 l0_2 l0_3 a1 a2 t215)) else (some ([] : List (S28)))) else (some ([] : List (S28))))) = some r := h
  clear h
  replace H := Option.bind_eq_some_iff.mp H
  obtain ⟨t214, A50, H⟩ := H
  replace H : (if t214 = 0 then (if (l3.length : Int) = (l0_1.length : Int) then ((slices_Clone_int_int.f l3).bind fun t215 => (split_go k a0_0 l0_1 l0_2 l0_3 a1 a2 t215)) else (some ([] : List (S28)))) else (some ([] : List (S28)))) = some r := H
  have A5 := Aside0.mk A50
  clear A50
  by_cases c6 : t214 = 0
  · rw [if_pos c6] at H
    have c6b0 : (t214 == 0) = true := beq_iff_eq.mpr c6
    have c6b1 : (t214 != 0) = false := bne_eq_false_iff_eq.mpr c6
    clear c6
    by_cases c7 : (l3.length : Int) = (l0_1.length : Int)
    · rw [if_pos c7] at H
      have c7b0 : ((l3.length : Int) == (l0_1.length : Int)) = true := beq_iff_eq.mpr c7
      have c7b1 : ((l3.length : Int) != (l0_1.length : Int)) = false := bne_eq_false_iff_eq.mpr c7
      have c7b2 : (l3.length == l0_1.length) = true := by first | simpa using c7 | (simp at c7 ⊢; omega)
      clear c7
      replace H := Option.bind_eq_some_iff.mp H
      obtain ⟨t215, A80, H⟩ := H
      replace H : (split_go k a0_0 l0_1 l0_2 l0_3 a1 a2 t215) = some r := H
      have A8 := Aside0.mk A80
      clear A80
      have HSP := Aside0.mk H
      clear H
      go_enter Try.func9, Try.ntmps9
      try go_wp2_with (first | ((with_reducible refine gate_dst (N := 4) rfl ?_); (try (refine gate_guard (by rfl) ?_; dsimp only)); refine box_event ?hg (N := 4) ?hd (cs := #[.int .i64 a0_0, .slice A0_1 l0_1.length c0_1, .slice A0_2 l0_2.length c0_2, .slice A0_3 l0_3.length c0_3]) (t := 25) ?hr ?_; (case hd => rfl); (case hg => rfl); (case hr => first | (go_simp; done) | (go_simp; rfl)); intro gb213 hg w9 hbox hb; have n0_ := Aside0.mk (below_step (by repeat (first | (with_reducible first | exact HB.out | apply below_alloc | apply pw_below_drewN | apply below_drew1) | exact HB.out)) hb); have n1_ := Aside0.mk (hbox); have n2_ := Aside0.mk ((by rw [hg]; exact (below_size (by repeat (first | (with_reducible first | exact HB.out | apply below_alloc | apply pw_below_drewN | apply below_drew1) | exact HB.out))) : w.heap.size ≤ gb213)); have n3_ := Aside0.mk ((by rw [hg]; exact (below_size (by repeat (first | (with_reducible first | exact HB.out | apply below_alloc | apply pw_below_drewN | apply below_drew1) | exact HB.out))) : w.heap.size ≤ gb213)); clear HB; have HB := n0_; have BK213 := n1_; have GW213 := n2_; have GE213 := n3_; clear n0_ n1_ n2_ n3_; clear hb hbox hg; have hcz10_0 : w9.cell? ⟨gb213, 0, none⟩ = some (.int .i64 a0_0) := (blk_cell BK213.out 0).trans rfl; have hcz10_1 : w9.cell? ⟨gb213, 1, none⟩ = some (.slice A0_1 l0_1.length c0_1) := (blk_cell BK213.out 1).trans rfl; have hcz10_2 : w9.cell? ⟨gb213, 2, none⟩ = some (.slice A0_2 l0_2.length c0_2) := (blk_cell BK213.out 2).trans rfl; have hcz10_3 : w9.cell? ⟨gb213, 3, none⟩ = some (.slice A0_3 l0_3.length c0_3) := (blk_cell BK213.out 3).trans rfl; have hfz10_0 := blk_frozen BK213.out 0; have hfz10_1 := blk_frozen BK213.out 1; have hfz10_2 := blk_frozen BK213.out 2; have hfz10_3 := blk_frozen BK213.out 3) | ((with_reducible refine gate_callee (f := 17) rfl ?_); refine goesL_ (some 14) rfl rfl Try.func17 (by kernel_rfl) rfl #[.agg #[.int .i64 a0_0, .slice A0_1 l0_1.length c0_1, .slice A0_2 l0_2.length c0_2, .slice A0_3 l0_3.length c0_3]] rfl (by (try simp only [List.map_toArray, List.map_cons, List.map_nil]); first | done | rfl | (simp only [List.length_drop, List.length_take]; rfl)) ?_; (with_reducible refine (rot_Check.calls k a0_0 _ _ l0_1 _ _ l0_2 _ _ l0_3 t214 _ ?side1 ?side2 ?side3 ?side4 ?side5 ?side6 A5.out).mono ?_); (case side1 => repeat (first | exact (Kd.C_below HR0_1.out HB.out) | (with_reducible refine Kd.C_alloc ?_ _) | (with_reducible refine Kd.C_drewN ?_ _) | (with_reducible refine Kd.C_drew ?_))); (case side2 => exact HC0_1.out); (case side3 => repeat (first | exact (Kd.C_below HR0_2.out HB.out) | (with_reducible refine Kd.C_alloc ?_ _) | (with_reducible refine Kd.C_drewN ?_ _) | (with_reducible refine Kd.C_drew ?_))); (case side4 => exact HC0_2.out); (case side5 => repeat (first | exact (Kd.C_below HR0_3.out HB.out) | (with_reducible refine Kd.C_alloc ?_ _) | (with_reducible refine Kd.C_drewN ?_ _) | (with_reducible refine Kd.C_drew ?_))); (case side6 => exact HC0_3.out); rintro e w11 ⟨rfl, hb⟩; refine ⟨_, rfl, ?_⟩; have n0_ := Aside0.mk (blk_below (g := gb213) (o := .cells #[.int .i64 a0_0, .slice A0_1 l0_1.length c0_1, .slice A0_2 l0_2.length c0_2, .slice A0_3 l0_3.length c0_3] 25 (0, 0)) (by (with_reducible repeat (first | refine blk_drewN ?_ _ | refine blk_drew ?_ | refine blk_alloc ?_ _)); exact BK213.out) hb); have n1_ := Aside0.mk (below_step (by repeat (first | (with_reducible first | exact HB.out | apply below_alloc | apply pw_below_drewN | apply below_drew1 | refine below_set ?_ GE213.out) | exact HB.out)) hb); clear BK213; clear HB; have BK213 := n0_; have HB := n1_; clear n0_ n1_; (try clear hb); (try clear hb2); (try clear hk); (try clear hi); have hcz12_0 : w11.cell? ⟨gb213, 0, none⟩ = some (.int .i64 a0_0) := (blk_cell BK213.out 0).trans rfl; have hcz12_1 : w11.cell? ⟨gb213, 1, none⟩ = some (.slice A0_1 l0_1.length c0_1) := (blk_cell BK213.out 1).trans rfl; have hcz12_2 : w11.cell? ⟨gb213, 2, none⟩ = some (.slice A0_2 l0_2.length c0_2) := (blk_cell BK213.out 2).trans rfl; have hcz12_3 : w11.cell? ⟨gb213, 3, none⟩ = some (.slice A0_3 l0_3.length c0_3) := (blk_cell BK213.out 3).trans rfl; have hfz12_0 := blk_frozen BK213.out 0; have hfz12_1 := blk_frozen BK213.out 1; have hfz12_2 := blk_frozen BK213.out 2; have hfz12_3 := blk_frozen BK213.out 3))
      have n0_ := Aside0.mk (blk_drew BK213.out)
      have n1_ := Aside0.mk (below_drew1 HB.out)
      clear BK213
      clear HB
      have BK213 := n0_
      have HB := n1_
      clear n0_ n1_
      refine start_ (n := 8) (S := fun w' => w'.cell? ⟨gb213, 0, none⟩ = some (.int .i64 a0_0) ∧ w'.cell? ⟨gb213, 1, none⟩ = some (.slice A0_1 l0_1.length c0_1) ∧ w'.cell? ⟨gb213, 2, none⟩ = some (.slice A0_2 l0_2.length c0_2) ∧ w'.cell? ⟨gb213, 3, none⟩ = some (.slice A0_3 l0_3.length c0_3)) (ds := []) #[false, false, false, false, false, false, false, false] (by kernel_rfl) rfl rfl ⟨(blk_cell BK213.out 0).trans rfl, (blk_cell BK213.out 1).trans rfl, (blk_cell BK213.out 2).trans rfl, (blk_cell BK213.out 3).trans rfl⟩ (fun hHeld => ?_); refine with_tabW parts_Split.tab3 parts_Split.bits3 (fun HT_ HW_ => ?_)
      generalize w11.drew = w13 at BK213 HB hHeld ⊢
      refine pure_ (i := 1) (N := some 25) (v := ?_) (a' := ?_) #[false, true, false, false, false, false, false, false] rfl rfl (any_of HT_.out (by kernel_rfl)) (fun _ _ _ h => h) (Or.inl ⟨by rfl, ?_⟩) ?_ ?_
      rotate_left
      · intro w'
        go_simp
        with_reducible rfl
      rotate_left
      · simp only [Act.put, List.setIfInBounds_toArray, List.set_cons_zero, List.set_cons_succ, i64_w, i32_w]
        rfl
      refine pure_ (i := 2) (N := some 26) (v := ?_) (a' := ?_) #[false, true, true, false, false, false, false, false] rfl rfl (any_of HT_.out (by kernel_rfl)) (fun _ _ _ h => h) (Or.inl ⟨by rfl, ?_⟩) ?_ ?_
      rotate_left
      · intro w'
        go_simp
        with_reducible rfl
      rotate_left
      · simp only [Act.put, List.setIfInBounds_toArray, List.set_cons_zero, List.set_cons_succ, i64_w, i32_w]
        rfl
      refine pure_ (i := 3) (N := some 27) (v := ?_) (a' := ?_) #[false, true, true, true, false, false, false, false] rfl rfl (any_of HT_.out (by kernel_rfl)) (fun _ _ _ h => h) (Or.inl ⟨by rfl, ?_⟩) ?_ ?_
      rotate_left
      · intro w'
        go_simp
        with_reducible rfl
      rotate_left
      · simp only [Act.put, List.setIfInBounds_toArray, List.set_cons_zero, List.set_cons_succ, i64_w, i32_w]
        rfl
      refine take_ (i := 0) (N := some 24) (v := ?_) (a' := ?_) #[true, true, true, true, false, false, false, false] rfl rfl (take_ofW HT_.out HW_.out (by kernel_rfl)) (fun _ _ _ h => h) (Or.inl ⟨by rfl, ?_⟩) hHeld ?_ ?_
      rotate_left
      · rintro w' ⟨s0, s1, s2, s3⟩
        go_simp
        with_reducible rfl
      rotate_left
      · simp only [Act.put, List.setIfInBounds_toArray, List.set_cons_zero, List.set_cons_succ, i64_w, i32_w]
        rfl
      refine one_ (i := 4) (N := some 28) #[true, true, true, true, true, false, false, false] rfl rfl (one_of HT_.out (by kernel_rfl)) (by decide) (fun K hK => ?_)
      refine goes_ Try.func18 (by kernel_rfl) rfl #[.slice A3 l3.length c3] (by rfl) rfl rfl (by (try simp only [List.map_toArray, List.map_cons, List.map_nil]); first | done | rfl | (simp only [List.length_drop, List.length_take]; rfl)) ?_
      with_reducible refine (slices_Clone_int_int.calls _ _ l3 t215 _ ?side1 ?side2 A8.out).mono ?_
      (case side1 => repeat (first | exact (Kd.C_below HR3.out HB.out) | (with_reducible refine Kd.C_alloc ?_ _) | (with_reducible refine Kd.C_drewN ?_ _) | (with_reducible refine Kd.C_drew ?_)))
      (case side2 => exact HC3.out)
      rintro e w14 ⟨v216, rfl, ho0, hb⟩
      refine ⟨_, rfl, ?_⟩
      have n0_ := Aside0.mk (Kd.R_lower ho0 (below_size (by repeat (first | (with_reducible first | exact HB.out | apply below_alloc | apply pw_below_drewN | apply below_drew1 | refine below_set ?_ GE213.out) | exact HB.out))))
      have n1_ := Aside0.mk (blk_below (g := gb213) (o := .cells #[.int .i64 a0_0, .slice A0_1 l0_1.length c0_1, .slice A0_2 l0_2.length c0_2, .slice A0_3 l0_3.length c0_3] 25 (0, 0)) (by (with_reducible repeat (first | refine blk_drewN ?_ _ | refine blk_drew ?_ | refine blk_alloc ?_ _)); exact BK213.out) hb)
      have n2_ := Aside0.mk (below_step (by repeat (first | (with_reducible first | exact HB.out | apply below_alloc | apply pw_below_drewN | apply below_drew1 | refine below_set ?_ GE213.out) | exact HB.out)) hb)
      clear BK213
      clear HB
      have HO217 := n0_
      have BK213 := n1_
      have HB := n2_
      clear n0_ n1_ n2_
      (try clear hb)
      (try clear hb2)
      (try clear hk)
      (try clear hi)
      (try clear ho0)
      obtain ⟨Ao15, co15, eo15⟩ := Kd.R_slice HO217.out
      (first | subst eo15 | (injection eo15 with f1_ f2_ f3_; have f4_ := f1_.symm; have f5_ := f3_.symm; clear f1_ f2_ f3_; subst f4_; subst f5_))
      refine hK.out _ _ ⟨(blk_cell BK213.out 0).trans rfl, (blk_cell BK213.out 1).trans rfl, (blk_cell BK213.out 2).trans rfl, (blk_cell BK213.out 3).trans rfl⟩ (fun hHeld => ?_)
      clear hK K
      refine norm_ (a' := ?_) ?_ ?_
      rotate_left
      · show Act.put _ (some 28) _ = _
        simp only [Act.put, List.setIfInBounds_toArray, List.set_cons_zero, List.set_cons_succ, i64_w, i32_w]
        rfl
      refine pure_ (i := 5) (N := some 29) (v := ?_) (a' := ?_) #[true, true, true, true, true, true, false, false] rfl rfl (any_of HT_.out (by kernel_rfl)) (fun _ _ _ h => h) (Or.inl ⟨by rfl, ?_⟩) ?_ ?_
      rotate_left
      · intro w'
        go_simp
        with_reducible rfl
      rotate_left
      · simp only [Act.put, List.setIfInBounds_toArray, List.set_cons_zero, List.set_cons_succ, i64_w, i32_w]
        rfl
      refine one_ (i := 6) (N := some 30) #[true, true, true, true, true, true, true, false] rfl rfl (one_of HT_.out (by kernel_rfl)) (by decide) (fun K hK => ?_)
      refine box_step ?hg (N := 30) ?hd (cs := #[.int .i64 a0_0, .slice A0_1 l0_1.length c0_1, .slice A0_2 l0_2.length c0_2, .slice A0_3 l0_3.length c0_3, .int .i64 a1, .int .i64 a2, .slice Ao15 t215.length co15]) (t := 50) ?hr ?_; (case hd => rfl); (case hg => rfl); (case hr => first | (go_simp; done) | (go_simp; rfl))
      intro gb218 hg w16 hbox hb
      have n0_ := Aside0.mk (Kd.R_below (by (with_reducible repeat (first | apply Kd.R_alloc | apply Kd.R_drewN | apply Kd.R_drew)); exact HO217.out) hb)
      have n1_ := Aside0.mk (blk_below (g := gb213) (o := .cells #[.int .i64 a0_0, .slice A0_1 l0_1.length c0_1, .slice A0_2 l0_2.length c0_2, .slice A0_3 l0_3.length c0_3] 25 (0, 0)) (by (with_reducible repeat (first | refine blk_drewN ?_ _ | refine blk_drew ?_ | refine blk_alloc ?_ _)); exact BK213.out) hb)
      have n2_ := Aside0.mk (below_step (by repeat (first | (with_reducible first | exact HB.out | apply below_alloc | apply pw_below_drewN | apply below_drew1 | refine below_set ?_ GE213.out) | exact HB.out)) hb)
      have n3_ := Aside0.mk (hbox)
      have n4_ := Aside0.mk ((by rw [hg]; exact (below_size (by repeat (first | (with_reducible first | exact HB.out | apply below_alloc | apply pw_below_drewN | apply below_drew1 | refine below_set ?_ GE213.out) | exact HB.out))) : w.heap.size ≤ gb218))
      have n5_ := Aside0.mk ((by rw [hg]; exact (below_size (by repeat (first | (with_reducible first | exact HB.out | apply below_alloc | apply pw_below_drewN | apply below_drew1 | refine below_set ?_ GE213.out) | exact HB.out))) : w.heap.size ≤ gb218))
      have n6_ := Aside0.mk ((by rw [hg]; exact Nat.ne_of_lt (blk_lt (g := gb213) (o := .cells #[.int .i64 a0_0, .slice A0_1 l0_1.length c0_1, .slice A0_2 l0_2.length c0_2, .slice A0_3 l0_3.length c0_3] 25 (0, 0)) (by (with_reducible repeat (first | refine blk_drewN ?_ _ | refine blk_drew ?_ | refine blk_alloc ?_ _)); exact BK213.out)) : gb213 ≠ gb218))
      have n7_ := Aside0.mk ((by rw [hg]; exact Nat.ne_of_gt (blk_lt (g := gb213) (o := .cells #[.int .i64 a0_0, .slice A0_1 l0_1.length c0_1, .slice A0_2 l0_2.length c0_2, .slice A0_3 l0_3.length c0_3] 25 (0, 0)) (by (with_reducible repeat (first | refine blk_drewN ?_ _ | refine blk_drew ?_ | refine blk_alloc ?_ _)); exact BK213.out)) : gb218 ≠ gb213))
      clear HO217
      clear BK213
      clear HB
      have HO217 := n0_
      have BK213 := n1_
      have HB := n2_
      have BK218 := n3_
      have GW218 := n4_
      have GE218 := n5_
      have NB213_218 := n6_
      have NB218_213 := n7_
      clear n0_ n1_ n2_ n3_ n4_ n5_ n6_ n7_
      clear hb hbox hg
      refine hK.out _ _ ⟨(blk_cell BK213.out 0).trans rfl, (blk_cell BK213.out 1).trans rfl, (blk_cell BK213.out 2).trans rfl, (blk_cell BK213.out 3).trans rfl⟩ (fun hHeld => ?_)
      clear hK K
      refine norm_ (a' := ?_) ?_ ?_
      rotate_left
      · show Act.put _ (some 30) _ = _
        simp only [Act.put, List.setIfInBounds_toArray, List.set_cons_zero, List.set_cons_succ, i64_w, i32_w]
        rfl
      refine pure_ (i := 7) (N := some 9) (v := ?_) (a' := ?_) #[true, true, true, true, true, true, true, true] rfl rfl (any_of HT_.out (by kernel_rfl)) (fun _ _ _ h => h) (Or.inl ⟨by rfl, ?_⟩) ?_ ?_
      rotate_left
      · intro w'
        go_simp
        with_reducible rfl
      rotate_left
      · simp only [Act.put, List.setIfInBounds_toArray, List.set_cons_zero, List.set_cons_succ, i64_w, i32_w]
        rfl
      refine done_ (done_of HT_.out (by kernel_rfl)) ?_
      have hgo := HSP.out
      unfold split_go at hgo
      clear HSP
      split at hgo
      · rename_i hbig
        have HGO := Aside0.mk hgo
        clear hgo
        have hcw0 := (blk_cell BK213.out 0).trans rfl
        have hcw1 := (blk_cell BK213.out 1).trans rfl
        have hcw2 := (blk_cell BK213.out 2).trans rfl
        have hcw3 := (blk_cell BK213.out 3).trans rfl
        go_wp2
        go_loopw [10, 35] (fun v10 u W => ∃ (i : Nat) (left : List Int) (outp : List S28), i ≤ l0_1.length + 1 ∧ u = .int .i64 i ∧ Aside0 (splitL k a0_0 l0_1 l0_2 l0_3 a1 a2 (l0_1.length + 1 - i) left outp = some r) ∧ Aside0 (outp.length ≤ i) ∧ Aside0 (left.length = t215.length) ∧ Aside0 (Kd.R (Kd.int .i64) 3 W w.heap.size (fun _ => True) (.slice Ao15 t215.length co15) left) ∧ Aside0 (Kd.S k28 28 W w.heap.size (fun k_ => some k_ ≠ (Value.slice Ao15 t215.length co15 : Value).ownBlock) v10 outp) ∧ Aside0 (WalkAt W gb218 a0_0 A0_1 l0_1 c0_1 A0_2 l0_2 c0_2 A0_3 l0_3 c0_3 a1 a2 Ao15 t215 co15) ∧ Aside0 (W.heap[gb213]? = some (.cells #[.int .i64 a0_0, .slice A0_1 l0_1.length c0_1, .slice A0_2 l0_2.length c0_2, .slice A0_3 l0_3.length c0_3] 25 (0, 0))) ∧ Aside0 (Below w.heap.size w W)) (fun v10 u _ => l0_1.length + 1 - (intOf u).toNat)
        case atStart => exact ⟨0, t215, [], by omega, rfl, ⟨by simpa using HGO.out⟩, ⟨by simp⟩, ⟨rfl⟩, ⟨HO217.out⟩, ⟨Kd.S_nil _ _ _ _ _⟩, ⟨BK218.out⟩, ⟨BK213.out⟩, ⟨HB.out⟩⟩
        case round =>
          clear HO217 BK218 BK213 HB HGO
          obtain ⟨i, left, outp, hi, rfl, HSP, HOL, HLL, HOR, HOS, BK218, BK213, HB⟩ := hrel
          have HTL := Aside0.mk HLL.out.symm
          simp only [HTL.out] at HOR HOS
          have HLEN := Aside0.mk (show (Kd.int .i64).C wr Ao15 left.length left ∧ left.length ≤ co15 from ⟨(Kd.R_reads' HOR.out).2.2, (Kd.R_reads' HOR.out).2.1⟩)
          have HLTL := Aside0.mk (Kd.R_lt HOR.out)
          have HSZ := Aside0.mk (below_size HB.out)
          by_cases hlt : i < l0_1.length + 1
          · have s1 : decide ((i : Int) < ((l0_1.length : Int) + 1)) = true := by simp; omega
            obtain ⟨m, hm⟩ : ∃ m, l0_1.length + 1 - i = m + 1 := ⟨l0_1.length - i, by omega⟩
            have hst := HSP.out
            rw [hm] at hst
            unfold splitL at hst
            obtain ⟨⟨b, am, ds, is_⟩, hP, hst⟩ := Option.bind_eq_some_iff.mp hst
            have HP := Aside0.mk hP
            clear hP HSP
            have BKL := Aside0.mk (show WalkAt wr gb218 a0_0 A0_1 l0_1 c0_1 A0_2 l0_2 c0_2 A0_3 l0_3 c0_3 a1 a2 Ao15 left co15 from by have h_ := BK218.out; unfold WalkAt at h_ ⊢; rw [← HTL.out]; exact h_)
            have HCL := Aside0.mk HLEN.out.1
            have HCC := Aside0.mk HLEN.out.2
            have HOS1 := Aside0.mk (Kd.S_mono (Kd.S_bound HOS.out) (fun k_ hk => ⟨hk.1, hk.2.2.1⟩) : Kd.S k28 28 wr w.heap.size (fun k_ => some k_ ≠ (Value.slice Ao15 left.length co15 : Value).ownBlock ∧ k_ < wr.heap.size) u10 outp)
            clear HLEN
            cases is_ with
            | false =>
              simp only [Bool.false_eq_true, if_false] at hst
              obtain rfl := Option.some.inj hst
              clear hst
              go_wp2_with (first | (go_at_call 19; refine (parts_walk_part.calls k a0_0 _ _ l0_1 _ _ l0_2 _ _ l0_3 a1 a2 _ _ left b am ds false _ gb218 BKL.out (Kd.C_below HR0_1.out HB.out) HC0_1.out (Kd.C_below HR0_2.out HB.out) HC0_2.out (Kd.C_below HR0_3.out HB.out) HC0_3.out HCL.out HCC.out HP.out).mono ?_; rintro e w1 ⟨v2, rfl, hv2, hb1⟩; have HV2 := Aside0.mk (Kd.R_mono (Kd.R_bound hv2) (fun k_ hk_ => hk_.2.1) : Kd.R (Kd.int .i64) 3 w1 wr.heap.size (fun k_ => wr.heap.size ≤ k_) v2 ds); have nl_ := Aside0.mk (Kd.R_below HOR.out hb1); have ns_ := Aside0.mk (Kd.S_below HOS1.out hb1); have nw_ := Aside0.mk (blk_below BKL.out hb1); have nn_ := Aside0.mk (blk_below BK213.out hb1); have nb_ := Aside0.mk (below_step HB.out hb1); clear HOR HOS HOS1 BKL BK218 BK213 HB hb1 hv2 HCL; have HOR := nl_; have HOS := ns_; have BKL := nw_; have BK213 := nn_; have HB := nb_; clear nl_ ns_ nw_ nn_ nb_; obtain ⟨Ad, cd, ed⟩ := Kd.R_slice HV2.out; subst ed) | ((with_reducible refine gate_dst (N := 11) rfl ?_); refine box_event ?hg (N := 11) ?hd (cs := #[.bool false, .int .i64 0, .slice none 0 0]) (t := 28) ?hr ?_; (case hd => rfl); (case hg => rfl); (case hr => first | (go_simp; done) | (go_simp; rfl)); intro gp hgp wp hpbox hpb; have HGP := Aside0.mk (show w.heap.size ≤ gp by rw [hgp]; exact below_size HB.out); have HLE := Aside0.mk (Nat.le_of_eq hgp.symm); have HBW := Aside0.mk hpb; have BKP := Aside0.mk hpbox; clear hgp hpb hpbox; have hpz0 := (blk_cell BKP.out 0).trans rfl; have hpz1 := (blk_cell BKP.out 1).trans rfl; have hpz2 := (blk_cell BKP.out 2).trans rfl; have hpf0 := blk_frozen BKP.out 0; have hpf1 := blk_frozen BKP.out 1; have hpf2 := blk_frozen BKP.out 2) | ((with_reducible refine gate_store (t := 28) (p := 11) rfl ?_); refine store_event (t := 28) (p := 11) (v := ?vo_q) (w1 := (((wp.setCell ⟨gp, 0, none⟩ (.bool b)).setCell ⟨gp, 1, none⟩ (.int .i64 am)).setCell ⟨gp, 2, none⟩ (.slice Ad ds.length cd))) ?hg ?ho ?hn ?hr ?_; (case ho => rfl); (case hg => rfl); (case hn => rfl); (case hr => first | (go_simp; done) | (go_simp; rfl)); intro wq hw; have hbq : Below _ _ (((wp.setCell ⟨gp, 0, none⟩ (.bool b)).setCell ⟨gp, 1, none⟩ (.int .i64 am)).setCell ⟨gp, 2, none⟩ (.slice Ad ds.length cd)) := ((HBW.out.setCell HLE.out _).setCell HLE.out _).setCell HLE.out _; rw [← hw] at hbq; have np_ := Aside0.mk (set3 BKP.out (.bool b) (.int .i64 am) (.slice Ad ds.length cd)); rw [← hw] at np_; have nl_ := Aside0.mk (Kd.R_below HOR.out hbq); have ns_ := Aside0.mk (Kd.S_below HOS.out hbq); have nw_ := Aside0.mk (blk_below BKL.out hbq); have nn_ := Aside0.mk (blk_below BK213.out hbq); have nb_ := Aside0.mk (below_step HB.out hbq); have nv_ := Aside0.mk (Kd.R_below HV2.out hbq); clear HOR HOS BKL BK213 HB hbq BKP hw HBW HLE HV2; have HOR := nl_; have HOS := ns_; have BKL := nw_; have BK213 := nn_; have HB := nb_; have BKP := np_; have HV2 := nv_; clear nl_ ns_ nw_ nn_ nb_ np_ nv_; have hqz0 := (blk_cell BKP.out 0).trans rfl; have hqz1 := (blk_cell BKP.out 1).trans rfl; have hqz2 := (blk_cell BKP.out 2).trans rfl; have hqw6 := (blk_cell BKL.out 6).trans rfl) | (go_at_call 21; refine (CloneP_calls u10 outp w _ HB.out (Kd.S_mono HOS.out (fun _ _ => trivial)) (by have := HOL.out; omega)).mono ?_; rintro e w9 ⟨v9, rfl, ho9, hb9⟩; have HO9 := Aside0.mk ho9; have HB9 := Aside0.mk hb9; clear ho9 hb9))
              go_ret
              exact ⟨_, rfl, HO9.out, HB9.out⟩
            | true =>
              simp only [if_true] at hst
              obtain ⟨left', hL, hst⟩ := Option.bind_eq_some_iff.mp hst
              have HLY := Aside0.mk hL
              have HSP := Aside0.mk hst
              clear hL hst
              go_wp2_with (first | (go_at_call 19; refine (parts_walk_part.calls k a0_0 _ _ l0_1 _ _ l0_2 _ _ l0_3 a1 a2 _ _ left b am ds true _ gb218 BKL.out (Kd.C_below HR0_1.out HB.out) HC0_1.out (Kd.C_below HR0_2.out HB.out) HC0_2.out (Kd.C_below HR0_3.out HB.out) HC0_3.out HCL.out HCC.out HP.out).mono ?_; rintro e w1 ⟨v2, rfl, hv2, hb1⟩; have HV2 := Aside0.mk (Kd.R_mono (Kd.R_bound hv2) (fun k_ hk_ => hk_.2.1) : Kd.R (Kd.int .i64) 3 w1 wr.heap.size (fun k_ => wr.heap.size ≤ k_) v2 ds); have nl_ := Aside0.mk (Kd.R_below HOR.out hb1); have ns_ := Aside0.mk (Kd.S_below HOS1.out hb1); have nw_ := Aside0.mk (blk_below BKL.out hb1); have nn_ := Aside0.mk (blk_below BK213.out hb1); have nb_ := Aside0.mk (below_step HB.out hb1); clear HOR HOS HOS1 BKL BK218 BK213 HB hb1 hv2 HCL; have HOR := nl_; have HOS := ns_; have BKL := nw_; have BK213 := nn_; have HB := nb_; clear nl_ ns_ nw_ nn_ nb_; obtain ⟨Ad, cd, ed⟩ := Kd.R_slice HV2.out; subst ed) | ((with_reducible refine gate_dst (N := 11) rfl ?_); refine box_event ?hg (N := 11) ?hd (cs := #[.bool false, .int .i64 0, .slice none 0 0]) (t := 28) ?hr ?_; (case hd => rfl); (case hg => rfl); (case hr => first | (go_simp; done) | (go_simp; rfl)); intro gp hgp wp hpbox hpb; have HGP := Aside0.mk (show w.heap.size ≤ gp by rw [hgp]; exact below_size HB.out); have HLE := Aside0.mk (Nat.le_of_eq hgp.symm); have HBW := Aside0.mk hpb; have BKP := Aside0.mk hpbox; clear hgp hpb hpbox; have hpz0 := (blk_cell BKP.out 0).trans rfl; have hpz1 := (blk_cell BKP.out 1).trans rfl; have hpz2 := (blk_cell BKP.out 2).trans rfl; have hpf0 := blk_frozen BKP.out 0; have hpf1 := blk_frozen BKP.out 1; have hpf2 := blk_frozen BKP.out 2) | ((with_reducible refine gate_store (t := 28) (p := 11) rfl ?_); refine store_event (t := 28) (p := 11) (v := ?vo_q) (w1 := (((wp.setCell ⟨gp, 0, none⟩ (.bool b)).setCell ⟨gp, 1, none⟩ (.int .i64 am)).setCell ⟨gp, 2, none⟩ (.slice Ad ds.length cd))) ?hg ?ho ?hn ?hr ?_; (case ho => rfl); (case hg => rfl); (case hn => rfl); (case hr => first | (go_simp; done) | (go_simp; rfl)); intro wq hw; have hbq : Below _ _ (((wp.setCell ⟨gp, 0, none⟩ (.bool b)).setCell ⟨gp, 1, none⟩ (.int .i64 am)).setCell ⟨gp, 2, none⟩ (.slice Ad ds.length cd)) := ((HBW.out.setCell HLE.out _).setCell HLE.out _).setCell HLE.out _; rw [← hw] at hbq; have np_ := Aside0.mk (set3 BKP.out (.bool b) (.int .i64 am) (.slice Ad ds.length cd)); rw [← hw] at np_; have nl_ := Aside0.mk (Kd.R_below HOR.out hbq); have ns_ := Aside0.mk (Kd.S_below HOS.out hbq); have nw_ := Aside0.mk (blk_below BKL.out hbq); have nn_ := Aside0.mk (blk_below BK213.out hbq); have nb_ := Aside0.mk (below_step HB.out hbq); have nv_ := Aside0.mk (Kd.R_below HV2.out hbq); clear HOR HOS BKL BK213 HB hbq BKP hw HBW HLE HV2; have HOR := nl_; have HOS := ns_; have BKL := nw_; have BK213 := nn_; have HB := nb_; have BKP := np_; have HV2 := nv_; clear nl_ ns_ nw_ nn_ nb_ np_ nv_; have hqz0 := (blk_cell BKP.out 0).trans rfl; have hqz1 := (blk_cell BKP.out 1).trans rfl; have hqz2 := (blk_cell BKP.out 2).trans rfl; have hqw6 := (blk_cell BKL.out 6).trans rfl))
              go_region_with (go_at_call 20; refine (parts_lay.calls k (fun k_ => some k_ = (Value.slice Ao15 left.length co15 : Value).ownBlock) (.slice Ao15 left.length co15) left b am _ _ ds (-1) left' w _ (by repeat (first | (with_reducible first | exact HB.out | apply below_alloc | apply pw_below_drewN | apply below_drew1) | exact HB.out)) (by (with_reducible repeat (first | apply Kd.R_alloc | apply Kd.R_drewN | apply Kd.R_drew)); exact Kd.R_tight rfl HOR.out) (fun W_ hk_ => (Kd.R_reads' (Kd.R_kept (ok := fun k_ => wr.heap.size ≤ k_) (by (with_reducible repeat (first | apply Kd.R_alloc | apply Kd.R_drewN | apply Kd.R_drew)); exact HV2.out) hk_ (fun k_ ho_ he_ => by have h1_ := HLTL.out k_ he_.symm; have h2_ : wr.heap.size ≤ k_ := ho_; omega))).2.2) (Kd.R_reads' HV2.out).2.1 HLY.out).mono ?_; rintro e w2 ⟨rfl, hl2, hb2, hk2⟩; have nl_ := Aside0.mk (Kd.R_mono hl2 (fun _ _ => trivial)); have ns_ := Aside0.mk (Kd.S_kept (ok := fun k_ => some k_ ≠ (Value.slice Ao15 left.length co15 : Value).ownBlock ∧ k_ < wr.heap.size) (by (with_reducible repeat (first | apply Kd.S_alloc | apply Kd.S_drewN | apply Kd.S_drew)); exact HOS.out) hk2 (fun k_ ho_ he_ => ho_.1 he_)); have nw_ := Aside0.mk (blk_kept (by (with_reducible repeat (first | refine blk_drewN ?_ _ | refine blk_drew ?_ | refine blk_alloc ?_ _)); exact BKL.out) hk2 (Kd.R_ne HOR.out BKL.out (by decide))); have nn_ := Aside0.mk (blk_kept (by (with_reducible repeat (first | refine blk_drewN ?_ _ | refine blk_drew ?_ | refine blk_alloc ?_ _)); exact BK213.out) hk2 (Kd.R_ne HOR.out BK213.out (by decide))); have np_ := Aside0.mk (blk_kept (by (with_reducible repeat (first | refine blk_drewN ?_ _ | refine blk_drew ?_ | refine blk_alloc ?_ _)); exact BKP.out) hk2 (Kd.R_ne HOR.out BKP.out (by decide))); have nb_ := Aside0.mk hb2; have nv_ := Aside0.mk (Kd.R_kept (ok := fun k_ => wr.heap.size ≤ k_) (by (with_reducible repeat (first | apply Kd.R_alloc | apply Kd.R_drewN | apply Kd.R_drew)); exact HV2.out) hk2 (fun k_ ho_ he_ => by have h1_ := HLTL.out k_ he_.symm; have h2_ : wr.heap.size ≤ k_ := ho_; omega)); clear HOR HOS BKL BK213 HB BKP HV2 hl2 hb2 hk2; have HOR := nl_; have HOS := ns_; have BKL := nw_; have BK213 := nn_; have HB := nb_; have BKP := np_; have HV2 := nv_; clear nl_ ns_ nw_ nn_ nb_ np_ nv_; have hrz0 := (blk_cell BKP.out 0).trans rfl; have hrz1 := (blk_cell BKP.out 1).trans rfl; have hrz2 := (blk_cell BKP.out 2).trans rfl)
              all_goals go_simp
              all_goals have hll := (Kd.R_reads' HOR.out).1
              all_goals have HLN := Aside0.mk hll
              all_goals have HOR2 := Aside0.mk (show Kd.R (Kd.int .i64) 3 w2 w.heap.size (fun _ => True) (.slice Ao15 left.length co15) left' from HOR.out)
              all_goals clear hll
              all_goals go_wp2_with go_loud ((with_reducible refine gate_builtin (b := .append) (xs := #[.tmp 50, .tmp 52]) rfl ?_); at_builtin; refine Kd.S_append k28 (w0 := w) w.heap.size rfl (.tmp 50) (.tmp 52) 29 28 (.agg #[(.bool false), (.int .i64 0), (.slice none 0 0)]) 40 rfl Try.underlying29 info28 rfl (Nat.succ_pos 2) (by decide) u10 outp ⟨b, am, ds⟩ [.bool b, .int .i64 am, .slice Ad ds.length cd] (fun k_ => some k_ ≠ (Value.slice Ao15 left.length co15 : Value).ownBlock) (fun k_ => some k_ = (Value.slice Ad ds.length cd : Value).ownBlock) rfl rfl ?aP ?aK ?aF ?aO ?aB ?aS ?aL ?_; (case aP => exact k28_mkM _ _ _ ⟨b, am, ds⟩ (Kd.R_tight rfl (Kd.R_lower HV2.out HSZ.out))); (case aK => intro k_ hk_; have h1_ : wr.heap.size ≤ k_ := Kd.R_base HV2.out k_ hk_.symm; exact ⟨fun e_ => by have h2_ := HLTL.out k_ e_.symm; omega, fun e_ => by obtain ⟨f_, h0_, _⟩ := HOS.out; have h2_ := (h0_ k_ e_.symm).2; omega⟩); (case aF => exact (fun k_ hk_ => Kd.fresh' (Kd.R_lt HOR2.out) k_ hk_)); (case aO => exact (Kd.S_mono HOS.out (fun k_ hk_ => ⟨hk_.1, fun e_ => by have h1_ : wr.heap.size ≤ k_ := Kd.R_base HV2.out k_ e_.symm; have h2_ := hk_.2; omega⟩))); (case aB => exact HB.out); (case aS => exact below_size HB.out); (case aL => have h_ := HOL.out; omega); intro v3 w3 ho3 hb3 hg3 hat3; have nr_ := Aside0.mk (Kd.R_grown (Kd.R_tight rfl HOR2.out) hg3 (fun k_ hk_ e_ => by obtain ⟨f_, h0_, _⟩ := HOS.out; exact (h0_ k_ e_.symm).1 hk_)); have nw_ := Aside0.mk (blk_grown BKL.out hg3 (Kd.R_ne (Kd.S_R HOS.out) BKL.out (by decide))); have nn_ := Aside0.mk (blk_grown BK213.out hg3 (Kd.R_ne (Kd.S_R HOS.out) BK213.out (by decide))); have nb_ := Aside0.mk hb3; have ns_ := Aside0.mk ho3; clear HOR HOR2 HOS BKL BK213 HB BKP HV2 ho3 hb3 hg3 hat3; have HOR := nr_; have HOS := ns_; have BKL := nw_; have BK213 := nn_; have HB := nb_; clear nr_ nw_ nn_ nb_ ns_)
              all_goals refine ⟨?_, by simp [intOf]; omega⟩
              all_goals first | exact ⟨i + 1, left', outp ++ [⟨b, am, ds⟩], by omega, rfl, ⟨by rw [show l0_1.length + 1 - (i + 1) = m by omega]; exact HSP.out⟩, ⟨by have h_ := HOL.out; simp; omega⟩, ⟨by rw [← HLN.out]; exact HLL.out⟩, ⟨by simp only [HTL.out]; exact Kd.R_mono HOR.out (fun _ _ => trivial)⟩, ⟨by simp only [HTL.out]; exact HOS.out⟩, ⟨by have h_ := BKL.out; unfold WalkAt at h_ ⊢; rw [HTL.out]; exact h_⟩, ⟨BK213.out⟩, ⟨HB.out⟩⟩ | exact ⟨_, _, _, _, _, _, _, _, _, _, _, _, _, _, _, _, _, _, _, _, _, _, _, ⟨i + 1, left', outp ++ [⟨b, am, ds⟩], by omega, rfl, ⟨by rw [show l0_1.length + 1 - (i + 1) = m by omega]; exact HSP.out⟩, ⟨by have h_ := HOL.out; simp; omega⟩, ⟨by rw [← HLN.out]; exact HLL.out⟩, ⟨by simp only [HTL.out]; exact Kd.R_mono HOR.out (fun _ _ => trivial)⟩, ⟨by simp only [HTL.out]; exact HOS.out⟩, ⟨by have h_ := BKL.out; unfold WalkAt at h_ ⊢; rw [HTL.out]; exact h_⟩, ⟨BK213.out⟩, ⟨HB.out⟩⟩, rfl⟩
          · have s1 : decide ((i : Int) < ((l0_1.length : Int) + 1)) = false := by simp; omega
            obtain rfl : i = l0_1.length + 1 := by omega
            have hst := HSP.out
            rw [Nat.sub_self] at hst
            obtain rfl := Option.some.inj hst
            clear hst HSP
            go_wp2_with (go_at_call 21; refine (CloneP_calls u10 outp w _ HB.out (Kd.S_mono HOS.out (fun _ _ => trivial)) (by have := HOL.out; omega)).mono ?_; rintro e w9 ⟨v9, rfl, ho9, hb9⟩; have HO9 := Aside0.mk ho9; have HB9 := Aside0.mk hb9; clear ho9 hb9)
            go_ret
            exact ⟨_, rfl, HO9.out, HB9.out⟩
      · cases hgo
    · rw [if_neg c7] at H
      have c7b0 : ((l3.length : Int) == (l0_1.length : Int)) = false := beq_eq_false_iff_ne.mpr c7
      have c7b1 : ((l3.length : Int) != (l0_1.length : Int)) = true := bne_iff_ne.mpr c7
      have c7b2 : (l3.length == l0_1.length) = false := by first | simpa using c7 | (simp at c7 ⊢; omega)
      obtain rfl := Option.some.inj H
      go_enter Try.func9, Try.ntmps9
      go_wp2_with (first | ((with_reducible refine gate_dst (N := 4) rfl ?_); (try (refine gate_guard (by rfl) ?_; dsimp only)); refine box_event ?hg (N := 4) ?hd (cs := #[.int .i64 a0_0, .slice A0_1 l0_1.length c0_1, .slice A0_2 l0_2.length c0_2, .slice A0_3 l0_3.length c0_3]) (t := 25) ?hr ?_; (case hd => rfl); (case hg => rfl); (case hr => first | (go_simp; done) | (go_simp; rfl)); intro gb213 hg w17 hbox hb; have n0_ := Aside0.mk (below_step (by repeat (first | (with_reducible first | exact HB.out | apply below_alloc | apply pw_below_drewN | apply below_drew1) | exact HB.out)) hb); have n1_ := Aside0.mk (hbox); have n2_ := Aside0.mk ((by rw [hg]; exact (below_size (by repeat (first | (with_reducible first | exact HB.out | apply below_alloc | apply pw_below_drewN | apply below_drew1) | exact HB.out))) : w.heap.size ≤ gb213)); have n3_ := Aside0.mk ((by rw [hg]; exact (below_size (by repeat (first | (with_reducible first | exact HB.out | apply below_alloc | apply pw_below_drewN | apply below_drew1) | exact HB.out))) : w.heap.size ≤ gb213)); clear HB; have HB := n0_; have BK213 := n1_; have GW213 := n2_; have GE213 := n3_; clear n0_ n1_ n2_ n3_; clear hb hbox hg; have hcz18_0 : w17.cell? ⟨gb213, 0, none⟩ = some (.int .i64 a0_0) := (blk_cell BK213.out 0).trans rfl; have hcz18_1 : w17.cell? ⟨gb213, 1, none⟩ = some (.slice A0_1 l0_1.length c0_1) := (blk_cell BK213.out 1).trans rfl; have hcz18_2 : w17.cell? ⟨gb213, 2, none⟩ = some (.slice A0_2 l0_2.length c0_2) := (blk_cell BK213.out 2).trans rfl; have hcz18_3 : w17.cell? ⟨gb213, 3, none⟩ = some (.slice A0_3 l0_3.length c0_3) := (blk_cell BK213.out 3).trans rfl; have hfz18_0 := blk_frozen BK213.out 0; have hfz18_1 := blk_frozen BK213.out 1; have hfz18_2 := blk_frozen BK213.out 2; have hfz18_3 := blk_frozen BK213.out 3) | ((with_reducible refine gate_callee (f := 17) rfl ?_); refine goesL_ (some 14) rfl rfl Try.func17 (by kernel_rfl) rfl #[.agg #[.int .i64 a0_0, .slice A0_1 l0_1.length c0_1, .slice A0_2 l0_2.length c0_2, .slice A0_3 l0_3.length c0_3]] rfl (by (try simp only [List.map_toArray, List.map_cons, List.map_nil]); first | done | rfl | (simp only [List.length_drop, List.length_take]; rfl)) ?_; (with_reducible refine (rot_Check.calls k a0_0 _ _ l0_1 _ _ l0_2 _ _ l0_3 t214 _ ?side1 ?side2 ?side3 ?side4 ?side5 ?side6 A5.out).mono ?_); (case side1 => repeat (first | exact (Kd.C_below HR0_1.out HB.out) | (with_reducible refine Kd.C_alloc ?_ _) | (with_reducible refine Kd.C_drewN ?_ _) | (with_reducible refine Kd.C_drew ?_))); (case side2 => exact HC0_1.out); (case side3 => repeat (first | exact (Kd.C_below HR0_2.out HB.out) | (with_reducible refine Kd.C_alloc ?_ _) | (with_reducible refine Kd.C_drewN ?_ _) | (with_reducible refine Kd.C_drew ?_))); (case side4 => exact HC0_2.out); (case side5 => repeat (first | exact (Kd.C_below HR0_3.out HB.out) | (with_reducible refine Kd.C_alloc ?_ _) | (with_reducible refine Kd.C_drewN ?_ _) | (with_reducible refine Kd.C_drew ?_))); (case side6 => exact HC0_3.out); rintro e w19 ⟨rfl, hb⟩; refine ⟨_, rfl, ?_⟩; have n0_ := Aside0.mk (blk_below (g := gb213) (o := .cells #[.int .i64 a0_0, .slice A0_1 l0_1.length c0_1, .slice A0_2 l0_2.length c0_2, .slice A0_3 l0_3.length c0_3] 25 (0, 0)) (by (with_reducible repeat (first | refine blk_drewN ?_ _ | refine blk_drew ?_ | refine blk_alloc ?_ _)); exact BK213.out) hb); have n1_ := Aside0.mk (below_step (by repeat (first | (with_reducible first | exact HB.out | apply below_alloc | apply pw_below_drewN | apply below_drew1 | refine below_set ?_ GE213.out) | exact HB.out)) hb); clear BK213; clear HB; have BK213 := n0_; have HB := n1_; clear n0_ n1_; (try clear hb); (try clear hb2); (try clear hk); (try clear hi); have hcz20_0 : w19.cell? ⟨gb213, 0, none⟩ = some (.int .i64 a0_0) := (blk_cell BK213.out 0).trans rfl; have hcz20_1 : w19.cell? ⟨gb213, 1, none⟩ = some (.slice A0_1 l0_1.length c0_1) := (blk_cell BK213.out 1).trans rfl; have hcz20_2 : w19.cell? ⟨gb213, 2, none⟩ = some (.slice A0_2 l0_2.length c0_2) := (blk_cell BK213.out 2).trans rfl; have hcz20_3 : w19.cell? ⟨gb213, 3, none⟩ = some (.slice A0_3 l0_3.length c0_3) := (blk_cell BK213.out 3).trans rfl; have hfz20_0 := blk_frozen BK213.out 0; have hfz20_1 := blk_frozen BK213.out 1; have hfz20_2 := blk_frozen BK213.out 2; have hfz20_3 := blk_frozen BK213.out 3))
      go_ret
      exact ⟨_, by first | rfl | (simp [errW_none, errW_some] <;> rfl) | (simp [*, errW_none, errW_some] <;> rfl), by first | exact Kd.S_nil _ _ _ _ _ | exact Kd.N_nil _ _ _ _ _ | exact Kd.V_nil _ _ _ _ _ | exact Kd.Q_nil _ _ _ _ _ | exact Kd.R_nil _ _ _ _ _, by repeat (first | (with_reducible first | exact HB.out | apply below_alloc | apply pw_below_drewN | apply below_drew1 | refine below_set ?_ GE213.out) | exact HB.out)⟩
  · rw [if_neg c6] at H
    have c6b0 : (t214 == 0) = false := beq_eq_false_iff_ne.mpr c6
    have c6b1 : (t214 != 0) = true := bne_iff_ne.mpr c6
    obtain rfl := Option.some.inj H
    go_enter Try.func9, Try.ntmps9
    go_wp2_with (first | ((with_reducible refine gate_dst (N := 4) rfl ?_); (try (refine gate_guard (by rfl) ?_; dsimp only)); refine box_event ?hg (N := 4) ?hd (cs := #[.int .i64 a0_0, .slice A0_1 l0_1.length c0_1, .slice A0_2 l0_2.length c0_2, .slice A0_3 l0_3.length c0_3]) (t := 25) ?hr ?_; (case hd => rfl); (case hg => rfl); (case hr => first | (go_simp; done) | (go_simp; rfl)); intro gb213 hg w21 hbox hb; have n0_ := Aside0.mk (below_step (by repeat (first | (with_reducible first | exact HB.out | apply below_alloc | apply pw_below_drewN | apply below_drew1) | exact HB.out)) hb); have n1_ := Aside0.mk (hbox); have n2_ := Aside0.mk ((by rw [hg]; exact (below_size (by repeat (first | (with_reducible first | exact HB.out | apply below_alloc | apply pw_below_drewN | apply below_drew1) | exact HB.out))) : w.heap.size ≤ gb213)); have n3_ := Aside0.mk ((by rw [hg]; exact (below_size (by repeat (first | (with_reducible first | exact HB.out | apply below_alloc | apply pw_below_drewN | apply below_drew1) | exact HB.out))) : w.heap.size ≤ gb213)); clear HB; have HB := n0_; have BK213 := n1_; have GW213 := n2_; have GE213 := n3_; clear n0_ n1_ n2_ n3_; clear hb hbox hg; have hcz22_0 : w21.cell? ⟨gb213, 0, none⟩ = some (.int .i64 a0_0) := (blk_cell BK213.out 0).trans rfl; have hcz22_1 : w21.cell? ⟨gb213, 1, none⟩ = some (.slice A0_1 l0_1.length c0_1) := (blk_cell BK213.out 1).trans rfl; have hcz22_2 : w21.cell? ⟨gb213, 2, none⟩ = some (.slice A0_2 l0_2.length c0_2) := (blk_cell BK213.out 2).trans rfl; have hcz22_3 : w21.cell? ⟨gb213, 3, none⟩ = some (.slice A0_3 l0_3.length c0_3) := (blk_cell BK213.out 3).trans rfl; have hfz22_0 := blk_frozen BK213.out 0; have hfz22_1 := blk_frozen BK213.out 1; have hfz22_2 := blk_frozen BK213.out 2; have hfz22_3 := blk_frozen BK213.out 3) | ((with_reducible refine gate_callee (f := 17) rfl ?_); refine goesL_ (some 14) rfl rfl Try.func17 (by kernel_rfl) rfl #[.agg #[.int .i64 a0_0, .slice A0_1 l0_1.length c0_1, .slice A0_2 l0_2.length c0_2, .slice A0_3 l0_3.length c0_3]] rfl (by (try simp only [List.map_toArray, List.map_cons, List.map_nil]); first | done | rfl | (simp only [List.length_drop, List.length_take]; rfl)) ?_; (with_reducible refine (rot_Check.calls k a0_0 _ _ l0_1 _ _ l0_2 _ _ l0_3 t214 _ ?side1 ?side2 ?side3 ?side4 ?side5 ?side6 A5.out).mono ?_); (case side1 => repeat (first | exact (Kd.C_below HR0_1.out HB.out) | (with_reducible refine Kd.C_alloc ?_ _) | (with_reducible refine Kd.C_drewN ?_ _) | (with_reducible refine Kd.C_drew ?_))); (case side2 => exact HC0_1.out); (case side3 => repeat (first | exact (Kd.C_below HR0_2.out HB.out) | (with_reducible refine Kd.C_alloc ?_ _) | (with_reducible refine Kd.C_drewN ?_ _) | (with_reducible refine Kd.C_drew ?_))); (case side4 => exact HC0_2.out); (case side5 => repeat (first | exact (Kd.C_below HR0_3.out HB.out) | (with_reducible refine Kd.C_alloc ?_ _) | (with_reducible refine Kd.C_drewN ?_ _) | (with_reducible refine Kd.C_drew ?_))); (case side6 => exact HC0_3.out); rintro e w23 ⟨rfl, hb⟩; refine ⟨_, rfl, ?_⟩; have n0_ := Aside0.mk (blk_below (g := gb213) (o := .cells #[.int .i64 a0_0, .slice A0_1 l0_1.length c0_1, .slice A0_2 l0_2.length c0_2, .slice A0_3 l0_3.length c0_3] 25 (0, 0)) (by (with_reducible repeat (first | refine blk_drewN ?_ _ | refine blk_drew ?_ | refine blk_alloc ?_ _)); exact BK213.out) hb); have n1_ := Aside0.mk (below_step (by repeat (first | (with_reducible first | exact HB.out | apply below_alloc | apply pw_below_drewN | apply below_drew1 | refine below_set ?_ GE213.out) | exact HB.out)) hb); clear BK213; clear HB; have BK213 := n0_; have HB := n1_; clear n0_ n1_; (try clear hb); (try clear hb2); (try clear hk); (try clear hi)))
    go_ret
    exact ⟨_, by first | rfl | (simp [errW_none, errW_some] <;> rfl) | (simp [*, errW_none, errW_some] <;> rfl), by first | exact Kd.S_nil _ _ _ _ _ | exact Kd.N_nil _ _ _ _ _ | exact Kd.V_nil _ _ _ _ _ | exact Kd.Q_nil _ _ _ _ _ | exact Kd.R_nil _ _ _ _ _, by repeat (first | (with_reducible first | exact HB.out | apply below_alloc | apply pw_below_drewN | apply below_drew1 | refine below_set ?_ GE213.out) | exact HB.out)⟩


end Go.Proofs.Ytoipfbffdcahoaa.P
