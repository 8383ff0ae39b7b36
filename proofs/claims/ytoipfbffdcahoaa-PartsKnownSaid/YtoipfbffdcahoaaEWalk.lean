/- (*walk).part: the next way or round of a flow that is taken apart: walked from a print of a like form. -/
import Derived.Test.YtoipfbffdcahoaaEIdx
import Derived.Test.YtoipfbffdcahoaaEClone
import Derived.Test.YtoipfbffdcahoaaEHead
import Derived.Test.YtoipfbffdcahoaaPx13
import Derived.Test.YtoipfbffdcahoaaPx14
namespace Go.Proofs.Ytoipfbffdcahoaa.P
open Go.RowKit Go.Proofs.YtoipfbffdcahoaaW.PrintWords Go.Proofs.YtoipfbffdcahoaaW.PrintLast Go.Proofs.YtoipfbffdcahoaaW.PrintMore
attribute [local go_sem] max2_int min2_int max_two min_two max_three min_three max_four min_four
set_option linter.unusedVariables false
set_option linter.unusedSimpArgs false

def outI (l1 l6 : List Int) (v : Int) : Int := findI (fun d : Nat => decide (0 < rd l6 (d : Int)) && (rd l1 (d : Int) == v)) l6.length 0
def firstI (l6 : List Int) : Int := findI (fun d : Nat => decide (0 < rd l6 (d : Int))) l6.length 0

/-- the least that the darts have left -/
def amtF (l6 : List Int) : List Int → Int → Option Int
  | [], a => some a
  | d :: ds, a => if 0 ≤ d ∧ d < (l6.length : Int) then (if a = 0 then amtF l6 ds (rd l6 d) else if rd l6 d < a then amtF l6 ds (rd l6 d) else amtF l6 ds a) else none
def parts_tail (ro value : Int) (dd l6 : List Int) : Option (Bool × Int × List Int × Bool) :=
  (amtF l6 dd 0).bind fun a => if ro ≥ 0 then some (true, a, dd, true) else some (false, mn a value, dd, true)

def slices_IndexPos.f (l : List Int) : Option Int := if l.length ≤ 1073741824 then some (firstI l) else none
theorem slices_IndexPos.calls (A : Option Addr) (c : Nat) (l : List Int) (r : Int) (w : World) (hr : Kd.C (Kd.int .i64) w A l.length l) (hc : l.length ≤ c) (h : slices_IndexPos.f l = some r) :
    Calls Try.prog 31 #[.slice A l.length c, .func (.func 32) #[] #[]] w fun e w' => e = .returned (.int .i64 r) ∧ Below w.heap.size w w' := by
  unfold slices_IndexPos.f at h
  split at h
  · rename_i hl
    obtain rfl := Option.some.inj h
    refine (IndexFunc_calls A c l w hr hl).mono ?_
    rintro e w' ⟨rfl, m, rfl⟩
    exact ⟨rfl, pw_below_drewN (Below.refl _ _) m⟩
  · cases h
def parts_walk_out.f (k : Nat) (a0 : Int) (l1 l2 l3 : List Int) (s t : Int) (l6 : List Int) (v : Int) : Option Int := if l6.length ≤ 1073741824 ∧ l6.length ≤ l1.length then some (outI l1 l6 v) else none
theorem parts_walk_out.mono : ∀ a0 a1 a2 a3 a4 a5 a6 a7 k, LeO (parts_walk_out.f k a0 a1 a2 a3 a4 a5 a6 a7) (parts_walk_out.f (k + 1) a0 a1 a2 a3 a4 a5 a6 a7) := fun _ _ _ _ _ _ _ _ _ => LeO.refl _
theorem parts_walk_out.calls (k : Nat) (a0 : Int) (A1 : Option Addr) (c1 : Nat) (l1 : List Int) (A2 : Option Addr) (c2 : Nat) (l2 : List Int) (A3 : Option Addr) (c3 : Nat) (l3 : List Int) (s t : Int) (A6 : Option Addr) (c6 : Nat) (l6 : List Int) (v r : Int) (w : World)
    (h1 : Kd.C (Kd.int .i64) w A1 l1.length l1) (hc1 : l1.length ≤ c1) (h2 : Kd.C (Kd.int .i64) w A2 l2.length l2) (hc2 : l2.length ≤ c2) (h3 : Kd.C (Kd.int .i64) w A3 l3.length l3) (hc3 : l3.length ≤ c3) (h6 : Kd.C (Kd.int .i64) w A6 l6.length l6) (hc6 : l6.length ≤ c6)
    (h : parts_walk_out.f k a0 l1 l2 l3 s t l6 v = some r) (g : Nat) (hg : WalkAt w g a0 A1 l1 c1 A2 l2 c2 A3 l3 c3 s t A6 l6 c6) :
    Calls Try.prog 34 #[.pointer (some ⟨g, 0, none⟩), .int .i64 v] w fun e w' => e = .returned (.int .i64 r) ∧ Below w.heap.size w w' := by
  unfold parts_walk_out.f at h
  split at h
  · rename_i hl
    obtain rfl := Option.some.inj h
    refine (out_calls g a0 A1 l1 c1 A2 l2 c2 A3 l3 c3 s t A6 l6 c6 v w hg h1 h6 hl.1 hl.2).mono ?_
    rintro e w' ⟨rfl, m, rfl⟩
    exact ⟨rfl, pw_below_drewN (Below.refl _ _) m⟩
  · cases h
def slices_Clone_int_int.f (l : List Int) : Option (List Int) := if l.length * 8 ≤ 140737488355328 then some l else none
theorem slices_Clone_int_int.calls (A : Option Addr) (c : Nat) (l r : List Int) (w : World) (hr : Kd.C (Kd.int .i64) w A l.length l) (hc : l.length ≤ c) (h : slices_Clone_int_int.f l = some r) :
    Calls Try.prog 18 #[.slice A l.length c] w fun e w' => ∃ v, e = .returned v ∧ Kd.R (Kd.int .i64) 3 w' w.heap.size (fun _ => True) v r ∧ Below w.heap.size w w' := by
  unfold slices_Clone_int_int.f at h
  split at h
  · rename_i hl
    obtain rfl := Option.some.inj h
    exact CloneI_calls A c l w hr hl
  · cases h
theorem Clone_len {l r : List Int} (h : slices_Clone_int_int.f l = some r) : r.length * 8 ≤ 140737488355328 := by
  unfold slices_Clone_int_int.f at h
  split at h
  · rename_i hl
    obtain rfl := Option.some.inj h
    exact hl
  · cases h
theorem set3 {W : World} {g : Nat} {t : TypeId} {x y z : Value} (h : W.heap[g]? = some (.cells #[x, y, z] t (0, 0))) (a b c : Value) :
    (((W.setCell ⟨g, 0, none⟩ a).setCell ⟨g, 1, none⟩ b).setCell ⟨g, 2, none⟩ c).heap[g]? = some (.cells #[a, b, c] t (0, 0)) := by
  have := blk_set (blk_set (blk_set h 0 a) 1 b) 2 c
  simpa using this
theorem drop_rd {l : List Int} {i : Nat} (h : i < l.length) : l.drop i = rd l (i : Int) :: l.drop (i + 1) := by
  rw [List.drop_eq_getElem_cons h]
  congr 1
  unfold rd
  simp [List.getD_eq_getElem?_getD, List.getElem?_eq_getElem h]
theorem set3R {W : World} {g : Nat} {x y z v : Value} {base : Nat} {ok : Nat → Prop} {xs : List Int} (h : Kd.R (Kd.int .i64) 3 W base ok v xs) (hb : W.heap[g]? = some (.cells #[x, y, z] 28 (0, 0))) (a b c : Value) :
    Kd.R (Kd.int .i64) 3 (((W.setCell ⟨g, 0, none⟩ a).setCell ⟨g, 1, none⟩ b).setCell ⟨g, 2, none⟩ c) base ok v xs :=
  Kd.R_set (Kd.R_set (Kd.R_set h hb (by decide) 0 a) (blk_set hb 0 a) (by decide) 1 b) (blk_set (blk_set hb 0 a) 1 b) (by decide) 2 c

/-! ### parts_walk_part: function 19 -/
mutual
def parts_walk_part.j0 : Nat → Int → Int → Int → List Int → List Int → List Int → Int → Int → List Int → Option (Bool × Int × List Int × Bool)
  | 0, _, _, _, _, _, _, _, _, _ => none
  | k + 1, x5, x6, x174000, x174001, x174002, x174003, x174004, x174005, x174006 => parts_walk_part.l0 k x5 x6 ([] : List Int) (([x6] : List Int)) (-1) x174000 x174001 x174002 x174003 x174004 x174005 x174006
def parts_walk_part.l0 : Nat → Int → Int → List Int → List Int → Int → Int → List Int → List Int → List Int → Int → Int → List Int → Option (Bool × Int × List Int × Bool)
  | 0, _, _, _, _, _, _, _, _, _, _, _, _ => none
  | k + 1, x5, x6, x7, x8, x9, x174000, x174001, x174002, x174003, x174004, x174005, x174006 => if x9 < 0 then ((parts_walk_out.f k x174000 x174001 x174002 x174003 x174004 x174005 x174006 x6).bind fun t187 => (if t187 < 0 then (some (false, 0, ([] : List Int), false)) else (if x7.length < 17592186044416 then ((some (x7 ++ [t187] : List Int)).bind fun y188 => ((rot_Head.f x174000 x174001 x174002 x174003 t187).bind fun t191 => (if t191 = x174005 then (if x5 > 0 then (if 0 ≤ (mx x9 0) then (if (mx x9 0) ≤ (y188.length : Int) then ((slices_Clone_int_int.f (y188.drop ((mx x9 0) : Int).toNat)).bind fun t196 => (parts_tail x9 x5 t196 x174006)) else (none)) else (none)) else ((slices_Index_int_int.f k x8 t191).bind fun t199 => (if x8.length < 17592186044416 then (parts_walk_part.l0 k x5 t191 y188 (x8 ++ [t191]) t199 x174000 x174001 x174002 x174003 x174004 x174005 x174006) else (none)))) else ((slices_Index_int_int.f k x8 t191).bind fun t203 => (if x8.length < 17592186044416 then (parts_walk_part.l0 k x5 t191 y188 (x8 ++ [t191]) t203 x174000 x174001 x174002 x174003 x174004 x174005 x174006) else (none)))))) else (none)))) else (if 0 ≤ (mx x9 0) then (if (mx x9 0) ≤ (x7.length : Int) then ((slices_Clone_int_int.f (x7.drop ((mx x9 0) : Int).toNat)).bind fun t184 => (parts_tail x9 x5 t184 x174006)) else (none)) else (none))
end
def parts_walk_part.f (k : Nat) (a0_0 : Int) (l0_1 : List Int) (l0_2 : List Int) (l0_3 : List Int) (a0_4 : Int) (a0_5 : Int) (l0_6 : List Int) : Option (Bool × Int × List Int × Bool) := (slices_IndexPos.f l0_6).bind fun t174 => (if t174 < 0 then (some (false, 0, ([] : List Int), false)) else ((flow_Value.f k a0_0 l0_1 l0_2 l0_3 a0_4 l0_6).bind fun t175 => (if 0 ≤ t174 then (if t174 < (l0_1.length : Int) then (if t175 > 0 then (parts_walk_part.j0 k t175 a0_4 a0_0 l0_1 l0_2 l0_3 a0_4 a0_5 l0_6) else (parts_walk_part.j0 k t175 (rd l0_1 t174) a0_0 l0_1 l0_2 l0_3 a0_4 a0_5 l0_6)) else (none)) else (none))))
theorem parts_walk_part.mono_l : ∀ k, (∀ y0 y1 y2 y3 y4 y5 y6 y7 y8, LeO (parts_walk_part.j0 k y0 y1 y2 y3 y4 y5 y6 y7 y8) (parts_walk_part.j0 (k + 1) y0 y1 y2 y3 y4 y5 y6 y7 y8)) ∧ (∀ y0 y1 y2 y3 y4 y5 y6 y7 y8 y9 y10 y11, LeO (parts_walk_part.l0 k y0 y1 y2 y3 y4 y5 y6 y7 y8 y9 y10 y11) (parts_walk_part.l0 (k + 1) y0 y1 y2 y3 y4 y5 y6 y7 y8 y9 y10 y11))
  | 0 => ⟨fun _ _ _ _ _ _ _ _ _ r h => by simp [parts_walk_part.j0] at h, fun _ _ _ _ _ _ _ _ _ _ _ _ r h => by simp [parts_walk_part.l0] at h⟩
  | k + 1 => by
    obtain ⟨ih0, ih1⟩ := parts_walk_part.mono_l k
    refine ⟨?_, ?_⟩
    · intro y0 y1 y2 y3 y4 y5 y6 y7 y8
      unfold parts_walk_part.j0
      repeat' first
      | (with_reducible exact ih0 _ _ _ _ _ _ _ _ _)
      | (with_reducible exact ih1 _ _ _ _ _ _ _ _ _ _ _ _)
      | (with_reducible exact flow_Value.mono _ _ _ _ _ _ _)
      | (with_reducible exact parts_walk_out.mono _ _ _ _ _ _ _ _ _)
      | (with_reducible exact slices_Index_int_int.mono _ _ _)
      | (with_reducible exact LeO.refl _)
      | (with_reducible exact LeO.none _)
      | (with_reducible refine LeO.ite ?_ ?_)
      | (with_reducible refine LeO.bind ?_ (fun _ => ?_))
      | exact ih0 _ _ _ _ _ _ _ _ _
      | exact ih1 _ _ _ _ _ _ _ _ _ _ _ _
      | exact flow_Value.mono _ _ _ _ _ _ _
      | exact parts_walk_out.mono _ _ _ _ _ _ _ _ _
      | exact slices_Index_int_int.mono _ _ _
      | exact LeO.none _
      | refine LeO.ite ?_ ?_
      | refine LeO.bind ?_ (fun _ => ?_)
    · intro y0 y1 y2 y3 y4 y5 y6 y7 y8 y9 y10 y11
      unfold parts_walk_part.l0
      repeat' first
      | (with_reducible exact ih0 _ _ _ _ _ _ _ _ _)
      | (with_reducible exact ih1 _ _ _ _ _ _ _ _ _ _ _ _)
      | (with_reducible exact flow_Value.mono _ _ _ _ _ _ _)
      | (with_reducible exact parts_walk_out.mono _ _ _ _ _ _ _ _ _)
      | (with_reducible exact slices_Index_int_int.mono _ _ _)
      | (with_reducible exact LeO.refl _)
      | (with_reducible exact LeO.none _)
      | (with_reducible refine LeO.ite ?_ ?_)
      | (with_reducible refine LeO.bind ?_ (fun _ => ?_))
      | exact ih0 _ _ _ _ _ _ _ _ _
      | exact ih1 _ _ _ _ _ _ _ _ _ _ _ _
      | exact flow_Value.mono _ _ _ _ _ _ _
      | exact parts_walk_out.mono _ _ _ _ _ _ _ _ _
      | exact slices_Index_int_int.mono _ _ _
      | exact LeO.none _
      | refine LeO.ite ?_ ?_
      | refine LeO.bind ?_ (fun _ => ?_)
theorem parts_walk_part.mono : ∀ a0 a1 a2 a3 a4 a5 a6 k, LeO (parts_walk_part.f k a0 a1 a2 a3 a4 a5 a6) (parts_walk_part.f (k + 1) a0 a1 a2 a3 a4 a5 a6) := by
  intro a0 a1 a2 a3 a4 a5 a6 k
  obtain ⟨ih0, ih1⟩ := parts_walk_part.mono_l k
  unfold parts_walk_part.f
  repeat' first
      | (with_reducible exact ih0 _ _ _ _ _ _ _ _ _)
      | (with_reducible exact ih1 _ _ _ _ _ _ _ _ _ _ _ _)
      | (with_reducible exact flow_Value.mono _ _ _ _ _ _ _)
      | (with_reducible exact parts_walk_out.mono _ _ _ _ _ _ _ _ _)
      | (with_reducible exact slices_Index_int_int.mono _ _ _)
      | (with_reducible exact LeO.refl _)
      | (with_reducible exact LeO.none _)
      | (with_reducible refine LeO.ite ?_ ?_)
      | (with_reducible refine LeO.bind ?_ (fun _ => ?_))
      | exact ih0 _ _ _ _ _ _ _ _ _
      | exact ih1 _ _ _ _ _ _ _ _ _ _ _ _
      | exact flow_Value.mono _ _ _ _ _ _ _
      | exact parts_walk_out.mono _ _ _ _ _ _ _ _ _
      | exact slices_Index_int_int.mono _ _ _
      | exact LeO.none _
      | refine LeO.ite ?_ ?_
      | refine LeO.bind ?_ (fun _ => ?_)
def parts_walk_part.T4 : Bool × List (List Nat × List Nat) := (true, [([], []), ([0], [0]), ([1], [1]), ([2], [2]), ([], []), ([4], [4]), ([5], [5]), ([6], [6]), ([], []), ([8], [8]), ([9], [9]), ([10], [10]), ([3, 7, 11], [3, 7, 11]), ([12, 12, 0, 1, 2, 3, 4, 5, 6, 7, 8, 9, 10, 11, 12], [12])])
def parts_walk_part.B4 : List Nat := [0, 1, 3, 7, 0, 16, 48, 112, 0, 256, 768, 1792, 4095, 8191]
theorem parts_walk_part.tab4 : rtab .any (opsOf Try.f19 4) = parts_walk_part.T4 := by kernel_rfl
theorem parts_walk_part.bits4 : waitsOk parts_walk_part.T4.2 parts_walk_part.B4 = true := by kernel_rfl
set_option maxHeartbeats 8000000 in
set_option maxRecDepth 100000 in
theorem parts_walk_part.calls (k : Nat) (a0_0 : Int) (A0_1 : Option Addr) (c0_1 : Nat) (l0_1 : List Int) (A0_2 : Option Addr) (c0_2 : Nat) (l0_2 : List Int) (A0_3 : Option Addr) (c0_3 : Nat) (l0_3 : List Int) (a0_4 : Int) (a0_5 : Int) (A0_6 : Option Addr) (c0_6 : Nat) (l0_6 : List Int) (r1 : Bool) (r2 : Int) (r3 : List Int) (r4 : Bool) (w : World) (gb173 : Nat) (hGK : w.heap[gb173]? = some (.cells #[.int .i64 a0_0, .slice A0_1 l0_1.length c0_1, .slice A0_2 l0_2.length c0_2, .slice A0_3 l0_3.length c0_3, .int .i64 a0_4, .int .i64 a0_5, .slice A0_6 l0_6.length c0_6] 50 (0, 0))) (hr0_1 : Kd.C (Kd.int .i64) w A0_1 l0_1.length l0_1) (hc0_1 : l0_1.length ≤ c0_1) (hr0_2 : Kd.C (Kd.int .i64) w A0_2 l0_2.length l0_2) (hc0_2 : l0_2.length ≤ c0_2) (hr0_3 : Kd.C (Kd.int .i64) w A0_3 l0_3.length l0_3) (hc0_3 : l0_3.length ≤ c0_3) (hr0_6 : Kd.C (Kd.int .i64) w A0_6 l0_6.length l0_6) (hc0_6 : l0_6.length ≤ c0_6) (h : parts_walk_part.f k a0_0 l0_1 l0_2 l0_3 a0_4 a0_5 l0_6 = some (r1, r2, r3, r4)) :
    Calls Try.prog 19 #[.pointer (some ⟨gb173, 0, none⟩)] w fun e w' => ∃ v2_ : Value, e = .returned (.tuple #[.agg #[.bool r1, .int .i64 r2, v2_], .bool r4]) ∧ Kd.R (Kd.int .i64) 3 w' w.heap.size (fun _ => True) v2_ r3 ∧ Below w.heap.size w w' := by
  have hu28 := Try.underlying28
  have hu50 := Try.underlying50
  have hu25 := Try.underlying25
  have HR0_1 := Aside0.mk hr0_1
  have HC0_1 := Aside0.mk hc0_1
  clear hr0_1 hc0_1
  have HR0_2 := Aside0.mk hr0_2
  have HC0_2 := Aside0.mk hc0_2
  clear hr0_2 hc0_2
  have HR0_3 := Aside0.mk hr0_3
  have HC0_3 := Aside0.mk hc0_3
  clear hr0_3 hc0_3
  have HR0_6 := Aside0.mk hr0_6
  have HC0_6 := Aside0.mk hc0_6
  clear hr0_6 hc0_6
  have HB := Aside0.mk (Below.refl w.heap.size w)
  have HGK := Aside0.mk hGK
  clear hGK
  have H : ((slices_IndexPos.f l0_6).bind fun t174 => (if t174 < 0 then (some (false, 0, ([] : List Int), false)) else ((flow_Value.f k a0_0 l0_1 l0_2 l0_3 a0_4 l0_6).bind fun t175 => (if 0 ≤ t174 then (if t174 < (l0_1.length : Int) then (if t175 > 0 then (parts_walk_part.j0 k t175 a0_4 a0_0 l0_1 l0_2 l0_3 a0_4 a0_5 l0_6) else (parts_walk_part.j0 k t175 (rd l0_1 t174) a0_0 l0_1 l0_2 l0_3 a0_4 a0_5 l0_6)) else (none)) else (none))))) = some (r1, r2, r3, r4) := h
  clear h
  replace H := Option.bind_eq_some_iff.mp H
  obtain ⟨t174, A20, H⟩ := H
  replace H : (if t174 < 0 then (some (false, 0, ([] : List Int), false)) else ((flow_Value.f k a0_0 l0_1 l0_2 l0_3 a0_4 l0_6).bind fun t175 => (if 0 ≤ t174 then (if t174 < (l0_1.length : Int) then (if t175 > 0 then (parts_walk_part.j0 k t175 a0_4 a0_0 l0_1 l0_2 l0_3 a0_4 a0_5 l0_6) else (parts_walk_part.j0 k t175 (rd l0_1 t174) a0_0 l0_1 l0_2 l0_3 a0_4 a0_5 l0_6)) else (none)) else (none)))) = some (r1, r2, r3, r4) := H
  have A2 := Aside0.mk A20
  clear A20
  by_cases c3 : t174 < 0
  · rw [if_pos c3] at H
    have c3b0 : decide (t174 < 0) = true := decide_eq_true c3
    clear c3
    simp only [Option.some.injEq, Prod.mk.injEq] at H
    obtain ⟨rfl, rfl, rfl, rfl⟩ := H
    go_enter Try.func19, Try.ntmps19
    go_wp2_with (first | ((with_reducible refine gate_dst (N := 2) rfl ?_); refine box_event ?hg (N := 2) ?hd (cs := #[.bool false, .int .i64 0, .slice none 0 0]) (t := 28) ?hr ?_; (case hd => rfl); (case hg => rfl); (case hr => first | (go_simp; done) | (go_simp; rfl)); intro gb172 hg w4 hbox hb; have n0_ := Aside0.mk (below_step (by repeat (first | (with_reducible first | exact HB.out | apply below_alloc | apply pw_below_drewN | apply below_drew1) | exact HB.out)) hb); have n1_ := Aside0.mk (hbox); have n2_ := Aside0.mk ((by rw [hg]; exact (below_size (by repeat (first | (with_reducible first | exact HB.out | apply below_alloc | apply pw_below_drewN | apply below_drew1) | exact HB.out))) : w.heap.size ≤ gb172)); have n3_ := Aside0.mk ((by rw [hg]; exact (below_size (by repeat (first | (with_reducible first | exact HB.out | apply below_alloc | apply pw_below_drewN | apply below_drew1) | exact HB.out))) : w.heap.size ≤ gb172)); clear HB; have HB := n0_; have BK172 := n1_; have GW172 := n2_; have GE172 := n3_; clear n0_ n1_ n2_ n3_; have BK173 := Aside0.mk (blk_below HGK.out hb); have NB172_173 := Aside0.mk (show gb172 ≠ gb173 by have := blk_lt HGK.out; omega); have NB173_172 := Aside0.mk (show gb173 ≠ gb172 by have := blk_lt HGK.out; omega); clear hb hbox hg; have hnb6 := NB173_172.out; have hnc6 := NB172_173.out; have hcz7_0 : w4.cell? ⟨gb173, 0, none⟩ = some (.int .i64 a0_0) := (blk_cell BK173.out 0).trans rfl; have hcz7_1 : w4.cell? ⟨gb173, 1, none⟩ = some (.slice A0_1 l0_1.length c0_1) := (blk_cell BK173.out 1).trans rfl; have hcz7_2 : w4.cell? ⟨gb173, 2, none⟩ = some (.slice A0_2 l0_2.length c0_2) := (blk_cell BK173.out 2).trans rfl; have hcz7_3 : w4.cell? ⟨gb173, 3, none⟩ = some (.slice A0_3 l0_3.length c0_3) := (blk_cell BK173.out 3).trans rfl; have hcz7_4 : w4.cell? ⟨gb173, 4, none⟩ = some (.int .i64 a0_4) := (blk_cell BK173.out 4).trans rfl; have hcz7_5 : w4.cell? ⟨gb173, 5, none⟩ = some (.int .i64 a0_5) := (blk_cell BK173.out 5).trans rfl; have hcz7_6 : w4.cell? ⟨gb173, 6, none⟩ = some (.slice A0_6 l0_6.length c0_6) := (blk_cell BK173.out 6).trans rfl; have hfz7_0 := blk_frozen BK173.out 0; have hfz7_1 := blk_frozen BK173.out 1; have hfz7_2 := blk_frozen BK173.out 2; have hfz7_3 := blk_frozen BK173.out 3; have hfz7_4 := blk_frozen BK173.out 4; have hfz7_5 := blk_frozen BK173.out 5; have hfz7_6 := blk_frozen BK173.out 6) | ((with_reducible refine gate_callee (f := 31) rfl ?_); refine goesL_ (some 18) rfl rfl Try.func31 (by kernel_rfl) rfl #[.slice A0_6 l0_6.length c0_6, .func (.func 32) #[] #[]] rfl (by (try simp only [List.map_toArray, List.map_cons, List.map_nil]); first | done | rfl | (simp only [List.length_drop, List.length_take]; rfl)) ?_; (with_reducible refine (slices_IndexPos.calls _ _ l0_6 t174 _ ?side1 ?side2 A2.out).mono ?_); (case side1 => repeat (first | exact (Kd.C_below HR0_6.out HB.out) | (with_reducible refine Kd.C_alloc ?_ _) | (with_reducible refine Kd.C_drewN ?_ _) | (with_reducible refine Kd.C_drew ?_))); (case side2 => exact HC0_6.out); rintro e w8 ⟨rfl, hb⟩; refine ⟨_, rfl, ?_⟩; have n0_ := Aside0.mk (blk_below (g := gb172) (o := .cells #[.bool false, .int .i64 0, .slice none 0 0] 28 (0, 0)) (by (with_reducible repeat (first | refine blk_drewN ?_ _ | refine blk_drew ?_ | refine blk_alloc ?_ _)); exact BK172.out) hb); have n1_ := Aside0.mk (blk_below (g := gb173) (o := .cells #[.int .i64 a0_0, .slice A0_1 l0_1.length c0_1, .slice A0_2 l0_2.length c0_2, .slice A0_3 l0_3.length c0_3, .int .i64 a0_4, .int .i64 a0_5, .slice A0_6 l0_6.length c0_6] 50 (0, 0)) (by (with_reducible repeat (first | refine blk_drewN ?_ _ | refine blk_drew ?_ | refine blk_alloc ?_ _)); exact BK173.out) hb); have n2_ := Aside0.mk (below_step (by repeat (first | (with_reducible first | exact HB.out | apply below_alloc | apply pw_below_drewN | apply below_drew1 | refine below_set ?_ GE172.out | refine below_set ?_ GE173.out) | exact HB.out)) hb); clear BK172; clear BK173; clear HB; have BK172 := n0_; have BK173 := n1_; have HB := n2_; clear n0_ n1_ n2_; (try clear hb); (try clear hb2); (try clear hk); (try clear hi); have hcz9_0 : w8.cell? ⟨gb172, 0, none⟩ = some (.bool false) := (blk_cell BK172.out 0).trans rfl; have hcz9_1 : w8.cell? ⟨gb172, 1, none⟩ = some (.int .i64 0) := (blk_cell BK172.out 1).trans rfl; have hcz9_2 : w8.cell? ⟨gb172, 2, none⟩ = some (.slice none 0 0) := (blk_cell BK172.out 2).trans rfl; have hfz9_0 := blk_frozen BK172.out 0; have hfz9_1 := blk_frozen BK172.out 1; have hfz9_2 := blk_frozen BK172.out 2))
    go_step3
    go_wp2_with (first | ((with_reducible refine gate_dst (N := 2) rfl ?_); refine box_event ?hg (N := 2) ?hd (cs := #[.bool false, .int .i64 0, .slice none 0 0]) (t := 28) ?hr ?_; (case hd => rfl); (case hg => rfl); (case hr => first | (go_simp; done) | (go_simp; rfl)); intro gb172 hg w4 hbox hb; have n0_ := Aside0.mk (below_step (by repeat (first | (with_reducible first | exact HB.out | apply below_alloc | apply pw_below_drewN | apply below_drew1) | exact HB.out)) hb); have n1_ := Aside0.mk (hbox); have n2_ := Aside0.mk ((by rw [hg]; exact (below_size (by repeat (first | (with_reducible first | exact HB.out | apply below_alloc | apply pw_below_drewN | apply below_drew1) | exact HB.out))) : w.heap.size ≤ gb172)); have n3_ := Aside0.mk ((by rw [hg]; exact (below_size (by repeat (first | (with_reducible first | exact HB.out | apply below_alloc | apply pw_below_drewN | apply below_drew1) | exact HB.out))) : w.heap.size ≤ gb172)); clear HB; have HB := n0_; have BK172 := n1_; have GW172 := n2_; have GE172 := n3_; clear n0_ n1_ n2_ n3_; have BK173 := Aside0.mk (blk_below HGK.out hb); have NB172_173 := Aside0.mk (show gb172 ≠ gb173 by have := blk_lt HGK.out; omega); have NB173_172 := Aside0.mk (show gb173 ≠ gb172 by have := blk_lt HGK.out; omega); clear hb hbox hg; have hnb6 := NB173_172.out; have hnc6 := NB172_173.out; have hcz7_0 : w4.cell? ⟨gb173, 0, none⟩ = some (.int .i64 a0_0) := (blk_cell BK173.out 0).trans rfl; have hcz7_1 : w4.cell? ⟨gb173, 1, none⟩ = some (.slice A0_1 l0_1.length c0_1) := (blk_cell BK173.out 1).trans rfl; have hcz7_2 : w4.cell? ⟨gb173, 2, none⟩ = some (.slice A0_2 l0_2.length c0_2) := (blk_cell BK173.out 2).trans rfl; have hcz7_3 : w4.cell? ⟨gb173, 3, none⟩ = some (.slice A0_3 l0_3.length c0_3) := (blk_cell BK173.out 3).trans rfl; have hcz7_4 : w4.cell? ⟨gb173, 4, none⟩ = some (.int .i64 a0_4) := (blk_cell BK173.out 4).trans rfl; have hcz7_5 : w4.cell? ⟨gb173, 5, none⟩ = some (.int .i64 a0_5) := (blk_cell BK173.out 5).trans rfl; have hcz7_6 : w4.cell? ⟨gb173, 6, none⟩ = some (.slice A0_6 l0_6.length c0_6) := (blk_cell BK173.out 6).trans rfl; have hfz7_0 := blk_frozen BK173.out 0; have hfz7_1 := blk_frozen BK173.out 1; have hfz7_2 := blk_frozen BK173.out 2; have hfz7_3 := blk_frozen BK173.out 3; have hfz7_4 := blk_frozen BK173.out 4; have hfz7_5 := blk_frozen BK173.out 5; have hfz7_6 := blk_frozen BK173.out 6) | ((with_reducible refine gate_callee (f := 31) rfl ?_); refine goesL_ (some 18) rfl rfl Try.func31 (by kernel_rfl) rfl #[.slice A0_6 l0_6.length c0_6, .func (.func 32) #[] #[]] rfl (by (try simp only [List.map_toArray, List.map_cons, List.map_nil]); first | done | rfl | (simp only [List.length_drop, List.length_take]; rfl)) ?_; (with_reducible refine (slices_IndexPos.calls _ _ l0_6 t174 _ ?side1 ?side2 A2.out).mono ?_); (case side1 => repeat (first | exact (Kd.C_below HR0_6.out HB.out) | (with_reducible refine Kd.C_alloc ?_ _) | (with_reducible refine Kd.C_drewN ?_ _) | (with_reducible refine Kd.C_drew ?_))); (case side2 => exact HC0_6.out); rintro e w8 ⟨rfl, hb⟩; refine ⟨_, rfl, ?_⟩; have n0_ := Aside0.mk (blk_below (g := gb172) (o := .cells #[.bool false, .int .i64 0, .slice none 0 0] 28 (0, 0)) (by (with_reducible repeat (first | refine blk_drewN ?_ _ | refine blk_drew ?_ | refine blk_alloc ?_ _)); exact BK172.out) hb); have n1_ := Aside0.mk (blk_below (g := gb173) (o := .cells #[.int .i64 a0_0, .slice A0_1 l0_1.length c0_1, .slice A0_2 l0_2.length c0_2, .slice A0_3 l0_3.length c0_3, .int .i64 a0_4, .int .i64 a0_5, .slice A0_6 l0_6.length c0_6] 50 (0, 0)) (by (with_reducible repeat (first | refine blk_drewN ?_ _ | refine blk_drew ?_ | refine blk_alloc ?_ _)); exact BK173.out) hb); have n2_ := Aside0.mk (below_step (by repeat (first | (with_reducible first | exact HB.out | apply below_alloc | apply pw_below_drewN | apply below_drew1 | refine below_set ?_ GE172.out | refine below_set ?_ GE173.out) | exact HB.out)) hb); clear BK172; clear BK173; clear HB; have BK172 := n0_; have BK173 := n1_; have HB := n2_; clear n0_ n1_ n2_; (try clear hb); (try clear hb2); (try clear hk); (try clear hi); have hcz9_0 : w8.cell? ⟨gb172, 0, none⟩ = some (.bool false) := (blk_cell BK172.out 0).trans rfl; have hcz9_1 : w8.cell? ⟨gb172, 1, none⟩ = some (.int .i64 0) := (blk_cell BK172.out 1).trans rfl; have hcz9_2 : w8.cell? ⟨gb172, 2, none⟩ = some (.slice none 0 0) := (blk_cell BK172.out 2).trans rfl; have hfz9_0 := blk_frozen BK172.out 0; have hfz9_1 := blk_frozen BK172.out 1; have hfz9_2 := blk_frozen BK172.out 2))
    try rw [Exit.noGoto_ret]
    (try simp only [Exit.inBlock, Exit.then])
    refine bodyPost_ret (results_ct rfl _ _ gb172 28 #[.bool false, .int .i64 0, .slice none 0 0] (0, 0) _ rfl (by (with_reducible repeat (first | refine blk_drewN ?_ _ | refine blk_drew ?_ | refine blk_alloc ?_ _)); refine blk_put (cs := #[.bool false, .int .i64 0, .slice none 0 0]) ?_ 2 _ rfl; (with_reducible repeat (first | refine blk_drewN ?_ _ | refine blk_drew ?_ | refine blk_alloc ?_ _)); refine blk_put (cs := #[.bool false, .int .i64 0, .slice none 0 0]) ?_ 1 _ rfl; (with_reducible repeat (first | refine blk_drewN ?_ _ | refine blk_drew ?_ | refine blk_alloc ?_ _)); refine blk_put (cs := #[.bool false, .int .i64 0, .slice none 0 0]) ?_ 0 _ rfl; (with_reducible repeat (first | refine blk_drewN ?_ _ | refine blk_drew ?_ | refine blk_alloc ?_ _)); exact BK172.out) Try.underlying28 rfl (by kernel_rfl)) rfl ?_
    exact ⟨_, by first | rfl | (simp [errW_none, errW_some] <;> rfl) | (simp [*, errW_none, errW_some] <;> rfl), by first | exact Kd.R_nil _ _ _ _ _ | exact Kd.N_nil _ _ _ _ _ | exact Kd.V_nil _ _ _ _ _ | exact Kd.Q_nil _ _ _ _ _ | exact Kd.S_nil _ _ _ _ _, by repeat (first | (with_reducible first | exact HB.out | apply below_alloc | apply pw_below_drewN | apply below_drew1 | refine below_set ?_ GE172.out | refine below_set ?_ GE173.out) | exact HB.out)⟩
  · rw [if_neg c3] at H
    have c3b0 : decide (t174 < 0) = false := decide_eq_false c3
    clear c3
    replace H := Option.bind_eq_some_iff.mp H
    obtain ⟨t175, A100, H⟩ := H
    replace H : (if 0 ≤ t174 then (if t174 < (l0_1.length : Int) then (if t175 > 0 then (parts_walk_part.j0 k t175 a0_4 a0_0 l0_1 l0_2 l0_3 a0_4 a0_5 l0_6) else (parts_walk_part.j0 k t175 (rd l0_1 t174) a0_0 l0_1 l0_2 l0_3 a0_4 a0_5 l0_6)) else (none)) else (none)) = some (r1, r2, r3, r4) := H
    have A10 := Aside0.mk A100
    clear A100
    by_cases c11 : 0 ≤ t174
    · rw [if_pos c11] at H
      have c11b0 : decide (0 ≤ t174) = true := decide_eq_true c11
      clear c11
      by_cases c12 : t174 < (l0_1.length : Int)
      · rw [if_pos c12] at H
        have c12b0 : decide (t174 < (l0_1.length : Int)) = true := decide_eq_true c12
        clear c12
        have HC13 := Aside0.mk H
        clear H
        go_enter Try.func19, Try.ntmps19
        try go_wp2_with (first | ((with_reducible refine gate_dst (N := 2) rfl ?_); refine box_event ?hg (N := 2) ?hd (cs := #[.bool false, .int .i64 0, .slice none 0 0]) (t := 28) ?hr ?_; (case hd => rfl); (case hg => rfl); (case hr => first | (go_simp; done) | (go_simp; rfl)); intro gb172 hg w14 hbox hb; have n0_ := Aside0.mk (below_step (by repeat (first | (with_reducible first | exact HB.out | apply below_alloc | apply pw_below_drewN | apply below_drew1) | exact HB.out)) hb); have n1_ := Aside0.mk (hbox); have n2_ := Aside0.mk ((by rw [hg]; exact (below_size (by repeat (first | (with_reducible first | exact HB.out | apply below_alloc | apply pw_below_drewN | apply below_drew1) | exact HB.out))) : w.heap.size ≤ gb172)); have n3_ := Aside0.mk ((by rw [hg]; exact (below_size (by repeat (first | (with_reducible first | exact HB.out | apply below_alloc | apply pw_below_drewN | apply below_drew1) | exact HB.out))) : w.heap.size ≤ gb172)); clear HB; have HB := n0_; have BK172 := n1_; have GW172 := n2_; have GE172 := n3_; clear n0_ n1_ n2_ n3_; have BK173 := Aside0.mk (blk_below HGK.out hb); have NB172_173 := Aside0.mk (show gb172 ≠ gb173 by have := blk_lt HGK.out; omega); have NB173_172 := Aside0.mk (show gb173 ≠ gb172 by have := blk_lt HGK.out; omega); clear hb hbox hg; have hnb16 := NB173_172.out; have hnc16 := NB172_173.out; have hcz17_0 : w14.cell? ⟨gb173, 0, none⟩ = some (.int .i64 a0_0) := (blk_cell BK173.out 0).trans rfl; have hcz17_1 : w14.cell? ⟨gb173, 1, none⟩ = some (.slice A0_1 l0_1.length c0_1) := (blk_cell BK173.out 1).trans rfl; have hcz17_2 : w14.cell? ⟨gb173, 2, none⟩ = some (.slice A0_2 l0_2.length c0_2) := (blk_cell BK173.out 2).trans rfl; have hcz17_3 : w14.cell? ⟨gb173, 3, none⟩ = some (.slice A0_3 l0_3.length c0_3) := (blk_cell BK173.out 3).trans rfl; have hcz17_4 : w14.cell? ⟨gb173, 4, none⟩ = some (.int .i64 a0_4) := (blk_cell BK173.out 4).trans rfl; have hcz17_5 : w14.cell? ⟨gb173, 5, none⟩ = some (.int .i64 a0_5) := (blk_cell BK173.out 5).trans rfl; have hcz17_6 : w14.cell? ⟨gb173, 6, none⟩ = some (.slice A0_6 l0_6.length c0_6) := (blk_cell BK173.out 6).trans rfl; have hfz17_0 := blk_frozen BK173.out 0; have hfz17_1 := blk_frozen BK173.out 1; have hfz17_2 := blk_frozen BK173.out 2; have hfz17_3 := blk_frozen BK173.out 3; have hfz17_4 := blk_frozen BK173.out 4; have hfz17_5 := blk_frozen BK173.out 5; have hfz17_6 := blk_frozen BK173.out 6) | ((with_reducible refine gate_callee (f := 31) rfl ?_); refine goesL_ (some 18) rfl rfl Try.func31 (by kernel_rfl) rfl #[.slice A0_6 l0_6.length c0_6, .func (.func 32) #[] #[]] rfl (by (try simp only [List.map_toArray, List.map_cons, List.map_nil]); first | done | rfl | (simp only [List.length_drop, List.length_take]; rfl)) ?_; (with_reducible refine (slices_IndexPos.calls _ _ l0_6 t174 _ ?side1 ?side2 A2.out).mono ?_); (case side1 => repeat (first | exact (Kd.C_below HR0_6.out HB.out) | (with_reducible refine Kd.C_alloc ?_ _) | (with_reducible refine Kd.C_drewN ?_ _) | (with_reducible refine Kd.C_drew ?_))); (case side2 => exact HC0_6.out); rintro e w18 ⟨rfl, hb⟩; refine ⟨_, rfl, ?_⟩; have n0_ := Aside0.mk (blk_below (g := gb172) (o := .cells #[.bool false, .int .i64 0, .slice none 0 0] 28 (0, 0)) (by (with_reducible repeat (first | refine blk_drewN ?_ _ | refine blk_drew ?_ | refine blk_alloc ?_ _)); exact BK172.out) hb); have n1_ := Aside0.mk (blk_below (g := gb173) (o := .cells #[.int .i64 a0_0, .slice A0_1 l0_1.length c0_1, .slice A0_2 l0_2.length c0_2, .slice A0_3 l0_3.length c0_3, .int .i64 a0_4, .int .i64 a0_5, .slice A0_6 l0_6.length c0_6] 50 (0, 0)) (by (with_reducible repeat (first | refine blk_drewN ?_ _ | refine blk_drew ?_ | refine blk_alloc ?_ _)); exact BK173.out) hb); have n2_ := Aside0.mk (below_step (by repeat (first | (with_reducible first | exact HB.out | apply below_alloc | apply pw_below_drewN | apply below_drew1 | refine below_set ?_ GE172.out | refine below_set ?_ GE173.out) | exact HB.out)) hb); clear BK172; clear BK173; clear HB; have BK172 := n0_; have BK173 := n1_; have HB := n2_; clear n0_ n1_ n2_; (try clear hb); (try clear hb2); (try clear hk); (try clear hi)))
        go_step3
        try go_wp2_with (first | ((with_reducible refine gate_dst (N := 2) rfl ?_); refine box_event ?hg (N := 2) ?hd (cs := #[.bool false, .int .i64 0, .slice none 0 0]) (t := 28) ?hr ?_; (case hd => rfl); (case hg => rfl); (case hr => first | (go_simp; done) | (go_simp; rfl)); intro gb172 hg w14 hbox hb; have n0_ := Aside0.mk (below_step (by repeat (first | (with_reducible first | exact HB.out | apply below_alloc | apply pw_below_drewN | apply below_drew1) | exact HB.out)) hb); have n1_ := Aside0.mk (hbox); have n2_ := Aside0.mk ((by rw [hg]; exact (below_size (by repeat (first | (with_reducible first | exact HB.out | apply below_alloc | apply pw_below_drewN | apply below_drew1) | exact HB.out))) : w.heap.size ≤ gb172)); have n3_ := Aside0.mk ((by rw [hg]; exact (below_size (by repeat (first | (with_reducible first | exact HB.out | apply below_alloc | apply pw_below_drewN | apply below_drew1) | exact HB.out))) : w.heap.size ≤ gb172)); clear HB; have HB := n0_; have BK172 := n1_; have GW172 := n2_; have GE172 := n3_; clear n0_ n1_ n2_ n3_; have BK173 := Aside0.mk (blk_below HGK.out hb); have NB172_173 := Aside0.mk (show gb172 ≠ gb173 by have := blk_lt HGK.out; omega); have NB173_172 := Aside0.mk (show gb173 ≠ gb172 by have := blk_lt HGK.out; omega); clear hb hbox hg; have hnb16 := NB173_172.out; have hnc16 := NB172_173.out; have hcz17_0 : w14.cell? ⟨gb173, 0, none⟩ = some (.int .i64 a0_0) := (blk_cell BK173.out 0).trans rfl; have hcz17_1 : w14.cell? ⟨gb173, 1, none⟩ = some (.slice A0_1 l0_1.length c0_1) := (blk_cell BK173.out 1).trans rfl; have hcz17_2 : w14.cell? ⟨gb173, 2, none⟩ = some (.slice A0_2 l0_2.length c0_2) := (blk_cell BK173.out 2).trans rfl; have hcz17_3 : w14.cell? ⟨gb173, 3, none⟩ = some (.slice A0_3 l0_3.length c0_3) := (blk_cell BK173.out 3).trans rfl; have hcz17_4 : w14.cell? ⟨gb173, 4, none⟩ = some (.int .i64 a0_4) := (blk_cell BK173.out 4).trans rfl; have hcz17_5 : w14.cell? ⟨gb173, 5, none⟩ = some (.int .i64 a0_5) := (blk_cell BK173.out 5).trans rfl; have hcz17_6 : w14.cell? ⟨gb173, 6, none⟩ = some (.slice A0_6 l0_6.length c0_6) := (blk_cell BK173.out 6).trans rfl; have hfz17_0 := blk_frozen BK173.out 0; have hfz17_1 := blk_frozen BK173.out 1; have hfz17_2 := blk_frozen BK173.out 2; have hfz17_3 := blk_frozen BK173.out 3; have hfz17_4 := blk_frozen BK173.out 4; have hfz17_5 := blk_frozen BK173.out 5; have hfz17_6 := blk_frozen BK173.out 6) | ((with_reducible refine gate_callee (f := 31) rfl ?_); refine goesL_ (some 18) rfl rfl Try.func31 (by kernel_rfl) rfl #[.slice A0_6 l0_6.length c0_6, .func (.func 32) #[] #[]] rfl (by (try simp only [List.map_toArray, List.map_cons, List.map_nil]); first | done | rfl | (simp only [List.length_drop, List.length_take]; rfl)) ?_; (with_reducible refine (slices_IndexPos.calls _ _ l0_6 t174 _ ?side1 ?side2 A2.out).mono ?_); (case side1 => repeat (first | exact (Kd.C_below HR0_6.out HB.out) | (with_reducible refine Kd.C_alloc ?_ _) | (with_reducible refine Kd.C_drewN ?_ _) | (with_reducible refine Kd.C_drew ?_))); (case side2 => exact HC0_6.out); rintro e w18 ⟨rfl, hb⟩; refine ⟨_, rfl, ?_⟩; have n0_ := Aside0.mk (blk_below (g := gb172) (o := .cells #[.bool false, .int .i64 0, .slice none 0 0] 28 (0, 0)) (by (with_reducible repeat (first | refine blk_drewN ?_ _ | refine blk_drew ?_ | refine blk_alloc ?_ _)); exact BK172.out) hb); have n1_ := Aside0.mk (blk_below (g := gb173) (o := .cells #[.int .i64 a0_0, .slice A0_1 l0_1.length c0_1, .slice A0_2 l0_2.length c0_2, .slice A0_3 l0_3.length c0_3, .int .i64 a0_4, .int .i64 a0_5, .slice A0_6 l0_6.length c0_6] 50 (0, 0)) (by (with_reducible repeat (first | refine blk_drewN ?_ _ | refine blk_drew ?_ | refine blk_alloc ?_ _)); exact BK173.out) hb); have n2_ := Aside0.mk (below_step (by repeat (first | (with_reducible first | exact HB.out | apply below_alloc | apply pw_below_drewN | apply below_drew1 | refine below_set ?_ GE172.out | refine below_set ?_ GE173.out) | exact HB.out)) hb); clear BK172; clear BK173; clear HB; have BK172 := n0_; have BK173 := n1_; have HB := n2_; clear n0_ n1_ n2_; (try clear hb); (try clear hb2); (try clear hk); (try clear hi)))
        have n0_ := Aside0.mk (blk_drew BK172.out)
        have n1_ := Aside0.mk (blk_drew BK173.out)
        have n2_ := Aside0.mk (below_drew1 HB.out)
        clear BK172
        clear BK173
        clear HB
        have BK172 := n0_
        have BK173 := n1_
        have HB := n2_
        clear n0_ n1_ n2_
        refine start_ (n := 14) (S := fun w' => w'.cell? ⟨gb173, 0, none⟩ = some (.int .i64 a0_0) ∧ w'.cell? ⟨gb173, 1, none⟩ = some (.slice A0_1 l0_1.length c0_1) ∧ w'.cell? ⟨gb173, 2, none⟩ = some (.slice A0_2 l0_2.length c0_2) ∧ w'.cell? ⟨gb173, 3, none⟩ = some (.slice A0_3 l0_3.length c0_3) ∧ w'.cell? ⟨gb173, 4, none⟩ = some (.int .i64 a0_4) ∧ w'.cell? ⟨gb173, 5, none⟩ = some (.int .i64 a0_5) ∧ w'.cell? ⟨gb173, 6, none⟩ = some (.slice A0_6 l0_6.length c0_6)) (ds := []) #[false, false, false, false, false, false, false, false, false, false, false, false, false, false] (by kernel_rfl) rfl rfl ⟨(blk_cell BK173.out 0).trans rfl, (blk_cell BK173.out 1).trans rfl, (blk_cell BK173.out 2).trans rfl, (blk_cell BK173.out 3).trans rfl, (blk_cell BK173.out 4).trans rfl, (blk_cell BK173.out 5).trans rfl, (blk_cell BK173.out 6).trans rfl⟩ (fun hHeld => ?_); refine with_tabW parts_walk_part.tab4 parts_walk_part.bits4 (fun HT_ HW_ => ?_)
        generalize w18.drew = w19 at BK172 BK173 HB hHeld ⊢
        refine pure_ (i := 0) (N := some 22) (v := ?_) (a' := ?_) #[true, false, false, false, false, false, false, false, false, false, false, false, false, false] rfl rfl (any_of HT_.out (by kernel_rfl)) (fun _ _ _ h => h) (Or.inl ⟨by rfl, ?_⟩) ?_ ?_
        rotate_left
        · intro w'
          go_simp
          with_reducible rfl
        rotate_left
        · simp only [Act.put, List.setIfInBounds_toArray, List.set_cons_zero, List.set_cons_succ, i64_w, i32_w]
          rfl
        refine pure_ (i := 1) (N := some 23) (v := ?_) (a' := ?_) #[true, true, false, false, false, false, false, false, false, false, false, false, false, false] rfl rfl (any_of HT_.out (by kernel_rfl)) (fun _ _ _ h => h) (Or.inl ⟨by rfl, ?_⟩) ?_ ?_
        rotate_left
        · intro w'
          go_simp
          with_reducible rfl
        rotate_left
        · simp only [Act.put, List.setIfInBounds_toArray, List.set_cons_zero, List.set_cons_succ, i64_w, i32_w]
          rfl
        refine pure_ (i := 2) (N := some 24) (v := ?_) (a' := ?_) #[true, true, true, false, false, false, false, false, false, false, false, false, false, false] rfl rfl (any_of HT_.out (by kernel_rfl)) (fun _ _ _ h => h) (Or.inl ⟨by rfl, ?_⟩) ?_ ?_
        rotate_left
        · intro w'
          go_simp
          with_reducible rfl
        rotate_left
        · simp only [Act.put, List.setIfInBounds_toArray, List.set_cons_zero, List.set_cons_succ, i64_w, i32_w]
          rfl
        refine pure_ (i := 4) (N := some 26) (v := ?_) (a' := ?_) #[true, true, true, false, true, false, false, false, false, false, false, false, false, false] rfl rfl (any_of HT_.out (by kernel_rfl)) (fun _ _ _ h => h) (Or.inl ⟨by rfl, ?_⟩) ?_ ?_
        rotate_left
        · intro w'
          go_simp
          with_reducible rfl
        rotate_left
        · simp only [Act.put, List.setIfInBounds_toArray, List.set_cons_zero, List.set_cons_succ, i64_w, i32_w]
          rfl
        refine pure_ (i := 5) (N := some 27) (v := ?_) (a' := ?_) #[true, true, true, false, true, true, false, false, false, false, false, false, false, false] rfl rfl (any_of HT_.out (by kernel_rfl)) (fun _ _ _ h => h) (Or.inl ⟨by rfl, ?_⟩) ?_ ?_
        rotate_left
        · intro w'
          go_simp
          with_reducible rfl
        rotate_left
        · simp only [Act.put, List.setIfInBounds_toArray, List.set_cons_zero, List.set_cons_succ, i64_w, i32_w]
          rfl
        refine pure_ (i := 6) (N := some 28) (v := ?_) (a' := ?_) #[true, true, true, false, true, true, true, false, false, false, false, false, false, false] rfl rfl (any_of HT_.out (by kernel_rfl)) (fun _ _ _ h => h) (Or.inl ⟨by rfl, ?_⟩) ?_ ?_
        rotate_left
        · intro w'
          go_simp
          with_reducible rfl
        rotate_left
        · simp only [Act.put, List.setIfInBounds_toArray, List.set_cons_zero, List.set_cons_succ, i64_w, i32_w]
          rfl
        refine pure_ (i := 8) (N := some 30) (v := ?_) (a' := ?_) #[true, true, true, false, true, true, true, false, true, false, false, false, false, false] rfl rfl (any_of HT_.out (by kernel_rfl)) (fun _ _ _ h => h) (Or.inl ⟨by rfl, ?_⟩) ?_ ?_
        rotate_left
        · intro w'
          go_simp
          with_reducible rfl
        rotate_left
        · simp only [Act.put, List.setIfInBounds_toArray, List.set_cons_zero, List.set_cons_succ, i64_w, i32_w]
          rfl
        refine pure_ (i := 9) (N := some 31) (v := ?_) (a' := ?_) #[true, true, true, false, true, true, true, false, true, true, false, false, false, false] rfl rfl (any_of HT_.out (by kernel_rfl)) (fun _ _ _ h => h) (Or.inl ⟨by rfl, ?_⟩) ?_ ?_
        rotate_left
        · intro w'
          go_simp
          with_reducible rfl
        rotate_left
        · simp only [Act.put, List.setIfInBounds_toArray, List.set_cons_zero, List.set_cons_succ, i64_w, i32_w]
          rfl
        refine pure_ (i := 10) (N := some 32) (v := ?_) (a' := ?_) #[true, true, true, false, true, true, true, false, true, true, true, false, false, false] rfl rfl (any_of HT_.out (by kernel_rfl)) (fun _ _ _ h => h) (Or.inl ⟨by rfl, ?_⟩) ?_ ?_
        rotate_left
        · intro w'
          go_simp
          with_reducible rfl
        rotate_left
        · simp only [Act.put, List.setIfInBounds_toArray, List.set_cons_zero, List.set_cons_succ, i64_w, i32_w]
          rfl
        refine take_ (i := 3) (N := some 25) (v := ?_) (a' := ?_) #[true, true, true, true, true, true, true, false, true, true, true, false, false, false] rfl rfl (take_ofW HT_.out HW_.out (by kernel_rfl)) (fun _ _ _ h => h) (Or.inl ⟨by rfl, ?_⟩) hHeld ?_ ?_
        rotate_left
        · rintro w' ⟨s0, s1, s2, s3, s4, s5, s6⟩
          go_simp
          with_reducible rfl
        rotate_left
        · simp only [Act.put, List.setIfInBounds_toArray, List.set_cons_zero, List.set_cons_succ, i64_w, i32_w]
          rfl
        refine take_ (i := 7) (N := some 29) (v := ?_) (a' := ?_) #[true, true, true, true, true, true, true, true, true, true, true, false, false, false] rfl rfl (take_ofW HT_.out HW_.out (by kernel_rfl)) (fun _ _ _ h => h) (Or.inl ⟨by rfl, ?_⟩) hHeld ?_ ?_
        rotate_left
        · rintro w' ⟨s0, s1, s2, s3, s4, s5, s6⟩
          go_simp
          with_reducible rfl
        rotate_left
        · simp only [Act.put, List.setIfInBounds_toArray, List.set_cons_zero, List.set_cons_succ, i64_w, i32_w]
          rfl
        refine take_ (i := 11) (N := some 33) (v := ?_) (a' := ?_) #[true, true, true, true, true, true, true, true, true, true, true, true, false, false] rfl rfl (take_ofW HT_.out HW_.out (by kernel_rfl)) (fun _ _ _ h => h) (Or.inl ⟨by rfl, ?_⟩) hHeld ?_ ?_
        rotate_left
        · rintro w' ⟨s0, s1, s2, s3, s4, s5, s6⟩
          go_simp
          with_reducible rfl
        rotate_left
        · simp only [Act.put, List.setIfInBounds_toArray, List.set_cons_zero, List.set_cons_succ, i64_w, i32_w]
          rfl
        refine one_ (i := 12) (N := some 34) #[true, true, true, true, true, true, true, true, true, true, true, true, true, false] rfl rfl (one_of HT_.out (by kernel_rfl)) (by decide) (fun K hK => ?_)
        refine goes_ Try.func33 (by kernel_rfl) rfl #[.agg #[.int .i64 a0_0, .slice A0_1 l0_1.length c0_1, .slice A0_2 l0_2.length c0_2, .slice A0_3 l0_3.length c0_3], .int .i64 a0_4, .slice A0_6 l0_6.length c0_6] (by rfl) rfl rfl (by (try simp only [List.map_toArray, List.map_cons, List.map_nil]); first | done | rfl | (simp only [List.length_drop, List.length_take]; rfl)) ?_
        with_reducible refine (flow_Value.calls k a0_0 _ _ l0_1 _ _ l0_2 _ _ l0_3 a0_4 _ _ l0_6 t175 _ ?side1 ?side2 ?side3 ?side4 ?side5 ?side6 ?side7 ?side8 A10.out).mono ?_
        (case side1 => repeat (first | exact (Kd.C_below HR0_1.out HB.out) | (with_reducible refine Kd.C_alloc ?_ _) | (with_reducible refine Kd.C_drewN ?_ _) | (with_reducible refine Kd.C_drew ?_)))
        (case side2 => exact HC0_1.out)
        (case side3 => repeat (first | exact (Kd.C_below HR0_2.out HB.out) | (with_reducible refine Kd.C_alloc ?_ _) | (with_reducible refine Kd.C_drewN ?_ _) | (with_reducible refine Kd.C_drew ?_)))
        (case side4 => exact HC0_2.out)
        (case side5 => repeat (first | exact (Kd.C_below HR0_3.out HB.out) | (with_reducible refine Kd.C_alloc ?_ _) | (with_reducible refine Kd.C_drewN ?_ _) | (with_reducible refine Kd.C_drew ?_)))
        (case side6 => exact HC0_3.out)
        (case side7 => repeat (first | exact (Kd.C_below HR0_6.out HB.out) | (with_reducible refine Kd.C_alloc ?_ _) | (with_reducible refine Kd.C_drewN ?_ _) | (with_reducible refine Kd.C_drew ?_)))
        (case side8 => exact HC0_6.out)
        rintro e w20 ⟨rfl, hb⟩
        refine ⟨_, rfl, ?_⟩
        have n0_ := Aside0.mk (blk_below (g := gb172) (o := .cells #[.bool false, .int .i64 0, .slice none 0 0] 28 (0, 0)) (by (with_reducible repeat (first | refine blk_drewN ?_ _ | refine blk_drew ?_ | refine blk_alloc ?_ _)); exact BK172.out) hb)
        have n1_ := Aside0.mk (blk_below (g := gb173) (o := .cells #[.int .i64 a0_0, .slice A0_1 l0_1.length c0_1, .slice A0_2 l0_2.length c0_2, .slice A0_3 l0_3.length c0_3, .int .i64 a0_4, .int .i64 a0_5, .slice A0_6 l0_6.length c0_6] 50 (0, 0)) (by (with_reducible repeat (first | refine blk_drewN ?_ _ | refine blk_drew ?_ | refine blk_alloc ?_ _)); exact BK173.out) hb)
        have n2_ := Aside0.mk (below_step (by repeat (first | (with_reducible first | exact HB.out | apply below_alloc | apply pw_below_drewN | apply below_drew1 | refine below_set ?_ GE172.out | refine below_set ?_ GE173.out) | exact HB.out)) hb)
        clear BK172
        clear BK173
        clear HB
        have BK172 := n0_
        have BK173 := n1_
        have HB := n2_
        clear n0_ n1_ n2_
        (try clear hb)
        (try clear hb2)
        (try clear hk)
        (try clear hi)
        refine hK.out _ _ ⟨(blk_cell BK173.out 0).trans rfl, (blk_cell BK173.out 1).trans rfl, (blk_cell BK173.out 2).trans rfl, (blk_cell BK173.out 3).trans rfl, (blk_cell BK173.out 4).trans rfl, (blk_cell BK173.out 5).trans rfl, (blk_cell BK173.out 6).trans rfl⟩ (fun hHeld => ?_)
        clear hK K
        refine norm_ (a' := ?_) ?_ ?_
        rotate_left
        · show Act.put _ (some 34) _ = _
          simp only [Act.put, List.setIfInBounds_toArray, List.set_cons_zero, List.set_cons_succ, i64_w, i32_w]
          rfl
        refine pure_ (i := 13) (N := some 5) (v := ?_) (a' := ?_) #[true, true, true, true, true, true, true, true, true, true, true, true, true, true] rfl rfl (any_of HT_.out (by kernel_rfl)) (fun _ _ _ h => h) (Or.inl ⟨by rfl, ?_⟩) ?_ ?_
        rotate_left
        · intro w'
          go_simp
          with_reducible rfl
        rotate_left
        · simp only [Act.put, List.setIfInBounds_toArray, List.set_cons_zero, List.set_cons_succ, i64_w, i32_w]
          rfl
        refine done_ (done_of HT_.out (by kernel_rfl)) ?_
        have hcz21_0 : w20.cell? ⟨gb173, 0, none⟩ = some (.int .i64 a0_0) := (blk_cell BK173.out 0).trans rfl
        have hcz21_1 : w20.cell? ⟨gb173, 1, none⟩ = some (.slice A0_1 l0_1.length c0_1) := (blk_cell BK173.out 1).trans rfl
        have hcz21_2 : w20.cell? ⟨gb173, 2, none⟩ = some (.slice A0_2 l0_2.length c0_2) := (blk_cell BK173.out 2).trans rfl
        have hcz21_3 : w20.cell? ⟨gb173, 3, none⟩ = some (.slice A0_3 l0_3.length c0_3) := (blk_cell BK173.out 3).trans rfl
        have hcz21_4 : w20.cell? ⟨gb173, 4, none⟩ = some (.int .i64 a0_4) := (blk_cell BK173.out 4).trans rfl
        have hcz21_5 : w20.cell? ⟨gb173, 5, none⟩ = some (.int .i64 a0_5) := (blk_cell BK173.out 5).trans rfl
        have hcz21_6 : w20.cell? ⟨gb173, 6, none⟩ = some (.slice A0_6 l0_6.length c0_6) := (blk_cell BK173.out 6).trans rfl
        have hfz21_0 := blk_frozen BK173.out 0
        have hfz21_1 := blk_frozen BK173.out 1
        have hfz21_2 := blk_frozen BK173.out 2
        have hfz21_3 := blk_frozen BK173.out 3
        have hfz21_4 := blk_frozen BK173.out 4
        have hfz21_5 := blk_frozen BK173.out 5
        have hfz21_6 := blk_frozen BK173.out 6
        have p176 : 0 ≤ (t174 : Int) := of_decide_eq_true (by first | (with_reducible assumption) | assumption)
        have q176 : t174 < (l0_1.length : Int) := of_decide_eq_true (by first | (with_reducible assumption) | assumption)
        obtain ⟨ad176, e176, hx176_0⟩ := Kd.at_int HR0_1.out t174 p176 q176
        cases e176
        replace hx176_0 := (HB.out.cell (World.block_lt_of_cell? w _ hx176_0)).trans hx176_0
        replace p176 := eq_true p176
        replace q176 := eq_true q176
        go_upto_if 44 with (fail)
        go_cut [6] (fun v6 wc => ∃ (kq : Nat) (x6_12 : Int), v6 = .int .i64 x6_12 ∧ Aside0 (parts_walk_part.j0 kq t175 x6_12 a0_0 l0_1 l0_2 l0_3 a0_4 a0_5 l0_6 = some (r1, r2, r3, r4)) ∧ Aside0 (kq ≤ k) ∧ Aside0 (wc.heap[gb172]? = some (.cells #[.bool false, .int .i64 0, (.slice none 0 0)] 28 (0, 0))) ∧ Aside0 (wc.heap[gb173]? = some (.cells #[.int .i64 a0_0, (.slice (some ad176) l0_1.length c0_1), (.slice A0_2 l0_2.length c0_2), (.slice A0_3 l0_3.length c0_3), .int .i64 a0_4, .int .i64 a0_5, (.slice A0_6 l0_6.length c0_6)] 50 (0, 0))) ∧ Aside0 (Below w.heap.size w wc))
        case first =>
          have H := HC13.out
          clear HC13
          by_cases c22 : t175 > 0
          · rw [if_pos c22] at H
            have c22b0 : decide (0 < t175) = true := decide_eq_true c22
            clear c22
            (first | rw [c22b0] | (simp only [i64_w, i32_w]; rw [c22b0]) | skip)
            have H' := Aside0.mk H
            clear H
            have hnb23 := NB173_172.out
            have hnc23 := NB172_173.out
            have hcz24_0 : w20.cell? ⟨gb173, 0, none⟩ = some (.int .i64 a0_0) := (blk_cell BK173.out 0).trans rfl
            have hcz24_1 : w20.cell? ⟨gb173, 1, none⟩ = some (.slice (some ad176) l0_1.length c0_1) := (blk_cell BK173.out 1).trans rfl
            have hcz24_2 : w20.cell? ⟨gb173, 2, none⟩ = some (.slice A0_2 l0_2.length c0_2) := (blk_cell BK173.out 2).trans rfl
            have hcz24_3 : w20.cell? ⟨gb173, 3, none⟩ = some (.slice A0_3 l0_3.length c0_3) := (blk_cell BK173.out 3).trans rfl
            have hcz24_4 : w20.cell? ⟨gb173, 4, none⟩ = some (.int .i64 a0_4) := (blk_cell BK173.out 4).trans rfl
            have hcz24_5 : w20.cell? ⟨gb173, 5, none⟩ = some (.int .i64 a0_5) := (blk_cell BK173.out 5).trans rfl
            have hcz24_6 : w20.cell? ⟨gb173, 6, none⟩ = some (.slice A0_6 l0_6.length c0_6) := (blk_cell BK173.out 6).trans rfl
            have hfz24_0 := blk_frozen BK173.out 0
            have hfz24_1 := blk_frozen BK173.out 1
            have hfz24_2 := blk_frozen BK173.out 2
            have hfz24_3 := blk_frozen BK173.out 3
            have hfz24_4 := blk_frozen BK173.out 4
            have hfz24_5 := blk_frozen BK173.out 5
            have hfz24_6 := blk_frozen BK173.out 6
            go_wp2
            go_meet
            case rel => exact ⟨_, (a0_4), (by first | rfl | (simp; done) | (simp [*]; done)), H', ⟨by first | omega | exact Nat.le_refl _⟩, ⟨by (with_reducible repeat (first | refine blk_drewN ?_ _ | refine blk_drew ?_ | refine blk_alloc ?_ _)); exact BK172.out⟩, ⟨by (with_reducible repeat (first | refine blk_drewN ?_ _ | refine blk_drew ?_ | refine blk_alloc ?_ _)); exact BK173.out⟩, ⟨by repeat (first | (with_reducible first | exact HB.out | apply below_alloc | apply pw_below_drewN | apply below_drew1 | refine below_set ?_ GE172.out | refine below_set ?_ GE173.out) | exact HB.out)⟩⟩
          · rw [if_neg c22] at H
            have c22b0 : decide (0 < t175) = false := decide_eq_false c22
            clear c22
            (first | rw [c22b0] | (simp only [i64_w, i32_w]; rw [c22b0]) | skip)
            have H' := Aside0.mk H
            clear H
            go_wp2
            go_meet
            case rel => exact ⟨_, (rd l0_1 t174), (by first | rfl | (simp; done) | (simp [*]; done)), H', ⟨by first | omega | exact Nat.le_refl _⟩, ⟨by (with_reducible repeat (first | refine blk_drewN ?_ _ | refine blk_drew ?_ | refine blk_alloc ?_ _)); exact BK172.out⟩, ⟨by (with_reducible repeat (first | refine blk_drewN ?_ _ | refine blk_drew ?_ | refine blk_alloc ?_ _)); exact BK173.out⟩, ⟨by repeat (first | (with_reducible first | exact HB.out | apply below_alloc | apply pw_below_drewN | apply below_drew1 | refine below_set ?_ GE172.out | refine below_set ?_ GE173.out) | exact HB.out)⟩⟩
        case rest =>
          clear HC13
          try clear c1
          try clear p1
          try clear q1
          try clear hx1
          try clear c2
          try clear p2
          try clear c3
          try clear c3b0
          try clear c6
          try clear c9
          try clear c11
          try clear c11b0
          try clear c12
          try clear c12b0
          try clear c16
          try clear p17
          try clear q17
          try clear hx17
          try clear c19
          try clear c22
          try clear c22b0
          try clear c23
          try clear hcz17_0
          try clear hcz17_1
          try clear hcz17_2
          try clear hcz17_3
          try clear hcz17_4
          try clear hcz17_5
          try clear hcz17_6
          try clear hcz21_0
          try clear hcz21_1
          try clear hcz21_2
          try clear hcz21_3
          try clear hcz21_4
          try clear hcz21_5
          try clear hcz21_6
          try clear hcz24_0
          try clear hcz24_1
          try clear hcz24_2
          try clear hcz24_3
          try clear hcz24_4
          try clear hcz24_5
          try clear hcz24_6
          try clear hcz7_0
          try clear hcz7_1
          try clear hcz7_2
          try clear hcz7_3
          try clear hcz7_4
          try clear hcz7_5
          try clear hcz7_6
          try clear hcz9_0
          try clear hcz9_1
          try clear hcz9_2
          try clear hfz17_0
          try clear hfz17_1
          try clear hfz17_2
          try clear hfz17_3
          try clear hfz17_4
          try clear hfz17_5
          try clear hfz17_6
          try clear hfz21_0
          try clear hfz21_1
          try clear hfz21_2
          try clear hfz21_3
          try clear hfz21_4
          try clear hfz21_5
          try clear hfz21_6
          try clear hfz24_0
          try clear hfz24_1
          try clear hfz24_2
          try clear hfz24_3
          try clear hfz24_4
          try clear hfz24_5
          try clear hfz24_6
          try clear hfz7_0
          try clear hfz7_1
          try clear hfz7_2
          try clear hfz7_3
          try clear hfz7_4
          try clear hfz7_5
          try clear hfz7_6
          try clear hfz9_0
          try clear hfz9_1
          try clear hfz9_2
          try clear hx176_0
          try clear p176
          try clear q176
          obtain ⟨kq, x6_12, rfl, HA, HJ12, BK172, BK173, HB⟩ := hcut
          cases kq with
          | zero => exact absurd HA.out (by simp [parts_walk_part.j0])
          | succ kj12 =>
            have H := HA.out
            clear HA
            simp only [parts_walk_part.j0] at H
            obtain ⟨y177, hy177⟩ : ∃ y_ : List Int, y_ = (([x6_12] : List Int)) := ⟨_, rfl⟩
            replace H : (parts_walk_part.l0 kj12 t175 x6_12 ([] : List Int) y177 (-1) a0_0 l0_1 l0_2 l0_3 a0_4 a0_5 l0_6) = some (r1, r2, r3, r4) := by first | (rw [hy177]; with_reducible exact H) | (have H2_ := (Option.bind_some _ _).symm.trans H; rw [hy177]; with_reducible exact H2_) | (have H2_ := (Option.bind_some _ _).symm.trans H; with_reducible exact H2_) | with_reducible exact H | (rw [hy177]; exact H) | exact H
            have Ny177 := Aside0.mk hy177
            clear hy177
            have H' := Aside0.mk H
            clear H
            go_wp2_with (first | ((with_reducible refine gate_dst (N := 50) rfl ?_); refine Kd.R_lit (Kd.int .i64) _ 3 ?hg (N := 50) ?hd (xs := ([x6_12] : List Int)) (inner := [.int .i64 x6_12]) (ok := fun _ => True) (okp := fun _ => True) ?hr ?hp (fun _ hk => hk) trivial (Below.refl _ _) (Nat.le_refl _) (by simp) ?_; (case hd => rfl); (case hg => rfl); (case hr => first | (go_simp; done) | (go_simp; rfl)); (case hp => exact (Reps.one (show Kd.M (Kd.int .i64) _ _ _ x6_12 [.int .i64 x6_12] from rfl) (Reps.none _ _))); intro v178 w25 ho26 hb hg_ hnew_; clear hg_ hnew_; (first | rw [← Ny177.out] at ho26 | (simp only [Int.reduceToNat] at ho26; rw [← Ny177.out] at ho26)); have n0_ := Aside0.mk (Kd.R_lower ho26 (below_size (by repeat (first | (with_reducible first | exact HB.out | apply below_alloc | apply pw_below_drewN | apply below_drew1 | refine below_set ?_ GE172.out | refine below_set ?_ GE173.out) | exact HB.out)))); have n1_ := Aside0.mk (blk_below (g := gb172) (o := .cells #[.bool false, .int .i64 0, .slice none 0 0] 28 (0, 0)) (by (with_reducible repeat (first | refine blk_drewN ?_ _ | refine blk_drew ?_ | refine blk_alloc ?_ _)); exact BK172.out) hb); have n2_ := Aside0.mk (blk_below (g := gb173) (o := .cells #[.int .i64 a0_0, .slice (some ad176) l0_1.length c0_1, .slice A0_2 l0_2.length c0_2, .slice A0_3 l0_3.length c0_3, .int .i64 a0_4, .int .i64 a0_5, .slice A0_6 l0_6.length c0_6] 50 (0, 0)) (by (with_reducible repeat (first | refine blk_drewN ?_ _ | refine blk_drew ?_ | refine blk_alloc ?_ _)); exact BK173.out) hb); have n3_ := Aside0.mk (below_step (by repeat (first | (with_reducible first | exact HB.out | apply below_alloc | apply pw_below_drewN | apply below_drew1 | refine below_set ?_ GE172.out | refine below_set ?_ GE173.out) | exact HB.out)) hb); clear BK172; clear BK173; clear HB; have HO179 := n0_; have BK172 := n1_; have BK173 := n2_; have HB := n3_; clear n0_ n1_ n2_ n3_; clear hb ho26))
            go_step3
            go_wp2
            go_loopg [6, 7, 8, 9] kj12 (fun kq v6 v7 v8 v9 w' => ∃ (x6_2 : Int) (x7_2 : List Int) (x8_2 : List Int) (x9_2 : Int) (x173000_2 : Bool) (x173001_2 : Int), v6 = .int .i64 x6_2 ∧ v9 = .int .i64 x9_2 ∧ Aside0 (parts_walk_part.l0 kq t175 x6_2 x7_2 x8_2 x9_2 a0_0 l0_1 l0_2 l0_3 a0_4 a0_5 l0_6 = some (r1, r2, r3, r4)) ∧ Aside0 (kq ≤ kj12) ∧ Aside0 (Kd.R (Kd.int .i64) 3 w' w.heap.size (fun k_ => some k_ ≠ (v8 : Value).ownBlock) v7 x7_2) ∧ Aside0 (Kd.R (Kd.int .i64) 3 w' w.heap.size (fun k_ => some k_ ≠ (v7 : Value).ownBlock) v8 x8_2) ∧ Aside0 (w'.heap[gb172]? = some (.cells #[.bool x173000_2, .int .i64 x173001_2, (.slice none 0 0)] 28 (0, 0))) ∧ Aside0 (w'.heap[gb173]? = some (.cells #[.int .i64 a0_0, (.slice (some ad176) l0_1.length c0_1), (.slice A0_2 l0_2.length c0_2), (.slice A0_3 l0_3.length c0_3), .int .i64 a0_4, .int .i64 a0_5, (.slice A0_6 l0_6.length c0_6)] 50 (0, 0))) ∧ Aside0 (Below w.heap.size w w'))
            case atStart => exact ⟨(x6_12), (([] : List Int)), (y177), ((-1)), (false), (0), (by first | rfl | (simp; done) | (simp [*]; done)), (by first | rfl | (simp; done) | (simp [*]; done)), H', ⟨Nat.le_refl _⟩, ⟨by first | exact Kd.R_nil _ _ _ _ _ | exact Kd.N_nil _ _ _ _ _ | exact Kd.V_nil _ _ _ _ _ | exact Kd.Q_nil _ _ _ _ _ | exact Kd.S_nil _ _ _ _ _⟩, ⟨by (with_reducible repeat (first | apply Kd.R_alloc | apply Kd.R_drewN | apply Kd.R_drew)); exact Kd.R_mono HO179.out (fun _ hk => (by simp [Value.ownBlock]))⟩, ⟨by (with_reducible repeat (first | refine blk_drewN ?_ _ | refine blk_drew ?_ | refine blk_alloc ?_ _)); exact BK172.out⟩, ⟨by (with_reducible repeat (first | refine blk_drewN ?_ _ | refine blk_drew ?_ | refine blk_alloc ?_ _)); exact BK173.out⟩, ⟨by repeat (first | (with_reducible first | exact HB.out | apply below_alloc | apply pw_below_drewN | apply below_drew1 | refine below_set ?_ GE172.out | refine below_set ?_ GE173.out) | exact HB.out)⟩⟩
            case round =>
              clear H'
              try clear c1
              try clear p1
              try clear q1
              try clear hx1
              try clear c2
              try clear p2
              try clear c3
              try clear c3b0
              try clear c6
              try clear c9
              try clear c11
              try clear c11b0
              try clear c12
              try clear c12b0
              try clear c16
              try clear p17
              try clear q17
              try clear hx17
              try clear c19
              try clear c22
              try clear c22b0
              try clear c23
              try clear hcz17_0
              try clear hcz17_1
              try clear hcz17_2
              try clear hcz17_3
              try clear hcz17_4
              try clear hcz17_5
              try clear hcz17_6
              try clear hcz21_0
              try clear hcz21_1
              try clear hcz21_2
              try clear hcz21_3
              try clear hcz21_4
              try clear hcz21_5
              try clear hcz21_6
              try clear hcz24_0
              try clear hcz24_1
              try clear hcz24_2
              try clear hcz24_3
              try clear hcz24_4
              try clear hcz24_5
              try clear hcz24_6
              try clear hcz7_0
              try clear hcz7_1
              try clear hcz7_2
              try clear hcz7_3
              try clear hcz7_4
              try clear hcz7_5
              try clear hcz7_6
              try clear hcz9_0
              try clear hcz9_1
              try clear hcz9_2
              try clear hfz17_0
              try clear hfz17_1
              try clear hfz17_2
              try clear hfz17_3
              try clear hfz17_4
              try clear hfz17_5
              try clear hfz17_6
              try clear hfz21_0
              try clear hfz21_1
              try clear hfz21_2
              try clear hfz21_3
              try clear hfz21_4
              try clear hfz21_5
              try clear hfz21_6
              try clear hfz24_0
              try clear hfz24_1
              try clear hfz24_2
              try clear hfz24_3
              try clear hfz24_4
              try clear hfz24_5
              try clear hfz24_6
              try clear hfz7_0
              try clear hfz7_1
              try clear hfz7_2
              try clear hfz7_3
              try clear hfz7_4
              try clear hfz7_5
              try clear hfz7_6
              try clear hfz9_0
              try clear hfz9_1
              try clear hfz9_2
              try clear hx176_0
              try clear p1
              try clear p17
              try clear p176
              try clear p2
              try clear q1
              try clear q17
              try clear q176
              obtain ⟨x6_2, x7_2, x8_2, x9_2, x173000_2, x173001_2, rfl, rfl, HA, HK2, HO_7, HO_8, BK172, BK173, HB⟩ := hrel
              cases gk with
              | zero => exact absurd HA.out (by simp [parts_walk_part.l0])
              | succ k2 =>
                have H := HA.out
                clear HA
                simp only [parts_walk_part.l0] at H
                by_cases c27 : x9_2 < 0
                · rw [if_pos c27] at H
                  have c27b0 : decide (x9_2 < 0) = true := decide_eq_true c27
                  clear c27
                  replace H := Option.bind_eq_some_iff.mp H
                  obtain ⟨t187, A280, H⟩ := H
                  replace H : (if t187 < 0 then (some (false, 0, ([] : List Int), false)) else (if x7_2.length < 17592186044416 then ((some (x7_2 ++ [t187] : List Int)).bind fun y188 => ((rot_Head.f a0_0 l0_1 l0_2 l0_3 t187).bind fun t191 => (if t191 = a0_5 then (if t175 > 0 then (if 0 ≤ (mx x9_2 0) then (if (mx x9_2 0) ≤ (y188.length : Int) then ((slices_Clone_int_int.f (y188.drop ((mx x9_2 0) : Int).toNat)).bind fun t196 => (parts_tail x9_2 t175 t196 l0_6)) else (none)) else (none)) else ((slices_Index_int_int.f k2 x8_2 t191).bind fun t199 => (if x8_2.length < 17592186044416 then (parts_walk_part.l0 k2 t175 t191 y188 (x8_2 ++ [t191]) t199 a0_0 l0_1 l0_2 l0_3 a0_4 a0_5 l0_6) else (none)))) else ((slices_Index_int_int.f k2 x8_2 t191).bind fun t203 => (if x8_2.length < 17592186044416 then (parts_walk_part.l0 k2 t175 t191 y188 (x8_2 ++ [t191]) t203 a0_0 l0_1 l0_2 l0_3 a0_4 a0_5 l0_6) else (none)))))) else (none))) = some (r1, r2, r3, r4) := H
                  have A28 := Aside0.mk A280
                  clear A280
                  by_cases c29 : t187 < 0
                  · rw [if_pos c29] at H
                    have c29b0 : decide (t187 < 0) = true := decide_eq_true c29
                    clear c29
                    simp only [Option.some.injEq, Prod.mk.injEq] at H
                    obtain ⟨rfl, rfl, rfl, rfl⟩ := H
                    have hnb30 := NB173_172.out
                    have hnc30 := NB172_173.out
                    have hcz31_0 : wr.cell? ⟨gb173, 0, none⟩ = some (.int .i64 a0_0) := (blk_cell BK173.out 0).trans rfl
                    have hcz31_1 : wr.cell? ⟨gb173, 1, none⟩ = some (.slice (some ad176) l0_1.length c0_1) := (blk_cell BK173.out 1).trans rfl
                    have hcz31_2 : wr.cell? ⟨gb173, 2, none⟩ = some (.slice A0_2 l0_2.length c0_2) := (blk_cell BK173.out 2).trans rfl
                    have hcz31_3 : wr.cell? ⟨gb173, 3, none⟩ = some (.slice A0_3 l0_3.length c0_3) := (blk_cell BK173.out 3).trans rfl
                    have hcz31_4 : wr.cell? ⟨gb173, 4, none⟩ = some (.int .i64 a0_4) := (blk_cell BK173.out 4).trans rfl
                    have hcz31_5 : wr.cell? ⟨gb173, 5, none⟩ = some (.int .i64 a0_5) := (blk_cell BK173.out 5).trans rfl
                    have hcz31_6 : wr.cell? ⟨gb173, 6, none⟩ = some (.slice A0_6 l0_6.length c0_6) := (blk_cell BK173.out 6).trans rfl
                    have hfz31_0 := blk_frozen BK173.out 0
                    have hfz31_1 := blk_frozen BK173.out 1
                    have hfz31_2 := blk_frozen BK173.out 2
                    have hfz31_3 := blk_frozen BK173.out 3
                    have hfz31_4 := blk_frozen BK173.out 4
                    have hfz31_5 := blk_frozen BK173.out 5
                    have hfz31_6 := blk_frozen BK173.out 6
                    go_wp2_with (first | ((with_reducible refine gate_callee (f := 34) rfl ?_); refine goesL_ (some 55) rfl rfl Try.func34 (by kernel_rfl) rfl #[.pointer (some ⟨gb173, 0, none⟩), .int .i64 x6_2] rfl (by (try simp only [List.map_toArray, List.map_cons, List.map_nil]); first | done | rfl | (simp only [List.length_drop, List.length_take]; rfl)) ?_; (with_reducible refine (parts_walk_out.calls k2 a0_0 _ _ l0_1 _ _ l0_2 _ _ l0_3 a0_4 a0_5 _ _ l0_6 x6_2 t187 _ ?side1 ?side2 ?side3 ?side4 ?side5 ?side6 ?side7 ?side8 A28.out _ BK173.out).mono ?_); (case side1 => repeat (first | exact (Kd.C_below HR0_1.out HB.out) | (with_reducible refine Kd.C_alloc ?_ _) | (with_reducible refine Kd.C_drewN ?_ _) | (with_reducible refine Kd.C_drew ?_))); (case side2 => exact HC0_1.out); (case side3 => repeat (first | exact (Kd.C_below HR0_2.out HB.out) | (with_reducible refine Kd.C_alloc ?_ _) | (with_reducible refine Kd.C_drewN ?_ _) | (with_reducible refine Kd.C_drew ?_))); (case side4 => exact HC0_2.out); (case side5 => repeat (first | exact (Kd.C_below HR0_3.out HB.out) | (with_reducible refine Kd.C_alloc ?_ _) | (with_reducible refine Kd.C_drewN ?_ _) | (with_reducible refine Kd.C_drew ?_))); (case side6 => exact HC0_3.out); (case side7 => repeat (first | exact (Kd.C_below HR0_6.out HB.out) | (with_reducible refine Kd.C_alloc ?_ _) | (with_reducible refine Kd.C_drewN ?_ _) | (with_reducible refine Kd.C_drew ?_))); (case side8 => exact HC0_6.out); rintro e w32 ⟨rfl, hb⟩; refine ⟨_, rfl, ?_⟩; have n0_ := Aside0.mk (Kd.R_below (by (with_reducible repeat (first | apply Kd.R_alloc | apply Kd.R_drewN | apply Kd.R_drew)); exact HO_7.out) hb); have n1_ := Aside0.mk (Kd.R_below (by (with_reducible repeat (first | apply Kd.R_alloc | apply Kd.R_drewN | apply Kd.R_drew)); exact HO_8.out) hb); have n2_ := Aside0.mk (blk_below (g := gb172) (o := .cells #[.bool x173000_2, .int .i64 x173001_2, .slice none 0 0] 28 (0, 0)) (by (with_reducible repeat (first | refine blk_drewN ?_ _ | refine blk_drew ?_ | refine blk_alloc ?_ _)); exact BK172.out) hb); have n3_ := Aside0.mk (blk_below (g := gb173) (o := .cells #[.int .i64 a0_0, .slice (some ad176) l0_1.length c0_1, .slice A0_2 l0_2.length c0_2, .slice A0_3 l0_3.length c0_3, .int .i64 a0_4, .int .i64 a0_5, .slice A0_6 l0_6.length c0_6] 50 (0, 0)) (by (with_reducible repeat (first | refine blk_drewN ?_ _ | refine blk_drew ?_ | refine blk_alloc ?_ _)); exact BK173.out) hb); have n4_ := Aside0.mk (below_step (by repeat (first | (with_reducible first | exact HB.out | apply below_alloc | apply pw_below_drewN | apply below_drew1 | refine below_set ?_ GE172.out | refine below_set ?_ GE173.out) | exact HB.out)) hb); clear HO_7; clear HO_8; clear BK172; clear BK173; clear HB; have HO_7 := n0_; have HO_8 := n1_; have BK172 := n2_; have BK173 := n3_; have HB := n4_; clear n0_ n1_ n2_ n3_ n4_; (try clear hb); (try clear hb2); (try clear hk); (try clear hi); have hcz33_0 : w32.cell? ⟨gb172, 0, none⟩ = some (.bool x173000_2) := (blk_cell BK172.out 0).trans rfl; have hcz33_1 : w32.cell? ⟨gb172, 1, none⟩ = some (.int .i64 x173001_2) := (blk_cell BK172.out 1).trans rfl; have hcz33_2 : w32.cell? ⟨gb172, 2, none⟩ = some (.slice none 0 0) := (blk_cell BK172.out 2).trans rfl; have hfz33_0 := blk_frozen BK172.out 0; have hfz33_1 := blk_frozen BK172.out 1; have hfz33_2 := blk_frozen BK172.out 2))
                    try rw [Exit.noGoto_ret]
                    (try simp only [Exit.inBlock, Exit.then])
                    refine bodyPost_ret (results_ct rfl _ _ gb172 28 #[.bool false, .int .i64 0, .slice none 0 0] (0, 0) _ rfl (by (with_reducible repeat (first | refine blk_drewN ?_ _ | refine blk_drew ?_ | refine blk_alloc ?_ _)); refine blk_put (cs := #[.bool false, .int .i64 0, .slice none 0 0]) ?_ 2 _ rfl; (with_reducible repeat (first | refine blk_drewN ?_ _ | refine blk_drew ?_ | refine blk_alloc ?_ _)); refine blk_put (cs := #[.bool false, .int .i64 x173001_2, .slice none 0 0]) ?_ 1 _ rfl; (with_reducible repeat (first | refine blk_drewN ?_ _ | refine blk_drew ?_ | refine blk_alloc ?_ _)); refine blk_put (cs := #[.bool x173000_2, .int .i64 x173001_2, .slice none 0 0]) ?_ 0 _ rfl; (with_reducible repeat (first | refine blk_drewN ?_ _ | refine blk_drew ?_ | refine blk_alloc ?_ _)); exact BK172.out) Try.underlying28 rfl (by kernel_rfl)) rfl ?_
                    exact ⟨_, by first | rfl | (simp [errW_none, errW_some] <;> rfl) | (simp [*, errW_none, errW_some] <;> rfl), by first | exact Kd.R_nil _ _ _ _ _ | exact Kd.N_nil _ _ _ _ _ | exact Kd.V_nil _ _ _ _ _ | exact Kd.Q_nil _ _ _ _ _ | exact Kd.S_nil _ _ _ _ _, by repeat (first | (with_reducible first | exact HB.out | apply below_alloc | apply pw_below_drewN | apply below_drew1 | refine below_set ?_ GE172.out | refine below_set ?_ GE173.out) | exact HB.out)⟩
                  · rw [if_neg c29] at H
                    have c29b0 : decide (t187 < 0) = false := decide_eq_false c29
                    clear c29
                    by_cases c34 : x7_2.length < 17592186044416
                    · rw [if_pos c34] at H
                      have LMc34 := Aside0.mk c34
                      clear c34
                      obtain ⟨y188, hy188⟩ : ∃ y_ : List Int, y_ = (x7_2 ++ [t187]) := ⟨_, rfl⟩
                      replace H : ((rot_Head.f a0_0 l0_1 l0_2 l0_3 t187).bind fun t191 => (if t191 = a0_5 then (if t175 > 0 then (if 0 ≤ (mx x9_2 0) then (if (mx x9_2 0) ≤ (y188.length : Int) then ((slices_Clone_int_int.f (y188.drop ((mx x9_2 0) : Int).toNat)).bind fun t196 => (parts_tail x9_2 t175 t196 l0_6)) else (none)) else (none)) else ((slices_Index_int_int.f k2 x8_2 t191).bind fun t199 => (if x8_2.length < 17592186044416 then (parts_walk_part.l0 k2 t175 t191 y188 (x8_2 ++ [t191]) t199 a0_0 l0_1 l0_2 l0_3 a0_4 a0_5 l0_6) else (none)))) else ((slices_Index_int_int.f k2 x8_2 t191).bind fun t203 => (if x8_2.length < 17592186044416 then (parts_walk_part.l0 k2 t175 t191 y188 (x8_2 ++ [t191]) t203 a0_0 l0_1 l0_2 l0_3 a0_4 a0_5 l0_6) else (none))))) = some (r1, r2, r3, r4) := by first | (rw [hy188]; with_reducible exact H) | (have H2_ := (Option.bind_some _ _).symm.trans H; rw [hy188]; with_reducible exact H2_) | (have H2_ := (Option.bind_some _ _).symm.trans H; with_reducible exact H2_) | with_reducible exact H | (rw [hy188]; exact H) | exact H
                      have Ny188 := Aside0.mk hy188
                      clear hy188
                      replace H := Option.bind_eq_some_iff.mp H
                      obtain ⟨t191, A350, H⟩ := H
                      replace H : (if t191 = a0_5 then (if t175 > 0 then (if 0 ≤ (mx x9_2 0) then (if (mx x9_2 0) ≤ (y188.length : Int) then ((slices_Clone_int_int.f (y188.drop ((mx x9_2 0) : Int).toNat)).bind fun t196 => (parts_tail x9_2 t175 t196 l0_6)) else (none)) else (none)) else ((slices_Index_int_int.f k2 x8_2 t191).bind fun t199 => (if x8_2.length < 17592186044416 then (parts_walk_part.l0 k2 t175 t191 y188 (x8_2 ++ [t191]) t199 a0_0 l0_1 l0_2 l0_3 a0_4 a0_5 l0_6) else (none)))) else ((slices_Index_int_int.f k2 x8_2 t191).bind fun t203 => (if x8_2.length < 17592186044416 then (parts_walk_part.l0 k2 t175 t191 y188 (x8_2 ++ [t191]) t203 a0_0 l0_1 l0_2 l0_3 a0_4 a0_5 l0_6) else (none)))) = some (r1, r2, r3, r4) := H
                      have A35 := Aside0.mk A350
                      clear A350
                      by_cases c36 : t191 = a0_5
                      · rw [if_pos c36] at H
                        have c36b0 : (t191 == a0_5) = true := beq_iff_eq.mpr c36
                        have c36b1 : (t191 != a0_5) = false := bne_eq_false_iff_eq.mpr c36
                        clear c36
                        by_cases c37 : t175 > 0
                        · rw [if_pos c37] at H
                          have c37b0 : decide (0 < t175) = true := decide_eq_true c37
                          clear c37
                          obtain ⟨ji38, hji38⟩ : ∃ j_ : Int, (mx x9_2 0) = j_ := ⟨_, rfl⟩
                          replace H : (if 0 ≤ (ji38) then (if (ji38) ≤ (y188.length : Int) then ((slices_Clone_int_int.f (y188.drop ((ji38) : Int).toNat)).bind fun t196 => (parts_tail x9_2 t175 t196 l0_6)) else (none)) else (none)) = some (r1, r2, r3, r4) := by first | (rw [hji38] at H; exact H) | (simp only [hji38] at H ⊢; exact H)
                          (try rw [hji38] at A28)
                          (try rw [hji38] at A35)
                          have hji38_ : (if x9_2 < 0 then 0 else x9_2) = ji38 := hji38
                          by_cases c39 : 0 ≤ (ji38)
                          · rw [if_pos c39] at H
                            have c39b0 := eq_true c39
                            have c39b1 : decide (0 ≤ (ji38)) = true := decide_eq_true c39
                            clear c39
                            by_cases c40 : (ji38) ≤ (y188.length : Int)
                            · rw [if_pos c40] at H
                              have c40b0 := eq_true c40
                              have c40b1 : decide ((ji38) ≤ (y188.length : Int)) = true := decide_eq_true c40
                              clear c40
                              obtain ⟨y192, hy192⟩ : ∃ y_ : List Int, y_ = (y188.drop ((ji38) : Int).toNat) := ⟨_, rfl⟩
                              replace H : ((slices_Clone_int_int.f y192).bind fun t196 => (parts_tail x9_2 t175 t196 l0_6)) = some (r1, r2, r3, r4) := by first | (rw [hy192]; with_reducible exact H) | (have H2_ := (Option.bind_some _ _).symm.trans H; rw [hy192]; with_reducible exact H2_) | (have H2_ := (Option.bind_some _ _).symm.trans H; with_reducible exact H2_) | with_reducible exact H | (rw [hy192]; exact H) | exact H
                              have Ny192 := Aside0.mk hy192
                              clear hy192
                              replace H := Option.bind_eq_some_iff.mp H
                              obtain ⟨t196, A410, H⟩ := H
                              replace H : (parts_tail x9_2 t175 t196 l0_6) = some (r1, r2, r3, r4) := H
                              have A41 := Aside0.mk A410
                              clear A410
                              have HTL := Aside0.mk H
                              clear H
                              have hnb42 := NB173_172.out
                              have hnc42 := NB172_173.out
                              have hcz43_0 : wr.cell? ⟨gb173, 0, none⟩ = some (.int .i64 a0_0) := (blk_cell BK173.out 0).trans rfl
                              have hcz43_1 : wr.cell? ⟨gb173, 1, none⟩ = some (.slice (some ad176) l0_1.length c0_1) := (blk_cell BK173.out 1).trans rfl
                              have hcz43_2 : wr.cell? ⟨gb173, 2, none⟩ = some (.slice A0_2 l0_2.length c0_2) := (blk_cell BK173.out 2).trans rfl
                              have hcz43_3 : wr.cell? ⟨gb173, 3, none⟩ = some (.slice A0_3 l0_3.length c0_3) := (blk_cell BK173.out 3).trans rfl
                              have hcz43_4 : wr.cell? ⟨gb173, 4, none⟩ = some (.int .i64 a0_4) := (blk_cell BK173.out 4).trans rfl
                              have hcz43_5 : wr.cell? ⟨gb173, 5, none⟩ = some (.int .i64 a0_5) := (blk_cell BK173.out 5).trans rfl
                              have hcz43_6 : wr.cell? ⟨gb173, 6, none⟩ = some (.slice A0_6 l0_6.length c0_6) := (blk_cell BK173.out 6).trans rfl
                              have hfz43_0 := blk_frozen BK173.out 0
                              have hfz43_1 := blk_frozen BK173.out 1
                              have hfz43_2 := blk_frozen BK173.out 2
                              have hfz43_3 := blk_frozen BK173.out 3
                              have hfz43_4 := blk_frozen BK173.out 4
                              have hfz43_5 := blk_frozen BK173.out 5
                              have hfz43_6 := blk_frozen BK173.out 6
                              have hrb : decide (0 ≤ x9_2) = false := decide_eq_false (by have h2_ := of_decide_eq_true (show decide (x9_2 < 0) = true by assumption); omega)
                              have hro := HTL.out
                              clear HTL
                              unfold parts_tail at hro
                              obtain ⟨am, ham, hro⟩ := Option.bind_eq_some_iff.mp hro
                              have HAM := Aside0.mk ham
                              clear ham
                              rw [if_neg (by have := of_decide_eq_false hrb; omega)] at hro
                              simp only [Option.some.injEq, Prod.mk.injEq] at hro
                              obtain ⟨rfl, rfl, rfl, rfl⟩ := hro
                              have HCL := Aside0.mk (Clone_len A41.out)
                              go_wp2_with (first | ((with_reducible refine gate_callee (f := 34) rfl ?_); refine goesL_ (some 55) rfl rfl Try.func34 (by kernel_rfl) rfl #[.pointer (some ⟨gb173, 0, none⟩), .int .i64 x6_2] rfl (by (try simp only [List.map_toArray, List.map_cons, List.map_nil]); first | done | rfl | (simp only [List.length_drop, List.length_take]; rfl)) ?_; (with_reducible refine (parts_walk_out.calls k2 a0_0 _ _ l0_1 _ _ l0_2 _ _ l0_3 a0_4 a0_5 _ _ l0_6 x6_2 t187 _ ?side1 ?side2 ?side3 ?side4 ?side5 ?side6 ?side7 ?side8 A28.out _ BK173.out).mono ?_); (case side1 => repeat (first | exact (Kd.C_below HR0_1.out HB.out) | (with_reducible refine Kd.C_alloc ?_ _) | (with_reducible refine Kd.C_drewN ?_ _) | (with_reducible refine Kd.C_drew ?_))); (case side2 => exact HC0_1.out); (case side3 => repeat (first | exact (Kd.C_below HR0_2.out HB.out) | (with_reducible refine Kd.C_alloc ?_ _) | (with_reducible refine Kd.C_drewN ?_ _) | (with_reducible refine Kd.C_drew ?_))); (case side4 => exact HC0_2.out); (case side5 => repeat (first | exact (Kd.C_below HR0_3.out HB.out) | (with_reducible refine Kd.C_alloc ?_ _) | (with_reducible refine Kd.C_drewN ?_ _) | (with_reducible refine Kd.C_drew ?_))); (case side6 => exact HC0_3.out); (case side7 => repeat (first | exact (Kd.C_below HR0_6.out HB.out) | (with_reducible refine Kd.C_alloc ?_ _) | (with_reducible refine Kd.C_drewN ?_ _) | (with_reducible refine Kd.C_drew ?_))); (case side8 => exact HC0_6.out); rintro e w44 ⟨rfl, hb⟩; refine ⟨_, rfl, ?_⟩; have n0_ := Aside0.mk (Kd.R_below (by (with_reducible repeat (first | apply Kd.R_alloc | apply Kd.R_drewN | apply Kd.R_drew)); exact HO_7.out) hb); have n1_ := Aside0.mk (Kd.R_below (by (with_reducible repeat (first | apply Kd.R_alloc | apply Kd.R_drewN | apply Kd.R_drew)); exact HO_8.out) hb); have n2_ := Aside0.mk (blk_below (g := gb172) (o := .cells #[.bool x173000_2, .int .i64 x173001_2, .slice none 0 0] 28 (0, 0)) (by (with_reducible repeat (first | refine blk_drewN ?_ _ | refine blk_drew ?_ | refine blk_alloc ?_ _)); exact BK172.out) hb); have n3_ := Aside0.mk (blk_below (g := gb173) (o := .cells #[.int .i64 a0_0, .slice (some ad176) l0_1.length c0_1, .slice A0_2 l0_2.length c0_2, .slice A0_3 l0_3.length c0_3, .int .i64 a0_4, .int .i64 a0_5, .slice A0_6 l0_6.length c0_6] 50 (0, 0)) (by (with_reducible repeat (first | refine blk_drewN ?_ _ | refine blk_drew ?_ | refine blk_alloc ?_ _)); exact BK173.out) hb); have n4_ := Aside0.mk (below_step (by repeat (first | (with_reducible first | exact HB.out | apply below_alloc | apply pw_below_drewN | apply below_drew1 | refine below_set ?_ GE172.out | refine below_set ?_ GE173.out) | exact HB.out)) hb); clear HO_7; clear HO_8; clear BK172; clear BK173; clear HB; have HO_7 := n0_; have HO_8 := n1_; have BK172 := n2_; have BK173 := n3_; have HB := n4_; clear n0_ n1_ n2_ n3_ n4_; (try clear hb); (try clear hb2); (try clear hk); (try clear hi)) | ((with_reducible refine gate_builtin (b := .append) (xs := #[.tmp 59, .tmp 61]) rfl ?_); at_builtin; refine Kd.R_append (Kd.int .i64) (w0 := w) w.heap.size rfl (.tmp 59) (.tmp 61) 23 3 (.int .i64 0) 8 rfl Try.underlying23 info3 rfl (by decide) (by omega) u7 x7_2 t187 [.int .i64 t187] (fun k_ => some k_ ≠ (u8 : Value).ownBlock) (fun _ => False) rfl rfl ?aP (fun _ hk => hk.elim) ?aF ?aO ?aB ?aS ?aL ?_; (case aP => exact rfl); (case aB => exact (by repeat (first | (with_reducible first | exact HB.out | apply below_alloc | apply pw_below_drewN | apply below_drew1 | refine below_set ?_ GE172.out | refine below_set ?_ GE173.out) | exact HB.out))); (case aF => exact (fun k_ hk => Kd.fresh' (Kd.R_lt (by (with_reducible repeat (first | apply Kd.R_alloc | apply Kd.R_drewN | apply Kd.R_drew)); exact HO_8.out)) k_ hk)); (case aO => exact (by (with_reducible repeat (first | apply Kd.R_alloc | apply Kd.R_drewN | apply Kd.R_drew)); exact HO_7.out)); (case aS => exact (below_size (by repeat (first | (with_reducible first | exact HB.out | apply below_alloc | apply pw_below_drewN | apply below_drew1 | refine below_set ?_ GE172.out | refine below_set ?_ GE173.out) | exact HB.out)))); (case aL => have := LMc34.out; omega); intro v189 w45 ho hb hg hat; rw [← Ny188.out] at ho; have n0_ := Aside0.mk (Kd.R_after (ok := (fun _ => True)) (by (with_reducible repeat (first | apply Kd.R_alloc | apply Kd.R_drewN | apply Kd.R_drew)); exact Kd.R_mono HO_8.out (fun _ hk => ⟨trivial, hk⟩)) hg hat); have n1_ := Aside0.mk (blk_grown (g := gb172) (o := .cells #[.bool x173000_2, .int .i64 x173001_2, .slice none 0 0] 28 (0, 0)) (by (with_reducible repeat (first | refine blk_drewN ?_ _ | refine blk_drew ?_ | refine blk_alloc ?_ _)); exact BK172.out) hg (Kd.R_ne HO_7.out BK172.out (by decide))); have n2_ := Aside0.mk (blk_grown (g := gb173) (o := .cells #[.int .i64 a0_0, .slice (some ad176) l0_1.length c0_1, .slice A0_2 l0_2.length c0_2, .slice A0_3 l0_3.length c0_3, .int .i64 a0_4, .int .i64 a0_5, .slice A0_6 l0_6.length c0_6] 50 (0, 0)) (by (with_reducible repeat (first | refine blk_drewN ?_ _ | refine blk_drew ?_ | refine blk_alloc ?_ _)); exact BK173.out) hg (Kd.R_ne HO_7.out BK173.out (by decide))); have n3_ := Aside0.mk (hb); have n4_ := Aside0.mk (ho); clear HO_8; clear BK172; clear BK173; clear HB; clear HO_7; have HO_8 := n0_; have BK172 := n1_; have BK173 := n2_; have HB := n3_; have HO190 := n4_; clear n0_ n1_ n2_ n3_ n4_; clear ho hb hg hat; have hcz46_0 : w45.cell? ⟨gb173, 0, none⟩ = some (.int .i64 a0_0) := (blk_cell BK173.out 0).trans rfl; have hcz46_1 : w45.cell? ⟨gb173, 1, none⟩ = some (.slice (some ad176) l0_1.length c0_1) := (blk_cell BK173.out 1).trans rfl; have hcz46_2 : w45.cell? ⟨gb173, 2, none⟩ = some (.slice A0_2 l0_2.length c0_2) := (blk_cell BK173.out 2).trans rfl; have hcz46_3 : w45.cell? ⟨gb173, 3, none⟩ = some (.slice A0_3 l0_3.length c0_3) := (blk_cell BK173.out 3).trans rfl; have hcz46_4 : w45.cell? ⟨gb173, 4, none⟩ = some (.int .i64 a0_4) := (blk_cell BK173.out 4).trans rfl; have hcz46_5 : w45.cell? ⟨gb173, 5, none⟩ = some (.int .i64 a0_5) := (blk_cell BK173.out 5).trans rfl; have hcz46_6 : w45.cell? ⟨gb173, 6, none⟩ = some (.slice A0_6 l0_6.length c0_6) := (blk_cell BK173.out 6).trans rfl; have hfz46_0 := blk_frozen BK173.out 0; have hfz46_1 := blk_frozen BK173.out 1; have hfz46_2 := blk_frozen BK173.out 2; have hfz46_3 := blk_frozen BK173.out 3; have hfz46_4 := blk_frozen BK173.out 4; have hfz46_5 := blk_frozen BK173.out 5; have hfz46_6 := blk_frozen BK173.out 6) | ((with_reducible refine gate_callee (f := 35) rfl ?_); refine goesL_ (some 68) rfl rfl Try.func35 (by kernel_rfl) rfl #[.agg #[.int .i64 a0_0, .slice (some ad176) l0_1.length c0_1, .slice A0_2 l0_2.length c0_2, .slice A0_3 l0_3.length c0_3], .int .i64 t187] rfl (by (try simp only [List.map_toArray, List.map_cons, List.map_nil]); first | done | rfl | (simp only [List.length_drop, List.length_take]; rfl)) ?_; (with_reducible refine (rot_Head.calls a0_0 _ _ l0_1 _ _ l0_2 _ _ l0_3 t187 t191 _ ?side1 ?side2 ?side3 ?side4 ?side5 ?side6 A35.out).mono ?_); (case side1 => repeat (first | exact (Kd.C_below HR0_1.out HB.out) | (with_reducible refine Kd.C_alloc ?_ _) | (with_reducible refine Kd.C_drewN ?_ _) | (with_reducible refine Kd.C_drew ?_))); (case side2 => exact HC0_1.out); (case side3 => repeat (first | exact (Kd.C_below HR0_2.out HB.out) | (with_reducible refine Kd.C_alloc ?_ _) | (with_reducible refine Kd.C_drewN ?_ _) | (with_reducible refine Kd.C_drew ?_))); (case side4 => exact HC0_2.out); (case side5 => repeat (first | exact (Kd.C_below HR0_3.out HB.out) | (with_reducible refine Kd.C_alloc ?_ _) | (with_reducible refine Kd.C_drewN ?_ _) | (with_reducible refine Kd.C_drew ?_))); (case side6 => exact HC0_3.out); rintro e w47 ⟨rfl, hb⟩; refine ⟨_, rfl, ?_⟩; have n0_ := Aside0.mk (Kd.R_below (by (with_reducible repeat (first | apply Kd.R_alloc | apply Kd.R_drewN | apply Kd.R_drew)); exact HO_8.out) hb); have n1_ := Aside0.mk (Kd.R_below (by (with_reducible repeat (first | apply Kd.R_alloc | apply Kd.R_drewN | apply Kd.R_drew)); exact HO190.out) hb); have n2_ := Aside0.mk (blk_below (g := gb172) (o := .cells #[.bool x173000_2, .int .i64 x173001_2, .slice none 0 0] 28 (0, 0)) (by (with_reducible repeat (first | refine blk_drewN ?_ _ | refine blk_drew ?_ | refine blk_alloc ?_ _)); exact BK172.out) hb); have n3_ := Aside0.mk (blk_below (g := gb173) (o := .cells #[.int .i64 a0_0, .slice (some ad176) l0_1.length c0_1, .slice A0_2 l0_2.length c0_2, .slice A0_3 l0_3.length c0_3, .int .i64 a0_4, .int .i64 a0_5, .slice A0_6 l0_6.length c0_6] 50 (0, 0)) (by (with_reducible repeat (first | refine blk_drewN ?_ _ | refine blk_drew ?_ | refine blk_alloc ?_ _)); exact BK173.out) hb); have n4_ := Aside0.mk (below_step (by repeat (first | (with_reducible first | exact HB.out | apply below_alloc | apply pw_below_drewN | apply below_drew1 | refine below_set ?_ GE172.out | refine below_set ?_ GE173.out) | exact HB.out)) hb); clear HO_8; clear HO190; clear BK172; clear BK173; clear HB; have HO_8 := n0_; have HO190 := n1_; have BK172 := n2_; have BK173 := n3_; have HB := n4_; clear n0_ n1_ n2_ n3_ n4_; (try clear hb); (try clear hb2); (try clear hk); (try clear hi); have hcz48_0 : w47.cell? ⟨gb173, 0, none⟩ = some (.int .i64 a0_0) := (blk_cell BK173.out 0).trans rfl; have hcz48_1 : w47.cell? ⟨gb173, 1, none⟩ = some (.slice (some ad176) l0_1.length c0_1) := (blk_cell BK173.out 1).trans rfl; have hcz48_2 : w47.cell? ⟨gb173, 2, none⟩ = some (.slice A0_2 l0_2.length c0_2) := (blk_cell BK173.out 2).trans rfl; have hcz48_3 : w47.cell? ⟨gb173, 3, none⟩ = some (.slice A0_3 l0_3.length c0_3) := (blk_cell BK173.out 3).trans rfl; have hcz48_4 : w47.cell? ⟨gb173, 4, none⟩ = some (.int .i64 a0_4) := (blk_cell BK173.out 4).trans rfl; have hcz48_5 : w47.cell? ⟨gb173, 5, none⟩ = some (.int .i64 a0_5) := (blk_cell BK173.out 5).trans rfl; have hcz48_6 : w47.cell? ⟨gb173, 6, none⟩ = some (.slice A0_6 l0_6.length c0_6) := (blk_cell BK173.out 6).trans rfl; have hfz48_0 := blk_frozen BK173.out 0; have hfz48_1 := blk_frozen BK173.out 1; have hfz48_2 := blk_frozen BK173.out 2; have hfz48_3 := blk_frozen BK173.out 3; have hfz48_4 := blk_frozen BK173.out 4; have hfz48_5 := blk_frozen BK173.out 5; have hfz48_6 := blk_frozen BK173.out 6; obtain ⟨Ao50, co50, eo50⟩ := Kd.R_slice HO190.out; subst eo50; have q49 : ((ji38) : Int) ≤ ((y188.length : Int) : Int) := of_decide_eq_true (by first | (with_reducible assumption) | assumption); obtain ⟨i049, hi049, _, hsz49, _⟩ := info_parts info3; have hroom49 : y188.length ≤ co50 := (Kd.R_reads' HO190.out).2.1; have hC49 : Kd.C (Kd.int .i64) _ Ao50 y188.length y188 := (Kd.R_reads' HO190.out).2.2; have q049 : (0 : Int) ≤ ((ji38) : Int) := of_decide_eq_true (by first | (with_reducible assumption) | assumption); have hcut49 := cut_from (P := Try.prog) 23 3 .i64 Try.underlying23 hi049 1 hsz49 Ao50 y188.length co50 (ji38) q049 q49; have hr49 := Kd.C_drop (m := ((ji38) : Int).toNat) (c := co50) hC49 (by omega) hroom49; obtain ⟨A49, hA49⟩ : ∃ A1, A1 = (if co50 = ((ji38) : Int).toNat then Ao50 else (Ao50 : Option Addr).map (·.add (((ji38) : Int).toNat * 1))) := ⟨_, rfl⟩; obtain ⟨c49, hc49⟩ : ∃ c1, c1 = co50 - ((ji38) : Int).toNat := ⟨_, rfl⟩; have hy49 : y192.length = y188.length - ((ji38) : Int).toNat := (by rw [Ny192.out, List.length_drop] <;> omega); rw [show (y188).drop ((ji38) : Int).toNat = y192 from Ny192.out.symm] at hr49; replace hr49 : Kd.C (Kd.int .i64) _ A49 y192.length y192 := (by rw [hA49]; exact hr49); rw [← hy49, ← hA49, ← hc49] at hcut49; have HR195 := Aside0.mk hr49; have HC195 := Aside0.mk (show y192.length ≤ c49 from by rw [hy49, hc49]; exact Nat.sub_le_sub_right hroom49 _); clear hr49 hC49 hroom49 hi049 hsz49 hc49; have KY49 := Aside0.mk hy49; have KA49 := Aside0.mk hA49; clear hy49 hA49; have KL49 := Aside0.mk (show ((ji38) : Int).toNat ≤ y188.length from by omega); replace q49 := eq_true q49)| ((with_reducible refine gate_dst (N := 11) rfl ?_); refine box_event ?hg (N := 11) ?hd (cs := #[.bool false, .int .i64 0, .slice none 0 0]) (t := 28) ?hr ?_; (case hd => rfl); (case hg => rfl); (case hr => first | (go_simp; done) | (go_simp; rfl)); intro gp hgp wp hpbox hpb; have HGP := Aside0.mk (show w.heap.size ≤ gp by rw [hgp]; exact below_size HB.out); have HBW := Aside0.mk hpb; have HLE := Aside0.mk (Nat.le_of_eq hgp.symm); have BKP := Aside0.mk hpbox; have NP2 := Aside0.mk (show gb172 ≠ gp by have := blk_lt BK172.out; omega); have NP1 := Aside0.mk (show gb173 ≠ gp by have := blk_lt BK173.out; omega); clear hgp hpb hpbox; have hpz0 := (blk_cell BKP.out 0).trans rfl; have hpz1 := (blk_cell BKP.out 1).trans rfl; have hpz2 := (blk_cell BKP.out 2).trans rfl; have hpf0 := blk_frozen BKP.out 0; have hpf1 := blk_frozen BKP.out 1; have hpf2 := blk_frozen BKP.out 2) | ((with_reducible refine gate_store (t := 28) (p := 11) rfl ?_); refine store_event (t := 28) (p := 11) (v := ?vo_q) (w1 := (((wp.setCell ⟨gp, 0, none⟩ (.bool false)).setCell ⟨gp, 1, none⟩ (.int .i64 0)).setCell ⟨gp, 2, none⟩ (.slice A49 y192.length c49))) ?hg ?ho ?hn ?hr ?_; (case ho => rfl); (case hg => rfl); (case hn => rfl); (case hr => first | (go_simp; done) | (go_simp; rfl)); intro wq hw; have hbq : Below _ _ (((wp.setCell ⟨gp, 0, none⟩ (.bool false)).setCell ⟨gp, 1, none⟩ (.int .i64 0)).setCell ⟨gp, 2, none⟩ (.slice A49 y192.length c49)) := ((HBW.out.setCell HLE.out _).setCell HLE.out _).setCell HLE.out _; rw [← hw] at hbq; have HRQ := Aside0.mk (Kd.C_below HR195.out hbq); have n2_ := Aside0.mk (blk_below BK172.out hbq); have n1_ := Aside0.mk (blk_below BK173.out hbq); have nb_ := Aside0.mk (below_step HB.out hbq); have np_ := Aside0.mk (set3 BKP.out (.bool false) (.int .i64 0) (.slice A49 y192.length c49)); rw [← hw] at np_; clear BK172 BK173 HB BKP hbq hw; have BK172 := n2_; have BK173 := n1_; have HB := nb_; have BKP := np_; clear n2_ n1_ nb_ np_ HBW HLE; have hpy0 := (blk_cell BKP.out 0).trans rfl; have hpy1 := (blk_cell BKP.out 1).trans rfl; have hpy2 := (blk_cell BKP.out 2).trans rfl; have hpg2 := blk_frozen BKP.out 2) | ((with_reducible refine gate_callee (f := 18) rfl ?_); refine goesL_ (some 95) rfl rfl Try.func18 (by kernel_rfl) rfl #[.slice A49 y192.length c49] rfl (by (try simp only [List.map_toArray, List.map_cons, List.map_nil]); first | done | rfl | (simp only [List.length_drop, List.length_take]; rfl)) ?_; refine (slices_Clone_int_int.calls _ _ y192 t196 _ HRQ.out HC195.out A41.out).mono ?_; rintro e wv ⟨vv, rfl, hov, hbv⟩; refine ⟨_, rfl, ?_⟩; have HOV := Aside0.mk (Kd.R_lower hov (below_size HB.out)); have n2_ := Aside0.mk (blk_below BK172.out hbv); have n1_ := Aside0.mk (blk_below BK173.out hbv); have nb_ := Aside0.mk (below_step HB.out hbv); have np_ := Aside0.mk (blk_below BKP.out hbv); clear BK172 BK173 HB BKP hbv hov; have BK172 := n2_; have BK173 := n1_; have HB := nb_; have BKP := np_; clear n2_ n1_ nb_ np_; have hpx0 := (blk_cell BKP.out 0).trans rfl; have hpx1 := (blk_cell BKP.out 1).trans rfl; have hpx2 := (blk_cell BKP.out 2).trans rfl; have hpx3 := blk_frozen BKP.out 2; obtain ⟨Av, cv, ev⟩ := Kd.R_slice HOV.out; subst ev) | ((with_reducible refine gate_store (t := 23) (p := 96) rfl ?_); refine store_event (t := 23) (p := 96) (v := ?vo_s) (w1 := (wv.setCell ⟨gp, 2, none⟩ (.slice Av t196.length cv))) ?hg ?ho ?hn ?hr ?_; (case ho => rfl); (case hg => rfl); (case hn => rfl); (case hr => first | (go_simp; done) | (go_simp; rfl)); intro ws hw; have n2_ := Aside0.mk (blk_far BK172.out (p := ⟨gp, 2, none⟩) (show gb172 ≠ gp from NP2.out) (.slice Av t196.length cv)); have n1_ := Aside0.mk (blk_far BK173.out (p := ⟨gp, 2, none⟩) (show gb173 ≠ gp from NP1.out) (.slice Av t196.length cv)); have nb_ := Aside0.mk (below_set (j := 2) (v := .slice Av t196.length cv) HB.out HGP.out); have np_ := Aside0.mk (blk_set BKP.out 2 (.slice Av t196.length cv)); have no_ := Aside0.mk (Kd.R_set HOV.out BKP.out (by decide) 2 (.slice Av t196.length cv)); rw [← hw] at n2_ n1_ nb_ np_ no_; clear BK172 BK173 HB BKP HOV hw; have BK172 := n2_; have BK173 := n1_; have HB := nb_; have BKP := np_; have HOV := no_; clear n2_ n1_ nb_ np_ no_; have hps0 := (blk_cell BKP.out 0).trans rfl; have hps1 := (blk_cell BKP.out 1).trans rfl; have hps2 := (blk_cell BKP.out 2).trans rfl))
                              have hbits := HCL.out
                              go_loopw [100] (fun u W => ∃ (i : Nat) (am1 : Int), i ≤ t196.length ∧ u = .int .i64 i ∧ Aside0 (amtF l0_6 (t196.drop i) am1 = some am) ∧ Aside0 (W.heap[gp]? = some (.cells #[.bool false, .int .i64 am1, .slice Av t196.length cv] 28 (0, 0))) ∧ Aside0 (Kd.R (Kd.int .i64) 3 W w.heap.size (fun _ => True) (.slice Av t196.length cv) t196) ∧ Aside0 (W.heap[gb172]? = some (.cells #[.bool x173000_2, .int .i64 x173001_2, .slice none 0 0] 28 (0, 0))) ∧ Aside0 (W.heap[gb173]? = some (.cells #[.int .i64 a0_0, .slice (some ad176) l0_1.length c0_1, .slice A0_2 l0_2.length c0_2, .slice A0_3 l0_3.length c0_3, .int .i64 a0_4, .int .i64 a0_5, .slice A0_6 l0_6.length c0_6] 50 (0, 0))) ∧ Aside0 (Below w.heap.size w W)) (fun u _ => t196.length - (intOf u).toNat)
                              case atStart => exact ⟨0, 0, by omega, rfl, ⟨by simpa using HAM.out⟩, ⟨by simpa using BKP.out⟩, ⟨HOV.out⟩, ⟨BK172.out⟩, ⟨BK173.out⟩, ⟨HB.out⟩⟩
                              case round =>
                                clear BKP HOV BK172 BK173 HB
                                obtain ⟨i, am1, hi, rfl, HAM1, BKP, HOV, BK172, BK173, HB⟩ := hrel
                                by_cases hlt : i < t196.length
                                · have s1 : decide ((i : Int) < t196.length) = true := by simpa using hlt
                                  have s2 : decide ((0 : Int) ≤ i) = true := by simp
                                  have hst := HAM1.out
                                  rw [drop_rd hlt] at hst
                                  unfold amtF at hst
                                  split at hst
                                  · rename_i hd
                                    obtain ⟨adv, eav, hxv⟩ := Kd.at_int (Kd.R_reads' HOV.out).2.2 (i : Int) (by omega) (by omega)
                                    cases eav
                                    simp only [Int.toNat_natCast] at hxv
                                    obtain ⟨ad6, e6, hx6⟩ := Kd.at_int HR0_6.out (rd t196 (i : Int)) hd.1 hd.2
                                    cases e6
                                    replace hx6 := (HB.out.cell (World.block_lt_of_cell? w _ hx6)).trans hx6
                                    have s3 : decide (0 ≤ rd t196 (i : Int)) = true := decide_eq_true hd.1
                                    have s4 : decide (rd t196 (i : Int) < (l0_6.length : Int)) = true := decide_eq_true hd.2
                                    have z0 : wr.cell? ⟨gp, 0, none⟩ = some (.bool false) := (blk_cell BKP.out 0).trans rfl
                                    have z1 : wr.cell? ⟨gp, 1, none⟩ = some (.int .i64 am1) := (blk_cell BKP.out 1).trans rfl
                                    have z2 : wr.cell? ⟨gp, 2, none⟩ = some (.slice (some adv) t196.length cv) := (blk_cell BKP.out 2).trans rfl
                                    have zf := blk_frozen BKP.out 1
                                    have z6 : wr.cell? ⟨gb173, 6, none⟩ = some (.slice (some ad6) l0_6.length c0_6) := (blk_cell BK173.out 6).trans rfl
                                    have s3p := eq_true hd.1
                                    have s4p := eq_true hd.2
                                    clear hd
                                    by_cases ha : am1 = 0
                                    · subst ha
                                      rw [if_pos rfl] at hst
                                      have HAM2 := Aside0.mk hst
                                      clear hst HAM1
                                      go_wp2_with fail
                                      go_quiet (fail)
                                      go_wp2_with fail
                                      exact ⟨⟨i + 1, rd l0_6 (rd t196 (i : Int)), by omega, rfl, HAM2, ⟨blk_set (blk_drewN BKP.out _) 1 _⟩, ⟨Kd.R_set (Kd.R_drewN HOV.out _) (blk_drewN BKP.out _) (by decide) 1 _⟩, ⟨blk_far (blk_drewN BK172.out _) (p := ⟨gp, 1, none⟩) (show gb172 ≠ gp from NP2.out) _⟩, ⟨blk_far (blk_drewN BK173.out _) (p := ⟨gp, 1, none⟩) (show gb173 ≠ gp from NP1.out) _⟩, ⟨below_set (pw_below_drewN HB.out _) HGP.out⟩⟩, by simp [intOf]; omega⟩
                                    · have s5 : (am1 == 0) = false := beq_eq_false_iff_ne.mpr ha
                                      rw [if_neg ha] at hst
                                      clear ha
                                      by_cases hb : rd l0_6 (rd t196 (i : Int)) < am1
                                      · have s6 : decide (rd l0_6 (rd t196 (i : Int)) < am1) = true := decide_eq_true hb
                                        rw [if_pos hb] at hst
                                        have HAM2 := Aside0.mk hst
                                        clear hst HAM1 hb
                                        go_wp2_with fail
                                        go_quiet (fail)
                                        go_wp2_with fail
                                        exact ⟨⟨i + 1, rd l0_6 (rd t196 (i : Int)), by omega, rfl, HAM2, ⟨blk_set (blk_drewN BKP.out _) 1 _⟩, ⟨Kd.R_set (Kd.R_drewN HOV.out _) (blk_drewN BKP.out _) (by decide) 1 _⟩, ⟨blk_far (blk_drewN BK172.out _) (p := ⟨gp, 1, none⟩) (show gb172 ≠ gp from NP2.out) _⟩, ⟨blk_far (blk_drewN BK173.out _) (p := ⟨gp, 1, none⟩) (show gb173 ≠ gp from NP1.out) _⟩, ⟨below_set (pw_below_drewN HB.out _) HGP.out⟩⟩, by simp [intOf]; omega⟩
                                      · have s6 : decide (rd l0_6 (rd t196 (i : Int)) < am1) = false := decide_eq_false hb
                                        rw [if_neg hb] at hst
                                        have HAM2 := Aside0.mk hst
                                        clear hst HAM1 hb
                                        go_wp2_with fail
                                        go_quiet (fail)
                                        go_wp2_with fail
                                        exact ⟨⟨i + 1, am1, by omega, rfl, HAM2, ⟨blk_drewN BKP.out _⟩, ⟨Kd.R_drewN HOV.out _⟩, ⟨blk_drewN BK172.out _⟩, ⟨blk_drewN BK173.out _⟩, ⟨pw_below_drewN HB.out _⟩⟩, by simp [intOf]; omega⟩
                                  · cases hst
                                · have s1 : decide ((i : Int) < t196.length) = false := by simpa using hlt
                                  obtain rfl : i = t196.length := by omega
                                  have hst := HAM1.out
                                  rw [List.drop_length] at hst
                                  obtain rfl := Option.some.inj hst
                                  clear hst HAM1
                                  have z0 : wr.cell? ⟨gp, 0, none⟩ = some (.bool false) := (blk_cell BKP.out 0).trans rfl
                                  have z1 : wr.cell? ⟨gp, 1, none⟩ = some (.int .i64 am1) := (blk_cell BKP.out 1).trans rfl
                                  have z2 : wr.cell? ⟨gp, 2, none⟩ = some (.slice Av t196.length cv) := (blk_cell BKP.out 2).trans rfl
                                  have zf := blk_frozen BKP.out 1
                                  have y0 : wr.cell? ⟨gb172, 0, none⟩ = some (.bool x173000_2) := (blk_cell BK172.out 0).trans rfl
                                  have y1 : wr.cell? ⟨gb172, 1, none⟩ = some (.int .i64 x173001_2) := (blk_cell BK172.out 1).trans rfl
                                  have y2 : wr.cell? ⟨gb172, 2, none⟩ = some (.slice none 0 0) := (blk_cell BK172.out 2).trans rfl
                                  have yf0 := blk_frozen BK172.out 0
                                  have yf1 := blk_frozen BK172.out 1
                                  have yf2 := blk_frozen BK172.out 2
                                  have ng := NP2.out
                                  have ng' := NP2.out.symm
                                  go_wp2_with fail
                                  all_goals (try rw [Exit.noGoto_ret])
                                  all_goals (try simp only [Exit.inBlock, Exit.then])
                                  all_goals refine bodyPost_ret (results_ct rfl _ _ gb172 28 #[.bool false, .int .i64 _, .slice Av t196.length cv] (0, 0) _ rfl (set3 (blk_far BK172.out (p := ⟨gp, 1, none⟩) (show gb172 ≠ gp from NP2.out) _) _ _ _) hu28 rfl (by kernel_rfl)) rfl ?_
                                  all_goals refine ⟨.slice Av t196.length cv, ?_, set3R (Kd.R_set HOV.out BKP.out (by decide) 1 _) (blk_far BK172.out (p := ⟨gp, 1, none⟩) (show gb172 ≠ gp from NP2.out) _) _ _ _, below_set (below_set (below_set (below_set HB.out HGP.out) GE172.out) GE172.out) GE172.out⟩
                                  all_goals unfold mn
                                  all_goals (split <;> first | rfl | (exfalso; omega))

                            · rw [if_neg c40] at H
                              exact absurd H (by simp)
                          · rw [if_neg c39] at H
                            exact absurd H (by simp)
                        · rw [if_neg c37] at H
                          have c37b0 : decide (0 < t175) = false := decide_eq_false c37
                          clear c37
                          replace H := Option.bind_eq_some_iff.mp H
                          obtain ⟨t199, A540, H⟩ := H
                          replace H : (if x8_2.length < 17592186044416 then (parts_walk_part.l0 k2 t175 t191 y188 (x8_2 ++ [t191]) t199 a0_0 l0_1 l0_2 l0_3 a0_4 a0_5 l0_6) else (none)) = some (r1, r2, r3, r4) := H
                          have A54 := Aside0.mk A540
                          clear A540
                          by_cases c55 : x8_2.length < 17592186044416
                          · rw [if_pos c55] at H
                            have LMc55 := Aside0.mk c55
                            clear c55
                            obtain ⟨y200, hy200⟩ : ∃ y_ : List Int, y_ = (x8_2 ++ [t191]) := ⟨_, rfl⟩
                            replace H : (parts_walk_part.l0 k2 t175 t191 y188 y200 t199 a0_0 l0_1 l0_2 l0_3 a0_4 a0_5 l0_6) = some (r1, r2, r3, r4) := by first | (rw [hy200]; with_reducible exact H) | (have H2_ := (Option.bind_some _ _).symm.trans H; rw [hy200]; with_reducible exact H2_) | (have H2_ := (Option.bind_some _ _).symm.trans H; with_reducible exact H2_) | with_reducible exact H | (rw [hy200]; exact H) | exact H
                            have Ny200 := Aside0.mk hy200
                            clear hy200
                            have H' := Aside0.mk H
                            clear H
                            have hnb56 := NB173_172.out
                            have hnc56 := NB172_173.out
                            have hcz57_0 : wr.cell? ⟨gb173, 0, none⟩ = some (.int .i64 a0_0) := (blk_cell BK173.out 0).trans rfl
                            have hcz57_1 : wr.cell? ⟨gb173, 1, none⟩ = some (.slice (some ad176) l0_1.length c0_1) := (blk_cell BK173.out 1).trans rfl
                            have hcz57_2 : wr.cell? ⟨gb173, 2, none⟩ = some (.slice A0_2 l0_2.length c0_2) := (blk_cell BK173.out 2).trans rfl
                            have hcz57_3 : wr.cell? ⟨gb173, 3, none⟩ = some (.slice A0_3 l0_3.length c0_3) := (blk_cell BK173.out 3).trans rfl
                            have hcz57_4 : wr.cell? ⟨gb173, 4, none⟩ = some (.int .i64 a0_4) := (blk_cell BK173.out 4).trans rfl
                            have hcz57_5 : wr.cell? ⟨gb173, 5, none⟩ = some (.int .i64 a0_5) := (blk_cell BK173.out 5).trans rfl
                            have hcz57_6 : wr.cell? ⟨gb173, 6, none⟩ = some (.slice A0_6 l0_6.length c0_6) := (blk_cell BK173.out 6).trans rfl
                            have hfz57_0 := blk_frozen BK173.out 0
                            have hfz57_1 := blk_frozen BK173.out 1
                            have hfz57_2 := blk_frozen BK173.out 2
                            have hfz57_3 := blk_frozen BK173.out 3
                            have hfz57_4 := blk_frozen BK173.out 4
                            have hfz57_5 := blk_frozen BK173.out 5
                            have hfz57_6 := blk_frozen BK173.out 6
                            go_wp2_with (first | ((with_reducible refine gate_callee (f := 34) rfl ?_); refine goesL_ (some 55) rfl rfl Try.func34 (by kernel_rfl) rfl #[.pointer (some ⟨gb173, 0, none⟩), .int .i64 x6_2] rfl (by (try simp only [List.map_toArray, List.map_cons, List.map_nil]); first | done | rfl | (simp only [List.length_drop, List.length_take]; rfl)) ?_; (with_reducible refine (parts_walk_out.calls k2 a0_0 _ _ l0_1 _ _ l0_2 _ _ l0_3 a0_4 a0_5 _ _ l0_6 x6_2 t187 _ ?side1 ?side2 ?side3 ?side4 ?side5 ?side6 ?side7 ?side8 A28.out _ BK173.out).mono ?_); (case side1 => repeat (first | exact (Kd.C_below HR0_1.out HB.out) | (with_reducible refine Kd.C_alloc ?_ _) | (with_reducible refine Kd.C_drewN ?_ _) | (with_reducible refine Kd.C_drew ?_))); (case side2 => exact HC0_1.out); (case side3 => repeat (first | exact (Kd.C_below HR0_2.out HB.out) | (with_reducible refine Kd.C_alloc ?_ _) | (with_reducible refine Kd.C_drewN ?_ _) | (with_reducible refine Kd.C_drew ?_))); (case side4 => exact HC0_2.out); (case side5 => repeat (first | exact (Kd.C_below HR0_3.out HB.out) | (with_reducible refine Kd.C_alloc ?_ _) | (with_reducible refine Kd.C_drewN ?_ _) | (with_reducible refine Kd.C_drew ?_))); (case side6 => exact HC0_3.out); (case side7 => repeat (first | exact (Kd.C_below HR0_6.out HB.out) | (with_reducible refine Kd.C_alloc ?_ _) | (with_reducible refine Kd.C_drewN ?_ _) | (with_reducible refine Kd.C_drew ?_))); (case side8 => exact HC0_6.out); rintro e w58 ⟨rfl, hb⟩; refine ⟨_, rfl, ?_⟩; have n0_ := Aside0.mk (Kd.R_below (by (with_reducible repeat (first | apply Kd.R_alloc | apply Kd.R_drewN | apply Kd.R_drew)); exact HO_7.out) hb); have n1_ := Aside0.mk (Kd.R_below (by (with_reducible repeat (first | apply Kd.R_alloc | apply Kd.R_drewN | apply Kd.R_drew)); exact HO_8.out) hb); have n2_ := Aside0.mk (blk_below (g := gb172) (o := .cells #[.bool x173000_2, .int .i64 x173001_2, .slice none 0 0] 28 (0, 0)) (by (with_reducible repeat (first | refine blk_drewN ?_ _ | refine blk_drew ?_ | refine blk_alloc ?_ _)); exact BK172.out) hb); have n3_ := Aside0.mk (blk_below (g := gb173) (o := .cells #[.int .i64 a0_0, .slice (some ad176) l0_1.length c0_1, .slice A0_2 l0_2.length c0_2, .slice A0_3 l0_3.length c0_3, .int .i64 a0_4, .int .i64 a0_5, .slice A0_6 l0_6.length c0_6] 50 (0, 0)) (by (with_reducible repeat (first | refine blk_drewN ?_ _ | refine blk_drew ?_ | refine blk_alloc ?_ _)); exact BK173.out) hb); have n4_ := Aside0.mk (below_step (by repeat (first | (with_reducible first | exact HB.out | apply below_alloc | apply pw_below_drewN | apply below_drew1 | refine below_set ?_ GE172.out | refine below_set ?_ GE173.out) | exact HB.out)) hb); clear HO_7; clear HO_8; clear BK172; clear BK173; clear HB; have HO_7 := n0_; have HO_8 := n1_; have BK172 := n2_; have BK173 := n3_; have HB := n4_; clear n0_ n1_ n2_ n3_ n4_; (try clear hb); (try clear hb2); (try clear hk); (try clear hi)) | ((with_reducible refine gate_builtin (b := .append) (xs := #[.tmp 59, .tmp 61]) rfl ?_); at_builtin; refine Kd.R_append (Kd.int .i64) (w0 := w) w.heap.size rfl (.tmp 59) (.tmp 61) 23 3 (.int .i64 0) 8 rfl Try.underlying23 info3 rfl (by decide) (by omega) u7 x7_2 t187 [.int .i64 t187] (fun k_ => some k_ ≠ (u8 : Value).ownBlock) (fun _ => False) rfl rfl ?aP (fun _ hk => hk.elim) ?aF ?aO ?aB ?aS ?aL ?_; (case aP => exact rfl); (case aB => exact (by repeat (first | (with_reducible first | exact HB.out | apply below_alloc | apply pw_below_drewN | apply below_drew1 | refine below_set ?_ GE172.out | refine below_set ?_ GE173.out) | exact HB.out))); (case aF => exact (fun k_ hk => Kd.fresh' (Kd.R_lt (by (with_reducible repeat (first | apply Kd.R_alloc | apply Kd.R_drewN | apply Kd.R_drew)); exact HO_8.out)) k_ hk)); (case aO => exact (by (with_reducible repeat (first | apply Kd.R_alloc | apply Kd.R_drewN | apply Kd.R_drew)); exact HO_7.out)); (case aS => exact (below_size (by repeat (first | (with_reducible first | exact HB.out | apply below_alloc | apply pw_below_drewN | apply below_drew1 | refine below_set ?_ GE172.out | refine below_set ?_ GE173.out) | exact HB.out)))); (case aL => have := LMc34.out; omega); intro v189 w59 ho hb hg hat; rw [← Ny188.out] at ho; have n0_ := Aside0.mk (Kd.R_after (ok := (fun _ => True)) (by (with_reducible repeat (first | apply Kd.R_alloc | apply Kd.R_drewN | apply Kd.R_drew)); exact Kd.R_mono HO_8.out (fun _ hk => ⟨trivial, hk⟩)) hg hat); have n1_ := Aside0.mk (blk_grown (g := gb172) (o := .cells #[.bool x173000_2, .int .i64 x173001_2, .slice none 0 0] 28 (0, 0)) (by (with_reducible repeat (first | refine blk_drewN ?_ _ | refine blk_drew ?_ | refine blk_alloc ?_ _)); exact BK172.out) hg (Kd.R_ne HO_7.out BK172.out (by decide))); have n2_ := Aside0.mk (blk_grown (g := gb173) (o := .cells #[.int .i64 a0_0, .slice (some ad176) l0_1.length c0_1, .slice A0_2 l0_2.length c0_2, .slice A0_3 l0_3.length c0_3, .int .i64 a0_4, .int .i64 a0_5, .slice A0_6 l0_6.length c0_6] 50 (0, 0)) (by (with_reducible repeat (first | refine blk_drewN ?_ _ | refine blk_drew ?_ | refine blk_alloc ?_ _)); exact BK173.out) hg (Kd.R_ne HO_7.out BK173.out (by decide))); have n3_ := Aside0.mk (hb); have n4_ := Aside0.mk (ho); clear HO_8; clear BK172; clear BK173; clear HB; clear HO_7; have HO_8 := n0_; have BK172 := n1_; have BK173 := n2_; have HB := n3_; have HO190 := n4_; clear n0_ n1_ n2_ n3_ n4_; clear ho hb hg hat; have hcz60_0 : w59.cell? ⟨gb173, 0, none⟩ = some (.int .i64 a0_0) := (blk_cell BK173.out 0).trans rfl; have hcz60_1 : w59.cell? ⟨gb173, 1, none⟩ = some (.slice (some ad176) l0_1.length c0_1) := (blk_cell BK173.out 1).trans rfl; have hcz60_2 : w59.cell? ⟨gb173, 2, none⟩ = some (.slice A0_2 l0_2.length c0_2) := (blk_cell BK173.out 2).trans rfl; have hcz60_3 : w59.cell? ⟨gb173, 3, none⟩ = some (.slice A0_3 l0_3.length c0_3) := (blk_cell BK173.out 3).trans rfl; have hcz60_4 : w59.cell? ⟨gb173, 4, none⟩ = some (.int .i64 a0_4) := (blk_cell BK173.out 4).trans rfl; have hcz60_5 : w59.cell? ⟨gb173, 5, none⟩ = some (.int .i64 a0_5) := (blk_cell BK173.out 5).trans rfl; have hcz60_6 : w59.cell? ⟨gb173, 6, none⟩ = some (.slice A0_6 l0_6.length c0_6) := (blk_cell BK173.out 6).trans rfl; have hfz60_0 := blk_frozen BK173.out 0; have hfz60_1 := blk_frozen BK173.out 1; have hfz60_2 := blk_frozen BK173.out 2; have hfz60_3 := blk_frozen BK173.out 3; have hfz60_4 := blk_frozen BK173.out 4; have hfz60_5 := blk_frozen BK173.out 5; have hfz60_6 := blk_frozen BK173.out 6) | ((with_reducible refine gate_callee (f := 35) rfl ?_); refine goesL_ (some 68) rfl rfl Try.func35 (by kernel_rfl) rfl #[.agg #[.int .i64 a0_0, .slice (some ad176) l0_1.length c0_1, .slice A0_2 l0_2.length c0_2, .slice A0_3 l0_3.length c0_3], .int .i64 t187] rfl (by (try simp only [List.map_toArray, List.map_cons, List.map_nil]); first | done | rfl | (simp only [List.length_drop, List.length_take]; rfl)) ?_; (with_reducible refine (rot_Head.calls a0_0 _ _ l0_1 _ _ l0_2 _ _ l0_3 t187 t191 _ ?side1 ?side2 ?side3 ?side4 ?side5 ?side6 A35.out).mono ?_); (case side1 => repeat (first | exact (Kd.C_below HR0_1.out HB.out) | (with_reducible refine Kd.C_alloc ?_ _) | (with_reducible refine Kd.C_drewN ?_ _) | (with_reducible refine Kd.C_drew ?_))); (case side2 => exact HC0_1.out); (case side3 => repeat (first | exact (Kd.C_below HR0_2.out HB.out) | (with_reducible refine Kd.C_alloc ?_ _) | (with_reducible refine Kd.C_drewN ?_ _) | (with_reducible refine Kd.C_drew ?_))); (case side4 => exact HC0_2.out); (case side5 => repeat (first | exact (Kd.C_below HR0_3.out HB.out) | (with_reducible refine Kd.C_alloc ?_ _) | (with_reducible refine Kd.C_drewN ?_ _) | (with_reducible refine Kd.C_drew ?_))); (case side6 => exact HC0_3.out); rintro e w61 ⟨rfl, hb⟩; refine ⟨_, rfl, ?_⟩; have n0_ := Aside0.mk (Kd.R_below (by (with_reducible repeat (first | apply Kd.R_alloc | apply Kd.R_drewN | apply Kd.R_drew)); exact HO_8.out) hb); have n1_ := Aside0.mk (Kd.R_below (by (with_reducible repeat (first | apply Kd.R_alloc | apply Kd.R_drewN | apply Kd.R_drew)); exact HO190.out) hb); have n2_ := Aside0.mk (blk_below (g := gb172) (o := .cells #[.bool x173000_2, .int .i64 x173001_2, .slice none 0 0] 28 (0, 0)) (by (with_reducible repeat (first | refine blk_drewN ?_ _ | refine blk_drew ?_ | refine blk_alloc ?_ _)); exact BK172.out) hb); have n3_ := Aside0.mk (blk_below (g := gb173) (o := .cells #[.int .i64 a0_0, .slice (some ad176) l0_1.length c0_1, .slice A0_2 l0_2.length c0_2, .slice A0_3 l0_3.length c0_3, .int .i64 a0_4, .int .i64 a0_5, .slice A0_6 l0_6.length c0_6] 50 (0, 0)) (by (with_reducible repeat (first | refine blk_drewN ?_ _ | refine blk_drew ?_ | refine blk_alloc ?_ _)); exact BK173.out) hb); have n4_ := Aside0.mk (below_step (by repeat (first | (with_reducible first | exact HB.out | apply below_alloc | apply pw_below_drewN | apply below_drew1 | refine below_set ?_ GE172.out | refine below_set ?_ GE173.out) | exact HB.out)) hb); clear HO_8; clear HO190; clear BK172; clear BK173; clear HB; have HO_8 := n0_; have HO190 := n1_; have BK172 := n2_; have BK173 := n3_; have HB := n4_; clear n0_ n1_ n2_ n3_ n4_; (try clear hb); (try clear hb2); (try clear hk); (try clear hi); have hcz62_0 : w61.cell? ⟨gb173, 0, none⟩ = some (.int .i64 a0_0) := (blk_cell BK173.out 0).trans rfl; have hcz62_1 : w61.cell? ⟨gb173, 1, none⟩ = some (.slice (some ad176) l0_1.length c0_1) := (blk_cell BK173.out 1).trans rfl; have hcz62_2 : w61.cell? ⟨gb173, 2, none⟩ = some (.slice A0_2 l0_2.length c0_2) := (blk_cell BK173.out 2).trans rfl; have hcz62_3 : w61.cell? ⟨gb173, 3, none⟩ = some (.slice A0_3 l0_3.length c0_3) := (blk_cell BK173.out 3).trans rfl; have hcz62_4 : w61.cell? ⟨gb173, 4, none⟩ = some (.int .i64 a0_4) := (blk_cell BK173.out 4).trans rfl; have hcz62_5 : w61.cell? ⟨gb173, 5, none⟩ = some (.int .i64 a0_5) := (blk_cell BK173.out 5).trans rfl; have hcz62_6 : w61.cell? ⟨gb173, 6, none⟩ = some (.slice A0_6 l0_6.length c0_6) := (blk_cell BK173.out 6).trans rfl; have hfz62_0 := blk_frozen BK173.out 0; have hfz62_1 := blk_frozen BK173.out 1; have hfz62_2 := blk_frozen BK173.out 2; have hfz62_3 := blk_frozen BK173.out 3; have hfz62_4 := blk_frozen BK173.out 4; have hfz62_5 := blk_frozen BK173.out 5; have hfz62_6 := blk_frozen BK173.out 6; obtain ⟨Ao63, co63, eo63⟩ := Kd.R_slice HO_8.out; subst eo63) | ((with_reducible refine gate_callee (f := 36) rfl ?_); refine goesL_ (some 81) rfl rfl Try.func36 (by kernel_rfl) rfl #[.slice Ao63 x8_2.length co63, .int .i64 t191] rfl (by (try simp only [List.map_toArray, List.map_cons, List.map_nil]); first | done | rfl | (simp only [List.length_drop, List.length_take]; rfl)) ?_; (with_reducible refine (slices_Index_int_int.calls k2 _ _ x8_2 t191 t199 _ ?side1 ?side2 A54.out).mono ?_); (case side1 => repeat (first | exact (Kd.R_reads' HO_8.out).2.2 | (with_reducible refine Kd.C_alloc ?_ _) | (with_reducible refine Kd.C_drewN ?_ _) | (with_reducible refine Kd.C_drew ?_))); (case side2 => exact (Kd.R_reads' HO_8.out).2.1); rintro e w' ⟨rfl, ⟨nd, rfl⟩⟩; refine ⟨_, rfl, ?_⟩) | ((with_reducible refine gate_builtin (b := .append) (xs := #[.tmp 82, .tmp 84]) rfl ?_); at_builtin; refine Kd.R_append (Kd.int .i64) (w0 := w) w.heap.size rfl (.tmp 82) (.tmp 84) 23 3 (.int .i64 0) 8 rfl Try.underlying23 info3 rfl (by decide) (by omega) (.slice Ao63 x8_2.length co63) x8_2 t191 [.int .i64 t191] (fun k_ => some k_ ≠ (v189 : Value).ownBlock) (fun _ => False) rfl rfl ?aP (fun _ hk => hk.elim) ?aF ?aO ?aB ?aS ?aL ?_; (case aP => exact rfl); (case aB => exact (by repeat (first | (with_reducible first | exact HB.out | apply below_alloc | apply pw_below_drewN | apply below_drew1 | refine below_set ?_ GE172.out | refine below_set ?_ GE173.out) | exact HB.out))); (case aF => exact (fun k_ hk => Kd.fresh' (Kd.R_lt (by (with_reducible repeat (first | apply Kd.R_alloc | apply Kd.R_drewN | apply Kd.R_drew)); exact HO190.out)) k_ hk)); (case aO => exact (by (with_reducible repeat (first | apply Kd.R_alloc | apply Kd.R_drewN | apply Kd.R_drew)); exact Kd.R_mono HO_8.out (fun _ hk => hk.2))); (case aS => exact (below_size (by repeat (first | (with_reducible first | exact HB.out | apply below_alloc | apply pw_below_drewN | apply below_drew1 | refine below_set ?_ GE172.out | refine below_set ?_ GE173.out) | exact HB.out)))); (case aL => have := LMc55.out; omega); intro v201 w64 ho hb hg hat; rw [← Ny200.out] at ho; have n0_ := Aside0.mk (blk_grown (g := gb172) (o := .cells #[.bool x173000_2, .int .i64 x173001_2, .slice none 0 0] 28 (0, 0)) (by (with_reducible repeat (first | refine blk_drewN ?_ _ | refine blk_drew ?_ | refine blk_alloc ?_ _)); exact BK172.out) hg (Kd.R_ne HO_8.out BK172.out (by decide))); have n1_ := Aside0.mk (blk_grown (g := gb173) (o := .cells #[.int .i64 a0_0, .slice (some ad176) l0_1.length c0_1, .slice A0_2 l0_2.length c0_2, .slice A0_3 l0_3.length c0_3, .int .i64 a0_4, .int .i64 a0_5, .slice A0_6 l0_6.length c0_6] 50 (0, 0)) (by (with_reducible repeat (first | refine blk_drewN ?_ _ | refine blk_drew ?_ | refine blk_alloc ?_ _)); exact BK173.out) hg (Kd.R_ne HO_8.out BK173.out (by decide))); have n2_ := Aside0.mk (Kd.R_after (ok := (fun _ => True)) (by (with_reducible repeat (first | apply Kd.R_alloc | apply Kd.R_drewN | apply Kd.R_drew)); exact Kd.R_mono HO190.out (fun _ hk => ⟨trivial, hk⟩)) hg hat); have n3_ := Aside0.mk (hb); have n4_ := Aside0.mk (ho); clear BK172; clear BK173; clear HO190; clear HB; clear HO_8; have BK172 := n0_; have BK173 := n1_; have HO190 := n2_; have HB := n3_; have HO202 := n4_; clear n0_ n1_ n2_ n3_ n4_; clear ho hb hg hat))
                            go_roundg k2
                            case measure => have := HJ12.out; have := HK2.out; omega
                            case rel => exact ⟨(t191), (y188), (y200), (t199), (x173000_2), (x173001_2), (by first | rfl | (simp; done) | (simp [*]; done)), (by first | rfl | (simp; done) | (simp [*]; done)), H', ⟨by have := HJ12.out; have := HK2.out; omega⟩, ⟨by (with_reducible repeat (first | apply Kd.R_alloc | apply Kd.R_drewN | apply Kd.R_drew)); exact Kd.R_mono HO190.out (fun _ hk => hk.2)⟩, ⟨by (with_reducible repeat (first | apply Kd.R_alloc | apply Kd.R_drewN | apply Kd.R_drew)); exact HO202.out⟩, ⟨by (with_reducible repeat (first | refine blk_drewN ?_ _ | refine blk_drew ?_ | refine blk_alloc ?_ _)); exact BK172.out⟩, ⟨by (with_reducible repeat (first | refine blk_drewN ?_ _ | refine blk_drew ?_ | refine blk_alloc ?_ _)); exact BK173.out⟩, ⟨by repeat (first | (with_reducible first | exact HB.out | apply below_alloc | apply pw_below_drewN | apply below_drew1 | refine below_set ?_ GE172.out | refine below_set ?_ GE173.out) | exact HB.out)⟩⟩
                          · rw [if_neg c55] at H
                            exact absurd H (by simp)
                      · rw [if_neg c36] at H
                        have c36b0 : (t191 == a0_5) = false := beq_eq_false_iff_ne.mpr c36
                        have c36b1 : (t191 != a0_5) = true := bne_iff_ne.mpr c36
                        replace H := Option.bind_eq_some_iff.mp H
                        obtain ⟨t203, A650, H⟩ := H
                        replace H : (if x8_2.length < 17592186044416 then (parts_walk_part.l0 k2 t175 t191 y188 (x8_2 ++ [t191]) t203 a0_0 l0_1 l0_2 l0_3 a0_4 a0_5 l0_6) else (none)) = some (r1, r2, r3, r4) := H
                        have A65 := Aside0.mk A650
                        clear A650
                        by_cases c66 : x8_2.length < 17592186044416
                        · rw [if_pos c66] at H
                          have LMc66 := Aside0.mk c66
                          clear c66
                          obtain ⟨y204, hy204⟩ : ∃ y_ : List Int, y_ = (x8_2 ++ [t191]) := ⟨_, rfl⟩
                          replace H : (parts_walk_part.l0 k2 t175 t191 y188 y204 t203 a0_0 l0_1 l0_2 l0_3 a0_4 a0_5 l0_6) = some (r1, r2, r3, r4) := by first | (rw [hy204]; with_reducible exact H) | (have H2_ := (Option.bind_some _ _).symm.trans H; rw [hy204]; with_reducible exact H2_) | (have H2_ := (Option.bind_some _ _).symm.trans H; with_reducible exact H2_) | with_reducible exact H | (rw [hy204]; exact H) | exact H
                          have Ny204 := Aside0.mk hy204
                          clear hy204
                          have H' := Aside0.mk H
                          clear H
                          have hnb67 := NB173_172.out
                          have hnc67 := NB172_173.out
                          have hcz68_0 : wr.cell? ⟨gb173, 0, none⟩ = some (.int .i64 a0_0) := (blk_cell BK173.out 0).trans rfl
                          have hcz68_1 : wr.cell? ⟨gb173, 1, none⟩ = some (.slice (some ad176) l0_1.length c0_1) := (blk_cell BK173.out 1).trans rfl
                          have hcz68_2 : wr.cell? ⟨gb173, 2, none⟩ = some (.slice A0_2 l0_2.length c0_2) := (blk_cell BK173.out 2).trans rfl
                          have hcz68_3 : wr.cell? ⟨gb173, 3, none⟩ = some (.slice A0_3 l0_3.length c0_3) := (blk_cell BK173.out 3).trans rfl
                          have hcz68_4 : wr.cell? ⟨gb173, 4, none⟩ = some (.int .i64 a0_4) := (blk_cell BK173.out 4).trans rfl
                          have hcz68_5 : wr.cell? ⟨gb173, 5, none⟩ = some (.int .i64 a0_5) := (blk_cell BK173.out 5).trans rfl
                          have hcz68_6 : wr.cell? ⟨gb173, 6, none⟩ = some (.slice A0_6 l0_6.length c0_6) := (blk_cell BK173.out 6).trans rfl
                          have hfz68_0 := blk_frozen BK173.out 0
                          have hfz68_1 := blk_frozen BK173.out 1
                          have hfz68_2 := blk_frozen BK173.out 2
                          have hfz68_3 := blk_frozen BK173.out 3
                          have hfz68_4 := blk_frozen BK173.out 4
                          have hfz68_5 := blk_frozen BK173.out 5
                          have hfz68_6 := blk_frozen BK173.out 6
                          go_wp2_with (first | ((with_reducible refine gate_callee (f := 34) rfl ?_); refine goesL_ (some 55) rfl rfl Try.func34 (by kernel_rfl) rfl #[.pointer (some ⟨gb173, 0, none⟩), .int .i64 x6_2] rfl (by (try simp only [List.map_toArray, List.map_cons, List.map_nil]); first | done | rfl | (simp only [List.length_drop, List.length_take]; rfl)) ?_; (with_reducible refine (parts_walk_out.calls k2 a0_0 _ _ l0_1 _ _ l0_2 _ _ l0_3 a0_4 a0_5 _ _ l0_6 x6_2 t187 _ ?side1 ?side2 ?side3 ?side4 ?side5 ?side6 ?side7 ?side8 A28.out _ BK173.out).mono ?_); (case side1 => repeat (first | exact (Kd.C_below HR0_1.out HB.out) | (with_reducible refine Kd.C_alloc ?_ _) | (with_reducible refine Kd.C_drewN ?_ _) | (with_reducible refine Kd.C_drew ?_))); (case side2 => exact HC0_1.out); (case side3 => repeat (first | exact (Kd.C_below HR0_2.out HB.out) | (with_reducible refine Kd.C_alloc ?_ _) | (with_reducible refine Kd.C_drewN ?_ _) | (with_reducible refine Kd.C_drew ?_))); (case side4 => exact HC0_2.out); (case side5 => repeat (first | exact (Kd.C_below HR0_3.out HB.out) | (with_reducible refine Kd.C_alloc ?_ _) | (with_reducible refine Kd.C_drewN ?_ _) | (with_reducible refine Kd.C_drew ?_))); (case side6 => exact HC0_3.out); (case side7 => repeat (first | exact (Kd.C_below HR0_6.out HB.out) | (with_reducible refine Kd.C_alloc ?_ _) | (with_reducible refine Kd.C_drewN ?_ _) | (with_reducible refine Kd.C_drew ?_))); (case side8 => exact HC0_6.out); rintro e w69 ⟨rfl, hb⟩; refine ⟨_, rfl, ?_⟩; have n0_ := Aside0.mk (Kd.R_below (by (with_reducible repeat (first | apply Kd.R_alloc | apply Kd.R_drewN | apply Kd.R_drew)); exact HO_7.out) hb); have n1_ := Aside0.mk (Kd.R_below (by (with_reducible repeat (first | apply Kd.R_alloc | apply Kd.R_drewN | apply Kd.R_drew)); exact HO_8.out) hb); have n2_ := Aside0.mk (blk_below (g := gb172) (o := .cells #[.bool x173000_2, .int .i64 x173001_2, .slice none 0 0] 28 (0, 0)) (by (with_reducible repeat (first | refine blk_drewN ?_ _ | refine blk_drew ?_ | refine blk_alloc ?_ _)); exact BK172.out) hb); have n3_ := Aside0.mk (blk_below (g := gb173) (o := .cells #[.int .i64 a0_0, .slice (some ad176) l0_1.length c0_1, .slice A0_2 l0_2.length c0_2, .slice A0_3 l0_3.length c0_3, .int .i64 a0_4, .int .i64 a0_5, .slice A0_6 l0_6.length c0_6] 50 (0, 0)) (by (with_reducible repeat (first | refine blk_drewN ?_ _ | refine blk_drew ?_ | refine blk_alloc ?_ _)); exact BK173.out) hb); have n4_ := Aside0.mk (below_step (by repeat (first | (with_reducible first | exact HB.out | apply below_alloc | apply pw_below_drewN | apply below_drew1 | refine below_set ?_ GE172.out | refine below_set ?_ GE173.out) | exact HB.out)) hb); clear HO_7; clear HO_8; clear BK172; clear BK173; clear HB; have HO_7 := n0_; have HO_8 := n1_; have BK172 := n2_; have BK173 := n3_; have HB := n4_; clear n0_ n1_ n2_ n3_ n4_; (try clear hb); (try clear hb2); (try clear hk); (try clear hi)) | ((with_reducible refine gate_builtin (b := .append) (xs := #[.tmp 59, .tmp 61]) rfl ?_); at_builtin; refine Kd.R_append (Kd.int .i64) (w0 := w) w.heap.size rfl (.tmp 59) (.tmp 61) 23 3 (.int .i64 0) 8 rfl Try.underlying23 info3 rfl (by decide) (by omega) u7 x7_2 t187 [.int .i64 t187] (fun k_ => some k_ ≠ (u8 : Value).ownBlock) (fun _ => False) rfl rfl ?aP (fun _ hk => hk.elim) ?aF ?aO ?aB ?aS ?aL ?_; (case aP => exact rfl); (case aB => exact (by repeat (first | (with_reducible first | exact HB.out | apply below_alloc | apply pw_below_drewN | apply below_drew1 | refine below_set ?_ GE172.out | refine below_set ?_ GE173.out) | exact HB.out))); (case aF => exact (fun k_ hk => Kd.fresh' (Kd.R_lt (by (with_reducible repeat (first | apply Kd.R_alloc | apply Kd.R_drewN | apply Kd.R_drew)); exact HO_8.out)) k_ hk)); (case aO => exact (by (with_reducible repeat (first | apply Kd.R_alloc | apply Kd.R_drewN | apply Kd.R_drew)); exact HO_7.out)); (case aS => exact (below_size (by repeat (first | (with_reducible first | exact HB.out | apply below_alloc | apply pw_below_drewN | apply below_drew1 | refine below_set ?_ GE172.out | refine below_set ?_ GE173.out) | exact HB.out)))); (case aL => have := LMc34.out; omega); intro v189 w70 ho hb hg hat; rw [← Ny188.out] at ho; have n0_ := Aside0.mk (Kd.R_after (ok := (fun _ => True)) (by (with_reducible repeat (first | apply Kd.R_alloc | apply Kd.R_drewN | apply Kd.R_drew)); exact Kd.R_mono HO_8.out (fun _ hk => ⟨trivial, hk⟩)) hg hat); have n1_ := Aside0.mk (blk_grown (g := gb172) (o := .cells #[.bool x173000_2, .int .i64 x173001_2, .slice none 0 0] 28 (0, 0)) (by (with_reducible repeat (first | refine blk_drewN ?_ _ | refine blk_drew ?_ | refine blk_alloc ?_ _)); exact BK172.out) hg (Kd.R_ne HO_7.out BK172.out (by decide))); have n2_ := Aside0.mk (blk_grown (g := gb173) (o := .cells #[.int .i64 a0_0, .slice (some ad176) l0_1.length c0_1, .slice A0_2 l0_2.length c0_2, .slice A0_3 l0_3.length c0_3, .int .i64 a0_4, .int .i64 a0_5, .slice A0_6 l0_6.length c0_6] 50 (0, 0)) (by (with_reducible repeat (first | refine blk_drewN ?_ _ | refine blk_drew ?_ | refine blk_alloc ?_ _)); exact BK173.out) hg (Kd.R_ne HO_7.out BK173.out (by decide))); have n3_ := Aside0.mk (hb); have n4_ := Aside0.mk (ho); clear HO_8; clear BK172; clear BK173; clear HB; clear HO_7; have HO_8 := n0_; have BK172 := n1_; have BK173 := n2_; have HB := n3_; have HO190 := n4_; clear n0_ n1_ n2_ n3_ n4_; clear ho hb hg hat; have hcz71_0 : w70.cell? ⟨gb173, 0, none⟩ = some (.int .i64 a0_0) := (blk_cell BK173.out 0).trans rfl; have hcz71_1 : w70.cell? ⟨gb173, 1, none⟩ = some (.slice (some ad176) l0_1.length c0_1) := (blk_cell BK173.out 1).trans rfl; have hcz71_2 : w70.cell? ⟨gb173, 2, none⟩ = some (.slice A0_2 l0_2.length c0_2) := (blk_cell BK173.out 2).trans rfl; have hcz71_3 : w70.cell? ⟨gb173, 3, none⟩ = some (.slice A0_3 l0_3.length c0_3) := (blk_cell BK173.out 3).trans rfl; have hcz71_4 : w70.cell? ⟨gb173, 4, none⟩ = some (.int .i64 a0_4) := (blk_cell BK173.out 4).trans rfl; have hcz71_5 : w70.cell? ⟨gb173, 5, none⟩ = some (.int .i64 a0_5) := (blk_cell BK173.out 5).trans rfl; have hcz71_6 : w70.cell? ⟨gb173, 6, none⟩ = some (.slice A0_6 l0_6.length c0_6) := (blk_cell BK173.out 6).trans rfl; have hfz71_0 := blk_frozen BK173.out 0; have hfz71_1 := blk_frozen BK173.out 1; have hfz71_2 := blk_frozen BK173.out 2; have hfz71_3 := blk_frozen BK173.out 3; have hfz71_4 := blk_frozen BK173.out 4; have hfz71_5 := blk_frozen BK173.out 5; have hfz71_6 := blk_frozen BK173.out 6) | ((with_reducible refine gate_callee (f := 35) rfl ?_); refine goesL_ (some 68) rfl rfl Try.func35 (by kernel_rfl) rfl #[.agg #[.int .i64 a0_0, .slice (some ad176) l0_1.length c0_1, .slice A0_2 l0_2.length c0_2, .slice A0_3 l0_3.length c0_3], .int .i64 t187] rfl (by (try simp only [List.map_toArray, List.map_cons, List.map_nil]); first | done | rfl | (simp only [List.length_drop, List.length_take]; rfl)) ?_; (with_reducible refine (rot_Head.calls a0_0 _ _ l0_1 _ _ l0_2 _ _ l0_3 t187 t191 _ ?side1 ?side2 ?side3 ?side4 ?side5 ?side6 A35.out).mono ?_); (case side1 => repeat (first | exact (Kd.C_below HR0_1.out HB.out) | (with_reducible refine Kd.C_alloc ?_ _) | (with_reducible refine Kd.C_drewN ?_ _) | (with_reducible refine Kd.C_drew ?_))); (case side2 => exact HC0_1.out); (case side3 => repeat (first | exact (Kd.C_below HR0_2.out HB.out) | (with_reducible refine Kd.C_alloc ?_ _) | (with_reducible refine Kd.C_drewN ?_ _) | (with_reducible refine Kd.C_drew ?_))); (case side4 => exact HC0_2.out); (case side5 => repeat (first | exact (Kd.C_below HR0_3.out HB.out) | (with_reducible refine Kd.C_alloc ?_ _) | (with_reducible refine Kd.C_drewN ?_ _) | (with_reducible refine Kd.C_drew ?_))); (case side6 => exact HC0_3.out); rintro e w72 ⟨rfl, hb⟩; refine ⟨_, rfl, ?_⟩; have n0_ := Aside0.mk (Kd.R_below (by (with_reducible repeat (first | apply Kd.R_alloc | apply Kd.R_drewN | apply Kd.R_drew)); exact HO_8.out) hb); have n1_ := Aside0.mk (Kd.R_below (by (with_reducible repeat (first | apply Kd.R_alloc | apply Kd.R_drewN | apply Kd.R_drew)); exact HO190.out) hb); have n2_ := Aside0.mk (blk_below (g := gb172) (o := .cells #[.bool x173000_2, .int .i64 x173001_2, .slice none 0 0] 28 (0, 0)) (by (with_reducible repeat (first | refine blk_drewN ?_ _ | refine blk_drew ?_ | refine blk_alloc ?_ _)); exact BK172.out) hb); have n3_ := Aside0.mk (blk_below (g := gb173) (o := .cells #[.int .i64 a0_0, .slice (some ad176) l0_1.length c0_1, .slice A0_2 l0_2.length c0_2, .slice A0_3 l0_3.length c0_3, .int .i64 a0_4, .int .i64 a0_5, .slice A0_6 l0_6.length c0_6] 50 (0, 0)) (by (with_reducible repeat (first | refine blk_drewN ?_ _ | refine blk_drew ?_ | refine blk_alloc ?_ _)); exact BK173.out) hb); have n4_ := Aside0.mk (below_step (by repeat (first | (with_reducible first | exact HB.out | apply below_alloc | apply pw_below_drewN | apply below_drew1 | refine below_set ?_ GE172.out | refine below_set ?_ GE173.out) | exact HB.out)) hb); clear HO_8; clear HO190; clear BK172; clear BK173; clear HB; have HO_8 := n0_; have HO190 := n1_; have BK172 := n2_; have BK173 := n3_; have HB := n4_; clear n0_ n1_ n2_ n3_ n4_; (try clear hb); (try clear hb2); (try clear hk); (try clear hi); have hcz73_0 : w72.cell? ⟨gb173, 0, none⟩ = some (.int .i64 a0_0) := (blk_cell BK173.out 0).trans rfl; have hcz73_1 : w72.cell? ⟨gb173, 1, none⟩ = some (.slice (some ad176) l0_1.length c0_1) := (blk_cell BK173.out 1).trans rfl; have hcz73_2 : w72.cell? ⟨gb173, 2, none⟩ = some (.slice A0_2 l0_2.length c0_2) := (blk_cell BK173.out 2).trans rfl; have hcz73_3 : w72.cell? ⟨gb173, 3, none⟩ = some (.slice A0_3 l0_3.length c0_3) := (blk_cell BK173.out 3).trans rfl; have hcz73_4 : w72.cell? ⟨gb173, 4, none⟩ = some (.int .i64 a0_4) := (blk_cell BK173.out 4).trans rfl; have hcz73_5 : w72.cell? ⟨gb173, 5, none⟩ = some (.int .i64 a0_5) := (blk_cell BK173.out 5).trans rfl; have hcz73_6 : w72.cell? ⟨gb173, 6, none⟩ = some (.slice A0_6 l0_6.length c0_6) := (blk_cell BK173.out 6).trans rfl; have hfz73_0 := blk_frozen BK173.out 0; have hfz73_1 := blk_frozen BK173.out 1; have hfz73_2 := blk_frozen BK173.out 2; have hfz73_3 := blk_frozen BK173.out 3; have hfz73_4 := blk_frozen BK173.out 4; have hfz73_5 := blk_frozen BK173.out 5; have hfz73_6 := blk_frozen BK173.out 6; obtain ⟨Ao74, co74, eo74⟩ := Kd.R_slice HO_8.out; subst eo74) | ((with_reducible refine gate_callee (f := 36) rfl ?_); refine goesL_ (some 81) rfl rfl Try.func36 (by kernel_rfl) rfl #[.slice Ao74 x8_2.length co74, .int .i64 t191] rfl (by (try simp only [List.map_toArray, List.map_cons, List.map_nil]); first | done | rfl | (simp only [List.length_drop, List.length_take]; rfl)) ?_; (with_reducible refine (slices_Index_int_int.calls k2 _ _ x8_2 t191 t203 _ ?side1 ?side2 A65.out).mono ?_); (case side1 => repeat (first | exact (Kd.R_reads' HO_8.out).2.2 | (with_reducible refine Kd.C_alloc ?_ _) | (with_reducible refine Kd.C_drewN ?_ _) | (with_reducible refine Kd.C_drew ?_))); (case side2 => exact (Kd.R_reads' HO_8.out).2.1); rintro e w' ⟨rfl, ⟨nd, rfl⟩⟩; refine ⟨_, rfl, ?_⟩) | ((with_reducible refine gate_builtin (b := .append) (xs := #[.tmp 82, .tmp 84]) rfl ?_); at_builtin; refine Kd.R_append (Kd.int .i64) (w0 := w) w.heap.size rfl (.tmp 82) (.tmp 84) 23 3 (.int .i64 0) 8 rfl Try.underlying23 info3 rfl (by decide) (by omega) (.slice Ao74 x8_2.length co74) x8_2 t191 [.int .i64 t191] (fun k_ => some k_ ≠ (v189 : Value).ownBlock) (fun _ => False) rfl rfl ?aP (fun _ hk => hk.elim) ?aF ?aO ?aB ?aS ?aL ?_; (case aP => exact rfl); (case aB => exact (by repeat (first | (with_reducible first | exact HB.out | apply below_alloc | apply pw_below_drewN | apply below_drew1 | refine below_set ?_ GE172.out | refine below_set ?_ GE173.out) | exact HB.out))); (case aF => exact (fun k_ hk => Kd.fresh' (Kd.R_lt (by (with_reducible repeat (first | apply Kd.R_alloc | apply Kd.R_drewN | apply Kd.R_drew)); exact HO190.out)) k_ hk)); (case aO => exact (by (with_reducible repeat (first | apply Kd.R_alloc | apply Kd.R_drewN | apply Kd.R_drew)); exact Kd.R_mono HO_8.out (fun _ hk => hk.2))); (case aS => exact (below_size (by repeat (first | (with_reducible first | exact HB.out | apply below_alloc | apply pw_below_drewN | apply below_drew1 | refine below_set ?_ GE172.out | refine below_set ?_ GE173.out) | exact HB.out)))); (case aL => have := LMc66.out; omega); intro v205 w75 ho hb hg hat; rw [← Ny204.out] at ho; have n0_ := Aside0.mk (blk_grown (g := gb172) (o := .cells #[.bool x173000_2, .int .i64 x173001_2, .slice none 0 0] 28 (0, 0)) (by (with_reducible repeat (first | refine blk_drewN ?_ _ | refine blk_drew ?_ | refine blk_alloc ?_ _)); exact BK172.out) hg (Kd.R_ne HO_8.out BK172.out (by decide))); have n1_ := Aside0.mk (blk_grown (g := gb173) (o := .cells #[.int .i64 a0_0, .slice (some ad176) l0_1.length c0_1, .slice A0_2 l0_2.length c0_2, .slice A0_3 l0_3.length c0_3, .int .i64 a0_4, .int .i64 a0_5, .slice A0_6 l0_6.length c0_6] 50 (0, 0)) (by (with_reducible repeat (first | refine blk_drewN ?_ _ | refine blk_drew ?_ | refine blk_alloc ?_ _)); exact BK173.out) hg (Kd.R_ne HO_8.out BK173.out (by decide))); have n2_ := Aside0.mk (Kd.R_after (ok := (fun _ => True)) (by (with_reducible repeat (first | apply Kd.R_alloc | apply Kd.R_drewN | apply Kd.R_drew)); exact Kd.R_mono HO190.out (fun _ hk => ⟨trivial, hk⟩)) hg hat); have n3_ := Aside0.mk (hb); have n4_ := Aside0.mk (ho); clear BK172; clear BK173; clear HO190; clear HB; clear HO_8; have BK172 := n0_; have BK173 := n1_; have HO190 := n2_; have HB := n3_; have HO206 := n4_; clear n0_ n1_ n2_ n3_ n4_; clear ho hb hg hat))
                          go_roundg k2
                          case measure => have := HJ12.out; have := HK2.out; omega
                          case rel => exact ⟨(t191), (y188), (y204), (t203), (x173000_2), (x173001_2), (by first | rfl | (simp; done) | (simp [*]; done)), (by first | rfl | (simp; done) | (simp [*]; done)), H', ⟨by have := HJ12.out; have := HK2.out; omega⟩, ⟨by (with_reducible repeat (first | apply Kd.R_alloc | apply Kd.R_drewN | apply Kd.R_drew)); exact Kd.R_mono HO190.out (fun _ hk => hk.2)⟩, ⟨by (with_reducible repeat (first | apply Kd.R_alloc | apply Kd.R_drewN | apply Kd.R_drew)); exact HO206.out⟩, ⟨by (with_reducible repeat (first | refine blk_drewN ?_ _ | refine blk_drew ?_ | refine blk_alloc ?_ _)); exact BK172.out⟩, ⟨by (with_reducible repeat (first | refine blk_drewN ?_ _ | refine blk_drew ?_ | refine blk_alloc ?_ _)); exact BK173.out⟩, ⟨by repeat (first | (with_reducible first | exact HB.out | apply below_alloc | apply pw_below_drewN | apply below_drew1 | refine below_set ?_ GE172.out | refine below_set ?_ GE173.out) | exact HB.out)⟩⟩
                        · rw [if_neg c66] at H
                          exact absurd H (by simp)
                    · rw [if_neg c34] at H
                      exact absurd H (by simp)
                · rw [if_neg c27] at H
                  have c27b0 : decide (x9_2 < 0) = false := decide_eq_false c27
                  clear c27
                  obtain ⟨ji76, hji76⟩ : ∃ j_ : Int, (mx x9_2 0) = j_ := ⟨_, rfl⟩
                  replace H : (if 0 ≤ (ji76) then (if (ji76) ≤ (x7_2.length : Int) then ((slices_Clone_int_int.f (x7_2.drop ((ji76) : Int).toNat)).bind fun t184 => (parts_tail x9_2 t175 t184 l0_6)) else (none)) else (none)) = some (r1, r2, r3, r4) := by first | (rw [hji76] at H; exact H) | (simp only [hji76] at H ⊢; exact H)
                  have hji76_ : (if x9_2 < 0 then 0 else x9_2) = ji76 := hji76
                  by_cases c77 : 0 ≤ (ji76)
                  · rw [if_pos c77] at H
                    have c77b0 := eq_true c77
                    have c77b1 : decide (0 ≤ (ji76)) = true := decide_eq_true c77
                    clear c77
                    by_cases c78 : (ji76) ≤ (x7_2.length : Int)
                    · rw [if_pos c78] at H
                      have c78b0 := eq_true c78
                      have c78b1 : decide ((ji76) ≤ (x7_2.length : Int)) = true := decide_eq_true c78
                      clear c78
                      obtain ⟨y180, hy180⟩ : ∃ y_ : List Int, y_ = (x7_2.drop ((ji76) : Int).toNat) := ⟨_, rfl⟩
                      replace H : ((slices_Clone_int_int.f y180).bind fun t184 => (parts_tail x9_2 t175 t184 l0_6)) = some (r1, r2, r3, r4) := by first | (rw [hy180]; with_reducible exact H) | (have H2_ := (Option.bind_some _ _).symm.trans H; rw [hy180]; with_reducible exact H2_) | (have H2_ := (Option.bind_some _ _).symm.trans H; with_reducible exact H2_) | with_reducible exact H | (rw [hy180]; exact H) | exact H
                      have Ny180 := Aside0.mk hy180
                      clear hy180
                      replace H := Option.bind_eq_some_iff.mp H
                      obtain ⟨t184, A790, H⟩ := H
                      replace H : (parts_tail x9_2 t175 t184 l0_6) = some (r1, r2, r3, r4) := H
                      have A79 := Aside0.mk A790
                      clear A790
                      have HTL := Aside0.mk H
                      clear H
                      obtain ⟨Ao81, co81, eo81⟩ := Kd.R_slice HO_7.out
                      subst eo81
                      have q80 : ((ji76) : Int) ≤ ((x7_2.length : Int) : Int) := of_decide_eq_true (by first | (with_reducible assumption) | assumption)
                      obtain ⟨i080, hi080, _, hsz80, _⟩ := info_parts info3
                      have hroom80 : x7_2.length ≤ co81 := (Kd.R_reads' HO_7.out).2.1
                      have hC80 : Kd.C (Kd.int .i64) _ Ao81 x7_2.length x7_2 := (Kd.R_reads' HO_7.out).2.2
                      have q080 : (0 : Int) ≤ ((ji76) : Int) := of_decide_eq_true (by first | (with_reducible assumption) | assumption)
                      have hcut80 := cut_from (P := Try.prog) 23 3 .i64 Try.underlying23 hi080 1 hsz80 Ao81 x7_2.length co81 (ji76) q080 q80
                      have hr80 := Kd.C_drop (m := ((ji76) : Int).toNat) (c := co81) hC80 (by omega) hroom80
                      obtain ⟨A80, hA80⟩ : ∃ A1, A1 = (if co81 = ((ji76) : Int).toNat then Ao81 else (Ao81 : Option Addr).map (·.add (((ji76) : Int).toNat * 1))) := ⟨_, rfl⟩
                      obtain ⟨c80, hc80⟩ : ∃ c1, c1 = co81 - ((ji76) : Int).toNat := ⟨_, rfl⟩
                      have hy80 : y180.length = x7_2.length - ((ji76) : Int).toNat := (by rw [Ny180.out, List.length_drop] <;> omega)
                      rw [show (x7_2).drop ((ji76) : Int).toNat = y180 from Ny180.out.symm] at hr80
                      replace hr80 : Kd.C (Kd.int .i64) _ A80 y180.length y180 := (by rw [hA80]; exact hr80)
                      rw [← hy80, ← hA80, ← hc80] at hcut80
                      have HR183 := Aside0.mk hr80
                      have HC183 := Aside0.mk (show y180.length ≤ c80 from by rw [hy80, hc80]; exact Nat.sub_le_sub_right hroom80 _)
                      clear hr80 hC80 hroom80 hi080 hsz80 hc80
                      have KY80 := Aside0.mk hy80
                      have KA80 := Aside0.mk hA80
                      clear hy80 hA80
                      have KL80 := Aside0.mk (show ((ji76) : Int).toNat ≤ x7_2.length from by omega)
                      replace q80 := eq_true q80
                      have hrb : decide (0 ≤ x9_2) = true := decide_eq_true (by have h2_ := of_decide_eq_false (show decide (x9_2 < 0) = false by assumption); omega)
                      have hro := HTL.out
                      clear HTL
                      unfold parts_tail at hro
                      obtain ⟨am, ham, hro⟩ := Option.bind_eq_some_iff.mp hro
                      have HAM := Aside0.mk ham
                      clear ham
                      rw [if_pos (of_decide_eq_true hrb)] at hro
                      simp only [Option.some.injEq, Prod.mk.injEq] at hro
                      obtain ⟨rfl, rfl, rfl, rfl⟩ := hro
                      have HCL := Aside0.mk (Clone_len A79.out)
                      go_wp2_with (first| ((with_reducible refine gate_dst (N := 11) rfl ?_); refine box_event ?hg (N := 11) ?hd (cs := #[.bool false, .int .i64 0, .slice none 0 0]) (t := 28) ?hr ?_; (case hd => rfl); (case hg => rfl); (case hr => first | (go_simp; done) | (go_simp; rfl)); intro gp hgp wp hpbox hpb; have HGP := Aside0.mk (show w.heap.size ≤ gp by rw [hgp]; exact below_size HB.out); have HBW := Aside0.mk hpb; have HLE := Aside0.mk (Nat.le_of_eq hgp.symm); have BKP := Aside0.mk hpbox; have NP2 := Aside0.mk (show gb172 ≠ gp by have := blk_lt BK172.out; omega); have NP1 := Aside0.mk (show gb173 ≠ gp by have := blk_lt BK173.out; omega); clear hgp hpb hpbox; have hpz0 := (blk_cell BKP.out 0).trans rfl; have hpz1 := (blk_cell BKP.out 1).trans rfl; have hpz2 := (blk_cell BKP.out 2).trans rfl; have hpf0 := blk_frozen BKP.out 0; have hpf1 := blk_frozen BKP.out 1; have hpf2 := blk_frozen BKP.out 2) | ((with_reducible refine gate_store (t := 28) (p := 11) rfl ?_); refine store_event (t := 28) (p := 11) (v := ?vo_q) (w1 := (((wp.setCell ⟨gp, 0, none⟩ (.bool true)).setCell ⟨gp, 1, none⟩ (.int .i64 0)).setCell ⟨gp, 2, none⟩ (.slice A80 y180.length c80))) ?hg ?ho ?hn ?hr ?_; (case ho => rfl); (case hg => rfl); (case hn => rfl); (case hr => first | (go_simp; done) | (go_simp; rfl)); intro wq hw; have hbq : Below _ _ (((wp.setCell ⟨gp, 0, none⟩ (.bool true)).setCell ⟨gp, 1, none⟩ (.int .i64 0)).setCell ⟨gp, 2, none⟩ (.slice A80 y180.length c80)) := ((HBW.out.setCell HLE.out _).setCell HLE.out _).setCell HLE.out _; rw [← hw] at hbq; have HRQ := Aside0.mk (Kd.C_below HR183.out hbq); have n2_ := Aside0.mk (blk_below BK172.out hbq); have n1_ := Aside0.mk (blk_below BK173.out hbq); have nb_ := Aside0.mk (below_step HB.out hbq); have np_ := Aside0.mk (set3 BKP.out (.bool true) (.int .i64 0) (.slice A80 y180.length c80)); rw [← hw] at np_; clear BK172 BK173 HB BKP hbq hw; have BK172 := n2_; have BK173 := n1_; have HB := nb_; have BKP := np_; clear n2_ n1_ nb_ np_ HBW HLE; have hpy0 := (blk_cell BKP.out 0).trans rfl; have hpy1 := (blk_cell BKP.out 1).trans rfl; have hpy2 := (blk_cell BKP.out 2).trans rfl; have hpg2 := blk_frozen BKP.out 2) | ((with_reducible refine gate_callee (f := 18) rfl ?_); refine goesL_ (some 95) rfl rfl Try.func18 (by kernel_rfl) rfl #[.slice A80 y180.length c80] rfl (by (try simp only [List.map_toArray, List.map_cons, List.map_nil]); first | done | rfl | (simp only [List.length_drop, List.length_take]; rfl)) ?_; refine (slices_Clone_int_int.calls _ _ y180 t184 _ HRQ.out HC183.out A79.out).mono ?_; rintro e wv ⟨vv, rfl, hov, hbv⟩; refine ⟨_, rfl, ?_⟩; have HOV := Aside0.mk (Kd.R_lower hov (below_size HB.out)); have n2_ := Aside0.mk (blk_below BK172.out hbv); have n1_ := Aside0.mk (blk_below BK173.out hbv); have nb_ := Aside0.mk (below_step HB.out hbv); have np_ := Aside0.mk (blk_below BKP.out hbv); clear BK172 BK173 HB BKP hbv hov; have BK172 := n2_; have BK173 := n1_; have HB := nb_; have BKP := np_; clear n2_ n1_ nb_ np_; have hpx0 := (blk_cell BKP.out 0).trans rfl; have hpx1 := (blk_cell BKP.out 1).trans rfl; have hpx2 := (blk_cell BKP.out 2).trans rfl; have hpx3 := blk_frozen BKP.out 2; obtain ⟨Av, cv, ev⟩ := Kd.R_slice HOV.out; subst ev) | ((with_reducible refine gate_store (t := 23) (p := 96) rfl ?_); refine store_event (t := 23) (p := 96) (v := ?vo_s) (w1 := (wv.setCell ⟨gp, 2, none⟩ (.slice Av t184.length cv))) ?hg ?ho ?hn ?hr ?_; (case ho => rfl); (case hg => rfl); (case hn => rfl); (case hr => first | (go_simp; done) | (go_simp; rfl)); intro ws hw; have n2_ := Aside0.mk (blk_far BK172.out (p := ⟨gp, 2, none⟩) (show gb172 ≠ gp from NP2.out) (.slice Av t184.length cv)); have n1_ := Aside0.mk (blk_far BK173.out (p := ⟨gp, 2, none⟩) (show gb173 ≠ gp from NP1.out) (.slice Av t184.length cv)); have nb_ := Aside0.mk (below_set (j := 2) (v := .slice Av t184.length cv) HB.out HGP.out); have np_ := Aside0.mk (blk_set BKP.out 2 (.slice Av t184.length cv)); have no_ := Aside0.mk (Kd.R_set HOV.out BKP.out (by decide) 2 (.slice Av t184.length cv)); rw [← hw] at n2_ n1_ nb_ np_ no_; clear BK172 BK173 HB BKP HOV hw; have BK172 := n2_; have BK173 := n1_; have HB := nb_; have BKP := np_; have HOV := no_; clear n2_ n1_ nb_ np_ no_; have hps0 := (blk_cell BKP.out 0).trans rfl; have hps1 := (blk_cell BKP.out 1).trans rfl; have hps2 := (blk_cell BKP.out 2).trans rfl))
                      have hbits := HCL.out
                      go_loopw [100] (fun u W => ∃ (i : Nat) (am1 : Int), i ≤ t184.length ∧ u = .int .i64 i ∧ Aside0 (amtF l0_6 (t184.drop i) am1 = some am) ∧ Aside0 (W.heap[gp]? = some (.cells #[.bool true, .int .i64 am1, .slice Av t184.length cv] 28 (0, 0))) ∧ Aside0 (Kd.R (Kd.int .i64) 3 W w.heap.size (fun _ => True) (.slice Av t184.length cv) t184) ∧ Aside0 (W.heap[gb172]? = some (.cells #[.bool x173000_2, .int .i64 x173001_2, .slice none 0 0] 28 (0, 0))) ∧ Aside0 (W.heap[gb173]? = some (.cells #[.int .i64 a0_0, .slice (some ad176) l0_1.length c0_1, .slice A0_2 l0_2.length c0_2, .slice A0_3 l0_3.length c0_3, .int .i64 a0_4, .int .i64 a0_5, .slice A0_6 l0_6.length c0_6] 50 (0, 0))) ∧ Aside0 (Below w.heap.size w W)) (fun u _ => t184.length - (intOf u).toNat)
                      case atStart => exact ⟨0, 0, by omega, rfl, ⟨by simpa using HAM.out⟩, ⟨by simpa using BKP.out⟩, ⟨HOV.out⟩, ⟨BK172.out⟩, ⟨BK173.out⟩, ⟨HB.out⟩⟩
                      case round =>
                        clear BKP HOV BK172 BK173 HB
                        obtain ⟨i, am1, hi, rfl, HAM1, BKP, HOV, BK172, BK173, HB⟩ := hrel
                        by_cases hlt : i < t184.length
                        · have s1 : decide ((i : Int) < t184.length) = true := by simpa using hlt
                          have s2 : decide ((0 : Int) ≤ i) = true := by simp
                          have hst := HAM1.out
                          rw [drop_rd hlt] at hst
                          unfold amtF at hst
                          split at hst
                          · rename_i hd
                            obtain ⟨adv, eav, hxv⟩ := Kd.at_int (Kd.R_reads' HOV.out).2.2 (i : Int) (by omega) (by omega)
                            cases eav
                            simp only [Int.toNat_natCast] at hxv
                            obtain ⟨ad6, e6, hx6⟩ := Kd.at_int HR0_6.out (rd t184 (i : Int)) hd.1 hd.2
                            cases e6
                            replace hx6 := (HB.out.cell (World.block_lt_of_cell? w _ hx6)).trans hx6
                            have s3 : decide (0 ≤ rd t184 (i : Int)) = true := decide_eq_true hd.1
                            have s4 : decide (rd t184 (i : Int) < (l0_6.length : Int)) = true := decide_eq_true hd.2
                            have z0 : wr.cell? ⟨gp, 0, none⟩ = some (.bool true) := (blk_cell BKP.out 0).trans rfl
                            have z1 : wr.cell? ⟨gp, 1, none⟩ = some (.int .i64 am1) := (blk_cell BKP.out 1).trans rfl
                            have z2 : wr.cell? ⟨gp, 2, none⟩ = some (.slice (some adv) t184.length cv) := (blk_cell BKP.out 2).trans rfl
                            have zf := blk_frozen BKP.out 1
                            have z6 : wr.cell? ⟨gb173, 6, none⟩ = some (.slice (some ad6) l0_6.length c0_6) := (blk_cell BK173.out 6).trans rfl
                            have s3p := eq_true hd.1
                            have s4p := eq_true hd.2
                            clear hd
                            by_cases ha : am1 = 0
                            · subst ha
                              rw [if_pos rfl] at hst
                              have HAM2 := Aside0.mk hst
                              clear hst HAM1
                              go_wp2_with fail
                              go_quiet (fail)
                              go_wp2_with fail
                              exact ⟨⟨i + 1, rd l0_6 (rd t184 (i : Int)), by omega, rfl, HAM2, ⟨blk_set (blk_drewN BKP.out _) 1 _⟩, ⟨Kd.R_set (Kd.R_drewN HOV.out _) (blk_drewN BKP.out _) (by decide) 1 _⟩, ⟨blk_far (blk_drewN BK172.out _) (p := ⟨gp, 1, none⟩) (show gb172 ≠ gp from NP2.out) _⟩, ⟨blk_far (blk_drewN BK173.out _) (p := ⟨gp, 1, none⟩) (show gb173 ≠ gp from NP1.out) _⟩, ⟨below_set (pw_below_drewN HB.out _) HGP.out⟩⟩, by simp [intOf]; omega⟩
                            · have s5 : (am1 == 0) = false := beq_eq_false_iff_ne.mpr ha
                              rw [if_neg ha] at hst
                              clear ha
                              by_cases hb : rd l0_6 (rd t184 (i : Int)) < am1
                              · have s6 : decide (rd l0_6 (rd t184 (i : Int)) < am1) = true := decide_eq_true hb
                                rw [if_pos hb] at hst
                                have HAM2 := Aside0.mk hst
                                clear hst HAM1 hb
                                go_wp2_with fail
                                go_quiet (fail)
                                go_wp2_with fail
                                exact ⟨⟨i + 1, rd l0_6 (rd t184 (i : Int)), by omega, rfl, HAM2, ⟨blk_set (blk_drewN BKP.out _) 1 _⟩, ⟨Kd.R_set (Kd.R_drewN HOV.out _) (blk_drewN BKP.out _) (by decide) 1 _⟩, ⟨blk_far (blk_drewN BK172.out _) (p := ⟨gp, 1, none⟩) (show gb172 ≠ gp from NP2.out) _⟩, ⟨blk_far (blk_drewN BK173.out _) (p := ⟨gp, 1, none⟩) (show gb173 ≠ gp from NP1.out) _⟩, ⟨below_set (pw_below_drewN HB.out _) HGP.out⟩⟩, by simp [intOf]; omega⟩
                              · have s6 : decide (rd l0_6 (rd t184 (i : Int)) < am1) = false := decide_eq_false hb
                                rw [if_neg hb] at hst
                                have HAM2 := Aside0.mk hst
                                clear hst HAM1 hb
                                go_wp2_with fail
                                go_quiet (fail)
                                go_wp2_with fail
                                exact ⟨⟨i + 1, am1, by omega, rfl, HAM2, ⟨blk_drewN BKP.out _⟩, ⟨Kd.R_drewN HOV.out _⟩, ⟨blk_drewN BK172.out _⟩, ⟨blk_drewN BK173.out _⟩, ⟨pw_below_drewN HB.out _⟩⟩, by simp [intOf]; omega⟩
                          · cases hst
                        · have s1 : decide ((i : Int) < t184.length) = false := by simpa using hlt
                          obtain rfl : i = t184.length := by omega
                          have hst := HAM1.out
                          rw [List.drop_length] at hst
                          obtain rfl := Option.some.inj hst
                          clear hst HAM1
                          have z0 : wr.cell? ⟨gp, 0, none⟩ = some (.bool true) := (blk_cell BKP.out 0).trans rfl
                          have z1 : wr.cell? ⟨gp, 1, none⟩ = some (.int .i64 am1) := (blk_cell BKP.out 1).trans rfl
                          have z2 : wr.cell? ⟨gp, 2, none⟩ = some (.slice Av t184.length cv) := (blk_cell BKP.out 2).trans rfl
                          have zf := blk_frozen BKP.out 1
                          have y0 : wr.cell? ⟨gb172, 0, none⟩ = some (.bool x173000_2) := (blk_cell BK172.out 0).trans rfl
                          have y1 : wr.cell? ⟨gb172, 1, none⟩ = some (.int .i64 x173001_2) := (blk_cell BK172.out 1).trans rfl
                          have y2 : wr.cell? ⟨gb172, 2, none⟩ = some (.slice none 0 0) := (blk_cell BK172.out 2).trans rfl
                          have yf0 := blk_frozen BK172.out 0
                          have yf1 := blk_frozen BK172.out 1
                          have yf2 := blk_frozen BK172.out 2
                          have ng := NP2.out
                          have ng' := NP2.out.symm
                          go_wp2_with fail
                          all_goals (try rw [Exit.noGoto_ret])
                          all_goals (try simp only [Exit.inBlock, Exit.then])
                          refine bodyPost_ret (results_ct rfl _ _ gb172 28 #[.bool true, .int .i64 _, .slice Av t184.length cv] (0, 0) _ rfl (set3 BK172.out _ _ _) hu28 rfl (by kernel_rfl)) rfl ?_
                          exact ⟨.slice Av t184.length cv, rfl, set3R HOV.out BK172.out _ _ _, below_set (below_set (below_set HB.out GE172.out) GE172.out) GE172.out⟩
                    · rw [if_neg c78] at H
                      exact absurd H (by simp)
                  · rw [if_neg c77] at H
                    exact absurd H (by simp)
      · rw [if_neg c12] at H
        exact absurd H (by simp)
    · rw [if_neg c11] at H
      exact absurd H (by simp)


end Go.Proofs.Ytoipfbffdcahoaa.P
