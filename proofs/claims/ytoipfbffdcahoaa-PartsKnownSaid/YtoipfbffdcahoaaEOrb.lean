/- rot.orbits at the two steps that the program hands it: the next dart about a vertex, the dart behind one about a face; rot.Faces. -/
import Derived.Test.YtoipfbffdcahoaaPx9
import Derived.Test.YtoipfbffdcahoaaPx11
import Derived.Test.YtoipfbffdcahoaaXBase
namespace Go.Proofs.Ytoipfbffdcahoaa.P
open Go.RowKit Go.Proofs.YtoipfbffdcahoaaW.PrintWords Go.Proofs.YtoipfbffdcahoaaW.PrintLast Go.Proofs.YtoipfbffdcahoaaW.PrintMore
set_option linter.unusedVariables false
set_option linter.unusedSimpArgs false
attribute [local go_sem] max2_int min2_int max_two min_two max_three min_three max_four min_four

/-- the next dart, where there is one -/
def nextI (l : List Int) : FnI := ⟨fun d => if 0 ≤ d ∧ d < (l.length : Int) then some (rd l d) else none⟩

def rot_orbitsT.f (k : Nat) (a0 : Int) (a1_0 : Int) (l1_1 l1_2 l1_3 : List Int) : Option (List Int × Int × Bool) := rot_orbits.f (nextI l1_2) k a0
theorem rot_orbitsT.mono : ∀ a0 a1_0 l1_1 l1_2 l1_3 k, LeO (rot_orbitsT.f k a0 a1_0 l1_1 l1_2 l1_3) (rot_orbitsT.f (k + 1) a0 a1_0 l1_1 l1_2 l1_3) := fun a0 _ _ l _ k => rot_orbits.mono (nextI l) a0 k

/-- A net in a block of its own. -/
abbrev NetAt (W : World) (g : Nat) (a0 : Int) (A1 : Option Addr) (l1 : List Int) (c1 : Nat) (A2 : Option Addr) (l2 : List Int) (c2 : Nat) (A3 : Option Addr) (l3 : List Int) (c3 : Nat) : Prop :=
  W.heap[g]? = some (.cells #[.int .i64 a0, .slice A1 l1.length c1, .slice A2 l2.length c2, .slice A3 l3.length c3] 25 (0, 0))

set_option maxHeartbeats 1000000 in
set_option maxRecDepth 100000 in
theorem turns_step {w : World} {g : Nat} {a0 : Int} {A1 : Option Addr} {l1 : List Int} {c1 : Nat} {A2 : Option Addr} {l2 : List Int} {c2 : Nat} {A3 : Option Addr} {l3 : List Int} {c3 : Nat}
    (hb : NetAt w g a0 A1 l1 c1 A2 l2 c2 A3 l3 c3) (hr : Kd.C (Kd.int .i64) w A2 l2.length l2) : FnK (nextI l2) 41 #[.pointer (some ⟨g, 0, none⟩)] w := by
  refine ⟨⟨_, Try.func41, by kernel_rfl, rfl⟩, fun d r W hB h => ?_⟩
  unfold nextI at h
  simp only at h
  split at h
  · rename_i hd
    obtain rfl := Option.some.inj h
    have hb' : W.heap[g]? = _ := (hB.block g (blk_lt hb)).trans hb
    have hr' := Kd.C_below hr hB
    obtain ⟨ad, rfl, hx⟩ := Kd.at_int hr' d hd.1 hd.2
    have hc2 : W.cell? ⟨g, 2, none⟩ = some (.slice (some ad) l2.length c2) := (blk_cell hb' 2).trans rfl
    have q1 : decide ((0 : Int) ≤ d) = true := decide_eq_true hd.1
    have q2 : decide (d < (l2.length : Int)) = true := decide_eq_true hd.2
    have p1 := hd.1
    have p2 := hd.2
    clear hb hr hb' hr' h hd
    show Calls Try.prog _ #[.int .i64 d, .pointer (some ⟨g, 0, none⟩)] W _
    go_enter Try.func41, Try.ntmps41
    go_wp2
    go_ret
    exact ⟨rfl, Below.refl _ _⟩
  · cases h

theorem rot_orbitsT.calls (k : Nat) (a0 : Int) (a1_0 : Int) (A1_1 : Option Addr) (c1_1 : Nat) (l1_1 : List Int) (A1_2 : Option Addr) (c1_2 : Nat) (l1_2 : List Int) (A1_3 : Option Addr) (c1_3 : Nat) (l1_3 : List Int) (r1 : List Int) (r2 : Int) (r3 : Bool) (w : World)
    (hr1_1 : Kd.C (Kd.int .i64) w A1_1 l1_1.length l1_1) (hc1_1 : l1_1.length ≤ c1_1) (hr1_2 : Kd.C (Kd.int .i64) w A1_2 l1_2.length l1_2) (hc1_2 : l1_2.length ≤ c1_2) (hr1_3 : Kd.C (Kd.int .i64) w A1_3 l1_3.length l1_3) (hc1_3 : l1_3.length ≤ c1_3)
    (h : rot_orbitsT.f k a0 a1_0 l1_1 l1_2 l1_3 = some (r1, r2, r3)) (g : Nat) (hb : NetAt w g a1_0 A1_1 l1_1 c1_1 A1_2 l1_2 c1_2 A1_3 l1_3 c1_3) :
    Calls Try.prog 40 #[.int .i64 a0, .func (.func 41) #[] #[.pointer (some ⟨g, 0, none⟩)]] w fun e w' => ∃ v0_ : Value, e = .returned (.tuple #[v0_, .int .i64 r2, .bool r3]) ∧ Kd.R (Kd.int .i64) 3 w' w.heap.size (fun _ => True) v0_ r1 ∧ Below w.heap.size w w' :=
  rot_orbits.calls (nextI l1_2) _ _ k a0 r1 r2 r3 w (turns_step hb hr1_2) h

/-- the dart behind, where there is one -/
def behindI (l : List Int) : FnI := ⟨fun d => if 0 ≤ Go.bits .xor .i64 d 1 ∧ Go.bits .xor .i64 d 1 < (l.length : Int) then some (rd l (Go.bits .xor .i64 d 1)) else none⟩

set_option maxHeartbeats 1000000 in
set_option maxRecDepth 100000 in
theorem behind_step {w : World} {g : Nat} {a0 : Int} {A1 : Option Addr} {l1 : List Int} {c1 : Nat} {A2 : Option Addr} {l2 : List Int} {c2 : Nat} {A3 : Option Addr} {l3 : List Int} {c3 : Nat}
    (hb : NetAt w g a0 A1 l1 c1 A2 l2 c2 A3 l3 c3) (hr : Kd.C (Kd.int .i64) w A2 l2.length l2) : FnK (behindI l2) 48 #[.pointer (some ⟨g, 0, none⟩)] w := by
  refine ⟨⟨_, Try.func48, by kernel_rfl, rfl⟩, fun d r W hB h => ?_⟩
  unfold behindI at h
  simp only at h
  obtain ⟨j, hj⟩ : ∃ j, Go.bits .xor .i64 d 1 = j := ⟨_, rfl⟩
  rw [hj] at h
  have HO := Aside0.mk (show rot_other.f d = some j by unfold rot_other.f; rw [hj])
  split at h
  · rename_i hd
    obtain rfl := Option.some.inj h
    have hb' : W.heap[g]? = _ := (hB.block g (blk_lt hb)).trans hb
    have hr' := Kd.C_below hr hB
    obtain ⟨ad, rfl, hx⟩ := Kd.at_int hr' j hd.1 hd.2
    have hc2 : W.cell? ⟨g, 2, none⟩ = some (.slice (some ad) l2.length c2) := (blk_cell hb' 2).trans rfl
    have q1 : decide ((0 : Int) ≤ j) = true := decide_eq_true hd.1
    have q2 : decide (j < (l2.length : Int)) = true := decide_eq_true hd.2
    have p1 := hd.1
    have p2 := hd.2
    clear hb hr hb' hr' h hd hj
    show Calls Try.prog _ #[.int .i64 d, .pointer (some ⟨g, 0, none⟩)] W _
    go_enter Try.func48, Try.ntmps48
    go_wp2_with fail
    go_quiet ((go_at_call 45; (with_reducible refine (rot_other.calls d j _ HO.out).mono ?_); rintro e w' ⟨rfl, ⟨nd, rfl⟩⟩; (first | exact ⟨rfl, _, World.drewN_drewN _ _ _⟩ | exact ⟨rfl, _, Eq.trans (World.drewN_drewN _ _ _) (congrArg (World.drewN _) (Nat.add_assoc _ _ _))⟩)))
    go_wp2
    go_ret
    exact ⟨rfl, pw_below_drewN (Below.refl _ _) _⟩
  · cases h

set_option maxHeartbeats 1000000 in
set_option maxRecDepth 100000 in
theorem behind_calls (a0 : Int) (A1 : Option Addr) (c1 : Nat) (l1 : List Int) (A2 : Option Addr) (c2 : Nat) (l2 : List Int) (A3 : Option Addr) (c3 : Nat) (l3 : List Int) (w : World) :
    Calls Try.prog 44 #[.agg #[.int .i64 a0, .slice A1 l1.length c1, .slice A2 l2.length c2, .slice A3 l3.length c3]] w fun e w' =>
      ∃ g, e = .returned (.func (.func 48) #[] #[.pointer (some ⟨g, 0, none⟩)]) ∧ NetAt w' g a0 A1 l1 c1 A2 l2 c2 A3 l3 c3 ∧ Below w.heap.size w w' := by
  have hmf : ∀ (fn : Fn) (first cap : Array Value) (w : World), (Instr.makeFunc fn first cap).run Try.prog w = .ok (.func fn first cap) w := fun _ _ _ _ => rfl
  have hu := Try.underlying25
  go_enter Try.func44, Try.ntmps44
  go_wp2
  go_ret
  exact ⟨w.heap.size, rfl, heap_alloc_new w _, below_alloc (Below.refl _ _) _⟩

def rot_Faces.f (k : Nat) (a0_0 : Int) (l0_1 l0_2 l0_3 : List Int) : Option (List Int × Int) :=
  (rot_fine.f k a0_0 l0_1 l0_2 l0_3).bind fun b => if b = true then (rot_orbits.f (behindI l0_2) k (l0_1.length : Int)).bind fun r => some (r.1, mx r.2.1 1) else some ([], 0)
theorem rot_Faces.mono : ∀ a0 l1 l2 l3 k, LeO (rot_Faces.f k a0 l1 l2 l3) (rot_Faces.f (k + 1) a0 l1 l2 l3) := by
  intro a0 l1 l2 l3 k
  unfold rot_Faces.f
  refine LeO.bind (rot_fine.mono _ _ _ _ _) (fun b => ?_)
  refine LeO.ite ?_ (LeO.refl _)
  exact LeO.bind (rot_orbits.mono _ _ _) (fun _ => LeO.refl _)

set_option maxHeartbeats 2000000 in
set_option maxRecDepth 100000 in
theorem rot_Faces.calls (k : Nat) (a0_0 : Int) (A0_1 : Option Addr) (c0_1 : Nat) (l0_1 : List Int) (A0_2 : Option Addr) (c0_2 : Nat) (l0_2 : List Int) (A0_3 : Option Addr) (c0_3 : Nat) (l0_3 : List Int) (r1 : List Int) (r2 : Int) (w : World)
    (hr0_1 : Kd.C (Kd.int .i64) w A0_1 l0_1.length l0_1) (hc0_1 : l0_1.length ≤ c0_1) (hr0_2 : Kd.C (Kd.int .i64) w A0_2 l0_2.length l0_2) (hc0_2 : l0_2.length ≤ c0_2) (hr0_3 : Kd.C (Kd.int .i64) w A0_3 l0_3.length l0_3) (hc0_3 : l0_3.length ≤ c0_3) (h : rot_Faces.f k a0_0 l0_1 l0_2 l0_3 = some (r1, r2)) :
    Calls Try.prog 30 #[.agg #[.int .i64 a0_0, .slice A0_1 l0_1.length c0_1, .slice A0_2 l0_2.length c0_2, .slice A0_3 l0_3.length c0_3]] w fun e w' => ∃ v0_ : Value, e = .returned (.tuple #[v0_, .int .i64 r2]) ∧ Kd.R (Kd.int .i64) 3 w' w.heap.size (fun _ => True) v0_ r1 ∧ Below w.heap.size w w' := by
  unfold rot_Faces.f at h
  obtain ⟨b, h1, h⟩ := Option.bind_eq_some_iff.mp h
  have H1 := Aside0.mk h1
  have hu := Try.underlying25
  have hbx := below_alloc (Below.refl w.heap.size w) (.cells #[.int .i64 a0_0, .slice A0_1 l0_1.length c0_1, .slice A0_2 l0_2.length c0_2, .slice A0_3 l0_3.length c0_3] 25)
  have HBX := Aside0.mk hbx
  have C1 := Aside0.mk (Kd.C_below hr0_1 hbx)
  have C2 := Aside0.mk (Kd.C_below hr0_2 hbx)
  have C3 := Aside0.mk (Kd.C_below hr0_3 hbx)
  clear hbx h1
  cases b with
  | false =>
    simp only [Bool.false_eq_true, if_false, Option.some.injEq, Prod.mk.injEq] at h
    obtain ⟨rfl, rfl⟩ := h
    go_enter Try.func30, Try.ntmps30
    go_wp2_with fail
    refine (rot_fine.calls k a0_0 _ _ l0_1 _ _ l0_2 _ _ l0_3 false _ C1.out hc0_1 C2.out hc0_2 C3.out hc0_3 H1.out).mono ?_
    rintro e w1 ⟨rfl, hb1⟩
    have HB1 := Aside0.mk (below_step HBX.out hb1)
    clear hb1
    go_wp2_with fail
    go_ret2
    exact ⟨_, rfl, Kd.R_nil _ _ _ _ _, HB1.out⟩
  | true =>
    simp only [if_true] at h
    obtain ⟨⟨s1, s2, s3⟩, h2, h⟩ := Option.bind_eq_some_iff.mp h
    simp only [Option.some.injEq, Prod.mk.injEq] at h
    obtain ⟨rfl, rfl⟩ := h
    have H2 := Aside0.mk h2
    clear h2
    go_enter Try.func30, Try.ntmps30
    go_wp2_with fail
    refine (rot_fine.calls k a0_0 _ _ l0_1 _ _ l0_2 _ _ l0_3 true _ C1.out hc0_1 C2.out hc0_2 C3.out hc0_3 H1.out).mono ?_
    rintro e w1 ⟨rfl, hb1⟩
    have HB1 := Aside0.mk (below_step HBX.out hb1)
    have hc1 := (hb1.cell (p := ⟨w.heap.size, 0, none⟩) (by simp))
    have hc2 := (hb1.cell (p := ⟨w.heap.size, 1, none⟩) (by simp))
    have hc3 := (hb1.cell (p := ⟨w.heap.size, 2, none⟩) (by simp))
    have hc4 := (hb1.cell (p := ⟨w.heap.size, 3, none⟩) (by simp))
    have hlt : w.heap.size < w1.heap.size := by have := hb1.size; simp at this; omega
    clear hb1
    have HR2 := Aside0.mk hr0_2
    clear hr0_1 hr0_2 hr0_3 h
    go_wp2_with fail
    go_region_with (first | (go_at_call 44; refine (behind_calls a0_0 _ _ l0_1 _ _ l0_2 _ _ l0_3 _).mono ?_; rintro e w2 ⟨g2, rfl, hn2, hb2⟩; have hd1 := (hb2.cell (p := ⟨w.heap.size, 0, none⟩) (by simpa using hlt)); have hd2 := (hb2.cell (p := ⟨w.heap.size, 1, none⟩) (by simpa using hlt)); have hd3 := (hb2.cell (p := ⟨w.heap.size, 2, none⟩) (by simpa using hlt)); have hd4 := (hb2.cell (p := ⟨w.heap.size, 3, none⟩) (by simpa using hlt)); have HB2 := Aside0.mk (below_step (by repeat (first | (with_reducible first | exact HB1.out | apply below_alloc | apply pw_below_drewN | apply below_drew1) | exact HB1.out)) hb2); have HN2 := Aside0.mk hn2; clear hn2 hb2) | (go_at_call 40; refine (rot_orbits.calls (behindI l0_2) _ _ k _ s1 s2 s3 _ (behind_step HN2.out (Kd.C_below HR2.out HB2.out)) H2.out).mono ?_; rintro e w3 ⟨v3, rfl, ho3, hb3⟩; have HB3 := Aside0.mk (below_step HB2.out hb3); have HO3 := Aside0.mk (Kd.R_lower ho3 (below_size HB2.out)); clear ho3 hb3))
    all_goals go_simp
    all_goals go_wp2
    all_goals go_ret2
    all_goals refine ⟨v3, ?_, HO3.out, HB3.out⟩
    all_goals unfold mx
    all_goals (split <;> first | rfl | (exfalso; omega))
end Go.Proofs.Ytoipfbffdcahoaa.P
