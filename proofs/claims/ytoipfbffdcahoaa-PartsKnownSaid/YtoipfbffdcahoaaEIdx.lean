/- slices.IndexFunc with the closure of (*walk).part, and (*walk).out: the least index that is wanted. -/
import Derived.Test.YtoipfbffdcahoaaXBase
namespace Go.Proofs.Ytoipfbffdcahoaa.P
open Go.RowKit Go.Proofs.YtoipfbffdcahoaaW.PrintWords Go.Proofs.YtoipfbffdcahoaaW.PrintLast Go.Proofs.YtoipfbffdcahoaaW.PrintMore
set_option linter.unusedVariables false
set_option linter.unusedSimpArgs false

/-- the least index from d on, of m, at which p holds; -1: there is none -/
def findI (p : Nat → Bool) : Nat → Nat → Int
  | 0, _ => -1
  | m + 1, d => if p d = true then (d : Int) else findI p m (d + 1)

set_option maxRecDepth 100000 in
theorem part1_calls (x : Int) (w : World) :
    Calls Try.prog 32 #[.int .i64 x] w fun e w' => e = .returned (.bool (decide (0 < x))) ∧ Drawn0 w w' := by
  go_enter Try.func32, Try.ntmps32
  go_wp2
  go_ret
  exact ⟨by first | rfl | simp, by repeat (first | exact Drawn0.refl _ | apply Drawn0.step)⟩

set_option maxHeartbeats 1000000 in
set_option maxRecDepth 100000 in
theorem IndexFunc_calls (A : Option Addr) (c : Nat) (l : List Int) (w : World) (hr : Kd.C (Kd.int .i64) w A l.length l) (hl : l.length ≤ 1073741824) :
    Calls Try.prog 31 #[.slice A l.length c, .func (.func 32) #[] #[]] w fun e w' => e = .returned (.int .i64 (findI (fun d : Nat => decide (0 < rd l (d : Int))) l.length 0)) ∧ Drawn0 w w' := by
  obtain ⟨p, hp⟩ : ∃ p : Nat → Bool, p = fun d : Nat => decide (0 < rd l (d : Int)) := ⟨_, rfl⟩
  rw [← hp]
  obtain ⟨r, hrr⟩ : ∃ r : Int, findI p l.length 0 = r := ⟨_, rfl⟩
  rw [hrr]
  have HP := Aside0.mk hp
  have HQ := Aside0.mk hrr
  have HR := Aside0.mk hr
  clear hp hrr hr
  go_enter Try.func31, Try.ntmps31
  go_wp2
  go_loopw [8] (fun u W => ∃ d : Nat, d ≤ l.length ∧ u = .int .i64 d ∧ Aside0 (findI p (l.length - d) d = r) ∧ Aside0 (Drawn0 w W)) (fun u _ => l.length - (intOf u).toNat)
  case atStart => exact ⟨0, by omega, rfl, ⟨by simpa using HQ.out⟩, ⟨by repeat (first | exact Drawn0.refl _ | apply Drawn0.step)⟩⟩
  case round =>
    obtain ⟨d, hd, rfl, HF, HD⟩ := hrel
    by_cases hlt : d < l.length
    · have q1 : decide ((d : Int) < l.length) = true := by simpa using hlt
      have q2 : decide ((0 : Int) ≤ d) = true := by simp
      obtain ⟨ad, rfl, hx⟩ := Kd.at_int HR.out (d : Int) (by omega) (by omega)
      simp only [Int.toNat_natCast] at hx
      obtain ⟨m, rfl⟩ := HD.out
      have HW := Aside0.mk (show IntKind.i64.wrap ((d : Int) + 1) = ((d + 1 : Nat) : Int) by rw [i64_w]; unfold wrap64; omega)
      have HS := Aside0.mk (show findI p (l.length - d) d = if p d = true then (d : Int) else findI p (l.length - (d + 1)) (d + 1) by rw [show l.length - d = (l.length - (d + 1)) + 1 by omega]; rfl)
      have HPd := Aside0.mk (show p d = decide (0 < rd l (d : Int)) by rw [HP.out])
      by_cases hp : 0 < rd l (d : Int)
      · have hb : decide (0 < rd l (d : Int)) = true := decide_eq_true hp
        have HE := Aside0.mk (show r = (d : Int) by rw [← HF.out, HS.out, HPd.out, hb]; rfl)
        clear hp
        go_wp2_with fail
        refine (part1_calls _ _).mono ?_
        rintro e w1 ⟨rfl, ⟨m1, rfl⟩⟩
        go_wp2_with fail
        go_ret
        exact ⟨by rw [HE.out]; rfl, by repeat (first | exact Drawn0.refl _ | apply Drawn0.step | exact ⟨_, World.drewN_drewN _ _ _⟩)⟩
      · have hb : decide (0 < rd l (d : Int)) = false := decide_eq_false hp
        have HE := Aside0.mk (show findI p (l.length - (d + 1)) (d + 1) = r by rw [← HF.out, HS.out, HPd.out, hb]; rfl)
        clear hp
        go_wp2_with fail
        refine (part1_calls _ _).mono ?_
        rintro e w1 ⟨rfl, ⟨m1, rfl⟩⟩
        go_wp2_with fail
        exact ⟨⟨d + 1, by omega, rfl, HE, ⟨by repeat (first | exact Drawn0.refl _ | apply Drawn0.step | exact ⟨_, World.drewN_drewN _ _ _⟩)⟩⟩, by simp [intOf]; omega⟩
    · have q1 : decide ((d : Int) < l.length) = false := by simpa using hlt
      obtain rfl : d = l.length := by omega
      have HE := Aside0.mk (show r = -1 by rw [← HF.out, Nat.sub_self]; rfl)
      obtain ⟨m, rfl⟩ := HD.out
      go_wp2_with fail
      go_ret
      exact ⟨by rw [HE.out]; rfl, by repeat (first | exact Drawn0.refl _ | apply Drawn0.step | exact ⟨_, World.drewN_drewN _ _ _⟩)⟩

/-- walk.out: by the cells of the walk -/
abbrev WalkAt (W : World) (g : Nat) (a0 : Int) (A1 : Option Addr) (l1 : List Int) (c1 : Nat) (A2 : Option Addr) (l2 : List Int) (c2 : Nat) (A3 : Option Addr) (l3 : List Int) (c3 : Nat) (s t : Int) (A6 : Option Addr) (l6 : List Int) (c6 : Nat) : Prop :=
  W.heap[g]? = some (.cells #[.int .i64 a0, .slice A1 l1.length c1, .slice A2 l2.length c2, .slice A3 l3.length c3, .int .i64 s, .int .i64 t, .slice A6 l6.length c6] 50 (0, 0))

set_option maxHeartbeats 1000000 in
set_option maxRecDepth 100000 in
theorem out_calls (g : Nat) (a0 : Int) (A1 : Option Addr) (l1 : List Int) (c1 : Nat) (A2 : Option Addr) (l2 : List Int) (c2 : Nat) (A3 : Option Addr) (l3 : List Int) (c3 : Nat) (s t : Int) (A6 : Option Addr) (l6 : List Int) (c6 : Nat) (v : Int) (w : World)
    (hg : WalkAt w g a0 A1 l1 c1 A2 l2 c2 A3 l3 c3 s t A6 l6 c6) (h1 : Kd.C (Kd.int .i64) w A1 l1.length l1) (h6 : Kd.C (Kd.int .i64) w A6 l6.length l6) (hl : l6.length ≤ 1073741824) (hlen : l6.length ≤ l1.length) :
    Calls Try.prog 34 #[.pointer (some ⟨g, 0, none⟩), .int .i64 v] w fun e w' => e = .returned (.int .i64 (findI (fun d : Nat => decide (0 < rd l6 (d : Int)) && (rd l1 (d : Int) == v)) l6.length 0)) ∧ Drawn0 w w' := by
  have hu := Try.underlying50
  have hu2 := Try.underlying25
  obtain ⟨p, hp⟩ : ∃ p : Nat → Bool, p = fun d : Nat => decide (0 < rd l6 (d : Int)) && (rd l1 (d : Int) == v) := ⟨_, rfl⟩
  rw [← hp]
  obtain ⟨r, hrr⟩ : ∃ r : Int, findI p l6.length 0 = r := ⟨_, rfl⟩
  rw [hrr]
  have HP := Aside0.mk hp
  have HQ := Aside0.mk hrr
  have HR := Aside0.mk h6
  have HT := Aside0.mk h1
  have hk1 : w.cell? ⟨g, 1, none⟩ = some (.slice A1 l1.length c1) := (blk_cell hg 1).trans rfl
  have hk6 : w.cell? ⟨g, 6, none⟩ = some (.slice A6 l6.length c6) := (blk_cell hg 6).trans rfl
  clear hp hrr h6 h1 hg
  go_enter Try.func34, Try.ntmps34
  go_wp2
  go_loopw [12] (fun u W => ∃ d : Nat, d ≤ l6.length ∧ u = .int .i64 d ∧ Aside0 (findI p (l6.length - d) d = r) ∧ Aside0 (Drawn0 w W)) (fun u _ => l6.length - (intOf u).toNat)
  case atStart => exact ⟨0, by omega, rfl, ⟨by simpa using HQ.out⟩, ⟨by repeat (first | exact Drawn0.refl _ | apply Drawn0.step)⟩⟩
  case round =>
    obtain ⟨d, hd, rfl, HF, HD⟩ := hrel
    by_cases hlt : d < l6.length
    · have q1 : decide ((d : Int) < l6.length) = true := by simpa using hlt
      have q2 : decide ((0 : Int) ≤ d) = true := by simp
      have q3 : decide ((d : Int) < l1.length) = true := by simp; omega
      obtain ⟨ad, rfl, hx⟩ := Kd.at_int HR.out (d : Int) (by omega) (by omega)
      obtain ⟨ad1, rfl, hx1⟩ := Kd.at_int HT.out (d : Int) (by omega) (by omega)
      simp only [Int.toNat_natCast] at hx hx1
      obtain ⟨m, rfl⟩ := HD.out
      have HS := Aside0.mk (show findI p (l6.length - d) d = if p d = true then (d : Int) else findI p (l6.length - (d + 1)) (d + 1) by rw [show l6.length - d = (l6.length - (d + 1)) + 1 by omega]; rfl)
      have HPd := Aside0.mk (show p d = (decide (0 < rd l6 (d : Int)) && (rd l1 (d : Int) == v)) by rw [HP.out])
      by_cases hp : 0 < rd l6 (d : Int)
      · have hb : decide (0 < rd l6 (d : Int)) = true := decide_eq_true hp
        clear hp
        by_cases hv : rd l1 (d : Int) = v
        · have hb2 : (rd l1 (d : Int) == v) = true := beq_iff_eq.mpr hv
          have HE := Aside0.mk (show r = (d : Int) by rw [← HF.out, HS.out, HPd.out, hb, hb2]; rfl)
          clear hv
          go_wp2_with fail
          go_ret
          exact ⟨by rw [HE.out]; rfl, by repeat (first | exact Drawn0.refl _ | apply Drawn0.step | exact ⟨_, World.drewN_drewN _ _ _⟩)⟩
        · have hb2 : (rd l1 (d : Int) == v) = false := beq_eq_false_iff_ne.mpr hv
          have HE := Aside0.mk (show findI p (l6.length - (d + 1)) (d + 1) = r by rw [← HF.out, HS.out, HPd.out, hb, hb2]; rfl)
          clear hv
          go_wp2_with fail
          exact ⟨⟨d + 1, by omega, rfl, HE, ⟨by repeat (first | exact Drawn0.refl _ | apply Drawn0.step | exact ⟨_, World.drewN_drewN _ _ _⟩)⟩⟩, by simp [intOf]; omega⟩
      · have hb : decide (0 < rd l6 (d : Int)) = false := decide_eq_false hp
        have HE := Aside0.mk (show findI p (l6.length - (d + 1)) (d + 1) = r by rw [← HF.out, HS.out, HPd.out, hb]; rfl)
        clear hp
        go_wp2_with fail
        exact ⟨⟨d + 1, by omega, rfl, HE, ⟨by repeat (first | exact Drawn0.refl _ | apply Drawn0.step | exact ⟨_, World.drewN_drewN _ _ _⟩)⟩⟩, by simp [intOf]; omega⟩
    · have q1 : decide ((d : Int) < l6.length) = false := by simpa using hlt
      obtain rfl : d = l6.length := by omega
      have HE := Aside0.mk (show r = -1 by rw [← HF.out, Nat.sub_self]; rfl)
      obtain ⟨m, rfl⟩ := HD.out
      go_wp2_with fail
      go_ret
      exact ⟨by rw [HE.out]; rfl, by repeat (first | exact Drawn0.refl _ | apply Drawn0.step | exact ⟨_, World.drewN_drewN _ _ _⟩)⟩
end Go.Proofs.Ytoipfbffdcahoaa.P
