/- path.fine where it says yes, and the test of path.Way: no arc is out of order. -/
import Derived.Test.YtpkhdipedmihgaaXBase
namespace Go.Proofs.Ytpkhdipedmihgaa.P
open Go.RowKit Go.Proofs.YtpkhdipedmihgaaW.PrintWords Go.Proofs.YtpkhdipedmihgaaW.PrintLast Go.Proofs.YtpkhdipedmihgaaW.PrintMore
set_option linter.unusedVariables false
set_option linter.unusedSimpArgs false
attribute [local go_sem] max2_int min2_int max_two min_two

def okA (n : Int) (a : S30) : Prop := 0 ≤ a.f0 ∧ a.f0 < n ∧ 0 ≤ a.f1 ∧ a.f1 < n ∧ -1099511627776 ≤ a.f2 ∧ a.f2 ≤ 1099511627776

set_option maxHeartbeats 1000000 in
set_option maxRecDepth 100000 in
theorem fine1_calls (p : Addr) (n : Int) (a : S30) (w : World) (hp : w.cell? p = some (.int .i64 n)) (h : okA n a) :
    Calls Try.prog 42 #[.agg #[.int .i64 a.f0, .int .i64 a.f1, .int .i64 a.f2], .pointer (some p)] w fun e w' => e = .returned (.bool false) ∧ Below w.heap.size w w' := by
  have hu := Try.underlying30
  obtain ⟨h1, h2, h3, h4, h5, h6⟩ := h
  have hps := World.block_lt_of_cell? w _ hp
  have q1 : decide (min a.f0 a.f1 < 0) = false := decide_eq_false (by rcases Int.le_total a.f0 a.f1 with c | c <;> simp only [Int.min_def] <;> split <;> omega)
  have q2 : decide (n ≤ max a.f0 a.f1) = false := decide_eq_false (by rcases Int.le_total a.f0 a.f1 with c | c <;> simp only [Int.max_def] <;> split <;> omega)
  have q3 : decide (1099511627776 < a.f2) = false := decide_eq_false (by omega)
  have q4 : decide (a.f2 < -1099511627776) = false := decide_eq_false (by omega)
  have HK := Aside0.mk (And.intro h1 (And.intro h2 (And.intro h3 h4)))
  go_enter Try.func42, Try.ntmps42
  go_wp2
  all_goals (go_ret; refine ⟨?_, below_alloc (Below.refl _ _) _⟩)
  all_goals first | rfl | (simp; omega) | (simp [*]; done)

set_option maxHeartbeats 1000000 in
set_option maxRecDepth 100000 in
theorem way1_calls (a : S30) (w : World) (h : 0 ≤ a.f2) :
    Calls Try.prog 39 #[.agg #[.int .i64 a.f0, .int .i64 a.f1, .int .i64 a.f2]] w fun e w' => e = .returned (.bool false) ∧ Below w.heap.size w w' := by
  have hu := Try.underlying30
  have q3 : decide (a.f2 < 0) = false := decide_eq_false (by omega)
  go_enter Try.func39, Try.ntmps39
  go_wp2
  go_ret
  exact ⟨by rfl, below_alloc (Below.refl _ _) _⟩

set_option maxHeartbeats 2000000 in
set_option maxRecDepth 100000 in
theorem fine_idx (p : Addr) (n : Int) (A : Option Addr) (c : Nat) (l : List S30) (w : World) (hr : Kd.C k30 w A l.length l) (hl : l.length ≤ 1073741824) (hp : w.cell? p = some (.int .i64 n)) (hok : ∀ x ∈ l, okA n x) :
    Calls Try.prog 49 #[.slice A l.length c, .func (.func 42) #[] #[.pointer (some p)]] w fun e w' => e = .returned (.int .i64 (-1)) ∧ Below w.heap.size w w' := by
  have hu := Try.underlying30
  have HR := Aside0.mk hr
  have HX := Aside0.mk hok
  have HPP := Aside0.mk hp
  clear hr hok hp
  go_enter Try.func49, Try.ntmps49
  go_wp2
  go_loopw [8] (fun u W => ∃ d : Nat, d ≤ l.length ∧ u = .int .i64 d ∧ Aside0 (Below w.heap.size w W)) (fun u _ => l.length - (intOf u).toNat)
  case atStart => exact ⟨0, by omega, rfl, ⟨Below.refl _ _⟩⟩
  case round =>
    obtain ⟨d, hd, rfl, HB⟩ := hrel
    by_cases hlt : d < l.length
    · have q1 : decide ((d : Int) < l.length) = true := by simpa using hlt
      have q2 : decide ((0 : Int) ≤ d) = true := by simp
      obtain ⟨ad, rfl, hx0, hx1, hx2⟩ := at_T30 (Kd.C_below HR.out HB.out) (d : Int) (by omega) (by omega)
      have HW := Aside0.mk (show IntKind.i64.wrap ((d : Int) + 1) = ((d + 1 : Nat) : Int) by rw [i64_w]; unfold wrap64; omega)
      simp only [Int.toNat_natCast] at hx0 hx1 hx2
      obtain ⟨x, hx⟩ : ∃ x, rd_T30 l (d : Int) = x := ⟨_, rfl⟩
      rw [hx] at hx0 hx1 hx2
      have hm : x ∈ l := by rw [← hx]; unfold rd_T30; rw [Int.toNat_natCast, List.getD_eq_getElem?_getD, List.getElem?_eq_getElem hlt]; exact List.getElem_mem hlt
      have HC := Aside0.mk (fine1_calls p n x wr ((HB.out.cell (World.block_lt_of_cell? w _ HPP.out)).trans HPP.out) (HX.out x hm))
      clear hx hm
      go_wp2_with fail
      refine HC.out.mono ?_
      rintro e w1 ⟨rfl, hb1⟩
      have HB1 := Aside0.mk (below_step HB.out hb1)
      clear hb1
      go_wp2_with fail
      go_roundw
      case rel => exact ⟨d + 1, by omega, by first | rfl | (rw [HW.out]) | go_num, HB1⟩
      case measure => simp [intOf]; omega
    · have q1 : decide ((d : Int) < l.length) = false := by simpa using hlt
      obtain rfl : d = l.length := by omega
      go_wp2_with fail
      go_ret
      exact ⟨rfl, HB.out⟩

set_option maxHeartbeats 2000000 in
set_option maxRecDepth 100000 in
theorem fine_has (p : Addr) (n : Int) (A : Option Addr) (c : Nat) (l : List S30) (w : World) (hr : Kd.C k30 w A l.length l) (hl : l.length ≤ 1073741824) (hp : w.cell? p = some (.int .i64 n)) (hok : ∀ x ∈ l, okA n x) :
    Calls Try.prog 38 #[.slice A l.length c, .func (.func 42) #[] #[.pointer (some p)]] w fun e w' => e = .returned (.bool false) ∧ Below w.heap.size w w' := by
  have HC := Aside0.mk (fine_idx p n A c l w hr hl hp hok)
  clear hr hl hok hp
  go_enter Try.func38, Try.ntmps38
  go_wp2_with fail
  refine HC.out.mono ?_
  rintro e w1 ⟨rfl, hb1⟩
  have HB1 := Aside0.mk hb1
  clear hb1
  go_wp2_with fail
  go_ret
  exact ⟨rfl, HB1.out⟩

set_option maxHeartbeats 2000000 in
set_option maxRecDepth 100000 in
theorem way_idx (A : Option Addr) (c : Nat) (l : List S30) (w : World) (hr : Kd.C k30 w A l.length l) (hl : l.length ≤ 1073741824) (hok : ∀ x ∈ l, 0 ≤ x.f2) :
    Calls Try.prog 49 #[.slice A l.length c, .func (.func 39) #[] #[]] w fun e w' => e = .returned (.int .i64 (-1)) ∧ Below w.heap.size w w' := by
  have hu := Try.underlying30
  have HR := Aside0.mk hr
  have HX := Aside0.mk hok
  
  clear hr hok 
  go_enter Try.func49, Try.ntmps49
  go_wp2
  go_loopw [8] (fun u W => ∃ d : Nat, d ≤ l.length ∧ u = .int .i64 d ∧ Aside0 (Below w.heap.size w W)) (fun u _ => l.length - (intOf u).toNat)
  case atStart => exact ⟨0, by omega, rfl, ⟨Below.refl _ _⟩⟩
  case round =>
    obtain ⟨d, hd, rfl, HB⟩ := hrel
    by_cases hlt : d < l.length
    · have q1 : decide ((d : Int) < l.length) = true := by simpa using hlt
      have q2 : decide ((0 : Int) ≤ d) = true := by simp
      obtain ⟨ad, rfl, hx0, hx1, hx2⟩ := at_T30 (Kd.C_below HR.out HB.out) (d : Int) (by omega) (by omega)
      have HW := Aside0.mk (show IntKind.i64.wrap ((d : Int) + 1) = ((d + 1 : Nat) : Int) by rw [i64_w]; unfold wrap64; omega)
      simp only [Int.toNat_natCast] at hx0 hx1 hx2
      obtain ⟨x, hx⟩ : ∃ x, rd_T30 l (d : Int) = x := ⟨_, rfl⟩
      rw [hx] at hx0 hx1 hx2
      have hm : x ∈ l := by rw [← hx]; unfold rd_T30; rw [Int.toNat_natCast, List.getD_eq_getElem?_getD, List.getElem?_eq_getElem hlt]; exact List.getElem_mem hlt
      have HC := Aside0.mk (way1_calls x wr (HX.out x hm))
      clear hx hm
      go_wp2_with fail
      refine HC.out.mono ?_
      rintro e w1 ⟨rfl, hb1⟩
      have HB1 := Aside0.mk (below_step HB.out hb1)
      clear hb1
      go_wp2_with fail
      go_roundw
      case rel => exact ⟨d + 1, by omega, by first | rfl | (rw [HW.out]) | go_num, HB1⟩
      case measure => simp [intOf]; omega
    · have q1 : decide ((d : Int) < l.length) = false := by simpa using hlt
      obtain rfl : d = l.length := by omega
      go_wp2_with fail
      go_ret
      exact ⟨rfl, HB.out⟩

set_option maxHeartbeats 2000000 in
set_option maxRecDepth 100000 in
theorem way_has (A : Option Addr) (c : Nat) (l : List S30) (w : World) (hr : Kd.C k30 w A l.length l) (hl : l.length ≤ 1073741824) (hok : ∀ x ∈ l, 0 ≤ x.f2) :
    Calls Try.prog 38 #[.slice A l.length c, .func (.func 39) #[] #[]] w fun e w' => e = .returned (.bool false) ∧ Below w.heap.size w w' := by
  have HC := Aside0.mk (way_idx A c l w hr hl hok)
  clear hr hl hok 
  go_enter Try.func38, Try.ntmps38
  go_wp2_with fail
  refine HC.out.mono ?_
  rintro e w1 ⟨rfl, hb1⟩
  have HB1 := Aside0.mk hb1
  clear hb1
  go_wp2_with fail
  go_ret
  exact ⟨rfl, HB1.out⟩

set_option maxHeartbeats 2000000 in
set_option maxRecDepth 100000 in
theorem fine_calls (n : Int) (A : Option Addr) (c : Nat) (l : List S30) (s : Int) (w : World) (hr : Kd.C k30 w A l.length l) (hl : l.length ≤ 1073741824) (hok : ∀ x ∈ l, okA n x) (h1 : 1 ≤ n) (h2 : n ≤ 300) (h3 : 0 ≤ s) (h4 : s < n) :
    Calls Try.prog 26 #[.int .i64 n, .slice A l.length c, .int .i64 s] w fun e w' => e = .returned (.bool true) ∧ Below w.heap.size w w' := by
  have hmf : ∀ (fn : Fn) (first cap : Array Value) (w : World), (Instr.makeFunc fn first cap).run Try.prog w = .ok (.func fn first cap) w := fun _ _ _ _ => rfl
  obtain ⟨w1, hw1⟩ : ∃ w1, w1 = w.alloc (.cells #[.int .i64 n] 3) := ⟨_, rfl⟩
  have hb1 : Below w.heap.size w w1 := by rw [hw1]; exact below_alloc (Below.refl _ _) _
  have hn1 : w1.heap[w.heap.size]? = some (.cells #[.int .i64 n] 3 (0, 0)) := by rw [hw1]; exact heap_alloc_new w _
  have hp : w1.cell? ⟨w.heap.size, 0, none⟩ = some (.int .i64 n) := (blk_cell hn1 0).trans rfl
  have HC := Aside0.mk (fine_has ⟨w.heap.size, 0, none⟩ n A c l w1 (Kd.C_below hr hb1) hl hp hok)
  have HB1 := Aside0.mk hb1
  have HE := Aside0.mk hw1
  have q1 : decide (1 ≤ n) = true := decide_eq_true h1
  have q2 : decide (n ≤ 300) = true := decide_eq_true h2
  have q3 : decide (0 ≤ s) = true := decide_eq_true h3
  have q4 : decide (s < n) = true := decide_eq_true h4
  clear hr hl hok hb1 hn1 hp hw1
  go_enter Try.func26, Try.ntmps26
  go_wp2_with fail
  rw [← HE.out]
  refine HC.out.mono ?_
  rintro e w2 ⟨rfl, hb2⟩
  have HB2 := Aside0.mk (below_step HB1.out hb2)
  clear hb2
  go_wp2_with fail
  go_ret
  exact ⟨rfl, HB2.out⟩
end Go.Proofs.Ytpkhdipedmihgaa.P
