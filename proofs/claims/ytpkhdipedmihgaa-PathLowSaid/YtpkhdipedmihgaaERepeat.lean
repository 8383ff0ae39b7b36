/- slices.Repeat at []int, of a slice of one number: so many times that number; for every count from 0 to 2^30. -/
import Derived.Test.YtpkhdipedmihgaaPx19
import Derived.Test.YtpkhdipedmihgaaXBase
namespace Go.Proofs.Ytpkhdipedmihgaa.P
open Go.RowKit Go.Proofs.YtpkhdipedmihgaaW.PrintWords Go.Proofs.YtpkhdipedmihgaaW.PrintLast Go.Proofs.YtpkhdipedmihgaaW.PrintMore
set_option linter.unusedVariables false
set_option linter.unusedSimpArgs false

theorem wraps_u64 (n : Int) (h0 : 0 ≤ n) (h1 : n < 2 ^ 32) : IntKind.u64.wrap n = n := by
  have : IntKind.u64.wrap n = n % 18446744073709551616 := by simp [IntKind.wrap, IntKind.bits, IntKind.signed]
  rw [this]; omega
theorem mask32 (x : Int) (h0 : 0 ≤ x) (h1 : x < 4294967296) : Go.bits .and .u64 x 4294967295 = x := by
  have := Go.bits_mask .u64 32 (by decide) wraps_u64 32 (by decide) x h0 h1
  rw [show ((2 : Int) ^ 32 - 1) = 4294967295 from rfl] at this
  rw [this]
  show x % 4294967296 = x
  omega
theorem bits_one (c : Int) (h0 : 0 ≤ c) (h1 : c ≤ 1073741824) : bits_Mul.f 1 c = some (0, c) := by
  have w : ∀ n : Int, IntKind.u64.wrap n = n % 18446744073709551616 := fun n => by simp [IntKind.wrap, IntKind.bits, IntKind.signed]
  unfold bits_Mul.f bits_Mul64.f
  simp only [mask32 1 (by omega) (by omega), mask32 c h0 (by omega), w, Option.bind_some]
  have e1 : (1 : Int) / 4294967296 = 0 := by decide
  have e2 : c / 4294967296 = 0 := by omega
  simp only [e1, e2, Int.zero_mul, Int.mul_zero, Int.one_mul, Int.zero_add, Int.add_zero]
  have e3 : c % 18446744073709551616 = c := by omega
  rw [e3, e2]
  simp [mask32 0 (by omega) (by omega)]

def slices_Repeat_int_int.f (l0 : List Int) (a1 : Int) : Option (List Int) :=
  if l0.length = 1 ∧ 0 ≤ a1 ∧ a1 ≤ 1073741824 then some (List.replicate a1.toNat (rd l0 0)) else none

def repL (k n : Nat) (x : Int) : List Value := (List.replicate k x ++ List.replicate (n - k) 0).map (Value.int .i64)
theorem repL_length (k n : Nat) (x : Int) (h : k ≤ n) : (repL k n x).length = n := by simp [repL]; omega
theorem repL_full (n : Nat) (x : Int) : repL n n x = (List.replicate n x).map (Value.int .i64) := by simp [repL]

theorem repL_get (k n : Nat) (x : Int) (rest : List Value) (i : Nat) (h : k ≤ n) : (repL k n x ++ rest)[i]? = if i < k then some (.int .i64 x) else if i < n then some (.int .i64 0) else rest[i - n]? := by
  unfold repL
  simp only [List.map_append, List.map_replicate]
  by_cases h1 : i < k
  · rw [if_pos h1, List.getElem?_append_left (by simp; omega), List.getElem?_append_left (by simpa using h1)]
    simp [List.getElem?_replicate, h1]
  · rw [if_neg h1]
    by_cases h2 : i < n
    · rw [if_pos h2, List.getElem?_append_left (by simp; omega), List.getElem?_append_right (by simpa using h1)]
      simp [List.getElem?_replicate, show i - k < n - k by omega]
    · rw [if_neg h2, List.getElem?_append_right (by simp; omega)]
      congr 1; simp; omega

theorem repL_cell {W : World} {g k n e : Nat} {x : Int} {rest : List Value} {j : Nat} {v : Value} (h : W.heap[g]? = some (.cells (repL k n x ++ rest).toArray e (0, 0))) (hk : k ≤ n) (hv : (List.replicate (min k (n - k)) (Value.int .i64 x))[j]? = some v) : W.cell? ((⟨g, 0, none⟩ : Addr).add j) = some v := by
  rw [List.getElem?_replicate] at hv
  split at hv
  · rw [add_plain]
    refine cell_of_block h j v ?_
    rw [repL_get k n x rest j hk, if_pos (by omega)]; exact hv
  · cases hv

theorem one_le {x : Int} {n j : Nat} {v : Value} (h : (List.replicate (min 1 n) (Value.int .i64 x))[j]? = some v) : (List.map (Value.int .i64) [x])[j]? = some v := by
  rw [List.getElem?_replicate] at h
  split at h
  · have : j = 0 := by omega
    subst this; exact h
  · cases h

theorem repL_splice (k m n : Nat) (x : Int) (rest : List Value) (h : k + m ≤ n) :
    splice (repL k n x ++ rest) k (List.replicate m (Value.int .i64 x)) = repL (k + m) n x ++ rest := by
  apply List.ext_getElem?
  intro i
  rw [repL_get (k + m) n x rest i h]
  unfold splice
  have hl : ((repL k n x ++ rest).take k).length = k := by simp [repL] <;> omega
  by_cases h1 : i < k
  · rw [List.getElem?_append_left (by omega), List.getElem?_take_of_lt h1, repL_get k n x rest i (by omega), if_pos h1, if_pos (by omega)]
  · rw [List.getElem?_append_right (by omega), hl]
    by_cases h2 : i < k + m
    · rw [if_pos h2, List.getElem?_append_left (by simp only [List.length_replicate]; omega)]
      simp [List.getElem?_replicate, show i - k < m by omega]
    · rw [if_neg h2, List.getElem?_append_right (by simp; omega), List.getElem?_drop]
      simp only [List.length_replicate]
      rw [show k + m + (i - k - m) = i by omega, repL_get k n x rest i (by omega), if_neg h1]

set_option maxHeartbeats 1000000 in
set_option maxRecDepth 100000 in
theorem slices_Repeat_int_int.calls (A0 : Option Addr) (c0 : Nat) (l0 : List Int) (a1 : Int) (r : List Int) (w : World) (hr0 : Kd.C (Kd.int .i64) w A0 l0.length l0) (hc0 : l0.length ≤ c0) (h : slices_Repeat_int_int.f l0 a1 = some r) :
    Calls Try.prog 33 #[.slice A0 l0.length c0, .int .i64 a1] w fun e w' => ∃ v0_ : Value, e = .returned (v0_) ∧ Kd.R (Kd.int .i64) 3 w' w.heap.size (fun _ => True) v0_ r ∧ Below w.heap.size w w' := by
  unfold slices_Repeat_int_int.f at h
  split at h
  · rename_i hc
    obtain ⟨h1, h2, h3⟩ := hc
    obtain ⟨n, rfl⟩ := Int.eq_ofNat_of_zero_le h2
    obtain rfl := Option.some.inj h
    match l0, h1 with
    | [x], _ =>
    have hb := bits_one n h2 h3
    have HM := Aside0.mk hb
    obtain ⟨ad, rfl, hcell⟩ := cells_of_C hr0 (by simp)
    have HX := Aside0.mk hcell
    have h4 : n ≤ 1073741824 := by omega
    clear hb h hcell hr0
    have t1 : decide ((n : Int) < 0) = false := by simp
    have t2 : decide ((0 : Int) < 0) = false := by decide
    have t3 : decide ((9223372036854775807 : Int) < n) = false := by simp; omega
    have t4 : IntKind.i64.wrap n = n := by rw [i64_w]; unfold wrap64; omega
    go_enter Try.func33, Try.ntmps33
    go_wp2_with fail
    refine (bits_Mul.calls 1 n 0 n _ HM.out).mono ?_
    rintro e w1 ⟨rfl, ⟨m, rfl⟩⟩
    have HB0 := Aside0.mk (Below.refl w.heap.size w)
    go_wp2_with (first
      | ((with_reducible refine gate_dst (N := 30) rfl ?_); refine Kd.R_make (Kd.int .i64) _ 3 rfl (N := 30) rfl 22 _ _ rfl (n : Int) rfl rfl Try.underlying22 (.int .i64 0) 8 info3 rfl (by decide) (by omega) 0 (ok := fun _ => True) (okp := fun _ => True) rfl (fun _ hk => hk) trivial (by omega) (by omega) (Below.refl _ _) (Nat.le_refl _) ?_; intro v109 w7 ho8 hb hg_ hnew_; clear hg_; obtain ⟨b_, hb_, _⟩ := hnew_; obtain ⟨g, cap, rest, rfl, hbg, _, hblk, hl, hcap⟩ := block_of_R ho8 (.inl ⟨b_, hb_⟩); clear ho8 hb_; have HB := Aside0.mk (below_step (by repeat (first | (with_reducible first | exact HB0.out | apply below_alloc | apply pw_below_drewN | apply below_drew1) | exact HB0.out)) hb); have HG := Aside0.mk (show w7.heap[g]? = some (.cells (repL 0 n x ++ rest).toArray 3 (0, 0)) by simpa [repL] using hblk); have hgw : w.heap.size ≤ g := hbg; rw [List.length_replicate, Int.toNat_natCast] at hl; have HL := Aside0.mk hl; clear hb hblk hl hbg)
      | ((with_reducible refine gate_dst (N := 33) rfl ?_); refine wpList_copy_splice rfl (.tmp 31) (.tmp 32) 22 22 rfl 3 Try.underlying22 (by kernel_rfl) (some ⟨g, 0, none⟩) (some ad) n cap 1 c0 rfl rfl g 0 _ 3 HG.out (List.replicate (min 1 n) (.int .i64 x)) (by simp) ?cp1 ?cp2 ?cp3 w.heap.size w HB.out hgw ?_; (case cp1 => intro hp; simp at hp; exact ⟨rfl, ad, rfl, fun j v hv => (HB.out.cell (World.block_lt_of_cell? _ _ (HX.out j v (one_le hv)))).trans (HX.out j v (one_le hv))⟩); (case cp2 => simp [repL]; omega); (case cp3 => intro v hv; simp at hv; rw [hv.2]; rfl); intro w8 hg8 hb8; have HG8 := Aside0.mk (show w8.heap[g]? = some (.cells (repL (min 1 n) n x ++ rest).toArray 3 (0, 0)) by rw [show min 1 n = 0 + min 1 n by omega, ← repL_splice 0 (min 1 n) n x rest (by omega)]; exact hg8.out); have HB8 := Aside0.mk hb8; clear HG HB hg8 hb8; simp only [List.length_replicate, goInt]))
    go_loopw [8] (fun u W => ∃ k : Nat, k ≤ n ∧ (0 < n → 0 < k) ∧ u = .int .i64 k ∧ Aside0 (W.heap[g]? = some (.cells (repL k n x ++ rest).toArray 3 (0, 0))) ∧ Aside0 (Below w.heap.size w W)) (fun u _ => n - (intOf u).toNat)
    case atStart => exact ⟨min 1 n, by omega, by omega, rfl, HG8, HB8⟩
    case round =>
      obtain ⟨k, hk, hk0, rfl, HG, HB⟩ := hrel
      clear HG8 HB8
      by_cases hlt : k < n
      · have q1 : decide ((k : Int) < n) = true := by simpa using hlt
        have q2 : decide (k < n) = true := by simpa using hlt
        have q3 : k ≤ cap := by have := HL.out; omega
        have q4 : decide ((0 : Int) ≤ k) = true := by simp
        have hc1 : (List.replicate (min k (n - k)) (Value.int .i64 x)).length = Nat.min k (n - k) := by simp [Nat.min_def, min]
        go_wp2_with fail
        have q5 : ¬ cap = k := by have := HL.out; omega
        have HGd : wr.drew.heap[g]? = some (.cells (repL k n x ++ rest).toArray 3 (0, 0)) := HG.out
        have HBd : Below w.heap.size w wr.drew := below_drew HB.out
        have HGd' := Aside0.mk HGd
        have HBd' := Aside0.mk HBd
        clear HGd HBd
        go_region_law (refine step_copy_splice rfl (.tmp 41) (.tmp 44) 22 22 rfl 3 Try.underlying22 (by kernel_rfl) (some ⟨g, k, none⟩) (some ⟨g, 0, none⟩) (n - k) (cap - k) k cap ?hd ?hs g k (repL k n x ++ rest) 3 HGd'.out (List.replicate (min k (n - k)) (.int .i64 x)) ?cp0 ?cp1 ?cp2 ?cp3 w.heap.size w HBd'.out hgw ?_; (case hd => go_simp); (case hs => go_simp); (case cp0 => simp [Nat.min_def, min]); (case cp1 => exact fun _ => ⟨rfl, _, rfl, fun j v hv => repL_cell HGd'.out hk hv⟩); (case cp2 => simp [repL]; omega); (case cp3 => intro v hv; simp at hv; rw [hv.2]; rfl); intro w9 hg9 hb9)
        have HG9 := Aside0.mk (show w9.heap[g]? = some (.cells (repL (k + min k (n - k)) n x ++ rest).toArray 3 (0, 0)) by rw [← repL_splice k (min k (n - k)) n x rest (by omega)]; exact hg9.out)
        have HB9 := Aside0.mk hb9
        have hm1 : k.min (n - k) ≤ n - k := Nat.min_le_right _ _
        have hm2 : 0 < k.min (n - k) := by have : 0 < k := hk0 (by omega); exact Nat.lt_min.2 ⟨this, by omega⟩
        have HE := Aside0.mk (show IntKind.i64.wrap ((k : Int) + ((k.min (n - k) : Nat) : Int)) = ((k + k.min (n - k) : Nat) : Int) by rw [i64_w]; unfold wrap64; omega)
        clear hg9 hb9 HG HB HGd' HBd'
        go_simp
        rw [HE.out]
        go_roundw
        case rel => exact ⟨_, _, _, _, _, _, _, _, _, _, _, _, _, _, ⟨k + k.min (n - k), by omega, fun _ => by omega, rfl, HG9, HB9⟩, rfl⟩
        case measure => simp [intOf]; omega
      · have q1 : decide ((k : Int) < n) = false := by simpa using hlt
        have q2 : decide (k < n) = false := by simpa using hlt
        obtain rfl : k = n := by omega
        go_wp2_with fail
        go_ret
        refine ⟨_, rfl, ?_, HB.out⟩
        have := R_of_block (W := wr) (e := 3) (base := w.heap.size) (ok := fun _ => True) (xs := List.replicate k x) (rest := rest) (cap := cap) (by rw [← repL_full]; exact HG.out) hgw (by simpa using HL.out) hcap trivial
        simpa [rd] using this
  · cases h
end Go.Proofs.Ytpkhdipedmihgaa.P
