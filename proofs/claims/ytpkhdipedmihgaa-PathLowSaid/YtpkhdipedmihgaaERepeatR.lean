/- slices.Repeat at []reach, of a slice of one: so many times that one; for every count from 1 to 2^30. -/
import Derived.Test.YtpkhdipedmihgaaERepeat
import Derived.Test.YtpkhdipedmihgaaXCopy
namespace Go.Proofs.Ytpkhdipedmihgaa.P
open Go.RowKit Go.Proofs.YtpkhdipedmihgaaW.PrintWords Go.Proofs.YtpkhdipedmihgaaW.PrintLast Go.Proofs.YtpkhdipedmihgaaW.PrintMore
set_option linter.unusedVariables false
set_option linter.unusedSimpArgs false

theorem flatI_one : ∀ (l : List Itm), ∀ v ∈ flatI l, v.oneCell' = true
  | [], v, h => by cases h
  | p :: t, v, h => by
    simp only [flatI, List.mem_cons] at h
    rcases h with rfl | rfl | h
    · rfl
    · rfl
    · exact flatI_one t v h
theorem flatI_cell {W : World} {g e : Nat} {x : Itm} {k : Nat} {r : List Value} (h : W.heap[g]? = some (.cells (flatI (List.replicate k x) ++ r).toArray e (0, 0))) {m : Nat} (hm : m ≤ k) {j : Nat} {v : Value} (hv : (flatI (List.replicate m x))[j]? = some v) : W.cell? ((⟨g, 0, none⟩ : Addr).add j) = some v := by
  have hj : j < 2 * m := by have := (List.getElem?_eq_some_iff.1 hv).1; rw [flatI_len] at this; simpa using this
  have h2 := flatI_rep_get x m j hj []
  rw [List.append_nil, hv] at h2
  rw [add_plain]
  refine cell_of_block h j v ?_
  rw [flatI_rep_get x k j (by omega), ← h2]

set_option maxHeartbeats 2000000 in
set_option maxRecDepth 100000 in
theorem repeatR_calls (ad : Addr) (c0 : Nat) (x : Itm) (n : Nat) (w : World) (hx : ∀ j v, (flatI [x])[j]? = some v → w.cell? (ad.add j) = some v) (h1 : 0 < n) (h2 : n ≤ 1000000) :
    Calls Try.prog 50 #[.slice (some ad) 1 c0, .int .i64 n] w fun e w' => ∃ g cap rest, e = .returned (.slice (some ⟨g, 0, none⟩) n cap) ∧ w.heap.size ≤ g ∧ w'.heap[g]? = some (.cells (flatI (List.replicate n x) ++ rest).toArray 65 (0, 0)) ∧ cap ≤ maxLen ∧ 2 * n + rest.length = cap * 2 ∧ Below w.heap.size w w' := by
  have hb := bits_one n (by omega) (by omega)
  have HM := Aside0.mk hb
  have HX := Aside0.mk hx
  clear hb hx
  have t1 : decide ((n : Int) < 0) = false := by simp
  have t2 : decide ((0 : Int) < 0) = false := by decide
  have t3 : decide ((9223372036854775807 : Int) < n) = false := by simp; omega
  have t4 : IntKind.i64.wrap n = n := by rw [i64_w]; unfold wrap64; omega
  have hinfo : (Try.prog.info? 65).map (fun i => (i.zero, i.size, i.bytes)) = some (some (.agg #[.int .i64 0, .int .i64 0]), 2, 16) := by kernel_rfl
  have HI := Aside0.mk hinfo
  clear hinfo
  go_enter Try.func50, Try.ntmps50
  go_wp2_with fail
  refine (bits_Mul.calls 1 n 0 n _ HM.out).mono ?_
  rintro e w1 ⟨rfl, ⟨m, rfl⟩⟩
  have HB0 := Aside0.mk (Below.refl w.heap.size w)
  go_wp2_with (first
    | ((with_reducible refine gate_dst (N := 30) rfl ?_); refine Kd.R_make kI2 _ 65 rfl (N := 30) rfl 62 _ _ rfl (n : Int) rfl rfl Try.underlying62 (.agg #[.int .i64 0, .int .i64 0]) 16 HI.out rfl (by decide) (by omega) zI (ok := fun _ => True) (okp := fun _ => True) (kI2_mkM _ _ _ zI) (fun _ hk => hk) trivial (by omega) (by omega) (Below.refl _ _) (Nat.le_refl _) ?_; intro v109 w7 ho8 hb hg_ hnew_; clear hg_ hnew_; obtain ⟨g, cap, rest, hv1, hbg, hblk, hcap1, hcap2, hl⟩ := block_of_Rk ho8 (by simp; omega); subst hv1; clear ho8; have HB := Aside0.mk (below_step (by repeat (first | (with_reducible first | exact HB0.out | apply below_alloc | apply pw_below_drewN | apply below_drew1) | exact HB0.out)) hb); have HG := Aside0.mk hblk; have hgw : w.heap.size ≤ g := hbg; rw [List.length_replicate, Int.toNat_natCast] at hl hcap1; have HL := Aside0.mk hl; have HC := Aside0.mk hcap2; have HC1 := Aside0.mk hcap1; clear hb hblk hl hbg hcap2 hcap1; simp only [List.length_replicate, Int.toNat_natCast])
    | ((with_reducible refine gate_dst (N := 33) rfl ?_); refine wpList_copy_sz rfl (.tmp 31) (.tmp 32) 62 62 rfl 65 Try.underlying62 2 1 (by kernel_rfl) g 0 n cap 1 c0 ad rfl rfl _ 65 HG.out (flatI [x]) (by simp [Nat.min_def]; omega) rfl (fun j v hv => ?cp1) ?cp2 ?cp3 w.heap.size w HB.out hgw ?_; (case cp1 => exact (HB.out.cell (World.block_lt_of_cell? _ _ (HX.out j v hv))).trans (HX.out j v hv)); (case cp2 => simp [flatI, flatI_len]; omega); (case cp3 => intro v hv; simp [flatI] at hv; rcases hv with rfl | rfl <;> rfl); intro w8 hg8 hb8; have HG8 := Aside0.mk hg8.out; have HB8 := Aside0.mk hb8; clear HB hg8 hb8))
  have hG0 : w8.heap[g]? = some (.cells (flatI (List.replicate 1 x) ++ (flatI (List.replicate n zI) ++ rest).drop 2).toArray 65 (0, 0)) := HG8.out
  have HG9 := Aside0.mk hG0
  have hr0 : ((flatI (List.replicate n zI) ++ rest).drop 2).length = 2 * (n - 1) + rest.length := by rw [List.length_drop, List.length_append, flatI_len]; simp; omega
  obtain ⟨r1, hr1⟩ : ∃ r1, r1 = (flatI (List.replicate n zI) ++ rest).drop 2 := ⟨_, rfl⟩
  rw [← hr1] at hr0 HG9
  have HR0 := Aside0.mk hr0
  clear hG0 hr0 hr1 HG HG8 HX
  go_loopw [8] (fun u W => ∃ (k : Nat) (rk : List Value), 0 < k ∧ k ≤ n ∧ u = .int .i64 k ∧ Aside0 (rk.length = 2 * (n - k) + rest.length) ∧ Aside0 (W.heap[g]? = some (.cells (flatI (List.replicate k x) ++ rk).toArray 65 (0, 0))) ∧ Aside0 (Below w.heap.size w W)) (fun u _ => n - (intOf u).toNat)
  case atStart => exact ⟨1, r1, by omega, by omega, rfl, HR0, HG9, HB8⟩
  case round =>
    obtain ⟨k, rk, hk0, hk, rfl, HRK, HG, HB⟩ := hrel
    clear HG9 HB8 HR0
    by_cases hlt : k < n
    · have q1 : decide ((k : Int) < n) = true := by simpa using hlt
      have q2 : decide (k < n) = true := by simpa using hlt
      have q3 : k ≤ cap := by have := HC1.out; omega
      have q4 : decide ((0 : Int) ≤ k) = true := by simp
      go_wp2_with fail
      have q5 : ¬ cap = k := by have := HC1.out; omega
      have HGd' := Aside0.mk (show wr.drew.heap[g]? = some (.cells (flatI (List.replicate k x) ++ rk).toArray 65 (0, 0)) from HG.out)
      have HBd' := Aside0.mk (show Below w.heap.size w wr.drew from below_drew HB.out)
      obtain ⟨m2, hm2⟩ : ∃ m2, m2 = Nat.min k (n - k) := ⟨_, rfl⟩
      have HM2 := Aside0.mk hm2
      have hm3 : 0 < m2 ∧ m2 ≤ n - k ∧ m2 ≤ k := by rw [hm2]; exact ⟨Nat.lt_min.2 ⟨hk0, by omega⟩, Nat.min_le_right _ _, Nat.min_le_left _ _⟩
      have HM3 := Aside0.mk hm3
      clear hm2
      go_region_law (refine step_copy_sz rfl (.tmp 41) (.tmp 44) 62 62 rfl 65 Try.underlying62 2 m2 (by kernel_rfl) g (k * 2) (n - k) (cap - k) k cap ⟨g, 0, none⟩ ?hd ?hs (flatI (List.replicate k x) ++ rk) 65 HGd'.out (flatI (List.replicate m2 x)) HM2.out (by rw [flatI_len]; simp; omega) (fun j v hv => flatI_cell HGd'.out HM3.out.2.2 hv) ?cp2 ?cp3 w.heap.size w HBd'.out hgw ?_; (case hd => go_simp); (case hs => go_simp); (case cp2 => rw [List.length_append, flatI_len, flatI_len]; have := HRK.out; have := HM3.out; simp; omega); (case cp3 => exact flatI_one _); intro w9 hg9 hb9)
      have HG9 := Aside0.mk (show w9.heap[g]? = some (.cells (flatI (List.replicate (k + m2) x) ++ rk.drop (2 * m2)).toArray 65 (0, 0)) by rw [← flatI_splice x k m2 rk (by have := HRK.out; omega)]; exact hg9.out)
      have HB9 := Aside0.mk hb9
      have HE := Aside0.mk (show IntKind.i64.wrap ((k : Int) + (m2 : Int)) = ((k + m2 : Nat) : Int) by rw [i64_w]; unfold wrap64; omega)
      have HR9 := Aside0.mk (show (rk.drop (2 * m2)).length = 2 * (n - (k + m2)) + rest.length by rw [List.length_drop]; have := HRK.out; omega)
      clear hg9 hb9 HG HB HGd' HBd'
      try simp only [goInt]
      go_simp
      rw [HE.out]
      go_roundw
      case rel => first | exact ⟨k + m2, _, by omega, by omega, rfl, HR9, HG9, HB9⟩ | ((repeat apply Exists.intro); exact ⟨⟨k + m2, _, by omega, by omega, rfl, HR9, HG9, HB9⟩, rfl⟩) | exact ⟨_, _, _, _, _, _, _, _, _, _, _, _, _, _, ⟨k + m2, _, by omega, by omega, rfl, HR9, HG9, HB9⟩, rfl⟩
      case measure => simp [intOf]; omega
    · have q1 : decide ((k : Int) < n) = false := by simpa using hlt
      have q2 : decide (k < n) = false := by simpa using hlt
      obtain rfl : k = n := by omega
      go_wp2_with fail
      go_ret
      exact ⟨g, cap, rk, rfl, hgw, HG.out, HC.out, by have := HRK.out; have := HL.out; omega, HB.out⟩
end Go.Proofs.Ytpkhdipedmihgaa.P
