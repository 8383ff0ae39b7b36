/- path.Any, where there is no round below 0. -/
import Derived.Test.YtpkhdipedmihgaaERelax
import Derived.Deep.RegionHeld3
namespace Go.Proofs.Ytpkhdipedmihgaa.P
open Go.RowKit Go.Proofs.YtpkhdipedmihgaaW.PrintWords Go.Proofs.YtpkhdipedmihgaaW.PrintLast Go.Proofs.YtpkhdipedmihgaaW.PrintMore
set_option linter.unusedVariables false
set_option linter.unusedSimpArgs false

/-- The state within a round: so many arcs have been gone over. -/
structure AS (L : List BFT.Arc) (N : Nat) (WW : Int) (d0 : List Int) (i j : Nat) (last : Int) (d by_ : List Int) : Prop where
  dl : d.length = N
  bl : by_.length = N
  eq : d = (L.take j).foldl BFT.rx d0
  bnd : BFT.Bnd d (((i * L.length + j : Nat) : Int) * WW)
  le : BFT.Le d d0
  last : (last = -1 ∧ d = d0) ∨ (0 ≤ last ∧ last < N ∧ ∃ v : Int, 0 ≤ v ∧ v < N ∧ BFT.rd d v < BFT.rd d0 v)
theorem AS.start {L : List BFT.Arc} {N : Nat} {WW : Int} {d0 by_ : List Int} {i : Nat} (h1 : d0.length = N) (h2 : by_.length = N) (hb : BFT.Bnd d0 ((i : Int) * (L.length * WW))) : AS L N WW d0 i 0 (-1) d0 by_ :=
  ⟨h1, h2, rfl, by rw [Nat.add_zero, Int.natCast_mul, Int.mul_assoc]; exact hb, BFT.Le.refl _, .inl ⟨rfl, rfl⟩⟩
theorem AS.next {L : List BFT.Arc} {N : Nat} {WW : Int} {d0 d by_ : List Int} {i j : Nat} {last : Int} {a : BFT.Arc} (h : AS L N WW d0 i j last d by_) (hL : BFT.Okl N WW L) (hW : 0 ≤ WW) (ha : L[j]? = some a) (by2 : List Int) (hb2 : by2.length = N) (last2 : Int)
    (hc : (BFT.rx d a = d ∧ last2 = last) ∨ (last2 = a.to ∧ BFT.rd (BFT.rx d a) a.to < BFT.rd d a.to)) : AS L N WW d0 i (j + 1) last2 (BFT.rx d a) by2 := by
  have hm : a ∈ L := List.mem_of_getElem? ha
  obtain ⟨a1, a2, a3, a4, a5, a6⟩ := hL a hm
  have hle := BFT.rx_le d a N h.dl ⟨a3, a4⟩
  have hle2 := hle.trans h.le
  refine ⟨by rw [BFT.rx_length, h.dl], hb2, ?_, ?_, hle2, ?_⟩
  · rw [List.take_add_one, ha]; simp [List.foldl_append, ← h.eq]
  · have := BFT.rx_bnd d a N WW _ h.dl ⟨a1, a2, a3, a4, a5, a6⟩ hW h.bnd
    rwa [show ((i * L.length + j : Nat) : Int) * WW + WW = ((i * L.length + (j + 1) : Nat) : Int) * WW by rw [show i * L.length + (j + 1) = (i * L.length + j) + 1 by omega, Int.natCast_add (i * L.length + j) 1, Int.add_mul]; show _ = _ + (1 : Int) * WW; rw [Int.one_mul]] at this
  · rcases hc with ⟨e, rfl⟩ | ⟨rfl, e⟩
    · rw [e]; exact h.last
    · refine .inr ⟨a3, a4, a.to, a3, a4, ?_⟩
      have := h.le.2 a.to a3 (by rw [h.dl]; exact a4)
      omega
theorem AS.round {L : List BFT.Arc} {N : Nat} {WW : Int} {d0 d by_ : List Int} {i : Nat} {last : Int} (h : AS L N WW d0 i L.length last d by_) : d = BFT.round L d0 := by
  rw [h.eq, List.take_of_length_le (Nat.le_refl _)]; rfl
theorem mul_bound {N i len j : Nat} {W : Int} (hi : i < N) (hj : j ≤ len) (hW : 0 ≤ W) (hF : ((N : Int) + 1) * ((len : Int) * W) < BFT.Far) : ((i * len + j : Nat) : Int) * W ≤ 1152921504606846976 := by
  have h1 : i * len + j ≤ (N + 1) * len := by
    have := Nat.mul_le_mul_right len (show i + 1 ≤ N + 1 by omega)
    rw [Nat.add_mul, Nat.one_mul] at this; omega
  have h2 : ((i * len + j : Nat) : Int) * W ≤ (((N + 1) * len : Nat) : Int) * W := Int.mul_le_mul_of_nonneg_right (by omega) hW
  rw [Int.natCast_mul, Int.mul_assoc] at h2
  have : (((N + 1 : Nat) : Int)) = (N : Int) + 1 := by omega
  rw [this] at h2
  unfold BFT.Far at hF
  omega
theorem C_one (w : World) (x : Int) : Kd.C (Kd.int .i64) (w.alloc (.cells #[.int .i64 x] 3)) (some ⟨w.heap.size, 0, none⟩) 1 [x] := by
  have := R_of_block (W := w.alloc (.cells #[.int .i64 x] 3)) (e := 3) (base := 0) (g := w.heap.size) (ok := fun _ => True) (xs := [x]) (rest := []) (cap := 1) (heap_alloc_new w _) (by omega) rfl (by simp [maxLen]) trivial
  exact (Kd.R_reads' this).2.2

set_option maxHeartbeats 4000000 in
set_option maxRecDepth 100000 in
theorem any_fix (N : Nat) (A : Option Addr) (c : Nat) (l : List S30) (s : Int) (w : World) (hr : Kd.C k30 w A l.length l) (ho : ArcsOK N l s) (hx : BFT.round (l.map toA) (BFT.it (l.map toA) (N - 1) (BFT.d0 N s)) = BFT.it (l.map toA) (N - 1) (BFT.d0 N s)) :
    Calls Try.prog 20 #[.int .i64 N, .slice A l.length c, .int .i64 s] w fun e w' => ∃ v0 : Value, e = .returned (.tuple #[v0, .slice none 0 0, .bool true]) ∧ Kd.R (Kd.int .i64) 3 w' w.heap.size (fun _ => True) v0 (dists N l s) ∧ Below w.heap.size w w' := by
  have hu := Try.underlying30
  have hokl := ho.okl
  have hfar := ho.far
  simp only [Int.toNat_natCast, List.length_map] at hokl hfar
  obtain ⟨hN1, hN2, hs0, hs1, hll, hmx, -, hr8⟩ := ho
  have hFi := fine_calls N A c l s w hr hll (fun x hx => by
    obtain ⟨h1, h2, h3, h4, h5, h6⟩ := hokl (toA x) (List.mem_map.2 ⟨x, hx, rfl⟩)
    exact ⟨h1, h2, h3, h4, by show (-1099511627776 : Int) ≤ (toA x).len; omega, by show (toA x).len ≤ 1099511627776; omega⟩) hN1 hN2 hs0 hs1
  have HFi := Aside0.mk hFi
  have HR := Aside0.mk hr
  have HF := Aside0.mk hfar
  have HOK := Aside0.mk hokl
  have HX := Aside0.mk hx
  have HMX := Aside0.mk hmx
  have HW0 := Aside0.mk (BFT.mxA_nonneg (l.map toA))
  obtain ⟨WW, hWW⟩ : ∃ WW, BFT.mxA (l.map toA) = WW := ⟨_, rfl⟩
  rw [hWW] at HF HOK HMX HW0
  clear hr hfar hokl hx hFi hr8 hmx hWW
  go_enter Try.func20, Try.ntmps20
  go_wp2_with fail
  refine HFi.out.mono ?_
  rintro e w1 ⟨rfl, hb1⟩
  have HB1 := Aside0.mk hb1
  clear hb1 HFi
  go_wp2_with fail
  refine (path_begin.calls N s (BFT.d0 N s) w1 (begin_eq N s hs0 hs1 (by omega))).mono ?_
  rintro e w2 ⟨v0, rfl, ho2, hb2⟩
  obtain ⟨gd, cd, rd0, rfl, hgd, -, hd2, hcd1, hcd2⟩ := block_of_R ho2 (.inr (by rw [BFT.d0_length]; omega))
  rw [BFT.d0_length] at *
  have HB2 := Aside0.mk (below_step HB1.out hb2)
  have HD2 := Aside0.mk hd2
  have HG2 := Aside0.mk (show w.heap.size ≤ gd by have := HB1.out.size; omega)
  have HC2 := Aside0.mk (And.intro hcd1 hcd2)
  clear ho2 hb2 hd2 hcd1 hcd2 hgd
  obtain ⟨w3, hw3⟩ : ∃ w3, w3 = w2.alloc (.cells #[.int .i64 (-1)] 3) := ⟨_, rfl⟩
  have hb3 : Below w2.heap.size w2 w3 := by rw [hw3]; exact below_alloc (Below.refl _ _) _
  have HRp := Aside0.mk (slices_Repeat_int_int.calls (some ⟨w2.heap.size, 0, none⟩) 1 [-1] N (List.replicate N (-1)) w3 (by rw [hw3]; exact C_one w2 (-1)) (by simp) (by unfold slices_Repeat_int_int.f; rw [if_pos ⟨rfl, by omega, by omega⟩]; simp [rd]))
  have HE3 := Aside0.mk hw3
  have HD3 := Aside0.mk (blk_below HD2.out hb3)
  have HB3 := Aside0.mk (below_step HB2.out hb3)
  clear hw3 hb3
  go_wp2_with fail
  rw [← HE3.out]
  refine HRp.out.mono ?_
  rintro e w4 ⟨v4, rfl, ho4, hb4⟩
  obtain ⟨gb, cb, rb0, rfl, hgb, -, hd4, hcb1, hcb2⟩ := block_of_R ho4 (.inr (by simp; omega))
  have hlr : (List.replicate N (-1 : Int)).length = N := by simp
  rw [hlr] at *
  have HN4 := Aside0.mk hd4
  have HD4 := Aside0.mk (blk_below HD3.out hb4)
  have HB4 := Aside0.mk (below_step HB3.out hb4)
  have HGB := Aside0.mk (show w.heap.size ≤ gb ∧ gb ≠ gd by have h1 := HB3.out.size; have h2 := blk_lt HD3.out; omega)
  clear ho4 hb4 hd4 hcb1 hcb2 hgb HRp
  go_wp2_with fail
  clear hu
  go_loopw [6, 26] (fun u6 u W => ∃ (i : Nat) (bl : List Int), i ≤ N ∧ u6 = .slice (some ⟨gd, 0, none⟩) N cd ∧ u = .int .i64 i ∧ bl.length = N ∧ Aside0 (∀ m, m < i → BFT.round (l.map toA) (BFT.it (l.map toA) m (BFT.d0 N s)) ≠ BFT.it (l.map toA) m (BFT.d0 N s)) ∧ Aside0 (W.heap[gd]? = some (.cells ((BFT.it (l.map toA) i (BFT.d0 N s)).map (Value.int .i64) ++ rd0).toArray 3 (0, 0))) ∧ Aside0 (W.heap[gb]? = some (.cells (bl.map (Value.int .i64) ++ rb0).toArray 3 (0, 0))) ∧ Aside0 (Below w.heap.size w W)) (fun _ u _ => N - (intOf u).toNat)
  case atStart => exact ⟨0, List.replicate N (-1), by omega, rfl, rfl, by simp, ⟨fun m hm => by omega⟩, HD4, HN4, HB4⟩
  case round =>
    obtain ⟨i, bl, hi, rfl, rfl, hbl, HNE, HD, HB, HBL⟩ := hrel
    clear HD4 HN4 HB4
    have hu := Try.underlying30
    by_cases hin : i < N
    · have p1 : decide ((i : Int) < N) = true := by simpa using hin
      have HWI := Aside0.mk (show IntKind.i64.wrap ((i : Int) + 1) = ((i + 1 : Nat) : Int) by rw [i64_w]; unfold wrap64; omega)
      obtain ⟨di, hdi⟩ : ∃ di, BFT.it (l.map toA) i (BFT.d0 N s) = di := ⟨_, rfl⟩
      have hS := BFT.St.it HW0.out HOK.out hs0 hs1 i
      rw [hdi] at HD hS
      have HDI := Aside0.mk hdi
      have HAS := Aside0.mk (AS.start (L := l.map toA) (WW := WW) (i := i) (by_ := bl) hS.len hbl hS.bnd)
      have HBN := Aside0.mk hbl
      clear hdi hS hbl
      go_wp2_with fail
      go_loopw [30, 10] (fun u u10 W => ∃ (j : Nat) (last : Int) (d by_ : List Int), j ≤ l.length ∧ u = .int .i64 j ∧ u10 = .int .i64 last ∧ Aside0 (AS (l.map toA) N WW di i j last d by_) ∧ Aside0 (W.heap[gd]? = some (.cells (d.map (Value.int .i64) ++ rd0).toArray 3 (0, 0))) ∧ Aside0 (W.heap[gb]? = some (.cells (by_.map (Value.int .i64) ++ rb0).toArray 3 (0, 0))) ∧ Aside0 (Below w.heap.size w W)) (fun u _ _ => l.length - (intOf u).toNat)
      case atStart => exact ⟨0, -1, di, bl, by omega, rfl, rfl, HAS, HD, HB, HBL⟩
      case round =>
        obtain ⟨j, last, d, by_, hj, rfl, rfl, HAS, HD, HB, HBL⟩ := hrel
        by_cases hlt : j < l.length
        · have q3 : decide ((j : Int) < l.length) = true := by simpa using hlt
          have q4 : decide ((0 : Int) ≤ j) = true := by simp
          obtain ⟨ad, rfl, ha0, ha1, ha2⟩ := at_T30 (Kd.C_below HR.out HBL.out) (j : Int) (by omega) (by omega)
          have HW := Aside0.mk (show IntKind.i64.wrap ((j : Int) + 1) = ((j + 1 : Nat) : Int) by rw [i64_w]; unfold wrap64; omega)
          simp only [Int.toNat_natCast] at ha0 ha1 ha2
          obtain ⟨a, ha⟩ : ∃ a, rd_T30 l (j : Int) = a := ⟨_, rfl⟩
          rw [ha] at ha0 ha1 ha2
          have hlj : l[j]? = some a := by rw [← ha]; unfold rd_T30; rw [Int.toNat_natCast, List.getD_eq_getElem?_getD, List.getElem?_eq_getElem hlt]; rfl
          obtain ⟨b0, b1, b2, b3, b4, b5⟩ := HOK.out (toA a) (List.mem_map.2 ⟨a, List.mem_of_getElem? hlj, rfl⟩)
          have HTA := Aside0.mk (show (l.map toA)[j]? = some (toA a) by rw [List.getElem?_map, hlj]; rfl)
          have b0 : 0 ≤ a.f0 := b0
          have b1 : a.f0 < N := b1
          have b2 : 0 ≤ a.f1 := b2
          have b3 : a.f1 < N := b3
          have b4 : -WW ≤ a.f2 := b4
          have b5 : a.f2 ≤ WW := b5
          have hdl := HAS.out.dl
          have hbl := HAS.out.bl
          have hb9 := below_alloc (Below.refl wr.heap.size wr) (.cells #[.int .i64 a.f0, .int .i64 a.f1, .int .i64 a.f2] 30)
          have HD9 := Aside0.mk (blk_below HD.out hb9)
          have HB9 := Aside0.mk (blk_below HB.out hb9)
          have HBL9 := Aside0.mk (below_step HBL.out hb9)
          have HA9 := Aside0.mk (heap_alloc_new wr (.cells #[.int .i64 a.f0, .int .i64 a.f1, .int .i64 a.f2] 30))
          have hbd := HAS.out.bnd a.f0 b0 (by omega)
          have hmb := mul_bound hin (Nat.le_of_lt hlt) HW0.out HF.out
          have HRX := Aside0.mk (relax_calls gd cd d rd0 a _ HD9.out b0 (by omega) b2 (by omega) (by rw [List.length_map] at hbd; rcases hbd with h | h; exact .inl h; exact .inr ⟨by omega, by omega⟩) ⟨by have := HMX.out; omega, by have := HMX.out; omega⟩)
          rw [hdl] at HRX
          clear ha hlj hb9 hbd hmb
          go_upto_region 12 with (fail)
          obtain ⟨w9, hw9⟩ : ∃ w9, w9 = wr.alloc (.cells #[.int .i64 a.f0, .int .i64 a.f1, .int .i64 a.f2] 30) := ⟨_, rfl⟩
          obtain ⟨ga, hga⟩ : ∃ ga, ga = wr.heap.size := ⟨_, rfl⟩
          rw [← hw9, ← hga]
          rw [← hw9] at HD9 HB9 HBL9 HA9 HRX
          rw [← hga] at HA9
          have HGA := Aside0.mk (show ga ≠ gd ∧ ga ≠ gb by have := blk_lt HD.out; have := blk_lt HB.out; omega)
          clear hw9 hga HD HB HBL
          have hca0 : w9.cell? ⟨ga, 0, none⟩ = some (.int .i64 a.f0) := (blk_cell HA9.out 0).trans rfl
          have hca1 : w9.cell? ⟨ga, 1, none⟩ = some (.int .i64 a.f1) := (blk_cell HA9.out 1).trans rfl
          have hca2 : w9.cell? ⟨ga, 2, none⟩ = some (.int .i64 a.f2) := (blk_cell HA9.out 2).trans rfl
          go_wp2_with fail
          (with_reducible refine HRX.out.mono ?_)
          rintro e w10 ⟨rfl, hd10, hm10⟩
          have HD10 := Aside0.mk hd10
          have HB10 := Aside0.mk (blk_mod HB9.out hm10 (by have := HGB.out.2; omega))
          have HA10 := Aside0.mk (blk_mod HA9.out hm10 (by have := HGA.out.1; omega))
          have HBL10 := Aside0.mk (HBL9.out.trans (hm10.toBelow (by have := HBL9.out.size; omega) (fun k hk => by subst hk; exact HG2.out)))
          clear hd10 hm10 hca0 hca1 hca2 HRX
          obtain ⟨rb, hrb⟩ : ∃ rb, rxB d a = rb := ⟨_, rfl⟩
          have HRB := Aside0.mk hrb
          rw [hrb]
          clear hrb
          cases rb with
          | false =>
            have HN := Aside0.mk (HAS.out.next HOK.out HW0.out HTA.out by_ hbl last (.inl ⟨by have := HRB.out; unfold rxB at this; have := of_decide_eq_false this; unfold BFT.rx; exact if_neg this, rfl⟩))
            go_wp2_with fail
            go_roundw
            case rel => exact ⟨j + 1, last, _, by_, by omega, by first | rfl | (rw [HW.out]) | go_num, rfl, HN, HD10, HB10, HBL10⟩
            case measure => simp [intOf]; omega
          | true =>
            have hrt : BFT.rd d a.f0 ≠ BFT.Far ∧ BFT.rd d a.f0 + a.f2 < BFT.rd d a.f1 := of_decide_eq_true HRB.out
            have HN := Aside0.mk (HAS.out.next HOK.out HW0.out HTA.out (by_.set a.f1.toNat (j : Int)) (by simpa using hbl) a.f1 (.inr ⟨rfl, by rw [(rx_yes hrt.1 hrt.2).2]; show BFT.rd (d.set a.f1.toNat _) a.f1 < BFT.rd d a.f1; rw [BFT.rd_set d a.f1 _ a.f1 b2 (by omega) b2, if_pos rfl]; exact hrt.2⟩))
            have hca1 : w10.cell? ⟨ga, 1, none⟩ = some (.int .i64 a.f1) := (blk_cell HA10.out 1).trans rfl
            obtain ⟨hbc, hbf⟩ := row_at HB10.out a.f1 b2 (by omega)
            have q5 : decide (0 ≤ a.f1) = true := decide_eq_true b2
            have q6 : decide (a.f1 < N) = true := decide_eq_true b3
            have q7 : a.f1.toNat < N := by omega
            have q8 : a.f1.toNat < by_.length := by omega
            clear hrt
            have hcs : ∀ u, (w10.setCell ⟨gb, a.f1.toNat, none⟩ u).cell? ⟨ga, 1, none⟩ = some (.int .i64 a.f1) := fun u => (blk_cell (blk_far (p := ⟨gb, a.f1.toNat, none⟩) HA10.out HGA.out.2 u) 1).trans rfl
            go_wp2_with fail
            go_region_held3 (fun w' => w'.cell? ⟨ga, 1, none⟩ = some (.int .i64 a.f1)) (first | exact hcs _ | go_keep) (first | fail)
            have HSB := Aside0.mk (show (w10.setCell ⟨gb, a.f1.toNat, none⟩ (.int .i64 (j : Int))).drew.heap[gb]? = some (.cells ((by_.set a.f1.toNat (j : Int)).map (Value.int .i64) ++ rb0).toArray 3 (0, 0)) by
              have := blk_set HB10.out a.f1.toNat (.int .i64 (j : Int))
              rw [List.setIfInBounds_toArray, set_app by_ (Value.int .i64) rb0 _ _ q8] at this
              exact this)
            have HSD := Aside0.mk (blk_drew (blk_far (p := ⟨gb, a.f1.toNat, none⟩) HD10.out (by show gd ≠ gb; exact fun e => HGB.out.2 e.symm) (.int .i64 (j : Int))))
            have HSL := Aside0.mk (below_drew (HBL10.out.setCell (p := ⟨gb, a.f1.toNat, none⟩) HGB.out.1 (.int .i64 (j : Int))))
            clear hcs hca1 hbc hbf HB10 HD10 HBL10
            go_wp2_with fail
            go_roundw
            case rel => exact ⟨j + 1, a.f1, _, _, by omega, by first | rfl | (rw [HW.out]) | go_num, rfl, HN, HSD, HSB, HSL⟩
            case measure => simp [intOf]; omega
        · have q3 : decide ((j : Int) < l.length) = false := by simpa using hlt
          obtain rfl : j = l.length := by omega
          have hfin := HAS.out
          rw [show l.length = (l.map toA).length by simp] at hfin
          have hround := hfin.round
          have HRD := Aside0.mk hround
          have HLE := Aside0.mk hfin.le
          have HDL := Aside0.mk hfin.dl
          have HBY := Aside0.mk hfin.bl
          rcases hfin.last with ⟨rfl, he⟩ | ⟨h0, h1, v, v0, v1, v2⟩
          · have HDD := Aside0.mk he
            have q5 : decide ((-1 : Int) < 0) = true := rfl
            clear hfin hround he
            go_wp2_with fail
            go_ret3
            have hfx : BFT.round (l.map toA) (BFT.it (l.map toA) i (BFT.d0 N s)) = BFT.it (l.map toA) i (BFT.d0 N s) := by rw [HDI.out, ← HRD.out, HDD.out]
            have hds : dists N l s = d := by
              unfold dists
              have := BFT.it_stays (l.map toA) i (BFT.d0 N s) hfx (N - i)
              rw [show i + (N - i) = N by omega] at this
              rw [Int.toNat_natCast, this, HDI.out, HDD.out]
            refine ⟨.slice (some ⟨gd, 0, none⟩) N cd, rfl, ?_, HBL.out⟩
            rw [hds]
            have := R_of_block (W := wr) (ok := fun _ => True) HD.out HG2.out (by rw [HDL.out]; exact HC2.out.1) HC2.out.2 trivial
            rw [HDL.out] at this
            exact this
          · have q5 : decide (last < 0) = false := decide_eq_false (by omega)
            have HV := Aside0.mk (show BFT.round (l.map toA) di ≠ di by rw [← HRD.out]; intro e; rw [e] at v2; omega)
            clear hfin hround h0 h1 v2
            go_wp2_with fail
            go_roundw
            case rel => exact ⟨i + 1, by_, by omega, rfl, by first | rfl | (rw [HWI.out]) | go_num, HBY.out, ⟨fun m hm => by
              by_cases e : m = i
              · subst e; rw [HDI.out]; exact HV.out
              · exact HNE.out m (by omega)⟩, ⟨by rw [BFT.it_succ, HDI.out, ← HRD.out]; exact HD.out⟩, HB, HBL⟩
            case measure => simp [intOf]; omega
    · exact absurd HX.out (HNE.out (N - 1) (by omega))
end Go.Proofs.Ytpkhdipedmihgaa.P
