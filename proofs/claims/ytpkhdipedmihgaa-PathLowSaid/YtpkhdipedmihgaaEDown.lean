/- heap.Heap.down: an item moved down from a place. -/
import Derived.Test.YtpkhdipedmihgaaEHeap
namespace Go.Proofs.Ytpkhdipedmihgaa.P
open Go.RowKit Go.Proofs.YtpkhdipedmihgaaW.PrintWords Go.Proofs.YtpkhdipedmihgaaW.PrintLast Go.Proofs.YtpkhdipedmihgaaW.PrintMore
set_option linter.unusedVariables false
set_option linter.unusedSimpArgs false

/-- the lesser of two children -/
def kidI (row : List Itm) (i : Nat) : Nat := if 2 * i + 2 < row.length ∧ lessI (row.getD (2 * i + 2) zI) (row.getD (2 * i + 1) zI) = true then 2 * i + 2 else 2 * i + 1
theorem kidI_lt {row : List Itm} {i : Nat} (h : 2 * i + 1 < row.length) : i < kidI row i ∧ kidI row i < row.length := by
  unfold kidI; split <;> omega
/-- an item moved down from a place: the row, the map -/
def downF (row : List Itm) (mp : Int → Option Int) (i : Nat) (x : Itm) : List Itm × (Int → Option Int) :=
  if h : 2 * i + 1 < row.length ∧ lessI (row.getD (kidI row i) zI) x = true then downF (row.set i (row.getD (kidI row i) zI)) (mput mp (row.getD (kidI row i) zI).1 i) (kidI row i) x
  else (row.set i x, mput mp x.1 i)
termination_by row.length - i
decreasing_by have := kidI_lt h.1; simp only [List.length_set]; omega
theorem downF_yes {row : List Itm} {mp : Int → Option Int} {i k : Nat} {x y : Itm} (h : 2 * i + 1 < row.length) (hk : kidI row i = k) (hy : row.getD k zI = y) (hl : lessI y x = true) : downF row mp i x = downF (row.set i y) (mput mp y.1 i) k x := by
  subst hk; subst hy
  rw [downF, dif_pos ⟨h, hl⟩]
theorem downF_no {row : List Itm} {mp : Int → Option Int} {i k : Nat} {x y : Itm} (hk : kidI row i = k) (hy : row.getD k zI = y) (hl : lessI y x = false) : downF row mp i x = (row.set i x, mput mp x.1 i) := by
  subst hk; subst hy
  rw [downF, dif_neg]
  rintro ⟨_, h2⟩
  rw [hl] at h2; cases h2
theorem downF_end {row : List Itm} {mp : Int → Option Int} {i : Nat} {x : Itm} (h : row.length ≤ 2 * i + 1) : downF row mp i x = (row.set i x, mput mp x.1 i) := by
  rw [downF, dif_neg]
  rintro ⟨h1, _⟩
  omega

set_option maxHeartbeats 4000000 in
set_option maxRecDepth 100000 in
theorem down_calls (g r b cap : Nat) (row : List Itm) (rest : List Value) (mp : Int → Option Int) (i : Nat) (w : World) (h : HRaw w g r b cap row rest mp) (hi : i < row.length) (hl : row.length ≤ 1000000) :
    Calls Try.prog 44 #[.pointer (some ⟨g, 0, none⟩), .int .i64 i] w fun e w' => e = .returned (.tuple #[]) ∧ HRaw w' g r b cap (downF row mp i (row.getD i zI)).1 rest (downF row mp i (row.getD i zI)).2 ∧ Mod w w' (fun k => k = r ∨ k = b) := by
  have hu := Try.underlying70
  have hu2 := Try.underlying52
  obtain ⟨x, hx⟩ : ∃ x, row.getD i zI = x := ⟨_, rfl⟩
  rw [hx]
  obtain ⟨res, hres⟩ : ∃ res, downF row mp i x = res := ⟨_, rfl⟩
  rw [hres]
  have H := Aside0.mk h
  have HR := Aside0.mk hres
  obtain ⟨hr0, hr1, -, -⟩ := h.at zI i hi
  rw [hx] at hr0 hr1
  have hk0 : w.cell? ⟨g, 0, none⟩ = some (.slice (some ⟨r, 0, none⟩) row.length cap) := (blk_cell h.hg 0).trans rfl
  have q1 : decide ((0 : Int) ≤ i) = true := by simp
  have q2 : decide ((i : Int) < row.length) = true := by simpa using hi
  have HL := Aside0.mk hl
  clear h hres hx hl
  go_enter Try.func44, Try.ntmps44
  go_step3
  go_wp2
  go_step3
  go_wp2
  have hnew := heap_alloc_new w (.cells #[.int .i64 x.1, .int .i64 x.2] 52)
  have HBN := Aside0.mk (below_alloc (Below.refl w.heap.size w) (.cells #[.int .i64 x.1, .int .i64 x.2] 52))
  go_loopw [1] (fun u W => ∃ (row' : List Itm) (mp' : Int → Option Int) (j : Nat), j < row'.length ∧ row'.length = row.length ∧ u = .int .i64 j ∧ Aside0 (downF row' mp' j x = res) ∧ Aside0 (HRaw W g r b cap row' rest mp') ∧ Aside0 (W.heap[w.heap.size]? = some (.cells #[.int .i64 x.1, .int .i64 x.2] 52 (0, 0))) ∧ Aside0 (Mod w W (fun k => k = r ∨ k = b))) (fun u _ => row.length - (intOf u).toNat)
  case atStart => exact ⟨row, mp, i, hi, rfl, rfl, HR, ⟨H.out.step HBN.out⟩, ⟨hnew⟩, ⟨Mod.of_below HBN.out _⟩⟩
  case round =>
    obtain ⟨row', mp', j, hj, hlen, rfl, HR, HH, HX, HK⟩ := hrel
    clear hnew hr0 hr1 hk0 q1 q2 hi
    have HS := Aside0.mk hlen
    have hk0 : wr.cell? ⟨g, 0, none⟩ = some (.slice (some ⟨r, 0, none⟩) row.length cap) := (blk_cell HH.out.hg 0).trans (by rw [← hlen]; rfl)
    have hx0 : wr.cell? ⟨w.heap.size, 0, none⟩ = some (.int .i64 x.1) := (blk_cell HX.out 0).trans rfl
    have hx1 : wr.cell? ⟨w.heap.size, 1, none⟩ = some (.int .i64 x.2) := (blk_cell HX.out 1).trans rfl
    have hjl : j < row.length := by omega
    have e1 : IntKind.i64.wrap (2 * (j : Int)) = ((2 * j : Nat) : Int) := by rw [i64_w]; unfold wrap64; have := HL.out; omega
    have e2 : IntKind.i64.wrap (((2 * j : Nat) : Int) + 1) = ((2 * j + 1 : Nat) : Int) := by rw [i64_w]; unfold wrap64; have := HL.out; omega
    have e3 : IntKind.i64.wrap (((2 * j + 1 : Nat) : Int) + 1) = ((2 * j + 2 : Nat) : Int) := by rw [i64_w]; unfold wrap64; have := HL.out; omega
    by_cases h1 : 2 * j + 1 < row.length
    · obtain ⟨p, hp⟩ : ∃ p, 2 * j + 1 = p := ⟨_, rfl⟩
      obtain ⟨p2, hp2⟩ : ∃ p2, 2 * j + 2 = p2 := ⟨_, rfl⟩
      obtain ⟨d, hd⟩ : ∃ d, 2 * j = d := ⟨_, rfl⟩
      rw [hd] at e1 e2
      rw [show d + 1 = p by omega] at e2
      rw [hp, hp2] at e3
      have HP := Aside0.mk hp
      have HP2 := Aside0.mk hp2
      have hpl : p < row.length := by omega
      have q3 : decide ((row.length : Int) ≤ p) = false := by simp; omega
      obtain ⟨hp0, hp1, -, -⟩ := HH.out.at zI p (by omega)
      obtain ⟨y, hy⟩ : ∃ y, row'.getD p zI = y := ⟨_, rfl⟩
      rw [hy] at hp0 hp1
      have HY := Aside0.mk hy
      by_cases h2 : p2 < row.length
      · have q4 : decide ((p2 : Int) < row.length) = true := by simpa using h2
        obtain ⟨hs0, hs1, -, -⟩ := HH.out.at zI p2 (by omega)
        obtain ⟨z, hz⟩ : ∃ z, row'.getD p2 zI = z := ⟨_, rfl⟩
        rw [hz] at hs0 hs1
        have HZ := Aside0.mk hz
        obtain ⟨c, hc⟩ : ∃ c, lessI z y = c := ⟨_, rfl⟩
        have HC := Aside0.mk hc
        clear hp hp2 hy hz hc hlen hd
        go_wp2_with fail
        refine wp_region_still_tail 24 (by kernel_rfl) (by kernel_rfl) ?_
        simp only [List.take_succ_cons, List.take_zero, List.drop_succ_cons, List.drop_zero]
        change wpStill _ _ (World.drew _) _ _ _
        repeat still_step
        refine wpStill_nil ?_
        change wpList _ _ _ _ _ (World.drew _)
        go_wp2_with fail
        refine (lessI_is z y c HC.out _).mono ?_
        rintro e w1 ⟨rfl, hb⟩
        have HH1 := Aside0.mk (HH.out.drew.step hb)
        have HX1 := Aside0.mk ((hb.block w.heap.size (blk_lt HX.out)).trans HX.out)
        have HK1 := Aside0.mk (HK.out.drew.below hb)
        clear hb hk0 hx0 hx1 hp0 hp1 hs0 hs1
        cases c with
        | true =>
          have hk0 : w1.cell? ⟨g, 0, none⟩ = some (.slice (some ⟨r, 0, none⟩) row.length cap) := (blk_cell HH1.out.hg 0).trans (by rw [← HS.out]; rfl)
          have hx0 : w1.cell? ⟨w.heap.size, 0, none⟩ = some (.int .i64 x.1) := (blk_cell HX1.out 0).trans rfl
          have hx1 : w1.cell? ⟨w.heap.size, 1, none⟩ = some (.int .i64 x.2) := (blk_cell HX1.out 1).trans rfl
          have HKI := Aside0.mk (show kidI row' j = p2 from (by unfold kidI; rw [HP2.out, HP.out, HZ.out, HY.out, if_pos ⟨by have := HS.out; omega, HC.out⟩]))
          obtain ⟨hp0, hp1, -, -⟩ := HH1.out.at zI p2 (by have := HS.out; omega)
          rw [HZ.out] at hp0 hp1
          obtain ⟨c2, hc2⟩ : ∃ c2, lessI z x = c2 := ⟨_, rfl⟩
          have HC2 := Aside0.mk hc2
          clear hc2
          have q5 : decide ((0 : Int) ≤ p2) = true := by simp
          have q6 : decide ((p2 : Int) < row.length) = true := by simp; omega
          have hjk : j < p2 := by have := HP.out; have := HP2.out; omega
          go_wp2_with fail
          refine wp_region_still_tail 8 (by kernel_rfl) (by kernel_rfl) ?_
          simp only [List.take_succ_cons, List.take_zero, List.drop_succ_cons, List.drop_zero]
          change wpStill _ _ (World.drew _) _ _ _
          repeat still_step
          refine wpStill_nil ?_
          change wpList _ _ _ _ _ (World.drew _)
          go_wp2_with fail
          refine (lessI_is z x c2 HC2.out _).mono ?_
          rintro e w2 ⟨rfl, hb⟩
          have HH2 := Aside0.mk (HH1.out.drew.step hb)
          have HX2 := Aside0.mk ((hb.block w.heap.size (blk_lt HX1.out)).trans HX1.out)
          have HK2 := Aside0.mk (HK1.out.drew.below hb)
          clear hb hk0 hx0 hx1 hp0 hp1 HH HX HK HH1 HX1 HK1
          cases c2 with
          | true =>
            have hk0 : w2.cell? ⟨g, 0, none⟩ = some (.slice (some ⟨r, 0, none⟩) row.length cap) := (blk_cell HH2.out.hg 0).trans (by rw [← HS.out]; rfl)
            obtain ⟨hp0, hp1, -, -⟩ := HH2.out.at zI p2 (by have := HS.out; omega)
            rw [HZ.out] at hp0 hp1
            have HU := Aside0.mk ((downF_yes (by have := HS.out; omega) HKI.out HZ.out HC2.out).symm.trans HR.out)
            go_wp2_with fail
            refine (lay_calls g r b cap row' rest mp' j z _ HH2.out hj).mono ?_
            rintro e w3 ⟨rfl, hh, hkp⟩
            have HH3 := Aside0.mk hh
            have HK3 := Aside0.mk (HK2.out.then_ hkp (fun _ h => .inl h))
            have HX3 := Aside0.mk (blk_mod HX2.out hkp (by have := blk_lt H.out.hr; have := H.out.hb.lt; omega))
            clear hh hkp HH2 HK2 HX2 hp0 hp1 hk0
            go_wp2_with fail
            go_roundw
            case rel => exact ⟨row'.set j z, _, p2, by have := HS.out; simp; omega, by simpa using HS.out, rfl, HU, HH3, HX3, HK3⟩
            case measure => simp [intOf]; omega
          | false =>
            have hx0 : w2.cell? ⟨w.heap.size, 0, none⟩ = some (.int .i64 x.1) := (blk_cell HX2.out 0).trans rfl
            have hx1 : w2.cell? ⟨w.heap.size, 1, none⟩ = some (.int .i64 x.2) := (blk_cell HX2.out 1).trans rfl
            have HU := Aside0.mk ((downF_no HKI.out HZ.out HC2.out).symm.trans HR.out)
            go_wp2_with fail
            refine (lay_calls g r b cap row' rest mp' j x _ HH2.out hj).mono ?_
            rintro e w3 ⟨rfl, hh, hkp⟩
            have HH3 := Aside0.mk hh
            have HK3 := Aside0.mk (HK2.out.then_ hkp (fun _ h => .inl h))
            clear hh hkp hx0 hx1
            go_wp2_with fail
            try (unfold Exit.noGoto; dsimp only)
            first | go_end0 | ((try simp only [Exit.inBlock, Exit.then]); refine bodyPost_ret (results_none rfl _ _ _) rfl ?_)
            exact ⟨rfl, by rw [← HU.out]; exact HH3.out, HK3.out⟩
        | false =>
          have hk0 : w1.cell? ⟨g, 0, none⟩ = some (.slice (some ⟨r, 0, none⟩) row.length cap) := (blk_cell HH1.out.hg 0).trans (by rw [← HS.out]; rfl)
          have hx0 : w1.cell? ⟨w.heap.size, 0, none⟩ = some (.int .i64 x.1) := (blk_cell HX1.out 0).trans rfl
          have hx1 : w1.cell? ⟨w.heap.size, 1, none⟩ = some (.int .i64 x.2) := (blk_cell HX1.out 1).trans rfl
          have HKI := Aside0.mk (show kidI row' j = p from (by unfold kidI; rw [HP2.out, HP.out, HZ.out, HY.out, if_neg (fun h => by rw [HC.out] at h; cases h.2)]))
          obtain ⟨hp0, hp1, -, -⟩ := HH1.out.at zI p (by have := HS.out; omega)
          rw [HY.out] at hp0 hp1
          obtain ⟨c2, hc2⟩ : ∃ c2, lessI y x = c2 := ⟨_, rfl⟩
          have HC2 := Aside0.mk hc2
          clear hc2
          have q5 : decide ((0 : Int) ≤ p) = true := by simp
          have q6 : decide ((p : Int) < row.length) = true := by simp; omega
          have hjk : j < p := by have := HP.out; have := HP2.out; omega
          go_wp2_with fail
          refine wp_region_still_tail 8 (by kernel_rfl) (by kernel_rfl) ?_
          simp only [List.take_succ_cons, List.take_zero, List.drop_succ_cons, List.drop_zero]
          change wpStill _ _ (World.drew _) _ _ _
          repeat still_step
          refine wpStill_nil ?_
          change wpList _ _ _ _ _ (World.drew _)
          go_wp2_with fail
          refine (lessI_is y x c2 HC2.out _).mono ?_
          rintro e w2 ⟨rfl, hb⟩
          have HH2 := Aside0.mk (HH1.out.drew.step hb)
          have HX2 := Aside0.mk ((hb.block w.heap.size (blk_lt HX1.out)).trans HX1.out)
          have HK2 := Aside0.mk (HK1.out.drew.below hb)
          clear hb hk0 hx0 hx1 hp0 hp1 HH HX HK HH1 HX1 HK1
          cases c2 with
          | true =>
            have hk0 : w2.cell? ⟨g, 0, none⟩ = some (.slice (some ⟨r, 0, none⟩) row.length cap) := (blk_cell HH2.out.hg 0).trans (by rw [← HS.out]; rfl)
            obtain ⟨hp0, hp1, -, -⟩ := HH2.out.at zI p (by have := HS.out; omega)
            rw [HY.out] at hp0 hp1
            have HU := Aside0.mk ((downF_yes (by have := HS.out; omega) HKI.out HY.out HC2.out).symm.trans HR.out)
            go_wp2_with fail
            refine (lay_calls g r b cap row' rest mp' j y _ HH2.out hj).mono ?_
            rintro e w3 ⟨rfl, hh, hkp⟩
            have HH3 := Aside0.mk hh
            have HK3 := Aside0.mk (HK2.out.then_ hkp (fun _ h => .inl h))
            have HX3 := Aside0.mk (blk_mod HX2.out hkp (by have := blk_lt H.out.hr; have := H.out.hb.lt; omega))
            clear hh hkp HH2 HK2 HX2 hp0 hp1 hk0
            go_wp2_with fail
            go_roundw
            case rel => exact ⟨row'.set j y, _, p, by have := HS.out; simp; omega, by simpa using HS.out, rfl, HU, HH3, HX3, HK3⟩
            case measure => simp [intOf]; omega
          | false =>
            have hx0 : w2.cell? ⟨w.heap.size, 0, none⟩ = some (.int .i64 x.1) := (blk_cell HX2.out 0).trans rfl
            have hx1 : w2.cell? ⟨w.heap.size, 1, none⟩ = some (.int .i64 x.2) := (blk_cell HX2.out 1).trans rfl
            have HU := Aside0.mk ((downF_no HKI.out HY.out HC2.out).symm.trans HR.out)
            go_wp2_with fail
            refine (lay_calls g r b cap row' rest mp' j x _ HH2.out hj).mono ?_
            rintro e w3 ⟨rfl, hh, hkp⟩
            have HH3 := Aside0.mk hh
            have HK3 := Aside0.mk (HK2.out.then_ hkp (fun _ h => .inl h))
            clear hh hkp hx0 hx1
            go_wp2_with fail
            try (unfold Exit.noGoto; dsimp only)
            first | go_end0 | ((try simp only [Exit.inBlock, Exit.then]); refine bodyPost_ret (results_none rfl _ _ _) rfl ?_)
            exact ⟨rfl, by rw [← HU.out]; exact HH3.out, HK3.out⟩
      · have q4 : decide ((p2 : Int) < row.length) = false := by simp; omega
        clear hp hp2 hy hlen hd
        go_wp2_with fail
        go_quiet (fail)
        obtain ⟨w1, hw1⟩ : ∃ w1, w1 = wr.drewN nq := ⟨_, rfl⟩
        rw [← hw1]
        have HH1 := Aside0.mk (show HRaw w1 g r b cap row' rest mp' by rw [hw1]; exact HH.out.drewN _)
        have HX1 := Aside0.mk (show w1.heap[w.heap.size]? = some (.cells #[.int .i64 x.1, .int .i64 x.2] 52 (0, 0)) by rw [hw1]; exact HX.out)
        have HK1 := Aside0.mk (show Mod w w1 (fun k => k = r ∨ k = b) by rw [hw1]; exact HK.out.drewN _)
        clear hw1 hk0 hx0 hx1 hp0 hp1
        have hk0 : w1.cell? ⟨g, 0, none⟩ = some (.slice (some ⟨r, 0, none⟩) row.length cap) := (blk_cell HH1.out.hg 0).trans (by rw [← HS.out]; rfl)
        have hx0 : w1.cell? ⟨w.heap.size, 0, none⟩ = some (.int .i64 x.1) := (blk_cell HX1.out 0).trans rfl
        have hx1 : w1.cell? ⟨w.heap.size, 1, none⟩ = some (.int .i64 x.2) := (blk_cell HX1.out 1).trans rfl
        have HKI := Aside0.mk (show kidI row' j = p from (by unfold kidI; rw [HP2.out, HP.out, if_neg (fun h => by have := HS.out; have := h.1; omega)]))
        obtain ⟨hp0, hp1, -, -⟩ := HH1.out.at zI p (by have := HS.out; omega)
        rw [HY.out] at hp0 hp1
        obtain ⟨c2, hc2⟩ : ∃ c2, lessI y x = c2 := ⟨_, rfl⟩
        have HC2 := Aside0.mk hc2
        clear hc2
        have q5 : decide ((0 : Int) ≤ p) = true := by simp
        have q6 : decide ((p : Int) < row.length) = true := by simp; omega
        have hjk : j < p := by have := HP.out; have := HP2.out; omega
        go_wp2_with fail
        refine wp_region_still_tail 8 (by kernel_rfl) (by kernel_rfl) ?_
        simp only [List.take_succ_cons, List.take_zero, List.drop_succ_cons, List.drop_zero]
        change wpStill _ _ (World.drew _) _ _ _
        repeat still_step
        refine wpStill_nil ?_
        change wpList _ _ _ _ _ (World.drew _)
        go_wp2_with fail
        refine (lessI_is y x c2 HC2.out _).mono ?_
        rintro e w2 ⟨rfl, hb⟩
        have HH2 := Aside0.mk (HH1.out.drew.step hb)
        have HX2 := Aside0.mk ((hb.block w.heap.size (blk_lt HX1.out)).trans HX1.out)
        have HK2 := Aside0.mk (HK1.out.drew.below hb)
        clear hb hk0 hx0 hx1 hp0 hp1 HH HX HK HH1 HX1 HK1
        cases c2 with
        | true =>
          have hk0 : w2.cell? ⟨g, 0, none⟩ = some (.slice (some ⟨r, 0, none⟩) row.length cap) := (blk_cell HH2.out.hg 0).trans (by rw [← HS.out]; rfl)
          obtain ⟨hp0, hp1, -, -⟩ := HH2.out.at zI p (by have := HS.out; omega)
          rw [HY.out] at hp0 hp1
          have HU := Aside0.mk ((downF_yes (by have := HS.out; omega) HKI.out HY.out HC2.out).symm.trans HR.out)
          go_wp2_with fail
          refine (lay_calls g r b cap row' rest mp' j y _ HH2.out hj).mono ?_
          rintro e w3 ⟨rfl, hh, hkp⟩
          have HH3 := Aside0.mk hh
          have HK3 := Aside0.mk (HK2.out.then_ hkp (fun _ h => .inl h))
          have HX3 := Aside0.mk (blk_mod HX2.out hkp (by have := blk_lt H.out.hr; have := H.out.hb.lt; omega))
          clear hh hkp HH2 HK2 HX2 hp0 hp1 hk0
          go_wp2_with fail
          go_roundw
          case rel => exact ⟨row'.set j y, _, p, by have := HS.out; simp; omega, by simpa using HS.out, rfl, HU, HH3, HX3, HK3⟩
          case measure => simp [intOf]; omega
        | false =>
          have hx0 : w2.cell? ⟨w.heap.size, 0, none⟩ = some (.int .i64 x.1) := (blk_cell HX2.out 0).trans rfl
          have hx1 : w2.cell? ⟨w.heap.size, 1, none⟩ = some (.int .i64 x.2) := (blk_cell HX2.out 1).trans rfl
          have HU := Aside0.mk ((downF_no HKI.out HY.out HC2.out).symm.trans HR.out)
          go_wp2_with fail
          refine (lay_calls g r b cap row' rest mp' j x _ HH2.out hj).mono ?_
          rintro e w3 ⟨rfl, hh, hkp⟩
          have HH3 := Aside0.mk hh
          have HK3 := Aside0.mk (HK2.out.then_ hkp (fun _ h => .inl h))
          clear hh hkp hx0 hx1
          go_wp2_with fail
          try (unfold Exit.noGoto; dsimp only)
          first | go_end0 | ((try simp only [Exit.inBlock, Exit.then]); refine bodyPost_ret (results_none rfl _ _ _) rfl ?_)
          exact ⟨rfl, by rw [← HU.out]; exact HH3.out, HK3.out⟩
    · obtain ⟨p, hp⟩ : ∃ p, 2 * j + 1 = p := ⟨_, rfl⟩
      obtain ⟨d, hd⟩ : ∃ d, 2 * j = d := ⟨_, rfl⟩
      rw [hd] at e1 e2
      rw [show d + 1 = p by omega] at e2
      have q3 : row.length ≤ p := by omega
      have HU := Aside0.mk ((downF_end (by omega)).symm.trans HR.out)
      clear hp hd e3 hlen
      go_wp2_with fail
      refine (lay_calls g r b cap row' rest mp' j x _ HH.out hj).mono ?_
      rintro e w3 ⟨rfl, hh, hkp⟩
      have HH3 := Aside0.mk hh
      have HK3 := Aside0.mk (HK.out.then_ hkp (fun _ h => .inl h))
      clear hh hkp hx0 hx1
      go_wp2_with fail
      try (unfold Exit.noGoto; dsimp only)
      first | go_end0 | ((try simp only [Exit.inBlock, Exit.then]); refine bodyPost_ret (results_none rfl _ _ _) rfl ?_)
      exact ⟨rfl, by rw [← HU.out]; exact HH3.out, HK3.out⟩
end Go.Proofs.Ytpkhdipedmihgaa.P
