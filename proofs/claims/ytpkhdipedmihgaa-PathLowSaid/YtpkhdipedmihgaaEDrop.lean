/- heap.Least, Drop of the first item, Take. -/
import Derived.Test.YtpkhdipedmihgaaEPut
import Derived.Deep.RegionHeld3
namespace Go.Proofs.Ytpkhdipedmihgaa.P
open Go.RowKit Go.Proofs.YtpkhdipedmihgaaW.PrintWords Go.Proofs.YtpkhdipedmihgaaW.PrintLast Go.Proofs.YtpkhdipedmihgaaW.PrintMore
set_option linter.unusedVariables false
set_option linter.unusedSimpArgs false

theorem HP.sl {W : World} {base g b : Nat} {v : Value} {row : List Itm} {mp : Int → Option Int} (h : HP W base g b v row mp) : ∃ A c, v = .slice A row.length c := by
  rcases h.hv.2 with ⟨h1, h2⟩ | ⟨r, cap, cur, h1, _⟩
  · exact ⟨none, 0, by rw [h1, h2]⟩
  · exact ⟨_, _, h1⟩

set_option maxHeartbeats 1000000 in
set_option maxRecDepth 100000 in
theorem least_none (base g b : Nat) (v : Value) (row : List Itm) (mp : Int → Option Int) (w : World) (h : HP w base g b v row mp) (hn : row.length = 0) :
    Calls Try.prog 46 #[.pointer (some ⟨g, 0, none⟩)] w fun e w' => e = .returned (.tuple #[.agg #[.int .i64 0, .int .i64 0], .bool false]) ∧ Below w.heap.size w w' := by
  obtain ⟨A, c, rfl⟩ := h.sl
  have hu := Try.underlying70
  have hu2 := Try.underlying52
  have hk0 : w.cell? ⟨g, 0, none⟩ = some (.slice A 0 c) := (blk_cell h.hg 0).trans (by rw [hn]; rfl)
  have hgs := blk_lt h.hg
  have hne : g ≠ w.heap.size := by omega
  have hf0 := blk_frozen h.hg 0
  clear h hn
  go_enter Try.func46, Try.ntmps46
  go_wp2
  exact bodyPost_ret (v := .tuple #[.agg #[.int .i64 0, .int .i64 0], .bool false]) (by simp [results, Try.results46, go_sem]) rfl ⟨rfl, below_alloc (Below.refl _ _) _⟩

set_option maxHeartbeats 1000000 in
set_option maxRecDepth 100000 in
theorem least_some (g r b cap : Nat) (row : List Itm) (rest : List Value) (mp : Int → Option Int) (w : World) (h : HRaw w g r b cap row rest mp) (hn : 0 < row.length) (x : Itm) (hx : row.getD 0 zI = x) :
    Calls Try.prog 46 #[.pointer (some ⟨g, 0, none⟩)] w fun e w' => e = .returned (.tuple #[.agg #[.int .i64 x.1, .int .i64 x.2], .bool true]) ∧ Below w.heap.size w w' := by
  have hu := Try.underlying70
  have hu2 := Try.underlying52
  have hk0 : w.cell? ⟨g, 0, none⟩ = some (.slice (some ⟨r, 0, none⟩) row.length cap) := (blk_cell h.hg 0).trans rfl
  have hgs := blk_lt h.hg
  obtain ⟨hp0, hp1, -, -⟩ := h.at zI 0 hn
  rw [hx] at hp0 hp1
  simp only [Nat.zero_mul, Nat.zero_add] at hp0 hp1
  have hne : g ≠ w.heap.size := by omega
  have hrs : r < w.heap.size := blk_lt h.hr
  have hne2 : r ≠ w.heap.size := by omega
  have q1 : decide ((row.length : Int) = 0) = false := decide_eq_false (by omega)
  have q2 : decide ((0 : Int) < row.length) = true := by simpa using hn
  have q3 : ((row.length : Int) == 0) = false := beq_eq_false_iff_ne.mpr (by omega)
  clear h hx
  go_enter Try.func46, Try.ntmps46
  go_wp2
  exact bodyPost_ret (v := .tuple #[.agg #[.int .i64 x.1, .int .i64 x.2], .bool true]) (by simp [results, Try.results46, go_sem]) rfl ⟨rfl, below_alloc (Below.refl _ _) _⟩

theorem flatI_take : ∀ (l : List Itm) (n : Nat), flatI (l.take n) ++ flatI (l.drop n) = flatI l := fun l n => by rw [← flatI_app, List.take_append_drop]
theorem HRaw.cut {W : World} {g r b cap : Nat} {row : List Itm} {rest : List Value} {mp : Int → Option Int} (h : HRaw W g r b cap row rest mp) (n : Nat) (hn : n ≤ row.length) :
    HRaw (W.setCell ⟨g, 0, none⟩ (.slice (some ⟨r, 0, none⟩) n cap)) g r b cap (row.take n) (flatI (row.drop n) ++ rest) mp := by
  refine ⟨?_, ?_, h.hb.move (Below.heap_setCell _ _ _ _ h.bg)⟩
  · rw [List.length_take, Nat.min_eq_left hn]; exact blk_put h.hg 0 _ rfl
  · rw [← List.append_assoc, flatI_take]; exact blk_far h.hr (Ne.symm h.gr) _

/-- the first item dropped -/
def dropF (row : List Itm) (mp : Int → Option Int) (key : Int) : List Itm × (Int → Option Int) :=
  if row.length = 1 then ([], fun _ => none)
  else fixF ((row.take (row.length - 1)).set 0 (row.getD (row.length - 1) zI)) (mdel mp key) 0 (row.getD (row.length - 1) zI)

set_option maxHeartbeats 4000000 in
set_option maxRecDepth 100000 in
theorem drop_calls (base g r b cap : Nat) (row : List Itm) (rest : List Value) (mp : Int → Option Int) (key : Int) (w : World) (h : HRaw w g r b cap row rest mp) (bg : base ≤ g) (br : base ≤ r) (bb : base ≤ b) (hcm : cap ≤ maxLen) (hcl : 2 * row.length + rest.length = cap * 2)
    (hk0 : 0 ≤ key) (hk1 : key < 300) (hm : mp key = some 0) (hn : 0 < row.length) (hl : row.length ≤ 1000) (hbase : base ≤ w.heap.size) :
    Calls Try.prog 47 #[.pointer (some ⟨g, 0, none⟩), .int .i64 key] w fun e w' => ∃ v', e = .returned (.bool true) ∧ HP w' base g b v' (dropF row mp key).1 (dropF row mp key).2 ∧ Mod w w' (fun k => k = g ∨ k = r ∨ k = b) ∧ v'.ownBlock = some r := by
  have hu := Try.underlying70
  have hu2 := Try.underlying52
  have HPl := Aside0.mk (place_calls g b (.slice (some ⟨r, 0, none⟩) row.length cap) mp key w hk0 hk1 h.hg h.hb)
  rw [hm] at HPl
  have H := Aside0.mk h
  have hk2 : w.cell? ⟨g, 0, none⟩ = some (.slice (some ⟨r, 0, none⟩) row.length cap) := (blk_cell h.hg 0).trans rfl
  have hf2 := blk_frozen h.hg 0
  have hk3 : w.cell? ⟨g, 1, none⟩ = some (.map (some b)) := (blk_cell h.hg 1).trans rfl
  obtain ⟨n, hnn⟩ : ∃ n, row.length - 1 = n := ⟨_, rfl⟩
  have e1 : IntKind.i64.wrap ((row.length : Int) - 1) = (n : Int) := by rw [i64_w]; unfold wrap64; omega
  have q0 : decide ((0 : Int) ≤ n) = true := by simp
  have q1 : decide ((n : Int) < row.length) = true := by simp; omega
  have q2 : n < row.length := by omega
  obtain ⟨hp0, hp1, -, -⟩ := h.at zI n q2
  obtain ⟨x, hx⟩ : ∃ x, row.getD n zI = x := ⟨_, rfl⟩
  rw [hx] at hp0 hp1
  have HS := Aside0.mk (show row.length = n + 1 by omega)
  have HBS := Aside0.mk hbase
  have HL := Aside0.mk hl
  have HX := Aside0.mk hx
  have HBG := Aside0.mk bg
  have HBR := Aside0.mk br
  have HBB := Aside0.mk bb
  have HCM := Aside0.mk hcm
  have HCL := Aside0.mk hcl
  clear h hm hnn hx hl hbase bg br bb hcm hcl
  go_enter Try.func47, Try.ntmps47
  go_wp2_with fail
  refine HPl.out.mono ?_
  rintro e w1 ⟨rfl, rfl⟩
  simp only [Option.getD]
  go_wp2_with fail
  go_region_held3 (fun w' => w'.cell? ⟨g, 0, none⟩ = some (.slice (some ⟨r, 0, none⟩) row.length cap) ∧ w'.cell? ⟨r, n * 2, none⟩ = some (.int .i64 x.1) ∧ w'.cell? ⟨r, n * 2 + 1, none⟩ = some (.int .i64 x.2)) (first | go_keep) (first | fail)
  obtain ⟨w2, hw2⟩ : ∃ w2, w2 = (w1.alloc (.cells #[.int .i64 x.1, .int .i64 x.2] 52)).drew := ⟨_, rfl⟩
  rw [← hw2]
  have hb2 : Below w1.heap.size w1 w2 := by rw [hw2]; exact below_drew (below_alloc (Below.refl _ _) _)
  have H2 := Aside0.mk (H.out.step hb2)
  have HB2 := Aside0.mk hb2
  have HX2 := Aside0.mk (show w2.heap[w1.heap.size]? = some (.cells #[.int .i64 x.1, .int .i64 x.2] 52 (0, 0)) by rw [hw2]; exact heap_alloc_new w1 _)
  have hk2 : w2.cell? ⟨g, 0, none⟩ = some (.slice (some ⟨r, 0, none⟩) row.length cap) := (blk_cell H2.out.hg 0).trans rfl
  have hf2 := blk_frozen H2.out.hg 0
  have hnc : n ≤ cap := by have := HCL.out; omega
  have q3 : decide ((n : Int) ≤ cap) = true := by simpa using hnc
  clear hb2 hw2 hp0 hp1
  go_wp2_with fail
  refine wp_region_still_tail 14 (by kernel_rfl) (by kernel_rfl) ?_
  simp only [List.take_succ_cons, List.take_zero, List.drop_succ_cons, List.drop_zero]
  change wpStill _ _ (World.drew _) _ _ _
  repeat still_step
  refine wpStill_nil ?_
  change wpList _ _ _ _ _ (World.drew _)
  go_upto_region 6 with (fail)
  obtain ⟨w3, hw3⟩ : ∃ w3, w3 = (w2.setCell ⟨g, 0, none⟩ (.slice (some ⟨r, 0, none⟩) n cap)).drew := ⟨_, rfl⟩
  rw [← hw3]
  have H3 := Aside0.mk (show HRaw w3 g r b cap (row.take n) (flatI (row.drop n) ++ rest) mp by rw [hw3]; exact (H2.out.cut n (by omega)).drew)
  have HB3 := Aside0.mk (show Mod w1 w3 (fun k => k = g ∨ k = r ∨ k = b) by rw [hw3]; exact ((Mod.of_below HB2.out _).setCell (p := ⟨g, 0, none⟩) (.inl (.inl rfl)) _).drew)
  have HX3 := Aside0.mk (show w3.heap[w1.heap.size]? = some (.cells #[.int .i64 x.1, .int .i64 x.2] 52 (0, 0)) by rw [hw3]; exact blk_drew (blk_far (p := ⟨g, 0, none⟩) HX2.out (by have := blk_lt H.out.hg; show w1.heap.size ≠ g; omega) _))
  have hlt : (row.take n).length = n := by rw [List.length_take]; omega
  have HLT := Aside0.mk hlt
  have hk2 : w3.cell? ⟨g, 0, none⟩ = some (.slice (some ⟨r, 0, none⟩) n cap) := (blk_cell H3.out.hg 0).trans (by rw [hlt]; rfl)
  have hk3 : w3.cell? ⟨g, 1, none⟩ = some (.map (some b)) := (blk_cell H3.out.hg 1).trans rfl
  clear hw3 hf2 hlt
  by_cases hz : n = 0
  · have q4 : ((n : Int) == 0) = true := by rw [hz]; rfl
    have HZ := Aside0.mk hz
    clear hz
    go_wp2_with (refine wpList_mclr rfl _ rfl H3.out.hb Try.underlying67 rfl ?_; intro w4 hm4 hg4; have H4 := Aside0.mk (HRaw.grown H3.out hm4 hg4); have HB4 := Aside0.mk (Mod.of_grown hg4 HB3.out (fun k e => .inl (.inr (.inr (Option.some.inj e).symm)))); clear hm4 hg4)
    go_ret
    refine ⟨.slice (some ⟨r, 0, none⟩) 0 cap, rfl, ?_, HB4.out, rfl⟩
    have hd : dropF row mp key = ([], fun _ => none) := by unfold dropF; rw [if_pos (by have := HS.out; have := HZ.out; omega)]
    rw [hd]
    have h4 := H4.out.hp HBR.out HBG.out HBB.out HCM.out (by have := HCL.out; have := HS.out; rw [List.length_append, flatI_len, List.length_take, List.length_drop]; omega)
    have hz := HZ.out
    subst hz
    simpa using h4
  · have q4 : ((n : Int) == 0) = false := beq_eq_false_iff_ne.mpr (by omega)
    have q5 : decide ((0 : Int) < n) = true := by simp; omega
    have q6 : 0 < n := by omega
    have hd : dropF row mp key = fixF ((row.take n).set 0 x) (mdel mp key) 0 x := by
      unfold dropF; rw [if_neg (by have := HS.out; omega), show row.length - 1 = n by have := HS.out; omega, HX.out]
    have HD := Aside0.mk hd
    clear hd
    obtain ⟨ur, hur⟩ : ∃ ur, upF ((row.take n).set 0 x) (mdel mp key) 0 x = ur := ⟨_, rfl⟩
    have hul := upF_len 0 ((row.take n).set 0 x) (mdel mp key) x
    rw [hur] at hul
    have HF := Aside0.mk (show fixF ((row.take n).set 0 x) (mdel mp key) 0 x = downF ur.1 ur.2.1 ur.2.2 (ur.1.getD ur.2.2 zI) by unfold fixF; rw [hur])
    have HUR := Aside0.mk hur
    have HUL := Aside0.mk hul
    have HGX := Aside0.mk (show ((row.take n).set 0 x).getD 0 zI = x by rw [List.getD_eq_getElem?_getD, List.getElem?_set_self (by rw [HLT.out]; omega)]; rfl)
    clear hur hul
    go_upto_region 10 with (refine wpList_mdel rfl _ _ rfl H3.out.hb Try.underlying67 Try.underlying3 rfl key rfl ?_; intro w4 hm4 hg4; have H4 := Aside0.mk (HRaw.grown H3.out hm4 hg4); have HB4 := Aside0.mk (Mod.of_grown hg4 HB3.out (fun k e => .inl (.inr (.inr (Option.some.inj e).symm)))); have HX4 := Aside0.mk (blk_grown HX3.out hg4 (fun e => by have := H.out.hb.lt; cases e; omega)); clear hm4 hg4 hk2 hk3)
    have hk2 : w4.cell? ⟨g, 0, none⟩ = some (.slice (some ⟨r, 0, none⟩) n cap) := (blk_cell H4.out.hg 0).trans (by rw [HLT.out]; rfl)
    have hx0 : w4.cell? ⟨w1.heap.size, 0, none⟩ = some (.int .i64 x.1) := (blk_cell HX4.out 0).trans rfl
    have hx1 : w4.cell? ⟨w1.heap.size, 1, none⟩ = some (.int .i64 x.2) := (blk_cell HX4.out 1).trans rfl
    obtain ⟨hp0, hp1, hp2, hp3⟩ := H4.out.at zI 0 (by rw [HLT.out]; omega)
    simp only [Nat.zero_mul, Nat.zero_add] at hp0 hp1 hp2 hp3
    go_wp2_with fail
    refine wp_region_still_tail 7 (by kernel_rfl) (by kernel_rfl) ?_
    simp only [List.take_succ_cons, List.take_zero, List.drop_succ_cons, List.drop_zero]
    change wpStill _ _ (World.drew _) _ _ _
    repeat still_step
    refine wpStill_nil ?_
    change wpList _ _ _ _ _ (World.drew _)
    go_upto_region 12 with (fail)
    obtain ⟨w5, hw5⟩ : ∃ w5, w5 = ((w4.setCell ⟨r, 0, none⟩ (.int .i64 x.1)).setCell ⟨r, 1, none⟩ (.int .i64 x.2)).drew := ⟨_, rfl⟩
    rw [← hw5]
    have H5 := Aside0.mk (show HRaw w5 g r b cap ((row.take n).set 0 x) (flatI (row.drop n) ++ rest) (mdel mp key) by rw [hw5]; have := (H4.out.set 0 (by rw [HLT.out]; omega) x).drew; simpa only [Nat.zero_mul, Nat.zero_add] using this)
    have HB5 := Aside0.mk (show Mod w1 w5 (fun k => k = g ∨ k = r ∨ k = b) by rw [hw5]; exact ((HB4.out.setCell (p := ⟨r, 0, none⟩) (.inl (.inr (.inl rfl))) _).setCell (p := ⟨r, 1, none⟩) (.inl (.inr (.inl rfl))) _).drew)
    clear hw5 hp0 hp1 hp2 hp3 hx0 hx1 hk2
    have hi2 : 0 < ((row.take n).set 0 x).length := by rw [List.length_set, HLT.out]; omega
    have HUP := Aside0.mk (up_calls g r b cap ((row.take n).set 0 x) (flatI (row.drop n) ++ rest) (mdel mp key) 0 _ H5.out hi2 (by rw [List.length_set, HLT.out]; have := HL.out; have := HS.out; omega))
    rw [HGX.out, HUR.out] at HUP
    go_wp2_with fail
    refine HUP.out.mono ?_
    rintro e w6 ⟨rfl, hh6, hm6⟩
    have hu1 : ur.2.2 < ur.1.length := by rw [HUL.out.1]; exact Nat.lt_of_le_of_lt HUL.out.2 hi2
    have HDN := Aside0.mk (down_calls g r b cap ur.1 (flatI (row.drop n) ++ rest) ur.2.1 ur.2.2 _ hh6 hu1 (by rw [HUL.out.1, List.length_set, HLT.out]; have := HL.out; have := HS.out; omega))
    have HM6 := Aside0.mk hm6
    clear hh6 hm6 HUP
    go_wp2_with fail
    refine HDN.out.mono ?_
    rintro e w7 ⟨rfl, hh7, hm7⟩
    have HH7 := Aside0.mk hh7
    have HM7 := Aside0.mk hm7
    clear hh7 hm7 HDN
    go_wp2_with fail
    go_ret
    refine ⟨.slice (some ⟨r, 0, none⟩) (downF ur.1 ur.2.1 ur.2.2 (ur.1.getD ur.2.2 zI)).1.length cap, rfl, ?_, ?_, rfl⟩
    · rw [HD.out, HF.out]
      refine HRaw.hp HH7.out HBR.out HBG.out HBB.out HCM.out ?_
      rw [downF_len _ _ _ _ _ (Nat.le_refl _), HUL.out.1, List.length_set, HLT.out, List.length_append, flatI_len, List.length_drop]
      have := HCL.out; have := HS.out; omega
    · exact (HB5.out.then_ HM6.out (fun _ h => .inl (.inr h))).then_ HM7.out (fun _ h => .inl (.inr h))
end Go.Proofs.Ytpkhdipedmihgaa.P
