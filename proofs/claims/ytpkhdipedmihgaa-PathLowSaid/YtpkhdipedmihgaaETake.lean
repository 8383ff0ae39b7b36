/- heap.Take. -/
import Derived.Test.YtpkhdipedmihgaaEDrop
namespace Go.Proofs.Ytpkhdipedmihgaa.P
open Go.RowKit Go.Proofs.YtpkhdipedmihgaaW.PrintWords Go.Proofs.YtpkhdipedmihgaaW.PrintLast Go.Proofs.YtpkhdipedmihgaaW.PrintMore
set_option linter.unusedVariables false
set_option linter.unusedSimpArgs false

theorem HP.far {W : World} {base g b r : Nat} {v : Value} {row : List Itm} {mp : Int → Option Int} (h : HP W base g b v row mp) (hv : v.ownBlock = some r) {p : Addr} (h1 : p.block ≠ g) (h2 : p.block ≠ r) (h3 : p.block ≠ b) (u : Value) : HP (W.setCell p u) base g b v row mp :=
  ⟨blk_far h.hg (Ne.symm h1) u, own_move h.hv (fun k hk => Below.heap_setCell W p u k (fun e => h2 (by rw [hv] at hk; rw [← e]; exact (Option.some.inj hk).symm))), h.hb.move (Below.heap_setCell W p u b (Ne.symm h3)), h.bg, h.bb⟩

set_option maxHeartbeats 4000000 in
set_option maxRecDepth 100000 in
theorem take_none (base g b : Nat) (v : Value) (row : List Itm) (mp : Int → Option Int) (w : World) (h : HP w base g b v row mp) (hn : row.length = 0) :
    Calls Try.prog 30 #[.pointer (some ⟨g, 0, none⟩)] w fun e w' => e = .returned (.tuple #[.agg #[.int .i64 0, .int .i64 0], .bool false]) ∧ Below w.heap.size w w' := by
  have hu2 := Try.underlying52
  obtain ⟨w1, hw1⟩ : ∃ w1, w1 = w.alloc (.cells #[.int .i64 0, .int .i64 0] 52) := ⟨_, rfl⟩
  have hb1 : Below w.heap.size w w1 := by rw [hw1]; exact below_alloc (Below.refl _ _) _
  have HLs := Aside0.mk (least_none base g b v row mp w1 (h.step hb1) hn)
  have HB1 := Aside0.mk hb1
  have hn1 : w1.heap[w.heap.size]? = some (.cells #[.int .i64 0, .int .i64 0] 52 (0, 0)) := by rw [hw1]; exact heap_alloc_new w _
  have HN1 := Aside0.mk hn1
  have HE := Aside0.mk hw1
  clear h hn hb1 hn1 hw1
  go_enter Try.func30, Try.ntmps30
  go_wp2_with fail
  rw [← HE.out]
  refine HLs.out.mono ?_
  rintro e w2 ⟨rfl, hb2⟩
  have HB2 := Aside0.mk hb2
  have hn2 := blk_below HN1.out hb2
  have hc0 : w2.cell? ⟨w.heap.size, 0, none⟩ = some (.int .i64 0) := (blk_cell hn2 0).trans rfl
  have hc1 : w2.cell? ⟨w.heap.size, 1, none⟩ = some (.int .i64 0) := (blk_cell hn2 1).trans rfl
  have hf0 := blk_frozen hn2 0
  have hf1 := blk_frozen hn2 1
  have hlt : w.heap.size < w2.heap.size := blk_lt hn2
  have HN2 := Aside0.mk hn2
  clear hb2 hn2
  go_wp2_with fail
  exact bodyPost_ret (v := .tuple #[.agg #[.int .i64 0, .int .i64 0], .bool false]) (by simp [results, Try.results30, go_sem, hlt, hc0, hc1]) rfl ⟨rfl, below_alloc (below_set (below_set (below_step HB1.out HB2.out) (Nat.le_refl _)) (Nat.le_refl _)) _⟩

set_option maxHeartbeats 4000000 in
set_option maxRecDepth 100000 in
theorem take_some (base g b : Nat) (v : Value) (row : List Itm) (mp : Int → Option Int) (x : Itm) (w : World) (h : HP w base g b v row mp) (hn : 0 < row.length) (hx : row.getD 0 zI = x) (hk0 : 0 ≤ x.1) (hk1 : x.1 < 300) (hm : mp x.1 = some 0) (hl : row.length ≤ 1000) (hbase : base ≤ w.heap.size) :
    Calls Try.prog 30 #[.pointer (some ⟨g, 0, none⟩)] w fun e w' => ∃ v', e = .returned (.tuple #[.agg #[.int .i64 x.1, .int .i64 x.2], .bool true]) ∧ HP w' base g b v' (dropF row mp x.1).1 (dropF row mp x.1).2 ∧ Below base w w' := by
  have hu2 := Try.underlying52
  obtain ⟨r, cap, rest, rfl, hr, hcm, hcl, hraw⟩ := h.raw hn
  obtain ⟨w1, hw1⟩ : ∃ w1, w1 = w.alloc (.cells #[.int .i64 0, .int .i64 0] 52) := ⟨_, rfl⟩
  have hb1 : Below w.heap.size w w1 := by rw [hw1]; exact below_alloc (Below.refl _ _) _
  have HLs := Aside0.mk (least_some g r b cap row rest mp w1 (hraw.step hb1) hn x hx)
  have HB1 := Aside0.mk hb1
  have HH1 := Aside0.mk (hraw.step hb1)
  have hn1 : w1.heap[w.heap.size]? = some (.cells #[.int .i64 0, .int .i64 0] 52 (0, 0)) := by rw [hw1]; exact heap_alloc_new w _
  have HN1 := Aside0.mk hn1
  have HE := Aside0.mk hw1
  have H := Aside0.mk h
  have HR := Aside0.mk hr
  have HCM := Aside0.mk hcm
  have HCL := Aside0.mk hcl
  have HBS := Aside0.mk hbase
  have HM := Aside0.mk hm
  have HX := Aside0.mk hx
  have HI := Aside0.mk (show g < w.heap.size ∧ r < w.heap.size ∧ b < w.heap.size from ⟨blk_lt hraw.hg, blk_lt hraw.hr, hraw.hb.lt⟩)
  have HNN := Aside0.mk hn
  clear h hn hb1 hn1 hw1 hr hcm hcl hbase hm hx hraw
  go_enter Try.func30, Try.ntmps30
  go_wp2_with fail
  rw [← HE.out]
  refine HLs.out.mono ?_
  rintro e w2 ⟨rfl, hb2⟩
  have HH2 := Aside0.mk (HH1.out.step hb2)
  have hb3 := below_alloc hb2 (.cells #[.int .i64 x.1, .int .i64 x.2] 52)
  have HB3 := Aside0.mk hb3
  have HH3 := Aside0.mk (HH1.out.step hb3)
  have HN3 := Aside0.mk (blk_below HN1.out hb3)
  have HN4 := Aside0.mk (heap_alloc_new w2 (.cells #[.int .i64 x.1, .int .i64 x.2] 52))
  have HSZ := Aside0.mk (show w.heap.size < w2.heap.size from blk_lt (blk_below HN1.out hb2))
  clear hb2 hb3
  have HDr := Aside0.mk (drop_calls base g r b cap row rest mp x.1 _ HH3.out H.out.bg HR.out H.out.bb HCM.out HCL.out hk0 hk1 HM.out HNN.out hl (by have := HBS.out; have := HSZ.out; simp; omega))
  go_wp2_with fail
  refine HDr.out.mono ?_
  rintro e w4 ⟨v', rfl, hp4, hm4, hob⟩
  have HOB := Aside0.mk hob
  have hi := HI.out
  have hsz := HSZ.out
  have hn5 := blk_mod HN3.out hm4 (by omega)
  have hn6 := blk_mod HN4.out hm4 (by omega)
  have HN5 := Aside0.mk hn5
  have HP4 := Aside0.mk hp4
  have HB4 := Aside0.mk ((below_step HB1.out HB3.out).mono HBS.out |>.trans (hm4.toBelow (base := base) (by have := HBS.out; simp; omega) (fun k hk => by rcases hk with rfl | rfl | rfl; exact H.out.bg; exact HR.out; exact H.out.bb)))
  have hc0 : w4.cell? ⟨w2.heap.size, 0, none⟩ = some (.int .i64 x.1) := (blk_cell hn6 0).trans rfl
  have hc1 : w4.cell? ⟨w2.heap.size, 1, none⟩ = some (.int .i64 x.2) := (blk_cell hn6 1).trans rfl
  have hd0 : w4.cell? ⟨w.heap.size, 0, none⟩ = some (.int .i64 0) := (blk_cell hn5 0).trans rfl
  have hd1 : w4.cell? ⟨w.heap.size, 1, none⟩ = some (.int .i64 0) := (blk_cell hn5 1).trans rfl
  have hf0 := blk_frozen hn5 0
  have hf1 := blk_frozen hn5 1
  clear hp4 hm4 hn5 hn6 hi hob
  go_wp2_with fail
  have hi := HI.out
  refine bodyPost_ret (v := .tuple #[.agg #[.int .i64 x.1, .int .i64 x.2], .bool true]) (by simp [results, Try.results30, go_sem, hd0, hd1, hf0, hf1]) rfl ⟨v', rfl, ?_, ?_⟩
  · exact (HP4.out.far HOB.out (p := ⟨w.heap.size, 0, none⟩) (by show w.heap.size ≠ g; omega) (by show w.heap.size ≠ r; omega) (by show w.heap.size ≠ b; omega) _).far HOB.out (p := ⟨w.heap.size, 1, none⟩) (by show w.heap.size ≠ g; omega) (by show w.heap.size ≠ r; omega) (by show w.heap.size ≠ b; omega) _
  · exact (HB4.out.setCell (p := ⟨w.heap.size, 0, none⟩) HBS.out _).setCell (p := ⟨w.heap.size, 1, none⟩) HBS.out _
end Go.Proofs.Ytpkhdipedmihgaa.P
