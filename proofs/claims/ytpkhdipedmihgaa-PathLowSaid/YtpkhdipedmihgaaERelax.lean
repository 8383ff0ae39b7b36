/- path.relax, slices.Clip. -/
import Derived.Test.YtpkhdipedmihgaaYFrom
namespace Go.Proofs.Ytpkhdipedmihgaa.P
open Go.RowKit Go.Proofs.YtpkhdipedmihgaaW.PrintWords Go.Proofs.YtpkhdipedmihgaaW.PrintLast Go.Proofs.YtpkhdipedmihgaaW.PrintMore
set_option linter.unusedVariables false
set_option linter.unusedSimpArgs false

def rxB (d : List Int) (a : S30) : Bool := decide (BFT.rd d a.f0 ≠ BFT.Far ∧ BFT.rd d a.f0 + a.f2 < BFT.rd d a.f1)
theorem rx_yes {d : List Int} {a : S30} (h1 : BFT.rd d a.f0 ≠ BFT.Far) (h2 : BFT.rd d a.f0 + a.f2 < BFT.rd d a.f1) : rxB d a = true ∧ BFT.rx d (toA a) = d.set a.f1.toNat (BFT.rd d a.f0 + a.f2) :=
  ⟨decide_eq_true ⟨h1, h2⟩, by unfold BFT.rx; rw [if_pos (show BFT.rd d (toA a).fr ≠ BFT.Far ∧ BFT.rd d (toA a).fr + (toA a).len < BFT.rd d (toA a).to from ⟨h1, h2⟩)]; rfl⟩
theorem rx_no {d : List Int} {a : S30} (h : BFT.rd d a.f0 = BFT.Far ∨ ¬ BFT.rd d a.f0 + a.f2 < BFT.rd d a.f1) : rxB d a = false ∧ BFT.rx d (toA a) = d := by
  refine ⟨decide_eq_false (fun ⟨h1, h2⟩ => by rcases h with h | h; exact h1 h; exact h h2), ?_⟩
  unfold BFT.rx
  rw [if_neg]
  rintro ⟨h1, h2⟩
  rcases h with h | h
  · exact h1 h
  · exact h h2
theorem row_at {W : World} {g e : Nat} {d : List Int} {rest : List Value} (h : W.heap[g]? = some (.cells (d.map (Value.int .i64) ++ rest).toArray e (0, 0))) (i : Int) (h0 : 0 ≤ i) (h1 : i < d.length) : W.cell? ⟨g, i.toNat, none⟩ = some (.int .i64 (BFT.rd d i)) ∧ W.frozen? ⟨g, i.toNat, none⟩ = false := by
  refine ⟨cell_of_block h _ _ ?_, frozen_of_block h _⟩
  have : i.toNat < d.length := by omega
  rw [List.getElem?_append_left (by simpa using this), List.getElem?_map, List.getElem?_eq_getElem this]
  unfold BFT.rd; rw [List.getD_eq_getElem?_getD, List.getElem?_eq_getElem this]; rfl

set_option maxHeartbeats 2000000 in
set_option maxRecDepth 100000 in
theorem relax_calls (gd cd : Nat) (d : List Int) (rest : List Value) (a : S30) (w : World) (hd : w.heap[gd]? = some (.cells (d.map (Value.int .i64) ++ rest).toArray 3 (0, 0))) (h0 : 0 ≤ a.f0) (h1 : a.f0 < d.length) (h2 : 0 ≤ a.f1) (h3 : a.f1 < d.length)
    (hb : BFT.rd d a.f0 = BFT.Far ∨ (-1152921504606846976 ≤ BFT.rd d a.f0 ∧ BFT.rd d a.f0 ≤ 1152921504606846976)) (hl : -1099511627776 ≤ a.f2 ∧ a.f2 ≤ 1099511627776) :
    Calls Try.prog 34 #[.slice (some ⟨gd, 0, none⟩) d.length cd, .agg #[.int .i64 a.f0, .int .i64 a.f1, .int .i64 a.f2]] w fun e w' => e = .returned (.bool (rxB d a)) ∧ w'.heap[gd]? = some (.cells ((BFT.rx d (toA a)).map (Value.int .i64) ++ rest).toArray 3 (0, 0)) ∧ Mod w w' (fun k => k = gd) := by
  have hu := Try.underlying30
  obtain ⟨w1, hw1⟩ : ∃ w1, w1 = w.alloc (.cells #[.int .i64 a.f0, .int .i64 a.f1, .int .i64 a.f2] 30) := ⟨_, rfl⟩
  have hb1 : Below w.heap.size w w1 := by rw [hw1]; exact below_alloc (Below.refl _ _) _
  have hn1 : w1.heap[w.heap.size]? = some (.cells #[.int .i64 a.f0, .int .i64 a.f1, .int .i64 a.f2] 30 (0, 0)) := by rw [hw1]; exact heap_alloc_new w _
  have hd1 := blk_below hd hb1
  have hgd := blk_lt hd
  have HE := Aside0.mk hw1
  have HD1 := Aside0.mk hd1
  have HB1 := Aside0.mk hb1
  have hc0 : w1.cell? ⟨w.heap.size, 0, none⟩ = some (.int .i64 a.f0) := (blk_cell hn1 0).trans rfl
  have hc1 : w1.cell? ⟨w.heap.size, 1, none⟩ = some (.int .i64 a.f1) := (blk_cell hn1 1).trans rfl
  have hc2 : w1.cell? ⟨w.heap.size, 2, none⟩ = some (.int .i64 a.f2) := (blk_cell hn1 2).trans rfl
  obtain ⟨hf, -⟩ := row_at hd1 a.f0 h0 h1
  obtain ⟨ht, htf⟩ := row_at hd1 a.f1 h2 h3
  obtain ⟨y, hy⟩ : ∃ y, BFT.rd d a.f0 = y := ⟨_, rfl⟩
  obtain ⟨z, hz⟩ : ∃ z, BFT.rd d a.f1 = z := ⟨_, rfl⟩
  rw [hy] at hf hb
  rw [hz] at ht
  have HY := Aside0.mk hy
  have HZ := Aside0.mk hz
  have q1 : decide (0 ≤ a.f0) = true := decide_eq_true h0
  have q2 : decide (a.f0 < d.length) = true := decide_eq_true h1
  have q3 : decide (0 ≤ a.f1) = true := decide_eq_true h2
  have q4 : decide (a.f1 < d.length) = true := decide_eq_true h3
  have q5 : a.f0.toNat < d.length := by omega
  have q6 : a.f1.toNat < d.length := by omega
  by_cases c1 : y = 1152921504606846976
  · have q7 : (y == 1152921504606846976) = true := beq_iff_eq.mpr c1
    have HR := Aside0.mk (rx_no (d := d) (a := a) (.inl (by rw [hy, c1]; rfl)))
    clear hd hd1 hb1 hn1 hy hz hw1 hb c1
    go_enter Try.func34, Try.ntmps34
    go_wp2_with fail
    rw [← HE.out]
    go_quiet (fail)
    go_wp2_with fail
    go_ret
    exact ⟨by rw [HR.out.1]; rfl, by rw [HR.out.2]; exact HD1.out, (Mod.of_below HB1.out _).drewN _⟩
  · have q7 : (y == 1152921504606846976) = false := beq_eq_false_iff_ne.mpr c1
    have hyb : -1152921504606846976 ≤ y ∧ y ≤ 1152921504606846976 := by rcases hb with h | h; exact absurd h c1; exact h
    have e1 : IntKind.i64.wrap (y + a.f2) = y + a.f2 := by rw [i64_w]; unfold wrap64; omega
    by_cases c2 : y + a.f2 < z
    · have q8 : decide (z ≤ y + a.f2) = false := decide_eq_false (by omega)
      have HR := Aside0.mk (rx_yes (d := d) (a := a) (by rw [hy]; exact c1) (by rw [hy, hz]; exact c2))
      clear hd hd1 hb1 hn1 hy hz hw1 hb c1 c2 hyb
      go_enter Try.func34, Try.ntmps34
      go_wp2_with fail
      rw [← HE.out]
      go_quiet (fail)
      go_wp2_with fail
      refine wp_region_still_tail 12 (by kernel_rfl) (by kernel_rfl) ?_
      simp only [List.take_succ_cons, List.take_zero, List.drop_succ_cons, List.drop_zero]
      change wpStill _ _ (World.drew _) _ _ _
      repeat still_step
      refine wpStill_nil ?_
      change wpList _ _ _ _ _ (World.drew _)
      go_wp2_with fail
      go_ret
      refine ⟨by rw [HR.out.1]; rfl, ?_, ?_⟩
      · rw [HR.out.2, HY.out]
        have := blk_set (blk_drewN HD1.out nq) a.f1.toNat (.int .i64 (y + a.f2))
        rw [List.setIfInBounds_toArray, set_app d (Value.int .i64) rest _ _ q6] at this
        exact this
      · exact (((Mod.of_below HB1.out (fun k => k = gd)).drewN nq).setCell (p := ⟨gd, a.f1.toNat, none⟩) (.inl rfl) _).drew
    · have q8 : decide (z ≤ y + a.f2) = true := decide_eq_true (by omega)
      have HR := Aside0.mk (rx_no (d := d) (a := a) (.inr (by rw [hy, hz]; exact c2)))
      clear hd hd1 hb1 hn1 hy hz hw1 hb c1 c2 hyb
      go_enter Try.func34, Try.ntmps34
      go_wp2_with fail
      rw [← HE.out]
      go_quiet (fail)
      go_wp2_with fail
      go_ret
      exact ⟨by rw [HR.out.1]; rfl, by rw [HR.out.2]; exact HD1.out, (Mod.of_below HB1.out _).drewN _⟩
end Go.Proofs.Ytpkhdipedmihgaa.P
