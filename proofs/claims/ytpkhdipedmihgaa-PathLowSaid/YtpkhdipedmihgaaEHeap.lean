/- heap.Heap, function by function: what each does to the row of items and to the map of places. -/
import Derived.Test.YtpkhdipedmihgaaXMap
import Derived.Test.YtpkhdipedmihgaaPx19
import Derived.StillTailTactics
namespace Go.Proofs.Ytpkhdipedmihgaa.P
open Go.RowKit Go.Proofs.YtpkhdipedmihgaaW.PrintWords Go.Proofs.YtpkhdipedmihgaaW.PrintLast Go.Proofs.YtpkhdipedmihgaaW.PrintMore
set_option linter.unusedVariables false
set_option linter.unusedSimpArgs false

/-- What a call writes: blocks of S, and what is new since. -/
structure Mod (w W : World) (S : Nat → Prop) : Prop where
  os : W.os = w.os
  tape : W.tape = w.tape
  output : W.output = w.output
  kept : Kept w W S
theorem Mod.refl (w : World) (S : Nat → Prop) : Mod w w S := ⟨rfl, rfl, rfl, Kept.refl w S⟩
theorem Mod.of_below {w W : World} (h : Below w.heap.size w W) (S : Nat → Prop) : Mod w W S := ⟨h.os, h.tape, h.output, Kept.of_below h S⟩
theorem Mod.then_ {w W W2 : World} {S S2 : Nat → Prop} (h : Mod w W S) (k : Mod W W2 S2) (hs : ∀ k, S2 k → S k ∨ w.heap.size ≤ k) : Mod w W2 S := ⟨k.os.trans h.os, k.tape.trans h.tape, k.output.trans h.output, h.kept.then_ k.kept hs⟩
theorem Mod.of_grown {w W W2 : World} {S : Nat → Prop} {row : Option Nat} (hg : W.grownBy W2 row) (h : Mod w W S) (hr : ∀ k, row = some k → S k ∨ w.heap.size ≤ k) : Mod w W2 S := ⟨hg.os.trans h.os, hg.tape.trans h.tape, hg.output.trans h.output, Kept.of_grown hg h.kept hr⟩
theorem Mod.below {w W W2 : World} {S : Nat → Prop} (h : Mod w W S) (hb : Below W.heap.size W W2) : Mod w W2 S := ⟨hb.os.trans h.os, hb.tape.trans h.tape, hb.output.trans h.output, h.kept.below hb⟩
theorem Mod.alloc {w W : World} {S : Nat → Prop} (h : Mod w W S) (o : Obj) : Mod w (W.alloc o) S := h.below (below_alloc (Below.refl _ _) o)
theorem Mod.drew {w W : World} {S : Nat → Prop} (h : Mod w W S) : Mod w W.drew S := ⟨h.os, h.tape, h.output, h.kept.drew⟩
theorem Mod.drewN {w W : World} {S : Nat → Prop} (h : Mod w W S) (n : Nat) : Mod w (W.drewN n) S := ⟨h.os, h.tape, h.output, h.kept.drewN n⟩
theorem Mod.setCell {w W : World} {S : Nat → Prop} (h : Mod w W S) {p : Addr} (hp : S p.block ∨ w.heap.size ≤ p.block) (u : Value) : Mod w (W.setCell p u) S := ⟨h.os, h.tape, h.output, h.kept.setCell hp u⟩
theorem blk_mod {w W : World} {S : Nat → Prop} {g : Nat} {o : Obj} (hb : w.heap[g]? = some o) (hk : Mod w W S) (hne : ¬ S g) : W.heap[g]? = some o := blk_kept hb hk.kept hne
theorem Mod.toBelow {w W : World} {S : Nat → Prop} {base : Nat} (h : Mod w W S) (hb : base ≤ w.heap.size) (hs : ∀ k, S k → base ≤ k) : Below base w W :=
  ⟨h.os, h.tape, h.output, h.kept.1, fun k hk => h.kept.2 k (by omega) (fun hS => by have := hs k hS; omega)⟩

abbrev Itm := Int × Int
def flatI : List Itm → List Value
  | [] => []
  | p :: t => .int .i64 p.1 :: .int .i64 p.2 :: flatI t
theorem flatI_len : ∀ l : List Itm, (flatI l).length = 2 * l.length
  | [] => rfl
  | p :: t => by simp [flatI, flatI_len t]; omega
theorem flatI_app : ∀ l m : List Itm, flatI (l ++ m) = flatI l ++ flatI m
  | [], _ => rfl
  | p :: t, m => by simp [flatI, flatI_app t m]
theorem flatI_get (z : Itm) : ∀ (l : List Itm) (i : Nat) (h : i < l.length) (r : List Value), (flatI l ++ r)[2 * i]? = some (.int .i64 (l.getD i z).1) ∧ (flatI l ++ r)[2 * i + 1]? = some (.int .i64 (l.getD i z).2)
  | p :: t, 0, _, r => by simp [flatI]
  | p :: t, i + 1, h, r => by
    have ih := flatI_get z t i (by simpa using h) r
    simp only [flatI, List.cons_append, show 2 * (i + 1) = 2 * i + 1 + 1 from by omega, List.getElem?_cons_succ, List.getD_cons_succ]
    exact ih
theorem flatI_set : ∀ (l : List Itm) (i : Nat) (x : Itm) (r : List Value), i < l.length → ((flatI l ++ r).set (2 * i) (.int .i64 x.1)).set (2 * i + 1) (.int .i64 x.2) = flatI (l.set i x) ++ r
  | p :: t, 0, x, r, _ => by simp [flatI]
  | p :: t, i + 1, x, r, h => by
    have ih := flatI_set t i x r (by simpa using h)
    simp only [flatI, List.cons_append, show 2 * (i + 1) = 2 * i + 1 + 1 from by omega, List.set_cons_succ]
    rw [ih]

/-- A heap by its blocks: the struct, the row, the map. -/
structure HRaw (W : World) (g r b cap : Nat) (row : List Itm) (rest : List Value) (mp : Int → Option Int) : Prop where
  hg : W.heap[g]? = some (.cells #[.slice (some ⟨r, 0, none⟩) row.length cap, .map (some b)] 70 (0, 0))
  hr : W.heap[r]? = some (.cells (flatI row ++ rest).toArray 52 (0, 0))
  hb : MapAt W b mp

theorem HRaw.step {W W' : World} {g r b cap : Nat} {row : List Itm} {rest : List Value} {mp : Int → Option Int} (h : HRaw W g r b cap row rest mp) (hb : Below W.heap.size W W') : HRaw W' g r b cap row rest mp :=
  ⟨(hb.block _ (blk_lt h.hg)).trans h.hg, (hb.block _ (blk_lt h.hr)).trans h.hr, h.hb.move (hb.block _ h.hb.lt)⟩

theorem HRaw.gr {W : World} {g r b cap : Nat} {row : List Itm} {rest : List Value} {mp : Int → Option Int} (h : HRaw W g r b cap row rest mp) : g ≠ r := blk_ne h.hg h.hr (by decide)
theorem HRaw.br {W : World} {g r b cap : Nat} {row : List Itm} {rest : List Value} {mp : Int → Option Int} (h : HRaw W g r b cap row rest mp) : b ≠ r := by
  rintro rfl; obtain ⟨es, c, h1, _⟩ := h.hb; rw [h.hr] at h1; cases h1
theorem HRaw.bg {W : World} {g r b cap : Nat} {row : List Itm} {rest : List Value} {mp : Int → Option Int} (h : HRaw W g r b cap row rest mp) : b ≠ g := by
  rintro rfl; obtain ⟨es, c, h1, _⟩ := h.hb; rw [h.hg] at h1; cases h1
theorem HRaw.at {W : World} {g r b cap : Nat} {row : List Itm} {rest : List Value} {mp : Int → Option Int} (h : HRaw W g r b cap row rest mp) (z : Itm) (i : Nat) (hi : i < row.length) :
    W.cell? ⟨r, i * 2, none⟩ = some (.int .i64 (row.getD i z).1) ∧ W.cell? ⟨r, i * 2 + 1, none⟩ = some (.int .i64 (row.getD i z).2) ∧ W.frozen? ⟨r, i * 2, none⟩ = false ∧ W.frozen? ⟨r, i * 2 + 1, none⟩ = false := by
  obtain ⟨h1, h2⟩ := flatI_get z row i hi rest
  rw [Nat.mul_comm] at h1 h2
  exact ⟨cell_of_block h.hr _ _ h1, cell_of_block h.hr _ _ h2, frozen_of_block h.hr _, frozen_of_block h.hr _⟩
theorem HRaw.set {W : World} {g r b cap : Nat} {row : List Itm} {rest : List Value} {mp : Int → Option Int} (h : HRaw W g r b cap row rest mp) (i : Nat) (hi : i < row.length) (x : Itm) :
    HRaw ((W.setCell ⟨r, i * 2, none⟩ (.int .i64 x.1)).setCell ⟨r, i * 2 + 1, none⟩ (.int .i64 x.2)) g r b cap (row.set i x) rest mp := by
  refine ⟨?_, ?_, h.hb.move ?_⟩
  · rw [List.length_set]; exact blk_far (blk_far h.hg h.gr _) h.gr _
  · have := blk_set (blk_set h.hr (i * 2) (.int .i64 x.1)) (i * 2 + 1) (.int .i64 x.2)
    rw [this, List.setIfInBounds_toArray, List.setIfInBounds_toArray, Nat.mul_comm, flatI_set row i x rest hi]
  · exact (Below.heap_setCell _ _ _ _ h.br).trans (Below.heap_setCell _ _ _ _ h.br)
theorem kept_set2 {w W : World} {S : Nat → Prop} {r i : Nat} {u v : Value} (h : Mod w W S) (hr : S r) : Mod w ((W.setCell ⟨r, i * 2, none⟩ u).setCell ⟨r, i * 2 + 1, none⟩ v) S :=
  (h.setCell (.inl hr) _).setCell (.inl hr) _
theorem HRaw.drew {W : World} {g r b cap : Nat} {row : List Itm} {rest : List Value} {mp : Int → Option Int} (h : HRaw W g r b cap row rest mp) : HRaw W.drew g r b cap row rest mp := ⟨h.hg, h.hr, h.hb.move rfl⟩
theorem HRaw.drewN {W : World} {g r b cap : Nat} {row : List Itm} {rest : List Value} {mp : Int → Option Int} (h : HRaw W g r b cap row rest mp) (n : Nat) : HRaw (W.drewN n) g r b cap row rest mp := ⟨h.hg, h.hr, h.hb.move rfl⟩
theorem HRaw.grown {W W' : World} {g r b cap : Nat} {row : List Itm} {rest : List Value} {mp mp' : Int → Option Int} (h : HRaw W g r b cap row rest mp) (hm : MapAt W' b mp') (hg : W.grownBy W' (some b)) : HRaw W' g r b cap row rest mp' :=
  ⟨(hg.block _ (blk_lt h.hg) (fun e => h.bg (Option.some.inj e).symm)).trans h.hg, (hg.block _ (blk_lt h.hr) (fun e => h.br (Option.some.inj e).symm)).trans h.hr, hm⟩
theorem zeroI (w : World) : (zeroValue 3).run Try.prog w = .ok (.int .i64 0) w := by kernel_rfl

set_option maxRecDepth 100000 in
theorem place_calls (g b : Nat) (v : Value) (mp : Int → Option Int) (key : Int) (w : World) (hk0 : 0 ≤ key) (hk1 : key < 300)
    (hg : w.heap[g]? = some (.cells #[v, .map (some b)] 70 (0, 0))) (hb : MapAt w b mp) :
    Calls Try.prog 43 #[.pointer (some ⟨g, 0, none⟩), .int .i64 key] w fun e w' => e = .returned (.int .i64 ((mp key).getD (-1))) ∧ w' = w := by
  have hu := Try.underlying70
  have hk1' : w.cell? ⟨g, 1, none⟩ = some (.map (some b)) := (blk_cell hg 1).trans rfl
  have HB := Aside0.mk hb
  clear hg hb
  obtain ⟨o, ho⟩ : ∃ o, mp key = o := ⟨_, rfl⟩
  have HO := Aside0.mk ho
  have HL := Aside0.mk (HB.out.look Try.underlying67 Try.underlying3 (zeroI _) key)
  rw [ho] at HL
  clear ho
  cases o with
  | none =>
    go_enter Try.func43, Try.ntmps43
    have hl := HL.out
    simp only [Option.getD, Option.isSome] at hl
    go_wp2
    go_ret
    exact ⟨by rw [HO.out]; rfl, rfl⟩
  | some a =>
    go_enter Try.func43, Try.ntmps43
    have hl := HL.out
    simp only [Option.getD, Option.isSome] at hl
    go_wp2
    go_ret
    exact ⟨by rw [HO.out]; rfl, rfl⟩

set_option maxHeartbeats 1000000 in
set_option maxRecDepth 100000 in
theorem lay_calls (g r b cap : Nat) (row : List Itm) (rest : List Value) (mp : Int → Option Int) (i : Nat) (x : Itm) (w : World) (h : HRaw w g r b cap row rest mp) (hi : i < row.length) :
    Calls Try.prog 52 #[.pointer (some ⟨g, 0, none⟩), .int .i64 i, .agg #[.int .i64 x.1, .int .i64 x.2]] w fun e w' => e = .returned (.tuple #[]) ∧ HRaw w' g r b cap (row.set i x) rest (mput mp x.1 i) ∧ Mod w w' (fun k => k = r ∨ k = b) := by
  have hu := Try.underlying70
  have hu2 := Try.underlying52
  have H := Aside0.mk h
  have q1 : decide ((0 : Int) ≤ i) = true := by simp
  have q2 : decide ((i : Int) < row.length) = true := by simpa using hi
  clear h
  go_enter Try.func52, Try.ntmps52
  go_wp2_with ((with_reducible refine gate_dst (N := 5) rfl ?_); refine box_event ?hg (N := 5) ?hd (cs := #[.int .i64 x.1, .int .i64 x.2]) (t := 52) ?hr ?_; (case hd => rfl); (case hg => rfl); (case hr => first | (go_simp; done) | (go_simp; rfl)); intro gb hgb w5 hbox hb; have HX := Aside0.mk hbox; have H5 := Aside0.mk (H.out.step hb); have HB := Aside0.mk hb; have HGB := Aside0.mk hgb; clear hb hgb hbox; have hk0 : w5.cell? ⟨g, 0, none⟩ = some (.slice (some ⟨r, 0, none⟩) row.length cap) := (blk_cell H5.out.hg 0).trans rfl; have hk1 : w5.cell? ⟨g, 1, none⟩ = some (.map (some b)) := (blk_cell H5.out.hg 1).trans rfl; have hx0 : w5.cell? ⟨gb, 0, none⟩ = some (.int .i64 x.1) := (blk_cell HX.out 0).trans rfl; have hx1 : w5.cell? ⟨gb, 1, none⟩ = some (.int .i64 x.2) := (blk_cell HX.out 1).trans rfl; obtain ⟨hr0, hr1, hf0, hf1⟩ := H5.out.at x i hi)
  refine wp_region_still_tail 7 (by kernel_rfl) (by kernel_rfl) ?_
  simp only [List.take_succ_cons, List.take_zero, List.drop_succ_cons, List.drop_zero]
  change wpStill _ _ (World.drew _) _ _ _
  repeat still_step
  refine wpStill_nil ?_
  change wpList _ _ _ _ _ (World.drew _)
  go_wp2
  obtain ⟨w6, hw6⟩ : ∃ w6, w6 = ((w5.setCell ⟨r, i * 2, none⟩ (.int .i64 x.1)).setCell ⟨r, i * 2 + 1, none⟩ (.int .i64 x.2)).drew := ⟨_, rfl⟩
  rw [← hw6]
  have H6 := Aside0.mk (show HRaw w6 g r b cap (row.set i x) rest mp by rw [hw6]; exact (H5.out.set i hi x).drew)
  have hk6 : w6.cell? ⟨g, 1, none⟩ = some (.map (some b)) := (blk_cell H6.out.hg 1).trans rfl
  have hrb : gb ≠ r := by have := blk_lt H.out.hr; have := HGB.out; omega
  have hx6 : w6.cell? ⟨gb, 0, none⟩ = some (.int .i64 x.1) := (by rw [hw6]; exact (blk_cell (blk_drew (blk_far (p := ⟨r, i * 2 + 1, none⟩) (blk_far (p := ⟨r, i * 2, none⟩) HX.out hrb _) hrb _)) 0).trans rfl)
  have HK := Aside0.mk (show Mod w w6 (fun k => k = r ∨ k = b) by rw [hw6]; exact (kept_set2 (Mod.of_below HB.out _) (.inl rfl)).drew)
  clear hw6 hk0 hk1 hx0 hx1 hr0 hr1 hf0 hf1
  refine wp_region_still_tail 7 (by kernel_rfl) (by kernel_rfl) ?_
  simp only [List.take_succ_cons, List.take_zero, List.drop_succ_cons, List.drop_zero]
  change wpStill _ _ (World.drew _) _ _ _
  repeat still_step
  refine wpStill_nil ?_
  change wpList _ _ _ _ _ (World.drew _)
  refine wpList_mput rfl _ _ _ rfl H6.out.drew.hb Try.underlying67 Try.underlying3 rfl x.1 rfl i rfl ?_
  intro w7 hm7 hg7
  have H7 := Aside0.mk (HRaw.grown (W := w6.drew) H6.out.drew hm7 hg7)
  have HK7 := Aside0.mk (Mod.of_grown (W := w6.drew) hg7 HK.out.drew (fun k e => .inl (.inr (Option.some.inj e).symm)))
  clear hm7 hg7
  go_wp2
  first | go_end0 | ((try simp only [Exit.inBlock, Exit.then]); refine bodyPost_ret (results_none rfl _ _ _) rfl ?_)
  exact ⟨rfl, H7.out, HK7.out⟩

def lessI (a b : Itm) : Bool := if a.2 = b.2 then decide (a.1 < b.1) else decide (a.2 < b.2)
theorem lessI_calls (a b : Itm) (w : World) : Calls Try.prog 51 #[.agg #[.int .i64 a.1, .int .i64 a.2], .agg #[.int .i64 b.1, .int .i64 b.2]] w fun e w' => e = .returned (.bool (lessI a b)) ∧ Below w.heap.size w w' :=
  heap_less.calls a.1 a.2 b.1 b.2 (lessI a b) w (by unfold heap_less.f lessI; split <;> rfl)
theorem lessI_is (a b : Itm) (c : Bool) (h : lessI a b = c) (w : World) : Calls Try.prog 51 #[.agg #[.int .i64 a.1, .int .i64 a.2], .agg #[.int .i64 b.1, .int .i64 b.2]] w fun e w' => e = .returned (.bool c) ∧ Below w.heap.size w w' := h ▸ lessI_calls a b w
def zI : Itm := (0, 0)

/-- an item moved up from a place: the row, the map, the place -/
def upF (row : List Itm) (mp : Int → Option Int) (i : Nat) (x : Itm) : List Itm × (Int → Option Int) × Nat :=
  if h : 0 < i ∧ lessI x (row.getD ((i - 1) / 2) zI) = true then upF (row.set i (row.getD ((i - 1) / 2) zI)) (mput mp (row.getD ((i - 1) / 2) zI).1 i) ((i - 1) / 2) x
  else (row.set i x, mput mp x.1 i, i)
termination_by i
decreasing_by omega
theorem upF_yes {row : List Itm} {mp : Int → Option Int} {i : Nat} {x : Itm} (h : 0 < i) (hl : lessI x (row.getD ((i - 1) / 2) zI) = true) : upF row mp i x = upF (row.set i (row.getD ((i - 1) / 2) zI)) (mput mp (row.getD ((i - 1) / 2) zI).1 i) ((i - 1) / 2) x := by
  rw [upF, dif_pos ⟨h, hl⟩]
theorem upF_no {row : List Itm} {mp : Int → Option Int} {i : Nat} {x : Itm} (h : i = 0 ∨ lessI x (row.getD ((i - 1) / 2) zI) = false) : upF row mp i x = (row.set i x, mput mp x.1 i, i) := by
  rw [upF, dif_neg]
  rintro ⟨h1, h2⟩
  rcases h with h | h
  · omega
  · rw [h] at h2; cases h2

set_option maxHeartbeats 2000000 in
set_option maxRecDepth 100000 in
theorem up_calls (g r b cap : Nat) (row : List Itm) (rest : List Value) (mp : Int → Option Int) (i : Nat) (w : World) (h : HRaw w g r b cap row rest mp) (hi : i < row.length) (hl : row.length ≤ 1000000) :
    Calls Try.prog 45 #[.pointer (some ⟨g, 0, none⟩), .int .i64 i] w fun e w' => e = .returned (.int .i64 (upF row mp i (row.getD i zI)).2.2) ∧ HRaw w' g r b cap (upF row mp i (row.getD i zI)).1 rest (upF row mp i (row.getD i zI)).2.1 ∧ Mod w w' (fun k => k = r ∨ k = b) := by
  have hu := Try.underlying70
  have hu2 := Try.underlying52
  obtain ⟨x, hx⟩ : ∃ x, row.getD i zI = x := ⟨_, rfl⟩
  rw [hx]
  obtain ⟨res, hres⟩ : ∃ res, upF row mp i x = res := ⟨_, rfl⟩
  rw [hres]
  have H := Aside0.mk h
  have HR := Aside0.mk hres
  obtain ⟨hr0, hr1, -, -⟩ := h.at zI i hi
  rw [hx] at hr0 hr1
  have hk0 : w.cell? ⟨g, 0, none⟩ = some (.slice (some ⟨r, 0, none⟩) row.length cap) := (blk_cell h.hg 0).trans rfl
  have q1 : decide ((0 : Int) ≤ i) = true := by simp
  have q2 : decide ((i : Int) < row.length) = true := by simpa using hi
  have HL := Aside0.mk hl
  clear h hres hx hl
  go_enter Try.func45, Try.ntmps45
  go_wp2
  have hnew := heap_alloc_new w (.cells #[.int .i64 x.1, .int .i64 x.2] 52)
  have HBN := Aside0.mk (below_alloc (Below.refl w.heap.size w) (.cells #[.int .i64 x.1, .int .i64 x.2] 52))
  go_loopw [1] (fun u W => ∃ (row' : List Itm) (mp' : Int → Option Int) (j : Nat), j < row'.length ∧ row'.length = row.length ∧ u = .int .i64 j ∧ Aside0 (upF row' mp' j x = res) ∧ Aside0 (HRaw W g r b cap row' rest mp') ∧ Aside0 (W.heap[w.heap.size]? = some (.cells #[.int .i64 x.1, .int .i64 x.2] 52 (0, 0))) ∧ Aside0 (Mod w W (fun k => k = r ∨ k = b))) (fun u _ => (intOf u).toNat)
  case atStart => exact ⟨row, mp, i, hi, rfl, rfl, HR, ⟨H.out.step HBN.out⟩, ⟨hnew⟩, ⟨Mod.of_below HBN.out _⟩⟩
  case round =>
    obtain ⟨row', mp', j, hj, hlen, rfl, HR, HH, HX, HK⟩ := hrel
    clear hnew hr0 hr1 hk0 q1 q2 hi
    have hk0 : wr.cell? ⟨g, 0, none⟩ = some (.slice (some ⟨r, 0, none⟩) row'.length cap) := (blk_cell HH.out.hg 0).trans rfl
    have hx0 : wr.cell? ⟨w.heap.size, 0, none⟩ = some (.int .i64 x.1) := (blk_cell HX.out 0).trans rfl
    have hx1 : wr.cell? ⟨w.heap.size, 1, none⟩ = some (.int .i64 x.2) := (blk_cell HX.out 1).trans rfl
    by_cases h0 : 0 < j
    · have q1 : decide ((0 : Int) < j) = true := by simpa using h0
      obtain ⟨p, hp⟩ : ∃ p, (j - 1) / 2 = p := ⟨_, rfl⟩
      have hpj : p < j := by omega
      have hpl : p < row'.length := by omega
      have HP := Aside0.mk hp
      have e1 : IntKind.i64.wrap ((j : Int) - 1) = ((j - 1 : Nat) : Int) := by rw [i64_w]; unfold wrap64; have := HL.out; omega
      have e2 : Int.tdiv ((j - 1 : Nat) : Int) 2 = (p : Int) := by rw [Int.tdiv_eq_ediv_of_nonneg (by omega)]; omega
      have e3 : ((j - 1 : Nat) : Int) / 2 = (p : Int) := by omega
      have e4 : IntKind.i64.wrap (p : Int) = p := by rw [i64_w]; unfold wrap64; have := HL.out; omega
      have hpl2 : p < row.length := by omega
      obtain ⟨hp0, hp1, -, -⟩ := HH.out.at zI p hpl
      obtain ⟨y, hy⟩ : ∃ y, row'.getD p zI = y := ⟨_, rfl⟩
      rw [hy] at hp0 hp1
      have HY := Aside0.mk hy
      have HS := Aside0.mk hlen
      clear hp hy
      obtain ⟨c, hc⟩ : ∃ c, lessI x y = c := ⟨_, rfl⟩
      have HC := Aside0.mk hc
      clear hc
      go_wp2_with fail
      refine wp_region_still_tail 13 (by kernel_rfl) (by kernel_rfl) ?_
      simp only [List.take_succ_cons, List.take_zero, List.drop_succ_cons, List.drop_zero]
      change wpStill _ _ (World.drew _) _ _ _
      repeat still_step
      refine wpStill_nil ?_
      change wpList _ _ _ _ _ (World.drew _)
      go_wp2_with fail
      refine (lessI_is x y c HC.out _).mono ?_
      rintro e w1 ⟨rfl, hb⟩
      have HH1 := Aside0.mk (HH.out.drew.step hb)
      have HX1 := Aside0.mk ((hb.block w.heap.size (blk_lt HX.out)).trans HX.out)
      have HK1 := Aside0.mk (HK.out.drew.below hb)
      clear hb hk0 hx0 hx1 hp0 hp1
      cases c with
      | true =>
        have HU := Aside0.mk ((upF_yes (by omega) (by rw [HP.out, HY.out]; exact HC.out)).symm.trans HR.out)
        rw [HP.out, HY.out] at HU
        obtain ⟨hp0, hp1, -, -⟩ := HH1.out.at zI p hpl
        rw [HY.out] at hp0 hp1
        have hk0 : w1.cell? ⟨g, 0, none⟩ = some (.slice (some ⟨r, 0, none⟩) row'.length cap) := (blk_cell HH1.out.hg 0).trans rfl
        clear HR HH HX HK
        go_wp2_with fail
        refine (lay_calls g r b cap row' rest mp' j y _ HH1.out hj).mono ?_
        rintro e w2 ⟨rfl, hh, hkp⟩
        have HH2 := Aside0.mk hh
        have HK2 := Aside0.mk (HK1.out.then_ hkp (fun _ h => .inl h))
        have HX2 := Aside0.mk (blk_mod HX1.out hkp (by have := blk_lt H.out.hr; have := H.out.hb.lt; omega))
        clear hh hkp HH1 HK1 HX1 hp0 hp1 hk0
        go_wp2_with fail
        go_roundw
        case rel => exact ⟨row'.set j y, _, p, by simpa using hpl, by simpa using HS.out, rfl, HU, HH2, HX2, HK2⟩
        case measure => simp [intOf]; omega
      | false =>
        have HU := Aside0.mk ((upF_no (.inr (by rw [HP.out, HY.out]; exact HC.out))).symm.trans HR.out)
        have hx0 : w1.cell? ⟨w.heap.size, 0, none⟩ = some (.int .i64 x.1) := (blk_cell HX1.out 0).trans rfl
        have hx1 : w1.cell? ⟨w.heap.size, 1, none⟩ = some (.int .i64 x.2) := (blk_cell HX1.out 1).trans rfl
        clear HR HH HX HK
        go_wp2_with fail
        refine (lay_calls g r b cap row' rest mp' j x _ HH1.out hj).mono ?_
        rintro e w2 ⟨rfl, hh, hkp⟩
        have HH2 := Aside0.mk hh
        have HK2 := Aside0.mk (HK1.out.then_ hkp (fun _ h => .inl h))
        clear hh hkp HH1 HK1 HX1 hx0 hx1
        go_wp2_with fail
        go_ret
        exact ⟨by rw [← HU.out]; rfl, by rw [← HU.out]; exact HH2.out, HK2.out⟩
    · obtain rfl : j = 0 := by omega
      have q1 : decide ((0 : Int) < ((0 : Nat) : Int)) = false := rfl
      have HU := Aside0.mk ((upF_no (.inl rfl)).symm.trans HR.out)
      go_wp2_with fail
      go_quiet (fail)
      go_wp2_with fail
      refine (lay_calls g r b cap row' rest mp' 0 x _ (HRaw.drewN HH.out _) hj).mono ?_
      rintro e w2 ⟨rfl, hh, hkp⟩
      have HH2 := Aside0.mk hh
      have HK2 := Aside0.mk ((HK.out.drewN _).then_ hkp (fun _ h => .inl h))
      clear hh hkp hx0 hx1 hk0
      go_wp2_with fail
      go_ret
      exact ⟨by rw [← HU.out]; rfl, by rw [← HU.out]; exact HH2.out, HK2.out⟩
end Go.Proofs.Ytpkhdipedmihgaa.P
