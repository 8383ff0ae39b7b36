/- path.From: the heap's walk over the arcs; what it tells are the distances. -/
import Derived.Test.YtpkhdipedmihgaaXHeapLaw
import Derived.Test.YtpkhdipedmihgaaETake
import Derived.Test.YtpkhdipedmihgaaEFine
import Derived.Test.YtpkhdipedmihgaaYDJ
import Derived.Test.YtpkhdipedmihgaaPx20
namespace Go.Proofs.Ytpkhdipedmihgaa.P
open Go.RowKit Go.Proofs.YtpkhdipedmihgaaW.PrintWords Go.Proofs.YtpkhdipedmihgaaW.PrintLast Go.Proofs.YtpkhdipedmihgaaW.PrintMore
set_option linter.unusedVariables false
set_option linter.unusedSimpArgs false

def toA (a : S30) : BFT.Arc := ⟨a.f0, a.f1, a.f2⟩
theorem rd_eq (d : List Int) (v : Int) : rd d v = BFT.rd d v := rfl
theorem begin_eq (N : Nat) (s : Int) (h0 : 0 ≤ s) (h1 : s < N) (hN : N ≤ 300) : path_begin.f N s = some (BFT.d0 N s) := by
  unfold path_begin.f slices_Repeat_int_int.f
  rw [if_pos ⟨rfl, by omega, by omega⟩]
  simp only [Option.bind_some, Int.toNat_natCast, List.length_replicate]
  rw [if_pos h0, if_pos h1]
  rfl
theorem block_of_Rb {W : World} {e base : Nat} {ok : Nat → Prop} {v : Value} {xs : List Bool} (h : Kd.R Kd.bool e W base ok v xs) (hn : 0 < xs.length) :
    ∃ g cap rest, v = .slice (some ⟨g, 0, none⟩) xs.length cap ∧ base ≤ g ∧ W.heap[g]? = some (.cells (xs.map Value.bool ++ rest).toArray e (0, 0)) ∧ xs.length ≤ cap := by
  obtain ⟨h1, h2⟩ := Kd.own_of_R (enc := Value.bool) h
  rcases h2 with ⟨rfl, hz⟩ | ⟨g, cap, cur, rfl, hb, hg, hc, hm, hs, ht⟩
  · omega
  · refine ⟨g, cap, cur.toList.drop xs.length, rfl, hb, ?_, hc⟩
    rw [Nat.mul_one] at ht
    have : xs.map Value.bool ++ cur.toList.drop xs.length = cur.toList := by
      rw [← List.take_append_drop xs.length cur.toList, ht]; simp [encs]
    rw [this]; simpa using hg
theorem nodup_bound : ∀ (n : Nat) (L : List Nat), L.Nodup → (∀ x ∈ L, x < n) → L.length ≤ n
  | 0, L, _, h => by
    cases L with
    | nil => simp
    | cons a L => have := h a (by simp); omega
  | n + 1, L, hn, h => by
    have ih := nodup_bound n (L.erase n) (hn.erase n) (fun x hx => by
      have h1 := h x (List.mem_of_mem_erase hx)
      have h2 : x ≠ n := fun e => by subst e; exact (List.Nodup.not_mem_erase hn) hx
      omega)
    by_cases hm : n ∈ L
    · rw [List.length_erase_of_mem hm] at ih; omega
    · rw [List.erase_of_not_mem hm] at ih; omega
theorem dist_bound (row : List Itm) (n : Nat) (d : Dist row) (h : ∀ j, j < row.length → 0 ≤ (gt row j).1 ∧ (gt row j).1 < n) : row.length ≤ n := by
  have := nodup_bound n ((List.range row.length).map fun j => (gt row j).1.toNat) (by
    refine List.pairwise_map.2 (List.Pairwise.imp_of_mem ?_ List.nodup_range)
    intro a b ha hb hne e
    rw [List.mem_range] at ha hb
    have h1 := h a ha; have h2 := h b hb
    exact hne (d a b ha hb (by omega))) (by
    intro x hx
    obtain ⟨j, hj, rfl⟩ := List.mem_map.1 hx
    rw [List.mem_range] at hj
    have := h j hj; omega)
  simpa using this

theorem HP.move {W W' : World} {base g b : Nat} {v : Value} {row : List Itm} {mp : Int → Option Int} (h : HP W base g b v row mp) (hm : ∀ k, base ≤ k → k < W.heap.size → W'.heap[k]? = W.heap[k]?) : HP W' base g b v row mp :=
  ⟨(hm g h.bg (blk_lt h.hg)).trans h.hg, own_move h.hv (fun k hk => hm k (own_base h.hv k hk) (by obtain ⟨c, hc⟩ := own_typed h.hv k hk; exact blk_lt hc)), h.hb.move (hm b h.bb h.hb.lt), h.bg, h.bb⟩

structure FS (L : List BFT.Arc) (N : Nat) (WW s : Int) (w W : World) (B0 gd gn g b : Nat) (rd0 rn : List Value) (C : BFT.Arc → Prop) (d : List Int) (dn : List Bool) (row : List Itm) (mp hk : Int → Option Int) (v : Value) (top : Int) : Prop where
  dj : BFT.DJ L N WW s d dn hk C top
  hi : HInv row mp hk
  hp : HP W B0 g b v row mp
  hd : W.heap[gd]? = some (.cells (d.map (Value.int .i64) ++ rd0).toArray 3 (0, 0))
  hn : W.heap[gn]? = some (.cells (dn.map Value.bool ++ rn).toArray 4 (0, 0))
  bl : Below w.heap.size w W
section
variable {L : List BFT.Arc} {N : Nat} {WW s : Int} {w W W' : World} {B0 gd gn g b : Nat} {rd0 rn : List Value} {C : BFT.Arc → Prop} {d : List Int} {dn : List Bool} {row : List Itm} {mp hk : Int → Option Int} {v : Value} {top : Int}
theorem FS.step (h : FS L N WW s w W B0 gd gn g b rd0 rn C d dn row mp hk v top) (hb : Below W.heap.size W W') : FS L N WW s w W' B0 gd gn g b rd0 rn C d dn row mp hk v top :=
  ⟨h.dj, h.hi, h.hp.step hb, blk_below h.hd hb, blk_below h.hn hb, below_step h.bl hb⟩
theorem FS.drew (h : FS L N WW s w W B0 gd gn g b rd0 rn C d dn row mp hk v top) : FS L N WW s w W.drew B0 gd gn g b rd0 rn C d dn row mp hk v top := h.step (below_drew (Below.refl _ _))
theorem FS.key (h : FS L N WW s w W B0 gd gn g b rd0 rn C d dn row mp hk v top) {j : Nat} (hj : j < row.length) : 0 ≤ (gt row j).1 ∧ (gt row j).1 < N := by
  have h1 := (h.hi.holds (gt row j).1 (gt row j).2).2 ⟨j, hj, rfl⟩
  rw [h.dj.heap] at h1
  split at h1
  · rename_i q; exact ⟨q.1, q.2.1⟩
  · cases h1
theorem FS.rows (h : FS L N WW s w W B0 gd gn g b rd0 rn C d dn row mp hk v top) : row.length ≤ N := dist_bound row N h.hi.dist (fun j hj => h.key hj)
theorem FS.cd (h : FS L N WW s w W B0 gd gn g b rd0 rn C d dn row mp hk v top) (i : Int) (h0 : 0 ≤ i) (h1 : i < N) : W.cell? ⟨gd, i.toNat, none⟩ = some (.int .i64 (BFT.rd d i)) ∧ W.frozen? ⟨gd, i.toNat, none⟩ = false := by
  refine ⟨cell_of_block h.hd _ _ ?_, frozen_of_block h.hd _⟩
  have : i.toNat < d.length := by rw [h.dj.dlen]; omega
  rw [List.getElem?_append_left (by simpa using this), List.getElem?_map, List.getElem?_eq_getElem this]
  unfold BFT.rd; rw [List.getD_eq_getElem?_getD, List.getElem?_eq_getElem this]; rfl
theorem FS.cn (h : FS L N WW s w W B0 gd gn g b rd0 rn C d dn row mp hk v top) (i : Int) (h0 : 0 ≤ i) (h1 : i < N) : W.cell? ⟨gn, i.toNat, none⟩ = some (.bool (BFT.rb dn i)) ∧ W.frozen? ⟨gn, i.toNat, none⟩ = false := by
  refine ⟨cell_of_block h.hn _ _ ?_, frozen_of_block h.hn _⟩
  have : i.toNat < dn.length := by rw [h.dj.nlen]; omega
  rw [List.getElem?_append_left (by simpa using this), List.getElem?_map, List.getElem?_eq_getElem this]
  unfold BFT.rb; rw [List.getD_eq_getElem?_getD, List.getElem?_eq_getElem this]; rfl
theorem set_app {α : Type} (xs : List α) (f : α → Value) (r : List Value) (i : Nat) (x : α) (h : i < xs.length) : (xs.map f ++ r).set i (f x) = (xs.set i x).map f ++ r := by
  rw [List.set_append, if_pos (by simpa using h), List.map_set]
end

theorem take_succ_ {L : List BFT.Arc} {j : Nat} {a : BFT.Arc} {x : Int} (h : L[j]? = some a) : ∀ b, (b.fr ≠ x ∨ b ∈ L.take (j + 1)) → (b.fr ≠ x ∨ b ∈ L.take j) ∨ b = a := by
  intro b hb
  rcases hb with hb | hb
  · exact .inl (.inl hb)
  · rw [List.take_add_one, h] at hb
    rcases List.mem_append.1 hb with hb | hb
    · exact .inl (.inr hb)
    · right; simpa using hb
theorem skipC_ {L : List BFT.Arc} {j : Nat} {a : BFT.Arc} {x : Int} (h : L[j]? = some a) : ∀ b, (b.fr ≠ x ∨ b ∈ L.take (j + 1)) → (b.fr ≠ x ∨ b ∈ L.take j) ∨ (b = a ∧ a.fr = x) := by
  intro b hb
  rcases take_succ_ h b hb with hb | rfl
  · exact .inl hb
  · by_cases e : b.fr = x
    · exact .inr ⟨rfl, e⟩
    · exact .inl (.inl e)
theorem rb_self {dn : List Bool} {x : Int} (h0 : 0 ≤ x) (h1 : x.toNat < dn.length) : BFT.rb (dn.set x.toNat true) x = true := by
  rw [BFT.rb_set dn x true x h0 (by omega) h0, if_pos rfl]
theorem DJ_weaken {l : List BFT.Arc} {n : Nat} {W s : Int} {d : List Int} {dn : List Bool} {hk : Int → Option Int} {C C' : BFT.Arc → Prop} {top : Int} (h : BFT.DJ l n W s d dn hk C top) (hC : ∀ a ∈ l, C' a → C a) : BFT.DJ l n W s d dn hk C' top :=
  ⟨h.dlen, h.nlen, h.att, h.zero, h.bnd, h.doneF, h.opens, fun a ha c k => h.rel a ha c (hC a ha k), h.heap⟩
theorem top_le {N m : Nat} {WW top : Int} (hN : N ≤ 300) (hW0 : 0 ≤ WW) (hW1 : WW ≤ 1099511627776) (h : top ≤ ((N - m : Nat) : Int) * WW) : top ≤ 300 * 1099511627776 := by
  have : ((N - m : Nat) : Int) * WW ≤ 300 * 1099511627776 := Int.mul_le_mul (by omega) hW1 hW0 (by omega)
  omega
theorem top_up {N m m' : Nat} {WW top r : Int} (hs : m' + 1 = m) (hm : m ≤ N) (hr : r ≤ top + WW) (h : top ≤ ((N - m : Nat) : Int) * WW) : r ≤ ((N - m' : Nat) : Int) * WW := by
  have e : ((N - m' : Nat) : Int) = ((N - m : Nat) : Int) + 1 := by omega
  rw [e, Int.add_mul]; omega
theorem top_far {N m : Nat} {WW top : Int} (hN : N ≤ 300) (hW0 : 0 ≤ WW) (hW1 : WW ≤ 1099511627776) (h : top ≤ ((N - m : Nat) : Int) * WW) : top + WW < BFT.Far := by
  have := top_le hN hW0 hW1 h
  unfold BFT.Far; omega

set_option maxHeartbeats 4000000 in
set_option maxRecDepth 100000 in
theorem from_calls (N : Nat) (A : Option Addr) (c : Nat) (l : List S30) (s : Int) (WW : Int) (w : World) (hr : Kd.C k30 w A l.length l) (hN1 : 1 ≤ N) (hN2 : N ≤ 300) (hs0 : 0 ≤ s) (hs1 : s < N) (hW0 : 0 ≤ WW) (hW1 : WW ≤ 1099511627776) (hok : BFT.Okn N WW (l.map toA)) (hF : ((N : Int) + 1) * ((l.length : Int) * WW) < BFT.Far) (hll : l.length ≤ 1073741824) :
    Calls Try.prog 16 #[.int .i64 N, .slice A l.length c, .int .i64 s] w fun e w' => ∃ (v0 : Value) (d : List Int), e = .returned v0 ∧ d.length = N ∧ BFT.IsDist (BFT.EE (l.map toA)) s N BFT.Far (BFT.rd d) ∧ Kd.R (Kd.int .i64) 3 w' w.heap.size (fun _ => True) v0 d ∧ Below w.heap.size w w' := by
  have hu := Try.underlying30
  have hu2 := Try.underlying52
  have HFi := Aside0.mk (fine_calls N A c l s w hr hll (fun x hx => by
    have := hok (toA x) (List.mem_map.2 ⟨x, hx, rfl⟩)
    obtain ⟨h1, h2, h3, h4, h5, h6⟩ := this
    exact ⟨h1, h2, h3, h4, by show (-1099511627776 : Int) ≤ (toA x).len; omega, by show (toA x).len ≤ 1099511627776; omega⟩) (by omega) (by omega) hs0 hs1)
  have HR := Aside0.mk hr
  have HF := Aside0.mk hF
  have HOK := Aside0.mk hok
  clear hr hF hok
  go_enter Try.func16, Try.ntmps16
  go_wp2_with fail
  go_step3
  go_wp2_with fail
  refine HFi.out.mono ?_
  rintro e w1 ⟨rfl, hb1⟩
  have HB1 := Aside0.mk hb1
  clear hb1 HFi
  go_wp2_with fail
  refine (path_begin.calls N s (BFT.d0 N s) w1 (begin_eq N s hs0 hs1 hN2)).mono ?_
  rintro e w2 ⟨v0, rfl, ho2, hb2⟩
  obtain ⟨gd, cd, rd0, rfl, hgd, -, hd2, hcd1, hcd2⟩ := block_of_R ho2 (.inr (by rw [BFT.d0_length]; omega))
  rw [BFT.d0_length] at *
  have HB2 := Aside0.mk (below_step HB1.out hb2)
  have HD2 := Aside0.mk hd2
  have HG2 := Aside0.mk (show w.heap.size ≤ gd by have := HB1.out.size; omega)
  have HC2 := Aside0.mk (And.intro hcd1 hcd2)
  clear ho2 hb2 hd2 hcd1 hcd2 hgd
  go_wp2_with ((with_reducible refine gate_dst (N := 23) rfl ?_); refine Kd.R_make Kd.bool _ 4 rfl (N := 23) rfl 47 _ _ rfl (N : Int) rfl rfl Try.underlying47 (.bool false) 1 info4 rfl (by decide) (by omega) false (ok := fun _ => True) (okp := fun _ => True) rfl (fun _ hk => hk) trivial (by omega) (by omega) (Below.refl _ _) (Nat.le_refl _) ?_; intro v3 w3 ho3 hb3 hg3 hnew3; clear hg3 hnew3)
  obtain ⟨gn, cn, rn, rfl, hgn, hn3, hcn⟩ := block_of_Rb ho3 (by simp; omega)
  have hlr : (List.replicate ((N : Int)).toNat false).length = N := by simp
  rw [hlr] at hcn
  have HN3 := Aside0.mk hn3
  have HD3 := Aside0.mk (blk_below HD2.out hb3)
  have HB3 := Aside0.mk (below_step HB2.out hb3)
  have HGN := Aside0.mk (show w.heap.size ≤ gn by have := HB2.out.size; omega)
  have HLT := Aside0.mk (And.intro (blk_lt hn3) (blk_lt (blk_below HD2.out hb3)))
  have HCN := Aside0.mk hcn
  clear ho3 hb3 hn3 hgn hcn
  simp only [hlr]
  refine (new_calls w3).mono ?_
  rintro e w4 ⟨g, b, rfl, hp4, hb4⟩
  have HP4 := Aside0.mk hp4
  have HB4 := Aside0.mk hb4
  have HPut := Aside0.mk (put_calls w3.heap.size g b _ [] (fun _ => none) s 0 w4 hp4 hs0 (by omega) (fun a h => by cases h) (by simp) hb4.size)
  clear hp4 hb4
  go_wp2_with fail
  refine HPut.out.mono ?_
  rintro e w5 ⟨v5, rfl, hp5, hb5, -⟩
  have hdj := BFT.DJ.start (l.map toA) N WW s hW0 hs0 hs1
  have hinv := HInv.put HInv.new s 0
  have hb35 : Below w3.heap.size w3 w5 := HB4.out.trans hb5
  have HFS := Aside0.mk (show FS (l.map toA) N WW s w w5 w3.heap.size gd gn g b rd0 rn (fun _ => True) (BFT.d0 N s) (List.replicate N false) _ _ _ v5 0 from ⟨hdj, hinv, hp5, (hb35.block gd HLT.out.2).trans HD3.out, (hb35.block gn HLT.out.1).trans (by rw [HN3.out]; simp), below_step HB3.out hb35⟩)
  clear hp5 hb5 hdj hinv hb35 HP4 HB4 HPut
  go_wp2_with fail
  go_wp2_with fail
  go_step3
  go_wp2_with fail
  clear hu hu2
  go_loopg [11] (N + 1) (fun kq u W => ∃ (d : List Int) (dn : List Bool) (row : List Itm) (mp hk : Int → Option Int) (v : Value) (top : Int), Aside0 (BFT.ndone dn < kq) ∧ Aside0 (BFT.ndone dn ≤ N) ∧ Aside0 (top ≤ ((N - BFT.ndone dn : Nat) : Int) * WW) ∧ Aside0 (FS (l.map toA) N WW s w W w3.heap.size gd gn g b rd0 rn (fun _ => True) d dn row mp hk v top))
  case atStart => exact ⟨_, _, _, _, _, _, _, ⟨by simp [BFT.ndone]⟩, ⟨by simp [BFT.ndone]⟩, ⟨by simp [BFT.ndone]⟩, HFS⟩
  case round =>
    obtain ⟨d, dn, row, mp, hk, v, top, HND, HNN, HTP, HS⟩ := hrel
    clear HFS
    have hu := Try.underlying30
    have hu2 := Try.underlying52
    cases gk with
    | zero => exact absurd HND.out (by omega)
    | succ k1 =>
      by_cases hz : row.length = 0
      · have HTk := Aside0.mk (take_none w3.heap.size g b v row mp wr HS.out.hp hz)
        have HEm := Aside0.mk (fun k => HS.out.hi.none hz k)
        clear hz
        go_wp2_with fail
        refine HTk.out.mono ?_
        rintro e w6 ⟨rfl, hb6⟩
        have HS6 := Aside0.mk (HS.out.step hb6)
        clear hb6
        go_wp2_with fail
        rw [Exit.noGoto_ret]
        go_ret
        have H7 := HS6.out.step (below_alloc (Below.refl w6.heap.size w6) (.cells #[.int .i64 0, .int .i64 0] 52))
        have hdl := H7.dj.dlen
        refine ⟨.slice (some ⟨gd, 0, none⟩) N cd, d, rfl, hdl, H7.dj.done HOK.out (top_far hN2 hW0 hW1 HTP.out) HEm.out, ?_, H7.bl⟩
        have := R_of_block (W := w6.alloc (.cells #[.int .i64 0, .int .i64 0] 52)) (ok := fun _ => True) H7.hd HG2.out (by rw [hdl]; exact HC2.out.1) HC2.out.2 trivial
        rw [hdl] at this
        exact this
      · obtain ⟨x, hx⟩ : ∃ x, gt row 0 = x := ⟨_, rfl⟩
        have hn0 : 0 < row.length := by omega
        obtain ⟨hl1, hl2, hl3⟩ := HS.out.hi.least hn0
        have hdrop := HS.out.hi.drop hn0
        rw [hx] at hl1 hl2 hl3 hdrop
        obtain ⟨x0, x1, xd, xr, xF, xt, xb, hdj⟩ := HS.out.dj.take HOK.out hl1 (fun k r hr => hl3 k r hr)
        have hrl := HS.out.rows
        have HTk := Aside0.mk (take_some w3.heap.size g b v row mp x wr HS.out.hp hn0 hx x0 (by omega) hl2 (by omega) (by have := HS.out.hp; exact Nat.le_of_lt (Nat.lt_of_le_of_lt HS.out.hp.bg (blk_lt HS.out.hp.hg))))
        have hnl := HS.out.dj.nlen
        have hnd := BFT.ndone_set dn x.1.toNat (by rw [hnl]; omega) xd
        have HX2 := Aside0.mk (show 0 ≤ x.2 ∧ x.2 ≤ 301 * 1099511627776 by have h1 := HS.out.dj.bnd x.1 x0 x1; have h2 := top_le hN2 hW0 hW1 HTP.out; rw [← xr] at h1; rcases h1 with h1 | h1; exact absurd h1 xF; omega)
        have HDJ := Aside0.mk hdj
        have HDR := Aside0.mk hdrop
        have HXR := Aside0.mk xr
        have HNS := Aside0.mk hnd
        have HXB := Aside0.mk xb
        have HX := Aside0.mk hx
        have x1' : x.1.toNat < N := by omega
        have q1 : decide (0 ≤ x.1) = true := decide_eq_true x0
        have q2 : decide (x.1 < N) = true := decide_eq_true x1
        clear hz hl1 hl2 hl3 hdj hdrop xr xt xb hnd hrl hnl hx xF xd hn0
        go_wp2_with fail
        refine HTk.out.mono ?_
        rintro e w6 ⟨v6, rfl, hp6, hb6⟩
        have hb7 := below_alloc (Below.refl w6.heap.size w6) (.cells #[.int .i64 x.1, .int .i64 x.2] 52)
        have HP7 := Aside0.mk (hp6.step hb7)
        have HD7 := Aside0.mk (blk_below ((hb6.block gd HLT.out.2).trans HS.out.hd) hb7)
        have HN7 := Aside0.mk (blk_below ((hb6.block gn HLT.out.1).trans HS.out.hn) hb7)
        have HBL7 := Aside0.mk (below_step (HS.out.bl.trans (hb6.mono (by have := HG2.out; have := HLT.out.2; have := HB3.out.size; omega))) hb7)
        have HX7 := Aside0.mk (heap_alloc_new w6 (.cells #[.int .i64 x.1, .int .i64 x.2] 52))
        have HGX := Aside0.mk (show w3.heap.size ≤ w6.heap.size ∧ gn ≠ w6.heap.size ∧ gd ≠ w6.heap.size by have h1 := hb6.size; have h2 := blk_lt HS.out.hp.hg; have h3 := HS.out.hp.bg; have h4 := HLT.out; omega)
        have HSX := Aside0.mk (hb6.size)
        have HOW0 := Aside0.mk (show some w6.heap.size ≠ v6.ownBlock from fun e => by obtain ⟨_, hc⟩ := own_typed hp6.hv _ e.symm; have := blk_lt hc; omega)
        clear hp6 hb6 hb7 HTk
        go_upto_region 10 with (fail)
        obtain ⟨w7, hw7⟩ : ∃ w7, w7 = w6.alloc (.cells #[.int .i64 x.1, .int .i64 x.2] 52) := ⟨_, rfl⟩
        obtain ⟨gx, hgx⟩ : ∃ gx, gx = w6.heap.size := ⟨_, rfl⟩
        rw [← hw7, ← hgx]
        rw [← hw7] at HP7 HD7 HN7 HBL7 HX7
        rw [← hgx] at HX7 HGX
        rw [← hgx] at HOW0
        have HOW := HOW0
        clear HOW0
        clear hw7 hgx HSX
        have hx0 : w7.cell? ⟨gx, 0, none⟩ = some (.int .i64 x.1) := (blk_cell HX7.out 0).trans rfl
        have hx1 : w7.cell? ⟨gx, 1, none⟩ = some (.int .i64 x.2) := (blk_cell HX7.out 1).trans rfl
        have hdl : x.1.toNat < dn.length := by rw [HS.out.dj.nlen]; omega
        have hnc : w7.cell? ⟨gn, x.1.toNat, none⟩ = some (.bool (dn.getD x.1.toNat false)) := cell_of_block HN7.out _ _ (by rw [List.getElem?_append_left (by simpa using hdl), List.getElem?_map, List.getElem?_eq_getElem hdl, List.getD_eq_getElem?_getD, List.getElem?_eq_getElem hdl]; rfl)
        have hnf := frozen_of_block HN7.out x.1.toNat
        have hdd := hdl
        clear hdl
        go_upto_region 11 with (fail)
        obtain ⟨w8, hw8⟩ : ∃ w8, w8 = w7.setCell ⟨gn, x.1.toNat, none⟩ (.bool true) := ⟨_, rfl⟩
        rw [← hw8]
        have HS8 := Aside0.mk (show FS (l.map toA) N WW s w w8 w3.heap.size gd gn g b rd0 rn (fun a => a.fr ≠ x.1) d (dn.set x.1.toNat true) (dropF row mp x.1).1 (dropF row mp x.1).2 (BFT.hdel hk x.1) v6 x.2 by
          rw [hw8]
          refine ⟨HDJ.out, HDR.out, HP7.out.move (fun k h1 _ => Below.heap_setCell _ _ _ _ (by have := HLT.out.1; show k ≠ gn; omega)), ?_, ?_, HBL7.out.setCell (p := ⟨gn, x.1.toNat, none⟩) HGN.out _⟩
          · exact blk_far (p := ⟨gn, x.1.toNat, none⟩) HD7.out (blk_ne HD7.out HN7.out (by decide)) _
          · have := blk_set HN7.out x.1.toNat (.bool true)
            rw [this, List.setIfInBounds_toArray, set_app dn Value.bool rn _ _ hdd])
        have HX8 := Aside0.mk (show w8.heap[gx]? = some (.cells #[.int .i64 x.1, .int .i64 x.2] 52 (0, 0)) by rw [hw8]; exact blk_far (p := ⟨gn, x.1.toNat, none⟩) HX7.out (by show gx ≠ gn; have := HGX.out.2.1; omega) _)
        clear hw8 hx0 hx1 hnc hnf HDJ HDR HP7 HD7 HN7 HBL7 HX7
        go_wp2_with fail
        go_loopw [42] (fun u W => ∃ (j : Nat) (d' : List Int) (row' : List Itm) (mp' hk' : Int → Option Int) (v' : Value), j ≤ l.length ∧ u = .int .i64 j ∧ Aside0 (BFT.rd d' x.1 = x.2) ∧ Aside0 (FS (l.map toA) N WW s w W w3.heap.size gd gn g b rd0 rn (fun a => a.fr ≠ x.1 ∨ a ∈ (l.map toA).take j) d' (dn.set x.1.toNat true) row' mp' hk' v' x.2) ∧ Aside0 (some gx ≠ v'.ownBlock) ∧ Aside0 (W.heap[gx]? = some (.cells #[.int .i64 x.1, .int .i64 x.2] 52 (0, 0)))) (fun u _ => l.length - (intOf u).toNat)
        case atStart => exact ⟨0, d, _, _, _, _, by omega, rfl, ⟨HXR.out.symm⟩, ⟨⟨DJ_weaken HS8.out.dj (fun a _ h => by rcases h with h | h; exact h; simp at h), HS8.out.hi, HS8.out.hp, HS8.out.hd, HS8.out.hn, HS8.out.bl⟩⟩, HOW, HX8⟩
        case round =>
          obtain ⟨j, d', row', mp', hk', v', hj, rfl, HRD, HSI, HOW, HXI⟩ := hrel
          clear HS8 HX8
          by_cases hlt : j < l.length
          · have q3 : decide ((j : Int) < l.length) = true := by simpa using hlt
            have q4 : decide ((0 : Int) ≤ j) = true := by simp
            obtain ⟨ad, rfl, ha0, ha1, ha2⟩ := at_T30 (Kd.C_below HR.out HSI.out.bl) (j : Int) (by omega) (by omega)
            have HW := Aside0.mk (show IntKind.i64.wrap ((j : Int) + 1) = ((j + 1 : Nat) : Int) by rw [i64_w]; unfold wrap64; omega)
            simp only [Int.toNat_natCast] at ha0 ha1 ha2
            obtain ⟨a, ha⟩ : ∃ a, rd_T30 l (j : Int) = a := ⟨_, rfl⟩
            rw [ha] at ha0 ha1 ha2
            have hlj : l[j]? = some a := by rw [← ha]; unfold rd_T30; rw [Int.toNat_natCast, List.getD_eq_getElem?_getD, List.getElem?_eq_getElem hlt]; rfl
            have hm : toA a ∈ l.map toA := List.mem_map.2 ⟨a, List.mem_of_getElem? hlj, rfl⟩
            obtain ⟨b0, b1, b2, b3, b4, b5⟩ := HOK.out (toA a) hm
            have HM := Aside0.mk hm
            have HTA := Aside0.mk (show (l.map toA)[j]? = some (toA a) by rw [List.getElem?_map, hlj]; rfl)
            have b0 : 0 ≤ a.f0 := b0
            have b1 : a.f0 < N := b1
            have b2 : 0 ≤ a.f1 := b2
            have b3 : a.f1 < N := b3
            have b4 : 0 ≤ a.f2 := b4
            have b5 : a.f2 ≤ WW := b5
            clear ha hlj hm
            have hb9 := below_alloc (Below.refl wr.heap.size wr) (.cells #[.int .i64 a.f0, .int .i64 a.f1, .int .i64 a.f2] 30)
            have HS9 := Aside0.mk (HSI.out.step hb9)
            have HX9 := Aside0.mk (blk_below HXI.out hb9)
            have HA9 := Aside0.mk (heap_alloc_new wr (.cells #[.int .i64 a.f0, .int .i64 a.f1, .int .i64 a.f2] 30))
            clear hb9
            go_upto_region 14 with (fail)
            obtain ⟨w9, hw9⟩ : ∃ w9, w9 = wr.alloc (.cells #[.int .i64 a.f0, .int .i64 a.f1, .int .i64 a.f2] 30) := ⟨_, rfl⟩
            obtain ⟨ga, hga⟩ : ∃ ga, ga = wr.heap.size := ⟨_, rfl⟩
            rw [← hw9, ← hga]
            rw [← hw9] at HS9 HX9 HA9
            rw [← hga] at HA9
            have HGA := Aside0.mk (show w3.heap.size ≤ ga by have h1 := blk_lt HSI.out.hp.hg; have h2 := HSI.out.hp.bg; omega)
            clear hw9 hga HSI HXI
            have hca0 : w9.cell? ⟨ga, 0, none⟩ = some (.int .i64 a.f0) := (blk_cell HA9.out 0).trans rfl
            have hca1 : w9.cell? ⟨ga, 1, none⟩ = some (.int .i64 a.f1) := (blk_cell HA9.out 1).trans rfl
            have hca2 : w9.cell? ⟨ga, 2, none⟩ = some (.int .i64 a.f2) := (blk_cell HA9.out 2).trans rfl
            have hcx0 : w9.cell? ⟨gx, 0, none⟩ = some (.int .i64 x.1) := (blk_cell HX9.out 0).trans rfl
            by_cases hax : a.f0 = x.1
            · have HAX := Aside0.mk hax
              rw [hax] at hca0
              obtain ⟨hdx, -⟩ := HS9.out.cd x.1 x0 x1
              rw [HRD.out] at hdx
              obtain ⟨hda, hdf⟩ := HS9.out.cd a.f1 b2 b3
              obtain ⟨hna, -⟩ := HS9.out.cn a.f1 b2 b3
              obtain ⟨y, hy⟩ : ∃ y, BFT.rd d' a.f1 = y := ⟨_, rfl⟩
              obtain ⟨zb, hzb⟩ : ∃ zb, BFT.rb (dn.set x.1.toNat true) a.f1 = zb := ⟨_, rfl⟩
              rw [hy] at hda
              rw [hzb] at hna
              have HY := Aside0.mk hy
              have HZB := Aside0.mk hzb
              have q5 : decide (0 ≤ a.f1) = true := decide_eq_true b2
              have q6 : decide (a.f1 < N) = true := decide_eq_true b3
              have q7 : a.f1.toNat < N := by omega
              have e1 : IntKind.i64.wrap (x.2 + a.f2) = x.2 + a.f2 := by rw [i64_w]; unfold wrap64; have := HX2.out; omega
              have HE1 := Aside0.mk e1
              clear hax hy hzb
              cases zb with
              | true =>
                go_wp2_with fail
                go_quiet (fail)
                go_wp2_with fail
                go_roundw
                case rel => exact ⟨j + 1, d', row', mp', hk', v', by omega, by first | rfl | (rw [HW.out]) | go_num, HRD, ⟨⟨by have h := HS9.out.dj; rw [← HRD.out] at h ⊢; exact h.skip HOK.out x0 x1 (rb_self x0 hdd) (toA a) HM.out (.inr (.inl HZB.out)) _ (skipC_ HTA.out), HS9.out.hi, (HS9.out.hp.step (pw_below_drewN (Below.refl _ _) _)), HS9.out.hd, HS9.out.hn, pw_below_drewN HS9.out.bl _⟩⟩, HOW, ⟨HX9.out⟩⟩
                case measure => simp [intOf]; omega
              | false =>
                by_cases hlt2 : x.2 + a.f2 < y
                · have q8 : decide (y ≤ x.2 + a.f2) = false := decide_eq_false (by omega)
                  have HLT2 := Aside0.mk hlt2
                  clear hlt2
                  go_wp2_with fail
                  go_quiet (fail)
                  obtain ⟨w10, hw10⟩ : ∃ w10, w10 = w9.drewN nq := ⟨_, rfl⟩
                  rw [← hw10]
                  have HS10 := Aside0.mk (show FS (l.map toA) N WW s w w10 w3.heap.size gd gn g b rd0 rn (fun a => a.fr ≠ x.1 ∨ a ∈ (l.map toA).take j) d' (dn.set x.1.toNat true) row' mp' hk' v' x.2 by rw [hw10]; exact HS9.out.step (pw_below_drewN (Below.refl _ _) _))
                  have HX10 := Aside0.mk (show w10.heap[gx]? = some (.cells #[.int .i64 x.1, .int .i64 x.2] 52 (0, 0)) by rw [hw10]; exact HX9.out)
                  have HA10 := Aside0.mk (show w10.heap[ga]? = some (.cells #[.int .i64 a.f0, .int .i64 a.f1, .int .i64 a.f2] 30 (0, 0)) by rw [hw10]; exact HA9.out)
                  clear hw10 hca0 hca1 hca2 hcx0 hdx hda hdf hna
                  have hca0 : w10.cell? ⟨ga, 0, none⟩ = some (.int .i64 x.1) := (blk_cell HA10.out 0).trans (by rw [← HAX.out]; rfl)
                  have hca1 : w10.cell? ⟨ga, 1, none⟩ = some (.int .i64 a.f1) := (blk_cell HA10.out 1).trans rfl
                  have hca2 : w10.cell? ⟨ga, 2, none⟩ = some (.int .i64 a.f2) := (blk_cell HA10.out 2).trans rfl
                  obtain ⟨hdx, -⟩ := HS10.out.cd x.1 x0 x1
                  rw [HRD.out] at hdx
                  obtain ⟨hda, hdf⟩ := HS10.out.cd a.f1 b2 b3
                  rw [HY.out] at hda
                  go_wp2_with fail
                  refine wp_region_still_tail 12 (by kernel_rfl) (by kernel_rfl) ?_
                  simp only [List.take_succ_cons, List.take_zero, List.drop_succ_cons, List.drop_zero]
                  change wpStill _ _ (World.drew _) _ _ _
                  repeat still_step
                  refine wpStill_nil ?_
                  change wpList _ _ _ _ _ (World.drew _)
                  go_upto_region 16 with (fail)
                  obtain ⟨w11, hw11⟩ : ∃ w11, w11 = (w10.setCell ⟨gd, a.f1.toNat, none⟩ (.int .i64 (x.2 + a.f2))).drew := ⟨_, rfl⟩
                  rw [← hw11]
                  have hrx := HS10.out.dj
                  rw [← HRD.out] at hrx
                  have hrl := hrx.relax HOK.out x0 x1 (rb_self x0 hdd) (toA a) HM.out (by rw [HRD.out]; have := HX2.out; unfold BFT.Far; omega) HAX.out HZB.out (by show BFT.rd d' a.f0 + a.f2 < BFT.rd d' a.f1; rw [HAX.out, HRD.out, HY.out]; exact HLT2.out) (fun b => b.fr ≠ x.1 ∨ b ∈ (l.map toA).take (j + 1)) (take_succ_ HTA.out)
                  rw [show BFT.rd d' (toA a).fr + (toA a).len = x.2 + a.f2 by show BFT.rd d' a.f0 + a.f2 = _; rw [HAX.out, HRD.out], HRD.out] at hrl
                  have HRL := Aside0.mk hrl
                  have hne1 : a.f1.toNat < d'.length := by rw [HS10.out.dj.dlen]; omega
                  have HP11 := Aside0.mk (show HP w11 w3.heap.size g b v' row' mp' by rw [hw11]; exact (HS10.out.hp.move (fun k h1 _ => Below.heap_setCell w10 ⟨gd, a.f1.toNat, none⟩ (.int .i64 (x.2 + a.f2)) k (by have := HLT.out.2; show k ≠ gd; omega))).drew)
                  have HD11 := Aside0.mk (show w11.heap[gd]? = some (.cells ((d'.set a.f1.toNat (x.2 + a.f2)).map (Value.int .i64) ++ rd0).toArray 3 (0, 0)) by
                    rw [hw11]
                    have := blk_set HS10.out.hd a.f1.toNat (.int .i64 (x.2 + a.f2))
                    rw [List.setIfInBounds_toArray, set_app d' (Value.int .i64) rd0 _ _ hne1] at this
                    exact this)
                  have HN11 := Aside0.mk (show w11.heap[gn]? = some (.cells ((dn.set x.1.toNat true).map Value.bool ++ rn).toArray 4 (0, 0)) by rw [hw11]; exact blk_drew (blk_far (p := ⟨gd, a.f1.toNat, none⟩) HS10.out.hn (blk_ne HS10.out.hn HS10.out.hd (by decide)) _))
                  have HBL11 := Aside0.mk (show Below w.heap.size w w11 by rw [hw11]; exact below_drew (HS10.out.bl.setCell (p := ⟨gd, a.f1.toNat, none⟩) HG2.out _))
                  have HX11 := Aside0.mk (show w11.heap[gx]? = some (.cells #[.int .i64 x.1, .int .i64 x.2] 52 (0, 0)) by rw [hw11]; exact blk_drew (blk_far (p := ⟨gd, a.f1.toNat, none⟩) HX10.out (by show gx ≠ gd; have := HGX.out.2.2; omega) _))
                  have HA11 := Aside0.mk (show w11.heap[ga]? = some (.cells #[.int .i64 a.f0, .int .i64 a.f1, .int .i64 a.f2] 30 (0, 0)) by rw [hw11]; exact blk_drew (blk_far (p := ⟨gd, a.f1.toNat, none⟩) HA10.out (by show ga ≠ gd; have := HLT.out.2; have := HGA.out; omega) _))
                  have HHI := Aside0.mk (HS10.out.hi.put a.f1 (x.2 + a.f2))
                  have HRW := Aside0.mk HS10.out.rows
                  have HPL := Aside0.mk (fun (q : Int) (hq : mp' a.f1 = some q) => (show 0 ≤ q ∧ q < row'.length from ⟨(HS10.out.hi.place hq).1, (HS10.out.hi.place hq).2.1⟩))
                  clear hca0 hca1 hca2 hdx hda hdf hw11 hrx hrl HS10 HX10 HA10
                  have HPut := Aside0.mk (put_calls w3.heap.size g b v' row' mp' a.f1 (x.2 + a.f2) w11.drew HP11.out.drew b2 (by omega) HPL.out (by have := HRW.out; omega) (Nat.le_of_lt (Nat.lt_of_le_of_lt HP11.out.bg (blk_lt HP11.out.hg))))
                  have hca1 : w11.cell? ⟨ga, 1, none⟩ = some (.int .i64 a.f1) := (blk_cell HA11.out 1).trans rfl
                  have hda : w11.cell? ⟨gd, a.f1.toNat, none⟩ = some (.int .i64 (x.2 + a.f2)) := cell_of_block HD11.out _ _ (by rw [List.getElem?_append_left (by simpa using hne1), List.getElem?_map, List.getElem?_set_self hne1]; rfl)
                  clear hne1
                  go_wp2_with fail
                  refine wp_region_still_tail 8 (by kernel_rfl) (by kernel_rfl) ?_
                  simp only [List.take_succ_cons, List.take_zero, List.drop_succ_cons, List.drop_zero]
                  change wpStill _ _ (World.drew _) _ _ _
                  repeat still_step
                  refine wpStill_nil ?_
                  change wpList _ _ _ _ _ (World.drew _)
                  go_wp2_with fail
                  refine HPut.out.mono ?_
                  rintro e w12 ⟨v12, rfl, hp12, hb12, hm12, hat12⟩
                  have HS12 := Aside0.mk (show FS (l.map toA) N WW s w w12 w3.heap.size gd gn g b rd0 rn (fun b => b.fr ≠ x.1 ∨ b ∈ (l.map toA).take (j + 1)) (d'.set a.f1.toNat (x.2 + a.f2)) (dn.set x.1.toNat true) _ _ _ v12 x.2 from ⟨HRL.out.2, HHI.out, hp12, (hb12.block gd HLT.out.2).trans HD11.out, (hb12.block gn HLT.out.1).trans HN11.out, (below_drew HBL11.out).trans (hb12.mono (by have := HG2.out; have := HLT.out.2; omega))⟩)
                  have HOW12 := Aside0.mk (show some gx ≠ v12.ownBlock by
                    rcases hat12 with h | ⟨q, h, hq⟩
                    · rw [h]; exact HOW.out
                    · rw [h]; intro e; cases e; exact absurd (blk_lt HX11.out) (Nat.not_lt.mpr hq))
                  have HX12 := Aside0.mk (blk_mod (blk_drew HX11.out) hm12 (fun h => by
                    rcases h with h | h | h
                    · exact blk_ne HX11.out HP11.out.hg (by decide) h
                    · exact HOW.out h
                    · obtain ⟨es, cl, h1, _⟩ := HP11.out.hb; rw [← h, HX11.out] at h1; cases h1))
                  have HRD12 := Aside0.mk (HRL.out.1)
                  clear hp12 hb12 hm12 hat12 hda hca1 HP11 HD11 HN11 HBL11 HX11 HA11 HHI HRW HPL HRL
                  go_wp2_with fail
                  go_roundw
                  case rel => exact ⟨j + 1, _, _, _, _, _, by omega, by first | rfl | (rw [HW.out]) | go_num, HRD12, HS12, HOW12, HX12⟩
                  case measure => simp [intOf]; omega
                · have q8 : decide (y ≤ x.2 + a.f2) = true := decide_eq_true (by omega)
                  have HLT2 := Aside0.mk (show y ≤ x.2 + a.f2 by omega)
                  clear hlt2
                  go_wp2_with fail
                  go_quiet (fail)
                  go_wp2_with fail
                  go_roundw
                  case rel => exact ⟨j + 1, d', row', mp', hk', v', by omega, by first | rfl | (rw [HW.out]) | go_num, HRD, ⟨⟨by have h := HS9.out.dj; rw [← HRD.out] at h ⊢; exact h.skip HOK.out x0 x1 (rb_self x0 hdd) (toA a) HM.out (.inr (.inr (by show ¬ (BFT.rd d' a.f0 + a.f2 < BFT.rd d' a.f1); rw [HAX.out, HRD.out, HY.out]; have := HLT2.out; omega))) _ (skipC_ HTA.out), HS9.out.hi, (HS9.out.hp.step (pw_below_drewN (Below.refl _ _) _)), HS9.out.hd, HS9.out.hn, pw_below_drewN HS9.out.bl _⟩⟩, HOW, ⟨HX9.out⟩⟩
                  case measure => simp [intOf]; omega
            · have q5 : (a.f0 != x.1) = true := bne_iff_ne.mpr hax
              have q6 : (a.f0 == x.1) = false := beq_eq_false_iff_ne.mpr hax
              have HAX := Aside0.mk hax
              clear hax
              go_wp2_with fail
              go_quiet (fail)
              go_wp2_with fail
              go_roundw
              case rel => exact ⟨j + 1, d', row', mp', hk', v', by omega, by first | rfl | (rw [HW.out]) | go_num, HRD, ⟨⟨by have h := HS9.out.dj; rw [← HRD.out] at h ⊢; exact h.skip HOK.out x0 x1 (rb_self x0 hdd) (toA a) HM.out (.inl HAX.out) _ (skipC_ HTA.out), HS9.out.hi, (HS9.out.hp.step (pw_below_drewN (Below.refl _ _) _)), HS9.out.hd, HS9.out.hn, pw_below_drewN HS9.out.bl _⟩⟩, HOW, ⟨HX9.out⟩⟩
              case measure => simp [intOf]; omega
          · have q3 : decide ((j : Int) < l.length) = false := by simpa using hlt
            obtain rfl : j = l.length := by omega
            go_wp2_with fail
            go_roundg k1
            case measure => omega
            case rel => exact ⟨d', dn.set x.1.toNat true, row', mp', hk', v', x.2, ⟨by have := HNS.out; have := HND.out; omega⟩, ⟨by have := HNS.out; have := HNN.out; omega⟩, ⟨top_up HNS.out HNN.out HXB.out HTP.out⟩, ⟨⟨DJ_weaken HSI.out.dj (fun a hm _ => by
              right; rw [List.take_of_length_le (by simp)]; exact hm), HSI.out.hi, HSI.out.hp, HSI.out.hd, HSI.out.hn, HSI.out.bl⟩⟩⟩
end Go.Proofs.Ytpkhdipedmihgaa.P
