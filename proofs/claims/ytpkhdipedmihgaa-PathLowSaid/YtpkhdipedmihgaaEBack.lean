/- path.back: of each place how far it is to t, and by how many arcs. -/
import Derived.Test.YtpkhdipedmihgaaERepeatR
import Derived.Test.YtpkhdipedmihgaaYFrom
import Derived.Test.YtpkhdipedmihgaaPx19
import Derived.Deep.RegionHeld3
namespace Go.Proofs.Ytpkhdipedmihgaa.P
open Go.RowKit Go.Proofs.YtpkhdipedmihgaaW.PrintWords Go.Proofs.YtpkhdipedmihgaaW.PrintLast Go.Proofs.YtpkhdipedmihgaaW.PrintMore
set_option linter.unusedVariables false
set_option linter.unusedSimpArgs false

def farI : Itm := (1152921504606846976, 1152921504606846976)
def bkX (x : Itm) (a : S30) : Itm := (wrap64 (x.1 + a.f2), wrap64 (x.2 + 1))
def isFar (x : Itm) : Bool := x.1 == 1152921504606846976 && x.2 == 1152921504606846976
def nearer (x y : Itm) : Bool := decide (x.1 < y.1 ∨ (x.1 = y.1 ∧ x.2 < y.2))
def bkS (out : List Itm) (a : S30) : List Itm × Bool :=
  if isFar (out.getD a.f1.toNat zI) = true then (out, false)
  else if nearer (bkX (out.getD a.f1.toNat zI) a) (out.getD a.f0.toNat zI) = true then (out.set a.f0.toNat (bkX (out.getD a.f1.toNat zI) a), true) else (out, false)
def bkP : List S30 → List Itm → Bool → List Itm × Bool
  | [], out, g => (out, g)
  | a :: t, out, g => bkP t (bkS out a).1 (g || (bkS out a).2)
def bkL (l : List S30) : Nat → List Itm → Option (List Itm)
  | 0, _ => none
  | k + 1, out => if (bkP l out false).2 = true then bkL l k (bkP l out false).1 else some (bkP l out false).1
theorem bkS_len (out : List Itm) (a : S30) : (bkS out a).1.length = out.length := by
  unfold bkS; split
  · rfl
  · split <;> simp
theorem far_calls (w : World) : Calls Try.prog 41 #[] w fun e w' => e = .returned (.agg #[.int .i64 1152921504606846976, .int .i64 1152921504606846976]) ∧ Below w.heap.size w w' := path_far.calls _ _ w rfl
theorem row2_at {W : World} {g e : Nat} {row : List Itm} {rest : List Value} (h : W.heap[g]? = some (.cells (flatI row ++ rest).toArray e (0, 0))) (i : Nat) (hi : i < row.length) :
    W.cell? ⟨g, i * 2, none⟩ = some (.int .i64 (row.getD i zI).1) ∧ W.cell? ⟨g, i * 2 + 1, none⟩ = some (.int .i64 (row.getD i zI).2) ∧ W.frozen? ⟨g, i * 2, none⟩ = false ∧ W.frozen? ⟨g, i * 2 + 1, none⟩ = false := by
  obtain ⟨h1, h2⟩ := flatI_get zI row i hi rest
  rw [Nat.mul_comm] at h1 h2
  exact ⟨cell_of_block h _ _ h1, cell_of_block h _ _ h2, frozen_of_block h _, frozen_of_block h _⟩
theorem row2_set {W : World} {g e : Nat} {row : List Itm} {rest : List Value} (h : W.heap[g]? = some (.cells (flatI row ++ rest).toArray e (0, 0))) (i : Nat) (hi : i < row.length) (x : Itm) :
    ((W.setCell ⟨g, i * 2, none⟩ (.int .i64 x.1)).setCell ⟨g, i * 2 + 1, none⟩ (.int .i64 x.2)).heap[g]? = some (.cells (flatI (row.set i x) ++ rest).toArray e (0, 0)) := by
  have := blk_set (blk_set h (i * 2) (.int .i64 x.1)) (i * 2 + 1) (.int .i64 x.2)
  rw [this, List.setIfInBounds_toArray, List.setIfInBounds_toArray, Nat.mul_comm, flatI_set row i x rest hi]

set_option maxHeartbeats 4000000 in
set_option maxRecDepth 100000 in
theorem back_calls (k N : Nat) (A : Option Addr) (c : Nat) (l : List S30) (t : Int) (res : List Itm) (w : World) (hr : Kd.C k30 w A l.length l) (hN : N ≤ 1000000) (ht0 : 0 ≤ t) (ht1 : t < N) (hl : l.length ≤ 1073741824) (hin : ∀ a ∈ l, 0 ≤ a.f0 ∧ a.f0 < N ∧ 0 ≤ a.f1 ∧ a.f1 < N)
    (h : bkL l k ((List.replicate N farI).set t.toNat (0, 0)) = some res) :
    Calls Try.prog 40 #[.int .i64 N, .slice A l.length c, .int .i64 t] w fun e w' => ∃ g cap rest, e = .returned (.slice (some ⟨g, 0, none⟩) N cap) ∧ w.heap.size ≤ g ∧ res.length = N ∧ w'.heap[g]? = some (.cells (flatI res ++ rest).toArray 65 (0, 0)) ∧ Below w.heap.size w w' := by
  have hu := Try.underlying30
  have hu2 := Try.underlying65
  have HR := Aside0.mk hr
  have HIN := Aside0.mk hin
  have H := Aside0.mk h
  clear hr hin h
  go_enter Try.func40, Try.ntmps40
  go_wp2_with fail
  refine (far_calls w).mono ?_
  rintro e w1 ⟨rfl, hb1⟩
  obtain ⟨w2, hw2⟩ : ∃ w2, w2 = w1.alloc (.cells #[.int .i64 1152921504606846976, .int .i64 1152921504606846976] 65) := ⟨_, rfl⟩
  have hb2 : Below w1.heap.size w1 w2 := by rw [hw2]; exact below_alloc (Below.refl _ _) _
  have hn2 : w2.heap[w1.heap.size]? = some (.cells #[.int .i64 1152921504606846976, .int .i64 1152921504606846976] 65 (0, 0)) := by rw [hw2]; exact heap_alloc_new w1 _
  have HRp := Aside0.mk (repeatR_calls ⟨w1.heap.size, 0, none⟩ 1 farI N w2 (fun j v hv => by
    rw [add_plain]
    refine cell_of_block (L := flatI [farI]) (by exact hn2) j v hv) (by omega) hN)
  have HB2 := Aside0.mk (below_step hb1 hb2)
  have HE2 := Aside0.mk hw2
  clear hb1 hb2 hn2 hw2
  go_wp2_with fail
  rw [← HE2.out]
  refine HRp.out.mono ?_
  rintro e w3 ⟨g, cap, rest, rfl, hg, hg3, hcap, hlr, hb3⟩
  have HG3 := Aside0.mk hg3
  have HGW := Aside0.mk (show w.heap.size ≤ g by have := HB2.out.size; omega)
  have HB3 := Aside0.mk (below_step HB2.out hb3)
  have q1 : decide (0 ≤ t) = true := decide_eq_true ht0
  have q2 : decide (t < N) = true := decide_eq_true ht1
  have q3 : t.toNat < N := by omega
  obtain ⟨hc0, hc1, hf0, hf1⟩ := row2_at hg3 t.toNat (by simpa using q3)
  clear hg3 hb3 hcap hlr hg HRp HE2
  go_upto_region 3 with (fail)
  obtain ⟨w4, hw4⟩ : ∃ w4, w4 = (w3.setCell ⟨g, t.toNat * 2, none⟩ (.int .i64 0)).setCell ⟨g, t.toNat * 2 + 1, none⟩ (.int .i64 0) := ⟨_, rfl⟩
  rw [← hw4]
  have HG4 := Aside0.mk (show w4.heap[g]? = some (.cells (flatI ((List.replicate N farI).set t.toNat (0, 0)) ++ rest).toArray 65 (0, 0)) by rw [hw4]; exact row2_set HG3.out t.toNat (by simpa using q3) (0, 0))
  have HB4 := Aside0.mk (show Below w.heap.size w w4 by rw [hw4]; exact (HB3.out.setCell (p := ⟨g, t.toNat * 2, none⟩) HGW.out _).setCell (p := ⟨g, t.toNat * 2 + 1, none⟩) HGW.out _)
  clear hw4 hc0 hc1 hf0 hf1 HG3 HB3 q1 q2 q3
  go_wp2_with fail
  go_loopg [8] k (fun kq u W => ∃ (gr : Bool) (out : List Itm), u = .bool gr ∧ out.length = N ∧ Aside0 (if gr = true then bkL l kq out = some res else out = res) ∧ Aside0 (W.heap[g]? = some (.cells (flatI out ++ rest).toArray 65 (0, 0))) ∧ Aside0 (Below w.heap.size w W))
  case atStart => exact ⟨true, _, rfl, by simp, ⟨by rw [if_pos rfl]; exact H.out⟩, HG4, HB4⟩
  case round =>
    obtain ⟨gr, out, rfl, hol, HX, HG, HB⟩ := hrel
    clear HG4 HB4
    cases gr with
    | false =>
      have HE := Aside0.mk (show out = res by have := HX.out; rwa [if_neg (by decide)] at this)
      have HOL := Aside0.mk hol
      clear hol
      go_wp2_with fail
      go_ret
      exact ⟨g, cap, rest, rfl, HGW.out, by rw [← HE.out]; exact HOL.out, by rw [← HE.out]; exact HG.out, HB.out⟩
    | true =>
      cases gk with
      | zero => exact absurd HX.out (by rw [if_pos rfl]; simp [bkL])
      | succ k1 =>
        have HX1 := Aside0.mk (show (if (bkP l out false).2 = true then bkL l k1 (bkP l out false).1 else some (bkP l out false).1) = some res by have := HX.out; rwa [if_pos rfl] at this)
        have HOL := Aside0.mk hol
        clear HX hol
        go_wp2_with fail
        go_loopw [8, 24] (fun u8 u W => ∃ (j : Nat) (g2 : Bool) (out2 : List Itm), j ≤ l.length ∧ u8 = .bool g2 ∧ u = .int .i64 j ∧ out2.length = N ∧ Aside0 (bkP (l.drop j) out2 g2 = bkP l out false) ∧ Aside0 (W.heap[g]? = some (.cells (flatI out2 ++ rest).toArray 65 (0, 0))) ∧ Aside0 (Below w.heap.size w W)) (fun _ u _ => l.length - (intOf u).toNat)
        case atStart => exact ⟨0, false, out, by omega, rfl, rfl, HOL.out, ⟨rfl⟩, HG, HB⟩
        case round =>
          obtain ⟨j, g2, out2, hj, rfl, rfl, hol, HP, HG, HB⟩ := hrel
          by_cases hlt : j < l.length
          · have q3 : decide ((j : Int) < l.length) = true := by simpa using hlt
            have q4 : decide ((0 : Int) ≤ j) = true := by simp
            obtain ⟨ad, rfl, ha0, ha1, ha2⟩ := at_T30 (Kd.C_below HR.out HB.out) (j : Int) (by omega) (by omega)
            have HW := Aside0.mk (show IntKind.i64.wrap ((j : Int) + 1) = ((j + 1 : Nat) : Int) by rw [i64_w]; unfold wrap64; omega)
            simp only [Int.toNat_natCast] at ha0 ha1 ha2
            obtain ⟨a, ha⟩ : ∃ a, rd_T30 l (j : Int) = a := ⟨_, rfl⟩
            rw [ha] at ha0 ha1 ha2
            have hlj : l[j]? = some a := by rw [← ha]; unfold rd_T30; rw [Int.toNat_natCast, List.getD_eq_getElem?_getD, List.getElem?_eq_getElem hlt]; rfl
            obtain ⟨b0, b1, b2, b3⟩ := HIN.out a (List.mem_of_getElem? hlj)
            have hdr : l.drop j = a :: l.drop (j + 1) := by rw [List.drop_eq_getElem_cons hlt]; rw [List.getElem?_eq_getElem hlt] at hlj; rw [Option.some.inj hlj]
            have HP1 := Aside0.mk (show bkP (l.drop (j + 1)) (bkS out2 a).1 (g2 || (bkS out2 a).2) = bkP l out false by have := HP.out; rw [hdr] at this; exact this)
            have HSL := Aside0.mk (bkS_len out2 a)
            obtain ⟨x, hx⟩ : ∃ x, out2.getD a.f1.toNat zI = x := ⟨_, rfl⟩
            obtain ⟨y, hy⟩ : ∃ y, out2.getD a.f0.toNat zI = y := ⟨_, rfl⟩
            have q5 : decide (0 ≤ a.f1) = true := decide_eq_true b2
            have q6 : decide (a.f1 < N) = true := decide_eq_true b3
            have q7 : a.f1.toNat < N := by omega
            have q8 : decide (0 ≤ a.f0) = true := decide_eq_true b0
            have q9 : decide (a.f0 < N) = true := decide_eq_true b1
            have q10 : a.f0.toNat < N := by omega
            have HXX := Aside0.mk hx
            have HYY := Aside0.mk hy
            have hb9 := below_alloc (Below.refl wr.heap.size wr) (.cells #[.int .i64 a.f0, .int .i64 a.f1, .int .i64 a.f2] 30)
            have HA9 := Aside0.mk (heap_alloc_new wr (.cells #[.int .i64 a.f0, .int .i64 a.f1, .int .i64 a.f2] 30))
            have HG9 := Aside0.mk (blk_below HG.out hb9)
            have HB9 := Aside0.mk (below_step HB.out hb9)
            clear ha hlj hdr hx hy hb9 HP
            go_upto_region 9 with (fail)
            obtain ⟨w9, hw9⟩ : ∃ w9, w9 = wr.alloc (.cells #[.int .i64 a.f0, .int .i64 a.f1, .int .i64 a.f2] 30) := ⟨_, rfl⟩
            obtain ⟨ga, hga⟩ : ∃ ga, ga = wr.heap.size := ⟨_, rfl⟩
            rw [← hw9, ← hga]
            rw [← hw9] at HG9 HB9 HA9
            rw [← hga] at HA9
            clear hw9 hga HG HB
            have hca1 : w9.cell? ⟨ga, 1, none⟩ = some (.int .i64 a.f1) := (blk_cell HA9.out 1).trans rfl
            obtain ⟨hx0, hx1, -, -⟩ := row2_at HG9.out a.f1.toNat (by omega)
            rw [HXX.out] at hx0 hx1
            have hb10 := below_alloc (Below.refl w9.heap.size w9) (.cells #[.int .i64 x.1, .int .i64 x.2] 65)
            have HA10 := Aside0.mk (blk_below HA9.out hb10)
            have HG10 := Aside0.mk (blk_below HG9.out hb10)
            have HB10 := Aside0.mk (below_step HB9.out hb10)
            have HX10 := Aside0.mk (heap_alloc_new w9 (.cells #[.int .i64 x.1, .int .i64 x.2] 65))
            have HNE := Aside0.mk (show w9.heap.size ≠ ga ∧ w9.heap.size ≠ g ∧ w.heap.size ≤ w9.heap.size by have := blk_lt HA9.out; have := blk_lt HG9.out; have := HB9.out.size; omega)
            clear hb10
            go_upto_region 10 with (fail)
            obtain ⟨w10, hw10⟩ : ∃ w10, w10 = w9.alloc (.cells #[.int .i64 x.1, .int .i64 x.2] 65) := ⟨_, rfl⟩
            obtain ⟨gx, hgx⟩ : ∃ gx, gx = w9.heap.size := ⟨_, rfl⟩
            rw [← hw10, ← hgx]
            rw [← hw10] at HG10 HB10 HA10 HX10
            rw [← hgx] at HX10 HNE
            clear hw10 hgx hca1 hx0 hx1 HG9 HB9 HA9
            have hx0 : w10.cell? ⟨gx, 0, none⟩ = some (.int .i64 x.1) := (blk_cell HX10.out 0).trans rfl
            have hx1 : w10.cell? ⟨gx, 1, none⟩ = some (.int .i64 x.2) := (blk_cell HX10.out 1).trans rfl
            have hlx : gx < w10.heap.size := blk_lt HX10.out
            cases hfx : isFar x with
            | true =>
              have he1 : (x.1 == 1152921504606846976) = true := by unfold isFar at hfx; exact (Bool.and_eq_true_iff.1 hfx).1
              have he2 : (x.2 == 1152921504606846976) = true := by unfold isFar at hfx; exact (Bool.and_eq_true_iff.1 hfx).2
              have HBS := Aside0.mk (show bkS out2 a = (out2, false) by unfold bkS; rw [HXX.out, if_pos hfx])
              clear hfx
              go_region_held3 (fun w' => w'.cell? ⟨gx, 0, none⟩ = some (.int .i64 x.1) ∧ w'.cell? ⟨gx, 1, none⟩ = some (.int .i64 x.2)) (first | go_keep) (first | (go_at_call 41; refine (far_calls _).mono ?_; rintro e wf ⟨rfl, hbf⟩; have hwx0 := (hbf.cell (p := ⟨gx, 0, none⟩) (by simpa using hlx)).trans hx0; have hwx1 := (hbf.cell (p := ⟨gx, 1, none⟩) (by simpa using hlx)).trans hx1))
              have HG11 := Aside0.mk (blk_below HG10.out (below_step (below_drew (Below.refl w10.heap.size w10)) hbf))
              have HA11 := Aside0.mk (blk_below HA10.out (below_step (below_drew (Below.refl w10.heap.size w10)) hbf))
              have HX11 := Aside0.mk (blk_below HX10.out (below_step (below_drew (Below.refl w10.heap.size w10)) hbf))
              have HB11 := Aside0.mk (below_step HB10.out (below_step (below_drew (Below.refl w10.heap.size w10)) hbf))
              clear hwx0 hwx1 hx0 hx1 hbf HG10 HA10 HX10 HB10
              go_wp2_with fail
              go_roundw
              case rel => exact ⟨j + 1, g2, out2, by omega, rfl, by first | rfl | (rw [HW.out]) | go_num, hol, ⟨by have := HP1.out; rw [HBS.out, Bool.or_false] at this; exact this⟩, HG11, HB11⟩
              case measure => simp [intOf]; omega
            | false =>
              have HFX := Aside0.mk hfx
              obtain ⟨e1, he1⟩ : ∃ e1, (x.1 == 1152921504606846976) = e1 := ⟨_, rfl⟩
              obtain ⟨e2, he2⟩ : ∃ e2, (x.2 == 1152921504606846976) = e2 := ⟨_, rfl⟩
              have hee : (e1 && e2) = false := by rw [← he1, ← he2]; exact hfx
              clear hfx
              cases e1 <;> cases e2
              case true.true => exact absurd hee (by decide)
              all_goals
                clear hee
                go_region_held3 (fun w' => w'.cell? ⟨gx, 0, none⟩ = some (.int .i64 x.1) ∧ w'.cell? ⟨gx, 1, none⟩ = some (.int .i64 x.2)) (first | go_keep) (first | (go_at_call 41; refine (far_calls _).mono ?_; rintro e wf ⟨rfl, hbf⟩; have hwx0 := (hbf.cell (p := ⟨gx, 0, none⟩) (by simpa using hlx)).trans hx0; have hwx1 := (hbf.cell (p := ⟨gx, 1, none⟩) (by simpa using hlx)).trans hx1))
                have HG11 := Aside0.mk (blk_below HG10.out (below_step (below_drew (Below.refl w10.heap.size w10)) hbf))
                have HA11 := Aside0.mk (blk_below HA10.out (below_step (below_drew (Below.refl w10.heap.size w10)) hbf))
                have HX11 := Aside0.mk (blk_below HX10.out (below_step (below_drew (Below.refl w10.heap.size w10)) hbf))
                have HB11 := Aside0.mk (below_step HB10.out (below_step (below_drew (Below.refl w10.heap.size w10)) hbf))
                clear hwx0 hwx1 hx0 hx1 hbf HG10 HA10 HX10 HB10
                have hcx0 : wf.cell? ⟨gx, 0, none⟩ = some (.int .i64 x.1) := (blk_cell HX11.out 0).trans rfl
                have hcx1 : wf.cell? ⟨gx, 1, none⟩ = some (.int .i64 x.2) := (blk_cell HX11.out 1).trans rfl
                have hca2 : wf.cell? ⟨ga, 2, none⟩ = some (.int .i64 a.f2) := (blk_cell HA11.out 2).trans rfl
                have hfx0 := blk_frozen HX11.out 0
                have hfx1 := blk_frozen HX11.out 1
                go_upto_region 12 with (fail)
                obtain ⟨z, hz⟩ : ∃ z, bkX x a = z := ⟨_, rfl⟩
                have hz1 : wrap64 (x.1 + a.f2) = z.1 := by rw [← hz]; rfl
                have hz2 : wrap64 (x.2 + 1) = z.2 := by rw [← hz]; rfl
                rw [hz1, hz2]
                have HZ := Aside0.mk hz
                obtain ⟨w12, hw12⟩ : ∃ w12, w12 = (wf.setCell ⟨gx, 0, none⟩ (.int .i64 z.1)).setCell ⟨gx, 1, none⟩ (.int .i64 z.2) := ⟨_, rfl⟩
                rw [← hw12]
                have hne := HNE.out
                have HX12 := Aside0.mk (show w12.heap[gx]? = some (.cells #[.int .i64 z.1, .int .i64 z.2] 65 (0, 0)) by rw [hw12]; exact blk_set (blk_set HX11.out 0 _) 1 _)
                have HA12 := Aside0.mk (show w12.heap[ga]? = some (.cells #[.int .i64 a.f0, .int .i64 a.f1, .int .i64 a.f2] 30 (0, 0)) by rw [hw12]; exact blk_far (p := ⟨gx, 1, none⟩) (blk_far (p := ⟨gx, 0, none⟩) HA11.out (fun e => hne.1 e.symm) _) (fun e => hne.1 e.symm) _)
                have HG12 := Aside0.mk (show w12.heap[g]? = some (.cells (flatI out2 ++ rest).toArray 65 (0, 0)) by rw [hw12]; exact blk_far (p := ⟨gx, 1, none⟩) (blk_far (p := ⟨gx, 0, none⟩) HG11.out (fun e => hne.2.1 e.symm) _) (fun e => hne.2.1 e.symm) _)
                have HB12 := Aside0.mk (show Below w.heap.size w w12 by rw [hw12]; exact (HB11.out.setCell (p := ⟨gx, 0, none⟩) hne.2.2 _).setCell (p := ⟨gx, 1, none⟩) hne.2.2 _)
                clear hw12 hcx0 hcx1 hca2 hfx0 hfx1 hz hz1 hz2 hne HX11 HA11 HG11 HB11
                have hca0 : w12.cell? ⟨ga, 0, none⟩ = some (.int .i64 a.f0) := (blk_cell HA12.out 0).trans rfl
                obtain ⟨hy0, hy1, -, -⟩ := row2_at HG12.out a.f0.toNat (by omega)
                rw [HYY.out] at hy0 hy1
                have hb13 := below_alloc (Below.refl w12.heap.size w12) (.cells #[.int .i64 y.1, .int .i64 y.2] 65)
                have HA13 := Aside0.mk (blk_below HA12.out hb13)
                have HG13 := Aside0.mk (blk_below HG12.out hb13)
                have HX13 := Aside0.mk (blk_below HX12.out hb13)
                have HB13 := Aside0.mk (below_step HB12.out hb13)
                have HY13 := Aside0.mk (heap_alloc_new w12 (.cells #[.int .i64 y.1, .int .i64 y.2] 65))
                clear hb13
                go_upto_region 13 with (fail)
                obtain ⟨w13, hw13⟩ : ∃ w13, w13 = w12.alloc (.cells #[.int .i64 y.1, .int .i64 y.2] 65) := ⟨_, rfl⟩
                obtain ⟨gy, hgy⟩ : ∃ gy, gy = w12.heap.size := ⟨_, rfl⟩
                rw [← hw13, ← hgy]
                rw [← hw13] at HG13 HB13 HA13 HX13 HY13
                rw [← hgy] at HY13
                clear hw13 hgy hca0 hy0 hy1 HG12 HB12 HA12 HX12
                have hca0 : w13.cell? ⟨ga, 0, none⟩ = some (.int .i64 a.f0) := (blk_cell HA13.out 0).trans rfl
                have hx0 : w13.cell? ⟨gx, 0, none⟩ = some (.int .i64 z.1) := (blk_cell HX13.out 0).trans rfl
                have hx1 : w13.cell? ⟨gx, 1, none⟩ = some (.int .i64 z.2) := (blk_cell HX13.out 1).trans rfl
                have hy0 : w13.cell? ⟨gy, 0, none⟩ = some (.int .i64 y.1) := (blk_cell HY13.out 0).trans rfl
                have hy1 : w13.cell? ⟨gy, 1, none⟩ = some (.int .i64 y.2) := (blk_cell HY13.out 1).trans rfl
                obtain ⟨hr0, hr1, hf0, hf1⟩ := row2_at HG13.out a.f0.toNat (by omega)
                by_cases c1 : z.1 < y.1
                · have p1 : decide (z.1 < y.1) = true := decide_eq_true c1
                  have HBS := Aside0.mk (show bkS out2 a = (out2.set a.f0.toNat z, true) by unfold bkS; rw [HXX.out, HYY.out, HZ.out, if_neg (by rw [HFX.out]; decide), if_pos (show nearer z y = true from decide_eq_true (show z.1 < y.1 ∨ (z.1 = y.1 ∧ z.2 < y.2) from .inl c1))])
                  clear c1
                  go_wp2_with fail
                  go_roundw
                  case rel => exact ⟨j + 1, true, out2.set a.f0.toNat z, by omega, rfl, by first | rfl | (rw [HW.out]) | go_num, by simpa using hol, ⟨by have := HP1.out; rw [HBS.out, Bool.or_true] at this; exact this⟩, ⟨row2_set HG13.out a.f0.toNat (by omega) z⟩, ⟨(HB13.out.setCell (p := ⟨g, a.f0.toNat * 2, none⟩) HGW.out _).setCell (p := ⟨g, a.f0.toNat * 2 + 1, none⟩) HGW.out _⟩⟩
                  case measure => simp [intOf]; omega
                · have p1 : decide (z.1 < y.1) = false := decide_eq_false c1
                  by_cases c2 : z.1 = y.1
                  · have p2 : (z.1 == y.1) = true := beq_iff_eq.mpr c2
                    by_cases c3 : z.2 < y.2
                    · have p3 : decide (z.2 < y.2) = true := decide_eq_true c3
                      have HBS := Aside0.mk (show bkS out2 a = (out2.set a.f0.toNat z, true) by unfold bkS; rw [HXX.out, HYY.out, HZ.out, if_neg (by rw [HFX.out]; decide), if_pos (show nearer z y = true from decide_eq_true (show z.1 < y.1 ∨ (z.1 = y.1 ∧ z.2 < y.2) from .inr ⟨c2, c3⟩))])
                      clear c1 c2 c3
                      go_wp2_with fail
                      go_roundw
                      case rel => exact ⟨j + 1, true, out2.set a.f0.toNat z, by omega, rfl, by first | rfl | (rw [HW.out]) | go_num, by simpa using hol, ⟨by have := HP1.out; rw [HBS.out, Bool.or_true] at this; exact this⟩, ⟨row2_set HG13.out a.f0.toNat (by omega) z⟩, ⟨(HB13.out.setCell (p := ⟨g, a.f0.toNat * 2, none⟩) HGW.out _).setCell (p := ⟨g, a.f0.toNat * 2 + 1, none⟩) HGW.out _⟩⟩
                      case measure => simp [intOf]; omega
                    · have p3 : decide (z.2 < y.2) = false := decide_eq_false c3
                      have HBS := Aside0.mk (show bkS out2 a = (out2, false) by unfold bkS; rw [HXX.out, HYY.out, HZ.out, if_neg (by rw [HFX.out]; decide), if_neg (show ¬ nearer z y = true from fun h_ => (fun h => by rcases h with h | h; exact c1 h; exact c3 h.2) (of_decide_eq_true (show decide (z.1 < y.1 ∨ (z.1 = y.1 ∧ z.2 < y.2)) = true from h_)))])
                      clear c1 c2 c3
                      go_wp2_with fail
                      go_roundw
                      case rel => exact ⟨j + 1, g2, out2, by omega, rfl, by first | rfl | (rw [HW.out]) | go_num, hol, ⟨by have := HP1.out; rw [HBS.out, Bool.or_false] at this; exact this⟩, HG13, HB13⟩
                      case measure => simp [intOf]; omega
                  · have p2 : (z.1 == y.1) = false := beq_eq_false_iff_ne.mpr c2
                    have HBS := Aside0.mk (show bkS out2 a = (out2, false) by unfold bkS; rw [HXX.out, HYY.out, HZ.out, if_neg (by rw [HFX.out]; decide), if_neg (show ¬ nearer z y = true from fun h_ => (fun h => by rcases h with h | h; exact c1 h; exact c2 h.1) (of_decide_eq_true (show decide (z.1 < y.1 ∨ (z.1 = y.1 ∧ z.2 < y.2)) = true from h_)))])
                    clear c1 c2
                    go_wp2_with fail
                    go_roundw
                    case rel => exact ⟨j + 1, g2, out2, by omega, rfl, by first | rfl | (rw [HW.out]) | go_num, hol, ⟨by have := HP1.out; rw [HBS.out, Bool.or_false] at this; exact this⟩, HG13, HB13⟩
                    case measure => simp [intOf]; omega
          · have q3 : decide ((j : Int) < l.length) = false := by simpa using hlt
            obtain rfl : j = l.length := by omega
            have HPF := Aside0.mk (show (out2, g2) = bkP l out false by have := HP.out; rw [List.drop_length] at this; exact this)
            go_wp2_with fail
            go_roundg k1
            case measure => omega
            case rel => exact ⟨g2, out2, rfl, hol, ⟨by have := HX1.out; rw [← HPF.out] at this; cases g2 with | true => simpa using this | false => simpa using this⟩, HG, HB⟩
end Go.Proofs.Ytpkhdipedmihgaa.P
