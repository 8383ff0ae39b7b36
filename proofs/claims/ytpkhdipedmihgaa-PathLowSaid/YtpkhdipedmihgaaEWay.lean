/- path.Way: the arcs of a shortest way; slices.Clip. -/
import Derived.Test.YtpkhdipedmihgaaEBack
import Derived.Test.YtpkhdipedmihgaaERelax
namespace Go.Proofs.Ytpkhdipedmihgaa.P
open Go.RowKit Go.Proofs.YtpkhdipedmihgaaW.PrintWords Go.Proofs.YtpkhdipedmihgaaW.PrintLast Go.Proofs.YtpkhdipedmihgaaW.PrintMore
set_option linter.unusedVariables false
set_option linter.unusedSimpArgs false

def wyT (dt : List Itm) (at_ : Int) (a : S30) : Bool := decide (a.f0 = at_) && (((dt.getD at_.toNat zI).1 == (bkX (dt.getD a.f1.toNat zI) a).1) && ((dt.getD at_.toNat zI).2 == (bkX (dt.getD a.f1.toNat zI) a).2))
/-- the first arc from j on that leads on -/
def wyI (dt : List Itm) (at_ : Int) : List S30 → Nat → Option (Nat × Int)
  | [], _ => none
  | a :: l, j => if wyT dt at_ a = true then some (j, a.f1) else wyI dt at_ l (j + 1)
def wyL (l : List S30) (dt : List Itm) (t : Int) : Nat → Int → List Int → Option (List Int)
  | 0, _, _ => none
  | k + 1, at_, acc => if at_ = t then some acc else match wyI dt at_ l 0 with | some (i, v) => wyL l dt t k v (acc ++ [(i : Int)]) | none => none

def ClipP (A : Option Addr) (n : Nat) (w : World) (e : Ending) (w' : World) : Prop := ∃ c', e = .returned (.slice A n c') ∧ n ≤ c' ∧ w' = w

set_option maxRecDepth 100000 in
theorem clip_calls (A : Option Addr) (n c : Nat) (w : World) (h : n ≤ c) (hA : A = none → n = 0 ∧ c = 0) : Calls Try.prog 36 #[.slice A n c] w (ClipP A n w) := by
  have q1 : decide ((n : Int) ≤ c) = true := by simpa using h
  have q2 : decide ((n : Int) ≤ n) = true := by simp
  cases A with
  | none =>
    obtain ⟨rfl, rfl⟩ := hA rfl
    go_enter Try.func36, Try.ntmps36
    go_wp2
    go_ret
    exact ⟨0, by first | rfl | simp, Nat.le_refl _, rfl⟩
  | some ad =>
    go_enter Try.func36, Try.ntmps36
    go_wp2
    go_ret
    exact ⟨n, by first | rfl | simp, Nat.le_refl _, rfl⟩

theorem nil_len {W : World} {e base n c : Nat} {ok : Nat → Prop} {xs : List Int} (h : Kd.R (Kd.int .i64) e W base ok (.slice none n c) xs) : n = 0 ∧ c = 0 := by
  obtain ⟨_, h2⟩ := Kd.own_of_R (enc := Value.int .i64) h
  rcases h2 with ⟨h3, _⟩ | ⟨g, cap, cur, h3, _⟩
  · injection h3 with _ h4 h5; exact ⟨h4, h5⟩
  · injection h3 with h4; cases h4

set_option maxHeartbeats 8000000 in
set_option maxRecDepth 100000 in
theorem way_calls (N : Nat) (A : Option Addr) (c : Nat) (l : List S30) (s t : Int) (dt : List Itm) (res : List Int) (far : Bool) (w : World) (hr : Kd.C k30 w A l.length l) (hN1 : 1 ≤ N) (hN2 : N ≤ 300) (hs0 : 0 ≤ s) (hs1 : s < N) (ht0 : 0 ≤ t) (ht1 : t < N) (hl : l.length ≤ 1073741824) (hok : ∀ a ∈ l, okA N a) (hnn : ∀ a ∈ l, 0 ≤ a.f2)
    (h : bkL l 1000 ((List.replicate N farI).set t.toNat (0, 0)) = some dt) (hfar : isFar (dt.getD s.toNat zI) = far) (hres : if far = true then res = [] else wyL l dt t 1000 s [] = some res) :
    Calls Try.prog 24 #[.int .i64 N, .slice A l.length c, .int .i64 s, .int .i64 t] w fun e w' => ∃ v0 : Value, e = .returned (.tuple #[v0, .bool (!far)]) ∧ Kd.V (Kd.int .i64) 3 w' w.heap.size (fun k_ => True ∧ w.heap.size ≤ k_ ∧ k_ < w'.heap.size ∧ True) v0 res ∧ Below w.heap.size w w' := by
  have hu := Try.underlying30
  have hu2 := Try.underlying65
  have HFi := Aside0.mk (fine_calls N A c l s w hr hl hok (by omega) (by omega) hs0 hs1)
  have HR := Aside0.mk hr
  have HOK := Aside0.mk hok
  have HNN := Aside0.mk hnn
  have H := Aside0.mk h
  have HFR := Aside0.mk hfar
  have HRES := Aside0.mk hres
  have q1 : decide (t < 0) = false := decide_eq_false (by omega)
  have q2 : decide ((N : Int) ≤ t) = false := decide_eq_false (by omega)
  clear hr hok hnn h hfar hres
  go_enter Try.func24, Try.ntmps24
  go_wp2_with fail
  refine HFi.out.mono ?_
  rintro e w1 ⟨rfl, hb1⟩
  have HB1 := Aside0.mk hb1
  have HWy := Aside0.mk (way_has A c l w1 (Kd.C_below HR.out hb1) hl HNN.out)
  clear hb1 HFi
  go_wp2_with fail
  refine HWy.out.mono ?_
  rintro e w2 ⟨rfl, hb2⟩
  have HB2 := Aside0.mk (below_step HB1.out hb2)
  have HBk := Aside0.mk (back_calls 1000 N A c l t dt w2 (Kd.C_below HR.out HB2.out) (by omega) ht0 ht1 hl (fun a ha => by obtain ⟨h1, h2, h3, h4, _⟩ := HOK.out a ha; exact ⟨h1, h2, h3, h4⟩) H.out)
  clear hb2 HWy
  go_wp2_with fail
  refine HBk.out.mono ?_
  rintro e w3 ⟨gt_, ct, rt, rfl, hgt, htl, ht3, hb3⟩
  have HT3 := Aside0.mk ht3
  have HB3 := Aside0.mk (below_step HB2.out hb3)
  have HTL := Aside0.mk htl
  clear hb3 HBk hgt htl
  obtain ⟨x, hx⟩ : ∃ x, dt.getD s.toNat zI = x := ⟨_, rfl⟩
  have HFX := Aside0.mk (show isFar x = far by rw [← hx]; exact HFR.out)
  obtain ⟨hx0, hx1, -, -⟩ := row2_at ht3 s.toNat (by have := HTL.out; omega)
  rw [hx] at hx0 hx1
  have hlx : gt_ < w3.heap.size := blk_lt ht3
  have q3 : decide (0 ≤ s) = true := decide_eq_true hs0
  have q4 : decide (s < N) = true := decide_eq_true hs1
  have q5 : s.toNat < N := by omega
  clear hx ht3 HFR
  obtain ⟨e1, he1⟩ : ∃ e1, (x.1 == 1152921504606846976) = e1 := ⟨_, rfl⟩
  obtain ⟨e2, he2⟩ : ∃ e2, (x.2 == 1152921504606846976) = e2 := ⟨_, rfl⟩
  have HEE := Aside0.mk (show (e1 && e2) = far by rw [← he1, ← he2]; exact HFX.out)
  clear HFX
  cases e1 <;> cases e2
  all_goals
    go_upto_region 4 with (fail)
    go_region_held3 (fun w' => w'.cell? ⟨gt_, s.toNat * 2, none⟩ = some (.int .i64 x.1) ∧ w'.cell? ⟨gt_, s.toNat * 2 + 1, none⟩ = some (.int .i64 x.2)) (first | go_keep) (first | (go_at_call 41; refine (far_calls _).mono ?_; rintro e wf ⟨rfl, hbf⟩; have hwx0 := (hbf.cell (p := ⟨gt_, s.toNat * 2, none⟩) (by simpa using hlx)).trans hx0; have hwx1 := (hbf.cell (p := ⟨gt_, s.toNat * 2 + 1, none⟩) (by simpa using hlx)).trans hx1))
    have HT4 := Aside0.mk (blk_below HT3.out (below_step (below_drew (Below.refl w3.heap.size w3)) hbf))
    have HB4 := Aside0.mk (below_step HB3.out (below_step (below_drew (Below.refl w3.heap.size w3)) hbf))
    clear hwx0 hwx1 hx0 hx1 hbf HT3 HB3
  rotate_left 3
  · have HE := Aside0.mk HEE.out.symm
    go_wp2_with fail
    go_ret2
    have hff := HE.out
    subst hff
    exact ⟨.slice none 0 0, rfl, by have := HRES.out; simp at this; subst this; exact ⟨none, 0, rfl, Nat.le_refl _, Kd.F_nil _ _ _⟩, HB4.out⟩
  all_goals
    have hff := HEE.out.symm
    simp only [Bool.and_false, Bool.false_and, Bool.and_true, Bool.true_and] at hff
    have HFF := Aside0.mk hff
    have HWL := Aside0.mk (show wyL l dt t 1000 s [] = some res by have := HRES.out; rw [hff] at this; simpa using this)
    have HIN := Aside0.mk (And.intro hs0 hs1)
    clear hff HRES HEE hlx hu hu2 q1 q2 q3 q4 q5 hs0 hs1
    go_wp2_with fail
    go_loopg [11, 12] 1000 (fun kq u11 u12 W => ∃ (at_ : Int) (acc : List Int), u12 = .int .i64 at_ ∧ Aside0 (0 ≤ at_ ∧ at_ < N) ∧ Aside0 (acc.length + kq ≤ 1000) ∧ Aside0 (wyL l dt t kq at_ acc = some res) ∧ Aside0 (Kd.R (Kd.int .i64) 3 W w.heap.size (fun _ => True) u11 acc) ∧ Aside0 (W.heap[gt_]? = some (.cells (flatI dt ++ rt).toArray 65 (0, 0))) ∧ Aside0 (Below w.heap.size w W))
    case atStart => exact ⟨s, [], rfl, HIN, ⟨by simp⟩, HWL, ⟨Kd.R_nil _ _ _ _ _⟩, HT4, HB4⟩
    case round =>
      obtain ⟨at_, acc, rfl, HA, HAC, HX, HV, HD, HB⟩ := hrel
      clear HT4 HB4
      have hu := Try.underlying30
      have hu2 := Try.underlying65
      cases gk with
      | zero => exact absurd HX.out (by simp [wyL])
      | succ k1 =>
        by_cases hat : at_ = t
        · have q1 : (at_ != t) = false := by rw [hat]; simp
          have HE := Aside0.mk (show acc = res by have := HX.out; simp only [wyL, if_pos hat] at this; exact Option.some.inj this)
          obtain ⟨AA, cc, hsl⟩ := Kd.R_slice HV.out
          have HCl := Aside0.mk (clip_calls AA acc.length cc wr (Kd.R_reads' (hsl ▸ HV.out)).2.1 (fun e => by subst e; subst hsl; exact nil_len HV.out))
          have HVV := Aside0.mk (show Kd.R (Kd.int .i64) 3 wr w.heap.size (fun _ => True) (.slice AA acc.length cc) acc from hsl ▸ HV.out)
          subst hsl
          clear hat HV
          go_wp2_with fail
          refine HCl.out.mono ?_
          rintro e w9 ⟨c9, rfl, hc9, rfl⟩
          have HC9 := Aside0.mk hc9
          clear hc9 HCl
          go_wp2_with fail
          go_ret2
          refine ⟨.slice AA acc.length c9, by rw [HFF.out]; rfl, ?_, HB.out⟩
          rw [← HE.out]
          exact ⟨AA, c9, rfl, HC9.out, Kd.F_mono (Kd.R_F (Kd.R_bound HVV.out)) (fun k h => ⟨trivial, h.2.1, h.2.2.1, trivial⟩)⟩
        · have q1 : (at_ != t) = true := bne_iff_ne.mpr hat
          have hx := HX.out
          simp only [wyL, if_neg hat] at hx
          cases hwy : wyI dt at_ l 0 with
          | none => rw [hwy] at hx; cases hx
          | some iv =>
            obtain ⟨i, v0⟩ := iv
            rw [hwy] at hx
            have HX1 := Aside0.mk (show wyL l dt t k1 v0 (acc ++ [(i : Int)]) = some res from hx)
            have HI := Aside0.mk hwy
            clear hat hx hwy HX
            obtain ⟨p, hp⟩ : ∃ p, dt.getD at_.toNat zI = p := ⟨_, rfl⟩
            have HPP := Aside0.mk hp
            have ha_ := HA.out
            have q2 : decide (0 ≤ at_) = true := decide_eq_true ha_.1
            have q3 : decide (at_ < N) = true := decide_eq_true ha_.2
            have q4 : at_.toNat < N := by omega
            have a0_ := ha_.1
            have a1_ := ha_.2
            clear hp ha_
            go_wp2_with fail
            go_loopw [11, 12, 49] (fun y11 y12 y W => ∃ (j : Nat), j ≤ l.length ∧ y11 = u11 ∧ y12 = .int .i64 at_ ∧ y = .int .i64 j ∧ Aside0 (wyI dt at_ (l.drop j) j = some (i, v0)) ∧ Aside0 (Kd.R (Kd.int .i64) 3 W w.heap.size (fun _ => True) u11 acc) ∧ Aside0 (W.heap[gt_]? = some (.cells (flatI dt ++ rt).toArray 65 (0, 0))) ∧ Aside0 (Below w.heap.size w W)) (fun _ _ y _ => l.length - (intOf y).toNat)
            case atStart => exact ⟨0, by omega, rfl, rfl, rfl, HI, HV, HD, HB⟩
            case round =>
              obtain ⟨j, hj, rfl, rfl, rfl, HI, HV, HD, HB⟩ := hrel
              by_cases hlt : j < l.length
              · have q5 : decide ((j : Int) < l.length) = true := by simpa using hlt
                have q6 : decide ((0 : Int) ≤ j) = true := by simp
                obtain ⟨ad, rfl, ha0, ha1, ha2⟩ := at_T30 (Kd.C_below HR.out HB.out) (j : Int) (by omega) (by omega)
                have HW := Aside0.mk (show IntKind.i64.wrap ((j : Int) + 1) = ((j + 1 : Nat) : Int) by rw [i64_w]; unfold wrap64; omega)
                simp only [Int.toNat_natCast] at ha0 ha1 ha2
                obtain ⟨a, ha⟩ : ∃ a, rd_T30 l (j : Int) = a := ⟨_, rfl⟩
                rw [ha] at ha0 ha1 ha2
                have hlj : l[j]? = some a := by rw [← ha]; unfold rd_T30; rw [Int.toNat_natCast, List.getD_eq_getElem?_getD, List.getElem?_eq_getElem hlt]; rfl
                obtain ⟨b0, b1, b2, b3, _⟩ := HOK.out a (List.mem_of_getElem? hlj)
                have hdr : l.drop j = a :: l.drop (j + 1) := by rw [List.drop_eq_getElem_cons hlt]; rw [List.getElem?_eq_getElem hlt] at hlj; rw [Option.some.inj hlj]
                have HI1 := Aside0.mk (show (if wyT dt at_ a = true then some (j, a.f1) else wyI dt at_ (l.drop (j + 1)) (j + 1)) = some (i, v0) by have := HI.out; rw [hdr] at this; exact this)
                obtain ⟨x2, hx2⟩ : ∃ x2, dt.getD a.f1.toNat zI = x2 := ⟨_, rfl⟩
                obtain ⟨z, hz⟩ : ∃ z, bkX x2 a = z := ⟨_, rfl⟩
                have s1 : IntKind.i64.wrap (x2.1 + a.f2) = z.1 := by rw [i64_w, ← hz]; rfl
                have s2 : IntKind.i64.wrap (x2.2 + 1) = z.2 := by rw [i64_w, ← hz]; rfl
                have HX2 := Aside0.mk hx2
                have HZ := Aside0.mk hz
                have HINA := Aside0.mk (And.intro b2 b3)
                have q7 : decide (0 ≤ a.f1) = true := decide_eq_true b2
                have q8 : decide (a.f1 < N) = true := decide_eq_true b3
                have q9 : a.f1.toNat < N := by omega
                have hb9 := below_alloc (Below.refl wr.heap.size wr) (.cells #[.int .i64 a.f0, .int .i64 a.f1, .int .i64 a.f2] 30)
                have HA9 := Aside0.mk (heap_alloc_new wr (.cells #[.int .i64 a.f0, .int .i64 a.f1, .int .i64 a.f2] 30))
                have HD9 := Aside0.mk (blk_below HD.out hb9)
                have HB9 := Aside0.mk (below_step HB.out hb9)
                have HV9 := Aside0.mk (Kd.R_below HV.out hb9)
                clear ha hlj hdr hx2 hz hb9 b0 b1
                go_upto_region 12 with (fail)
                obtain ⟨w9, hw9⟩ : ∃ w9, w9 = wr.alloc (.cells #[.int .i64 a.f0, .int .i64 a.f1, .int .i64 a.f2] 30) := ⟨_, rfl⟩
                obtain ⟨ga, hga⟩ : ∃ ga, ga = wr.heap.size := ⟨_, rfl⟩
                rw [← hw9, ← hga]
                rw [← hw9] at HD9 HB9 HA9 HV9
                rw [← hga] at HA9
                clear hw9 hga HD HB HV HI
                have hca0 : w9.cell? ⟨ga, 0, none⟩ = some (.int .i64 a.f0) := (blk_cell HA9.out 0).trans rfl
                have hca1 : w9.cell? ⟨ga, 1, none⟩ = some (.int .i64 a.f1) := (blk_cell HA9.out 1).trans rfl
                have hca2 : w9.cell? ⟨ga, 2, none⟩ = some (.int .i64 a.f2) := (blk_cell HA9.out 2).trans rfl
                obtain ⟨hp0, hp1, -, -⟩ := row2_at HD9.out at_.toNat (by have := HTL.out; omega)
                obtain ⟨hx0, hx1, -, -⟩ := row2_at HD9.out a.f1.toNat (by have := HTL.out; omega)
                rw [HPP.out] at hp0 hp1
                rw [HX2.out] at hx0 hx1
                by_cases hf : a.f0 = at_
                · have q10 : (a.f0 == at_) = true := beq_iff_eq.mpr hf
                  have HF := Aside0.mk hf
                  clear hf
                  obtain ⟨c1, hc1⟩ : ∃ c1, (p.1 == z.1) = c1 := ⟨_, rfl⟩
                  obtain ⟨c2, hc2⟩ : ∃ c2, (p.2 == z.2) = c2 := ⟨_, rfl⟩
                  have HWT := Aside0.mk (show wyT dt at_ a = (c1 && c2) by unfold wyT; rw [HPP.out, HX2.out, HZ.out, hc1, hc2, decide_eq_true HF.out, Bool.true_and])
                  cases c1 <;> cases c2
                  rotate_left 3
                  · have hii := HI1.out
                    rw [if_pos (by rw [HWT.out]; rfl)] at hii
                    have hj_ : j = i ∧ a.f1 = v0 := by simpa using hii
                    have HJI := Aside0.mk hj_
                    have HCN := Aside0.mk HAC.out
                    clear hii hj_
                    go_quiet (fail)
                    obtain ⟨w10, hw10⟩ : ∃ w10, w10 = w9.drewN nq := ⟨_, rfl⟩
                    rw [← hw10]
                    have HV10 := Aside0.mk (show Kd.R (Kd.int .i64) 3 w10 w.heap.size (fun _ => True) u11 acc by rw [hw10]; exact Kd.R_drewN HV9.out _)
                    have HA10 := Aside0.mk (show w10.heap[ga]? = some (.cells #[.int .i64 a.f0, .int .i64 a.f1, .int .i64 a.f2] 30 (0, 0)) by rw [hw10]; exact HA9.out)
                    have HD10 := Aside0.mk (show w10.heap[gt_]? = some (.cells (flatI dt ++ rt).toArray 65 (0, 0)) by rw [hw10]; exact HD9.out)
                    have HB10 := Aside0.mk (show Below w.heap.size w w10 by rw [hw10]; exact pw_below_drewN HB9.out _)
                    have HTY := Aside0.mk (Kd.R_typed HV10.out)
                    clear hw10 hca0 hca1 hca2 hp0 hp1 hx0 hx1
                    go_wp2_with ((with_reducible refine gate_builtin (b := .append) (xs := #[.tmp 82, .tmp 84]) rfl ?_); at_builtin; refine Kd.R_append (Kd.int .i64) (w0 := w) w.heap.size rfl (.tmp 82) (.tmp 84) 22 3 (.int .i64 0) 8 rfl Try.underlying22 info3 rfl (by decide) (by omega) u11 acc (j : Int) [.int .i64 (j : Int)] (fun _ => True) (fun _ => False) rfl rfl rfl (fun _ hk => hk.elim) (fun _ _ => trivial) HV10.out HB10.out HB10.out.size (by have := HCN.out; omega) ?_; intro v12 w12 ho12 hb12 hg12 hat12; have HV12 := Aside0.mk ho12; have HB12 := Aside0.mk hb12; have HA12 := Aside0.mk (blk_grown HA10.out hg12 (fun e => by obtain ⟨_, hc⟩ := HTY.out _ e.symm; rw [HA10.out] at hc; cases hc)); have HD12 := Aside0.mk (blk_grown HD10.out hg12 (fun e => by obtain ⟨_, hc⟩ := HTY.out _ e.symm; rw [HD10.out] at hc; cases hc)); have hca1 : w12.cell? ⟨ga, 1, none⟩ = some (.int .i64 a.f1) := (blk_cell HA12.out 1).trans rfl; clear ho12 hb12 hg12 hat12)
                    go_roundg k1
                    case measure => omega
                    case rel => exact ⟨a.f1, acc ++ [(j : Int)], rfl, HINA, ⟨by have := HAC.out; simp; omega⟩, ⟨by have h1 := HX1.out; rw [← HJI.out.1, ← HJI.out.2] at h1; exact h1⟩, HV12, HD12, HB12⟩
                  all_goals
                    go_quiet (fail)
                    go_wp2_with fail
                    go_roundw
                    case rel => exact ⟨j + 1, by omega, rfl, rfl, by first | rfl | (rw [HW.out]) | go_num, ⟨by have := HI1.out; rwa [if_neg (by rw [HWT.out]; decide)] at this⟩, ⟨Kd.R_drewN HV9.out _⟩, ⟨HD9.out⟩, ⟨pw_below_drewN HB9.out _⟩⟩
                    case measure => simp [intOf]; omega
                · have q10 : (a.f0 == at_) = false := beq_eq_false_iff_ne.mpr hf
                  have HWT := Aside0.mk (show wyT dt at_ a = false by unfold wyT; rw [decide_eq_false hf, Bool.false_and])
                  clear hf
                  go_quiet (fail)
                  go_wp2_with fail
                  go_roundw
                  case rel => exact ⟨j + 1, by omega, rfl, rfl, by first | rfl | (rw [HW.out]) | go_num, ⟨by have := HI1.out; rwa [if_neg (by rw [HWT.out]; decide)] at this⟩, ⟨Kd.R_drewN HV9.out _⟩, ⟨HD9.out⟩, ⟨pw_below_drewN HB9.out _⟩⟩
                  case measure => simp [intOf]; omega
              · exact absurd HI.out (by rw [show j = l.length by omega, List.drop_length]; simp [wyI])
end Go.Proofs.Ytpkhdipedmihgaa.P
