/- PathLow, the plain law: arcs that go up alone, relaxed in the order of where they begin, leave the distances. -/
import Derived.Test.YtpkhdipedmihgaaPx17
import Derived.Test.YtpkhdipedmihgaaYLaw
namespace Go.Proofs.Ytpkhdipedmihgaa.Pure
open Go.RowKit Go.Proofs.Ytpkhdipedmihgaa.P Go.Proofs.YtpkhdipedmihgaaW.PrintWords Go.Proofs.YtpkhdipedmihgaaW.PrintLast Go.Proofs.YtpkhdipedmihgaaW.PrintMore
set_option linter.unusedVariables false
set_option linter.unusedSimpArgs false

/-- arcs up, short -/
def ArcUp (n : Int) (a : S30) : Prop := 0 ≤ a.f0 ∧ a.f0 < a.f1 ∧ a.f1 < n ∧ -10 ≤ a.f2 ∧ a.f2 ≤ 10

theorem low_l0 (n : Nat) (x1 : List Int) (hn1 : 1 ≤ n) (hn : n ≤ 1000) : ∀ (m i k : Nat) (d : List Int), i + m = n → 1 ≤ i → d.length = n → d.getD 0 0 = 0 → (∀ j, 1 ≤ j → j < i → d.getD j 0 = BFT.Far) →
    watershedlaw6_PathLow.l0 (k + m + 1) x1 n d (i : Int) = watershedlaw6_PathLow.l1 k x1 n [] (BFT.d0 n 0) 0 := by
  intro m
  induction m with
  | zero =>
    intro i k d hi h1 hd h0 hf
    have e : d = BFT.d0 n 0 := by
      refine BFT.rd_ext (by rw [BFT.d0_length, hd]) (fun v v0 v1 => ?_)
      rw [BFT.d0_rd n 0 v (by decide) (by omega) v0 (by omega)]
      split
      · rename_i e; rw [e]; exact h0
      · exact hf v.toNat (by omega) (by omega)
    rw [watershedlaw6_PathLow.l0, if_neg (by omega), e]
  | succ m ih =>
    intro i k d hi h1 hd h0 hf
    rw [show k + (m + 1) + 1 = (k + m + 1) + 1 by omega, watershedlaw6_PathLow.l0, if_pos (by omega), if_pos (by omega), if_pos (by omega), w64 (by omega) (by omega)]
    exact ih (i + 1) k (d.set i BFT.Far) (by omega) (by omega) (by simp [hd])
      (by
        simp only [List.getD_eq_getElem?_getD, List.getElem?_set] at h0 ⊢
        rw [if_neg (by omega)]; exact h0)
      (by
        intro j j1 hj
        by_cases e : j = i
        · subst e; simp [show j < d.length by omega]
        · have := hf j j1 (by omega)
          simp only [List.getD_eq_getElem?_getD, List.getElem?_set] at this ⊢
          rw [if_neg (fun h => e h.symm)]; exact this)

theorem low_l2 (n : Nat) (x1 best : List Int) (hn : n ≤ 12) (i : Nat) (hi : i < n) : ∀ (m j : Nat) (acc : List S30), j + m = n → i < j → acc.length + m ≤ 10000 → (∀ a ∈ acc, ArcUp n a) →
    ∃ l : List S30, l.length ≤ acc.length + m ∧ (∀ a ∈ l, ArcUp n a) ∧ ∀ k, watershedlaw6_PathLow.l2 (k + m + 1) x1 n acc best (i : Int) (j : Int) = watershedlaw6_PathLow.l1 k x1 n l best ((i + 1 : Nat) : Int) := by
  intro m
  induction m with
  | zero =>
    intro j acc hj hij ha hacc
    refine ⟨acc, by omega, hacc, fun k => ?_⟩
    rw [watershedlaw6_PathLow.l2, if_neg (by omega), w64 (by omega) (by omega)]
    rfl
  | succ m ih =>
    intro j acc hj hij ha hacc
    have hmul : 0 ≤ (i : Int) * (n : Int) ∧ (i : Int) * (n : Int) ≤ 12 * 12 := ⟨Int.mul_nonneg (by omega) (by omega), Int.mul_le_mul (by omega) (by omega) (by omega) (by omega)⟩
    have e1 : wrap64 (wrap64 ((i : Int) * (n : Int)) + (j : Int)) = (i : Int) * (n : Int) + j := by rw [w64 (n := (i : Int) * (n : Int)) (by omega) (by omega), w64 (by omega) (by omega)]
    have hkeep : ∃ l : List S30, l.length ≤ acc.length + (m + 1) ∧ (∀ a ∈ l, ArcUp n a) ∧ ∀ k, watershedlaw6_PathLow.l2 (k + m + 1) x1 n acc best (i : Int) ((j : Int) + 1) = watershedlaw6_PathLow.l1 k x1 n l best ((i + 1 : Nat) : Int) := by
      obtain ⟨l, l1, l2, l3⟩ := ih (j + 1) acc (by omega) (by omega) (by omega) hacc
      exact ⟨l, by omega, l2, l3⟩
    by_cases c : (i : Int) * (n : Int) + j < (x1.length : Int)
    · obtain ⟨t, t0, t1, ht⟩ := within_in (rd x1 ((i : Int) * (n : Int) + j)) 3 (by decide) (by decide)
      by_cases d : t > 0
      · obtain ⟨u, u0, u1, hu⟩ := within_in (wrap64 (Int.tdiv (rd x1 ((i : Int) * (n : Int) + j)) 3)) 21 (by decide) (by decide)
        obtain ⟨l, l1, l2, l3⟩ := ih (j + 1) (acc ++ [(⟨(i : Int), (j : Int), wrap64 (u - 10)⟩ : S30)]) (by omega) (by omega) (by simp; omega) (by
          intro a hm
          rcases List.mem_append.1 hm with hm | hm
          · exact hacc a hm
          · rw [List.mem_singleton.1 hm, w64 (n := u - 10) (by omega) (by omega)]
            exact ⟨by show 0 ≤ (i : Int); omega, by show (i : Int) < (j : Int); omega, by show (j : Int) < n; omega, by show -10 ≤ u - 10; omega, by show u - 10 ≤ 10; omega⟩)
        refine ⟨l, by simp at l1; omega, l2, fun k => ?_⟩
        rw [show k + (m + 1) + 1 = (k + m + 1) + 1 by omega, watershedlaw6_PathLow.l2, if_pos (by omega), e1, if_pos c, if_pos (by omega), ht, Option.bind_some, if_pos d, hu, Option.bind_some, if_pos (by omega), w64 (n := (j : Int) + 1) (by omega) (by omega)]
        exact l3 k
      · obtain ⟨l, l1, l2, l3⟩ := hkeep
        refine ⟨l, l1, l2, fun k => ?_⟩
        rw [show k + (m + 1) + 1 = (k + m + 1) + 1 by omega, watershedlaw6_PathLow.l2, if_pos (by omega), e1, if_pos c, if_pos (by omega), ht, Option.bind_some, if_neg d, w64 (n := (j : Int) + 1) (by omega) (by omega)]
        exact l3 k
    · obtain ⟨l, l1, l2, l3⟩ := hkeep
      refine ⟨l, l1, l2, fun k => ?_⟩
      rw [show k + (m + 1) + 1 = (k + m + 1) + 1 by omega, watershedlaw6_PathLow.l2, if_pos (by omega), e1, if_neg c, w64 (n := (j : Int) + 1) (by omega) (by omega)]
      exact l3 k
/-- how much fuel -/
def lowC : Nat → Nat
  | 0 => 1
  | m + 1 => lowC m + (m + 2)
theorem low_l1 (n : Nat) (x1 best : List Int) (hn : n ≤ 12) : ∀ (m i : Nat) (acc : List S30), i + m = n → acc.length ≤ i * 12 → (∀ a ∈ acc, ArcUp n a) →
    ∃ l : List S30, l.length ≤ 144 ∧ (∀ a ∈ l, ArcUp n a) ∧ ∀ k, watershedlaw6_PathLow.l1 (k + lowC m) x1 n acc best (i : Int) = watershedlaw6_PathLow.l3 k n l best 0 := by
  intro m
  induction m with
  | zero =>
    intro i acc hi ha hacc
    refine ⟨acc, by omega, hacc, fun k => ?_⟩
    rw [lowC, watershedlaw6_PathLow.l1, if_neg (by omega)]
  | succ m ih =>
    intro i acc hi ha hacc
    obtain ⟨l, l1, l2, l3⟩ := low_l2 n x1 best hn i (by omega) m (i + 1) acc (by omega) (by omega) (by omega) hacc
    obtain ⟨q, q1, q2, q3⟩ := ih (i + 1) l (by omega) (by omega) l2
    refine ⟨q, q1, q2, fun k => ?_⟩
    rw [show k + lowC (m + 1) = (k + lowC m + m + 1) + 1 by rw [lowC]; omega, watershedlaw6_PathLow.l1, if_pos (by omega), w64 (by omega) (by omega)]
    exact (l3 (k + lowC m)).trans (q3 k)

theorem low_l4 (n : Nat) (l : List S30) (hl : ∀ a ∈ l, ArcUp n a) (hlen : l.length ≤ 144) (hn : n ≤ 12) (i : Nat) (hi : i < n) : ∀ (m p : Nat) (best : List Int) (B : Int), p + m = l.length → best.length = n → BFT.Bnd best B → 0 ≤ B → B + m * 10 ≤ 1000000 →
    ∀ k, watershedlaw6_PathLow.l4 (k + m + 1) n l best (i : Int) (p : Int) = watershedlaw6_PathLow.l3 k n l ((((l.drop p).filter (fun a => decide (a.f0 = (i : Int)))).map toA).foldl BFT.rx best) ((i + 1 : Nat) : Int) := by
  intro m
  induction m with
  | zero =>
    intro p best B hp hb hB h0 h1 k
    have hdr : l.drop p = [] := List.drop_eq_nil_of_le (by omega)
    rw [watershedlaw6_PathLow.l4, if_neg (by omega), hdr, w64 (by omega) (by omega)]
    rfl
  | succ m ih =>
    intro p best B hp hb hB h0 h1 k
    have hpl : p < l.length := by omega
    have hdr : l.drop p = l[p] :: l.drop (p + 1) := List.drop_eq_getElem_cons hpl
    have hrd : rd_T30 l (p : Int) = l[p] := by simp [rd_T30, hpl]
    obtain ⟨a1, a2, a3, a4, a5⟩ := hl l[p] (List.getElem_mem hpl)
    rw [show k + (m + 1) + 1 = (k + m + 1) + 1 by omega, watershedlaw6_PathLow.l4, if_pos (by omega), if_pos (by omega), hrd, w64 (n := (p : Int) + 1) (by omega) (by omega), hdr]
    have hF : BFT.Far = 1152921504606846976 := rfl
    by_cases c : l[p].f0 = (i : Int)
    · rw [if_pos c, if_pos (by omega), if_pos (by omega), List.filter_cons_of_pos (by simpa using c), List.map_cons, List.foldl_cons]
      have hi0 := hB i (by omega) (by omega)
      have eR : ∀ v : Int, rd best v = BFT.rd best v := fun v => rfl
      by_cases d : rd best (i : Int) = 1152921504606846976
      · have hrx : BFT.rx best (toA l[p]) = best := by
          unfold BFT.rx; rw [if_neg]; intro h; refine h.1 ?_
          show BFT.rd best l[p].f0 = BFT.Far
          rw [c]; exact d
        rw [if_pos d, hrx]
        exact ih (p + 1) best B (by omega) hb hB h0 (by omega) k
      · have hb2 : -B ≤ BFT.rd best i ∧ BFT.rd best i ≤ B := by
          rcases hi0 with h | h
          · exact absurd h d
          · exact h
        have hB2 := BFT.rx_bnd best (toA l[p]) n 10 B hb ⟨a1, by show l[p].f0 < n; omega, by show 0 ≤ l[p].f1; omega, a3, by show -10 ≤ l[p].f2; omega, a5⟩ (by decide) hB
        have hrx : BFT.rx best (toA l[p]) = best.set l[p].f1.toNat (mn (rd best l[p].f1) (wrap64 (rd best (i : Int) + l[p].f2))) := by
          rw [eR, eR, w64 (by omega) (by omega)]
          unfold BFT.rx mn
          have d' : ¬ BFT.rd best l[p].f0 = BFT.Far := by rw [c]; exact d
          show (if BFT.rd best l[p].f0 ≠ BFT.Far ∧ BFT.rd best l[p].f0 + l[p].f2 < BFT.rd best l[p].f1 then best.set l[p].f1.toNat (BFT.rd best l[p].f0 + l[p].f2) else best) = _
          rw [← c]
          by_cases e : BFT.rd best l[p].f0 + l[p].f2 < BFT.rd best l[p].f1
          · rw [if_pos ⟨d', e⟩, if_pos e]
          · rw [if_neg (fun h => e h.2), if_neg e]
            have hlt : l[p].f1.toNat < best.length := by omega
            have : BFT.rd best l[p].f1 = best[l[p].f1.toNat] := by simp [BFT.rd, hlt]
            rw [this, List.set_getElem_self]
        rw [if_neg d, if_pos (by omega), if_pos (by omega), ← hrx]
        exact ih (p + 1) (BFT.rx best (toA l[p])) (B + 10) (by omega) (by rw [BFT.rx_length, hb]) hB2 (by omega) (by omega) k
    · rw [if_neg c, List.filter_cons_of_neg (by simpa using c)]
      exact ih (p + 1) best B (by omega) hb hB h0 (by omega) k

/-- the arcs in the order in which they are relaxed -/
def ph (l : List S30) : Nat → List S30
  | 0 => []
  | i + 1 => ph l i ++ l.filter (fun a => decide (a.f0 = (i : Int)))
theorem ph_mem {l : List S30} {a : S30} : ∀ {i : Nat}, a ∈ ph l i ↔ a ∈ l ∧ 0 ≤ a.f0 ∧ a.f0 < i
  | 0 => by simp [ph]
  | i + 1 => by
    rw [ph, List.mem_append, ph_mem, List.mem_filter]
    simp only [decide_eq_true_eq]
    constructor
    · rintro (⟨h1, h2, h3⟩ | ⟨h1, h2⟩)
      · exact ⟨h1, h2, by omega⟩
      · exact ⟨h1, by omega, by omega⟩
    · rintro ⟨h1, h2, h3⟩
      by_cases c : a.f0 = i
      · exact .inr ⟨h1, c⟩
      · exact .inl ⟨h1, h2, by omega⟩
theorem ph_len (l : List S30) : ∀ i : Nat, (ph l i).length ≤ i * l.length
  | 0 => by simp [ph]
  | i + 1 => by
    have := ph_len l i
    have h2 := List.length_filter_le (fun a : S30 => decide (a.f0 = (i : Int))) l
    rw [ph, List.length_append, Nat.add_mul]; omega
theorem ph_pair {n : Nat} {l : List S30} (hl : ∀ a ∈ l, ArcUp n a) : ∀ i : Nat, (ph l i).Pairwise (fun a b => b.f1 ≠ a.f0)
  | 0 => by simp [ph]
  | i + 1 => by
    rw [ph, List.pairwise_append]
    refine ⟨ph_pair hl i, ?_, fun a ha b hb => ?_⟩
    · refine List.Pairwise.imp_of_mem (R := fun _ _ => True) ?_ (List.pairwise_of_forall (fun _ _ => trivial))
      intro a b ha hb _
      simp only [List.mem_filter, decide_eq_true_eq] at ha hb
      have := hl b hb.1
      have := this.2.1
      omega
    · simp only [List.mem_filter, decide_eq_true_eq] at hb
      have h2 := ph_mem.1 ha
      have := (hl b hb.1).2.1
      omega

theorem up_okl {n : Nat} {l : List S30} (hl : ∀ a ∈ l, ArcUp n a) : BFT.Okl n 10 (l.map toA) := fun x hx => by
  obtain ⟨a, ha, rfl⟩ := List.mem_map.1 hx
  obtain ⟨a1, a2, a3, a4, a5⟩ := hl a ha
  exact ⟨a1, by show a.f0 < n; omega, by show 0 ≤ a.f1; omega, a3, by show -10 ≤ a.f2; omega, a5⟩
theorem rd_stays (n : Nat) (l : List S30) (hl : ∀ a ∈ l, ArcUp n a) (v : Int) (v0 : 0 ≤ v) : ∀ (d : List Int), d.length = n → (∀ a ∈ l, a.f1 ≠ v) → BFT.rd ((l.map toA).foldl BFT.rx d) v = BFT.rd d v := by
  induction l with
  | nil => intro d _ _; rfl
  | cons a l ih =>
    intro d hd h
    have ha := hl a (by simp)
    rw [List.map_cons, List.foldl_cons, ih (fun b hb => hl b (by simp [hb])) _ (by rw [BFT.rx_length, hd]) (fun b hb => h b (by simp [hb])),
      BFT.rx_rd d (toA a) n hd ⟨by show 0 ≤ a.f1; have := ha.1; have := ha.2.1; omega, ha.2.2.1⟩ v v0, if_neg]
    intro k; exact h a (by simp) k.2.2.symm
theorem relaxed (n : Nat) : ∀ (l : List S30), (∀ a ∈ l, ArcUp n a) → l.Pairwise (fun a b => b.f1 ≠ a.f0) → ∀ (d : List Int), d.length = n → ∀ a ∈ l,
    BFT.rd ((l.map toA).foldl BFT.rx d) a.f0 ≠ BFT.Far → BFT.rd ((l.map toA).foldl BFT.rx d) a.f1 ≤ BFT.rd ((l.map toA).foldl BFT.rx d) a.f0 + a.f2
  | [], _, _, _, _, a, ha, _ => by cases ha
  | b :: l, hl, hp, d, hd, a, ha, hf => by
    rw [List.pairwise_cons] at hp
    have hl' : ∀ x ∈ l, ArcUp n x := fun x hx => hl x (by simp [hx])
    have hd' : (BFT.rx d (toA b)).length = n := by rw [BFT.rx_length, hd]
    have hb := hl b (by simp)
    rw [List.map_cons, List.foldl_cons] at hf ⊢
    by_cases hal : a ∈ l
    · exact relaxed n l hl' hp.2 _ hd' a hal hf
    · have e : a = b := by
        rcases List.mem_cons.1 ha with h | h
        · exact h
        · exact absurd h hal
      subst e
      obtain ⟨b1, b2, b3, b4, b5⟩ := hb
      have hs := rd_stays n l hl' a.f0 b1 (BFT.rx d (toA a)) hd' (fun x hx => hp.1 x hx)
      have hle := (BFT.round_le (l.map toA) n 10 (up_okl hl') (BFT.rx d (toA a)) hd').2 a.f1 (by omega) (by rw [BFT.round_length, hd']; exact b3)
      unfold BFT.round at hle
      rw [hs] at hf ⊢
      have e0 : BFT.rd (BFT.rx d (toA a)) a.f0 = BFT.rd d a.f0 := by
        rw [BFT.rx_rd d (toA a) n hd ⟨by show 0 ≤ a.f1; omega, b3⟩ a.f0 b1, if_neg]
        intro k
        have : a.f0 = a.f1 := k.2.2
        omega
      rw [e0] at hf ⊢
      have e1 : BFT.rd (BFT.rx d (toA a)) a.f1 ≤ BFT.rd d a.f0 + a.f2 := by
        rw [BFT.rx_rd d (toA a) n hd ⟨by show 0 ≤ a.f1; omega, b3⟩ a.f1 (by omega)]
        by_cases c : BFT.rd d a.f0 + a.f2 < BFT.rd d a.f1
        · rw [if_pos ⟨hf, c, rfl⟩]; exact Int.le_refl _
        · rw [if_neg (fun k => c k.2.1)]; omega
      omega

/-- what is left, once all are relaxed, are the distances -/
theorem low_dist (n : Nat) (l : List S30) (hl : ∀ a ∈ l, ArcUp n a) (hlen : l.length ≤ 144) (hn1 : 1 ≤ n) (hn : n ≤ 12) :
    BFT.IsDist (BFT.EE (l.map toA)) 0 n BFT.Far (BFT.rd (((ph l n).map toA).foldl BFT.rx (BFT.d0 n 0))) := by
  have hF : BFT.Far = 1152921504606846976 := rfl
  have hpl : ∀ a ∈ ph l n, ArcUp n a := fun a ha => hl a (ph_mem.1 ha).1
  have hS := BFT.St.zero ((ph l n).map toA) n 10 0 (by decide) (by omega)
  have hlen2 := ph_len l n
  have hlen3 : n * l.length ≤ 12 * 144 := Nat.mul_le_mul hn hlen
  have hbnd := BFT.round_bnd ((ph l n).map toA) n 10 (by decide) (up_okl hpl) (BFT.d0 n 0) 0 (BFT.d0_length _ _) (by simpa using hS.bnd)
  have hle := BFT.round_le ((ph l n).map toA) n 10 (up_okl hpl) (BFT.d0 n 0) (BFT.d0_length _ _)
  have hatt := BFT.round_att (BFT.EE (l.map toA)) 0 ((ph l n).map toA) n 10 (up_okl hpl) (fun x hx => by
    obtain ⟨a, ha, rfl⟩ := List.mem_map.1 hx
    exact List.mem_map_of_mem (ph_mem.1 ha).1) (BFT.d0 n 0) (BFT.d0_length _ _) (fun v v0 v1 h => by
      rw [BFT.d0_length] at v1
      rw [BFT.d0_rd n 0 v (by decide) (by omega) v0 v1] at h ⊢
      split at h
      · rename_i e; rw [if_pos e, e]; exact .nil
      · exact absurd rfl h)
  have hlenR := BFT.round_length ((ph l n).map toA) (BFT.d0 n 0)
  rw [BFT.d0_length] at hlenR
  rw [List.length_map] at hbnd
  unfold BFT.round at hbnd hle hatt hlenR
  have h0 := hle.2 0 (by decide) (by rw [hlenR]; omega)
  rw [BFT.d0_rd n 0 0 (by decide) (by omega) (by decide) (by omega), if_pos rfl] at h0
  refine BFT.isDist_of (fun v a b c => hatt v a (by rw [hlenR]; exact b) c) h0 (by omega) (fun u v w e c => ?_)
  obtain ⟨a, ha, ea⟩ := List.mem_map.1 e
  simp only [toA, BFT.Arc.mk.injEq] at ea
  obtain ⟨rfl, rfl, rfl⟩ := ea
  obtain ⟨b1, b2, b3, b4, b5⟩ := hl a ha
  have hr := relaxed n (ph l n) hpl (ph_pair hl n) (BFT.d0 n 0) (BFT.d0_length _ _) a (ph_mem.2 ⟨ha, b1, by omega⟩) c
  refine ⟨?_, hr⟩
  rcases hbnd a.f0 b1 (by rw [hlenR]; omega) with k | k
  · exact absurd k c
  · omega

theorem low_l3 (n : Nat) (l : List S30) (hl : ∀ a ∈ l, ArcUp n a) (hlen : l.length ≤ 144) (hn1 : 1 ≤ n) (hn : n ≤ 12) (hO : ArcsOK n l 0) (hX : Fixed n l 0) (he : dists n l 0 = ((ph l n).map toA).foldl BFT.rx (BFT.d0 n 0)) :
    ∀ (m i k : Nat), i + m = n → 100 ≤ k → watershedlaw6_PathLow.l3 (k + m * (l.length + 2) + 1) n l (((ph l i).map toA).foldl BFT.rx (BFT.d0 n 0)) (i : Int) = some true := by
  intro m
  induction m with
  | zero =>
    intro i k hi hk
    have hin : i = n := by omega
    subst hin
    rw [watershedlaw6_PathLow.l3, if_neg (by omega), any_f _ hO hX, Option.bind_some, if_pos rfl, if_pos (show (((dists (i : Int) l 0, ([] : List Int), true).2.1.length : Nat) : Int) = 0 from rfl), ← he, ints_same _ (by rw [dists_len]; omega) _ (by rw [dists_len]; omega), Option.bind_some, if_pos rfl, right_f _ hO hX (by omega)]
    rfl
  | succ m ih =>
    intro i k hi hk
    have hpl : ∀ a ∈ ph l i, ArcUp n a := fun a ha => hl a (ph_mem.1 ha).1
    have hS := BFT.St.zero ((ph l i).map toA) n 10 0 (by decide) (by omega)
    have hlen2 := ph_len l i
    have hlen3 : i * l.length ≤ 12 * 144 := Nat.mul_le_mul (by omega) hlen
    have hbnd := BFT.round_bnd ((ph l i).map toA) n 10 (by decide) (up_okl hpl) (BFT.d0 n 0) 0 (BFT.d0_length _ _) (by simpa using hS.bnd)
    have hlenR := BFT.round_length ((ph l i).map toA) (BFT.d0 n 0)
    rw [BFT.d0_length] at hlenR
    rw [List.length_map] at hbnd
    unfold BFT.round at hbnd hlenR
    have q := low_l4 n l hl hlen hn i (by omega) l.length 0 _ _ (by omega) hlenR hbnd (by omega) (by omega) (k + m * (l.length + 2) + 1)
    rw [show k + (m + 1) * (l.length + 2) + 1 = (k + m * (l.length + 2) + 1 + l.length + 1) + 1 by rw [Nat.add_mul]; omega, watershedlaw6_PathLow.l3, if_pos (by omega)]
    refine Eq.trans q ?_
    rw [List.drop_zero]
    have := ih (i + 1) k (by omega) hk
    rw [ph, List.map_append, List.foldl_append] at this
    exact this

theorem PathLow : watershedlaw6_PathLow.Pure := by
  intro a0 l1 _ _ _ _
  obtain ⟨t, t0, t1, ht⟩ := within_in a0 12 (by decide) (by decide)
  have en : wrap64 (1 + t) = 1 + t := w64 (by omega) (by omega)
  obtain ⟨n, hn⟩ : ∃ n : Nat, 1 + t = n := ⟨(1 + t).toNat, by omega⟩
  obtain ⟨l, g1, g2, g3⟩ := low_l1 n l1 (BFT.d0 n 0) (by omega) n 0 [] (by omega) (by simp) (by simp)
  have hIn : ∀ a ∈ l, ArcIn n 10 a := fun a ha => by
    obtain ⟨a1, a2, a3, a4, a5⟩ := g2 a ha
    exact ⟨a1, by omega, by omega, a3, by omega, by omega⟩
  have hO : ArcsOK n l 0 := arcsOK_in (by omega) (by omega) (by decide) (by omega) (by decide) hIn (by omega)
  have hD := low_dist n l g2 g1 (by omega) (by omega)
  have hokl := hO.okl
  have hfar := hO.far
  simp only [Int.toNat_natCast] at hokl hfar
  have hmin : BFT.HasMin (BFT.EE (l.map toA)) 0 := BFT.hasMin_of_isDist (n := n) ⟨by decide, by omega⟩ (fun u v w e => by
    have := hokl _ e; exact ⟨this.2.2.1, this.2.2.2.1⟩) hD
  have hX : Fixed n l 0 := by
    obtain ⟨j, hj, e⟩ := BFT.stops (l.map toA) n _ (BFT.mxA_nonneg _) hokl 0 (by decide) (by omega) hfar hmin
    unfold Fixed
    simp only [Int.toNat_natCast]
    have a2 := BFT.it_stays _ j _ e (n - 1 - j)
    rw [show j + (n - 1 - j) = n - 1 by omega] at a2
    rw [a2, e]
  have he : dists n l 0 = ((ph l n).map toA).foldl BFT.rx (BFT.d0 n 0) := by
    have D2 := BFT.it_dist (l.map toA) n _ (BFT.mxA_nonneg _) hokl 0 (by decide) (by omega) hfar hmin
    have hlenR := BFT.round_length ((ph l n).map toA) (BFT.d0 n 0)
    unfold BFT.round at hlenR
    refine BFT.rd_ext (by rw [dists_len, hlenR, BFT.d0_length]; rfl) (fun v v0 v1 => ?_)
    rw [dists_len] at v1
    exact D2.uniq hD v v0 (by simpa using v1)
  have hC : ∀ m, m ≤ 12 → lowC m ≤ 300 := by
    intro m hm
    have : m = 0 ∨ m = 1 ∨ m = 2 ∨ m = 3 ∨ m = 4 ∨ m = 5 ∨ m = 6 ∨ m = 7 ∨ m = 8 ∨ m = 9 ∨ m = 10 ∨ m = 11 ∨ m = 12 := by omega
    rcases this with rfl | rfl | rfl | rfl | rfl | rfl | rfl | rfl | rfl | rfl | rfl | rfl | rfl <;> decide
  have hCn := hC n (by omega)
  have hmul : n * (l.length + 2) ≤ 12 * 146 := Nat.mul_le_mul (by omega) (by omega)
  have r3 := low_l3 n l g2 g1 (by omega) (by omega) hO hX he n 0 (10000 - n - lowC n - n * (l.length + 2) - 1) (by omega) (by omega)
  rw [show 10000 - n - lowC n - n * (l.length + 2) - 1 + n * (l.length + 2) + 1 = 10000 - n - lowC n by omega] at r3
  have r1 := g3 (10000 - n - lowC n)
  rw [show 10000 - n - lowC n + lowC n = 10000 - n by omega] at r1
  have r0 := low_l0 n l1 (by omega) (by omega) (n - 1) 1 (10000 - n) (List.replicate n 0) (by omega) (by omega) (by simp) (by simp [List.getD_eq_getElem?_getD, show 0 < n by omega]) (by intro j h1 h2; omega)
  rw [show 10000 - n + (n - 1) + 1 = 10000 by omega] at r0
  refine ⟨10000, ?_⟩
  unfold watershedlaw6_PathLow.f
  rw [known_ge _ (by omega), Option.bind_some, if_pos rfl, ht, Option.bind_some, en, hn, if_pos (by omega), if_pos (by omega), Int.toNat_natCast]
  exact r0.trans (r1.trans r3)
end Go.Proofs.Ytpkhdipedmihgaa.Pure
