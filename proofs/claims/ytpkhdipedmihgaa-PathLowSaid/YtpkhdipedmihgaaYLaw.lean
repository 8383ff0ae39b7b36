/- What the laws' small parts compute: rows of numbers alike, arcs from numbers, the document's rounds over the arcs. Plain. -/
import Derived.Test.YtpkhdipedmihgaaPx5
import Derived.Test.YtpkhdipedmihgaaPx2
import Derived.Test.YtpkhdipedmihgaaPx3
import Derived.Test.YtpkhdipedmihgaaYFrom
import Derived.Test.YtpkhdipedmihgaaYAny
import Derived.KernelRfl
namespace Go.Proofs.Ytpkhdipedmihgaa.Pure
open Go.RowKit Go.Proofs.Ytpkhdipedmihgaa.P Go.Proofs.YtpkhdipedmihgaaW.PrintWords Go.Proofs.YtpkhdipedmihgaaW.PrintLast
set_option linter.unusedVariables false
set_option linter.unusedSimpArgs false

theorem mono_ge {α : Type} {f : Nat → Option α} (h : ∀ k, LeO (f k) (f (k + 1))) {K : Nat} {r : α} (e : f K = some r) : ∀ k, K ≤ k → f k = some r := by
  intro k hk
  obtain ⟨d, rfl⟩ := Nat.exists_eq_add_of_le hk
  induction d with
  | zero => exact e
  | succ d ih => exact h _ _ (ih (by omega))

theorem known100 : watershedlaw6_known.f 100 = some true := by kernel_rfl
theorem known_ge (k : Nat) (hk : 100 ≤ k) : watershedlaw6_known.f k = some true := mono_ge (fun k => watershedlaw6_known.mono k) known100 k hk

theorem w64 {n : Int} (h0 : -9223372036854775808 ≤ n) (h1 : n ≤ 9223372036854775807) : wrap64 n = n := by unfold wrap64; omega

theorem ints_l0 (l : List Int) (hl : l.length ≤ 1000000000) : ∀ m i k, i + m = l.length → watershedref6_Ints.l0 (k + m + 1) l l (i : Int) = some true := by
  intro m
  induction m with
  | zero => intro i k h; rw [watershedref6_Ints.l0, if_neg (by omega)]
  | succ m ih =>
    intro i k h
    rw [watershedref6_Ints.l0, if_pos (by omega), if_pos (by omega), if_pos (by omega), if_pos rfl, w64 (by omega) (by omega)]
    have := ih (i + 1) k (by omega)
    rw [show k + (m + 1) = k + m + 1 by omega]
    exact this
theorem ints_same (l : List Int) (hl : l.length ≤ 1000000000) (k : Nat) (hk : l.length + 1 ≤ k) : watershedref6_Ints.f k l l = some true := by
  unfold watershedref6_Ints.f
  rw [if_pos rfl]
  have := ints_l0 l hl l.length 0 (k - l.length - 1) (by omega)
  rw [show k - l.length - 1 + l.length + 1 = k by omega] at this
  exact this
theorem equal_l0 (l : List Int) (hl : l.length ≤ 1000000000) : ∀ m i k, i + m = l.length → slices_Equal_int_int.l0 (k + m + 1) l l (l.length : Int) (i : Int) = some true := by
  intro m
  induction m with
  | zero => intro i k h; rw [slices_Equal_int_int.l0, if_neg (by omega)]
  | succ m ih =>
    intro i k h
    rw [slices_Equal_int_int.l0, if_pos (by omega), if_pos (by omega), if_pos (by omega), if_pos (by omega), if_pos rfl, w64 (by omega) (by omega)]
    have := ih (i + 1) k (by omega)
    rw [show k + (m + 1) = k + m + 1 by omega]
    exact this
theorem equal_same (l : List Int) (hl : l.length ≤ 1000000000) (k : Nat) (hk : l.length + 1 ≤ k) : slices_Equal_int_int.f k l l = some true := by
  unfold slices_Equal_int_int.f
  rw [if_pos rfl]
  have := equal_l0 l hl l.length 0 (k - l.length - 1) (by omega)
  rw [show k - l.length - 1 + l.length + 1 = k by omega] at this
  exact this

theorem within_in (a n : Int) (h1 : 1 ≤ n) (h2 : n ≤ 4611686018427387904) : ∃ t, 0 ≤ t ∧ t < n ∧ watershedlaw6_within.f a n = some t := by
  have g1 : Int.tmod a n < n := Int.tmod_lt_of_pos a (by omega)
  have g2 : -n < Int.tmod a n := Int.lt_tmod_of_pos a (by omega)
  unfold watershedlaw6_within.f
  rw [if_neg (by omega)]
  split
  · exact ⟨Int.tmod a n + n, by omega, by omega, by rw [w64 (by omega) (by omega)]⟩
  · exact ⟨Int.tmod a n, by omega, by omega, rfl⟩

/-- arcs between places, of lengths within bounds -/
def ArcIn (n low : Int) (a : S30) : Prop := 0 ≤ a.f0 ∧ a.f0 < n ∧ 0 ≤ a.f1 ∧ a.f1 < n ∧ -low ≤ a.f2 ∧ a.f2 < 1048576

theorem tmod_in {a n : Int} (ha : 0 ≤ a) (h : 0 < n) : 0 ≤ Int.tmod a n ∧ Int.tmod a n < n :=
  ⟨Int.tmod_nonneg _ ha, Int.tmod_lt_of_pos a h⟩
theorem tdiv_in {a n : Int} (ha : 0 ≤ a) (h : 0 < n) : 0 ≤ Int.tdiv a n ∧ Int.tdiv a n ≤ a := by
  rw [Int.tdiv_eq_ediv_of_nonneg ha]
  exact ⟨Int.ediv_nonneg ha (by omega), Int.ediv_le_self _ ha⟩

theorem arcs_l0 (n : Int) (ns : List Int) (low : Int) (hn1 : 1 ≤ n) (hn2 : n ≤ 1000) (hl0 : 0 ≤ low) (hl1 : low < 1000) (hlen : ns.length ≤ 1000000000000000) :
    ∀ (m i : Nat) (acc : List S30), i + m = 50 → acc.length = i → (∀ a ∈ acc, ArcIn n low a) →
    ∃ l : List S30, l.length ≤ 50 ∧ (∀ a ∈ l, ArcIn n low a) ∧ ∀ k, watershedlaw6_Arcs.l0 (k + 2 * m + 2) n ns low acc (i : Int) = some l := by
  intro m
  induction m with
  | zero =>
    intro i acc h ha hacc
    refine ⟨acc, by omega, hacc, fun k => ?_⟩
    rw [show k + 2 * 0 + 2 = k + 1 + 1 by omega, watershedlaw6_Arcs.l0]
    split
    · rw [watershedlaw6_Arcs.j1, if_neg (by simp; omega)]
    · rw [watershedlaw6_Arcs.j1, if_neg (by simp)]
  | succ m ih =>
    intro i acc h ha hacc
    by_cases c : (i : Int) < (ns.length : Int)
    · obtain ⟨t, t0, t1, ht⟩ := within_in (rd ns i) 1125899906842624 (by decide) (by decide)
      have e1 := tdiv_in (n := 31) t0 (by decide)
      have e2 := tdiv_in (n := 9000) t0 (by decide)
      have e3 := tdiv_in (n := 117000) t0 (by decide)
      have e4 := tdiv_in (n := 1000) t0 (by decide)
      have f0 := tmod_in (n := n) t0 (by omega)
      have f1 := tmod_in (n := n) e1.1 (by omega)
      have f3 := tmod_in (n := 1048576) e3.1 (by omega)
      have f4 := tmod_in (n := 9) e4.1 (by omega)
      by_cases d : Int.tmod (wrap64 (Int.tdiv t 9000)) 13 = 0
      · obtain ⟨l, l1, l2, l3⟩ := ih (i + 1) (acc ++ [(⟨Int.tmod t n, Int.tmod (wrap64 (Int.tdiv t 31)) n, wrap64 ((Int.tmod (wrap64 (Int.tdiv t 117000)) 1048576) - low)⟩ : S30)]) (by omega) (by simp [ha]) (by
          intro a hm
          rcases List.mem_append.1 hm with hm | hm
          · exact hacc a hm
          · rw [List.mem_singleton.1 hm]
            rw [w64 (n := Int.tdiv t 31) (by omega) (by omega), w64 (n := Int.tdiv t 117000) (by omega) (by omega), w64 (by omega) (by omega)]
            exact ⟨f0.1, f0.2, f1.1, f1.2, by show -low ≤ _ - low; omega, by show _ - low < _; omega⟩)
        refine ⟨l, l1, l2, fun k => ?_⟩
        rw [show k + 2 * (m + 1) + 2 = (k + 2 * m + 2) + 1 + 1 by omega, watershedlaw6_Arcs.l0, if_pos c, watershedlaw6_Arcs.j1, if_pos (by simp; omega), if_pos (by omega), if_pos c, ht, Option.bind_some,
          if_neg (by omega), if_pos d, if_pos (by omega), w64 (n := (i : Int) + 1) (by omega) (by omega)]
        exact l3 k
      · obtain ⟨l, l1, l2, l3⟩ := ih (i + 1) (acc ++ [(⟨Int.tmod t n, Int.tmod (wrap64 (Int.tdiv t 31)) n, wrap64 ((Int.tmod (wrap64 (Int.tdiv t 1000)) 9) - low)⟩ : S30)]) (by omega) (by simp [ha]) (by
          intro a hm
          rcases List.mem_append.1 hm with hm | hm
          · exact hacc a hm
          · rw [List.mem_singleton.1 hm]
            rw [w64 (n := Int.tdiv t 31) (by omega) (by omega), w64 (n := Int.tdiv t 1000) (by omega) (by omega), w64 (by omega) (by omega)]
            exact ⟨f0.1, f0.2, f1.1, f1.2, by show -low ≤ _ - low; omega, by show _ - low < _; omega⟩)
        refine ⟨l, l1, l2, fun k => ?_⟩
        rw [show k + 2 * (m + 1) + 2 = (k + 2 * m + 2) + 1 + 1 by omega, watershedlaw6_Arcs.l0, if_pos c, watershedlaw6_Arcs.j1, if_pos (by simp; omega), if_pos (by omega), if_pos c, ht, Option.bind_some,
          if_neg (by omega), if_neg d, if_pos (by omega), w64 (n := (i : Int) + 1) (by omega) (by omega)]
        exact l3 k
    · refine ⟨acc, by omega, hacc, fun k => ?_⟩
      rw [show k + 2 * (m + 1) + 2 = (k + 2 * m + 2) + 1 + 1 by omega, watershedlaw6_Arcs.l0, if_neg c, watershedlaw6_Arcs.j1, if_neg (by simp)]

theorem arcs_in (n : Int) (ns : List Int) (low : Int) (hn1 : 1 ≤ n) (hn2 : n ≤ 1000) (hl0 : 0 ≤ low) (hl1 : low < 1000) (hlen : ns.length ≤ 1000000000000000) :
    ∃ l : List S30, l.length ≤ 50 ∧ (∀ a ∈ l, ArcIn n low a) ∧ ∀ k, 102 ≤ k → watershedlaw6_Arcs.f k n ns low = some l := by
  obtain ⟨l, l1, l2, l3⟩ := arcs_l0 n ns low hn1 hn2 hl0 hl1 hlen 50 0 [] (by omega) rfl (by simp)
  refine ⟨l, l1, l2, fun k hk => ?_⟩
  have := l3 (k - 102)
  rw [show k - 102 + 2 * 50 + 2 = k by omega] at this
  exact this

theorem mxA_in {n low : Int} {l : List S30} (hl : ∀ a ∈ l, ArcIn n low a) (h : low < 1000) : BFT.mxA (l.map toA) ≤ 1048576 := by
  induction l with
  | nil => decide
  | cons a l ih =>
    have := ih (fun b hb => hl b (by simp [hb]))
    have h2 := hl a (by simp)
    obtain ⟨a1, a2, a3, a4, a5, a6⟩ := h2
    simp only [BFT.mxA, List.map_cons, List.foldr_cons] at *
    have e : (toA a).len = a.f2 := rfl
    rw [e]
    omega
theorem arcsOK_in {n low s : Int} {l : List S30} (h1 : 1 ≤ n) (h2 : n ≤ 20) (h3 : 0 ≤ s) (h4 : s < n) (hlow : low < 1000) (hl : ∀ a ∈ l, ArcIn n low a) (hlen : l.length ≤ 1000) : ArcsOK n l s := by
  have hm := mxA_in hl hlow
  have h0 := BFT.mxA_nonneg (l.map toA)
  refine ⟨h1, by omega, h3, h4, by omega, by omega, ?_, fun a ha => ?_⟩
  · have a1 : (l.length : Int) * BFT.mxA (l.map toA) ≤ 1000 * 1048576 := Int.mul_le_mul (by omega) hm h0 (by decide)
    have a0 : 0 ≤ (l.length : Int) * BFT.mxA (l.map toA) := Int.mul_nonneg (by omega) h0
    have a2 : (n + 1) * ((l.length : Int) * BFT.mxA (l.map toA)) ≤ 21 * (1000 * 1048576) := Int.mul_le_mul (by omega) a1 a0 (by decide)
    have : BFT.Far = 1152921504606846976 := rfl
    omega
  · obtain ⟨a1, a2, a3, a4, a5, a6⟩ := hl a ha
    exact ⟨a1, a2, a3, a4⟩
theorem nonneg_in {n : Int} {l : List S30} (hl : ∀ a ∈ l, ArcIn n 0 a) : NonNeg l := fun a ha => by
  obtain ⟨a1, a2, a3, a4, a5, a6⟩ := hl a ha; omega

/-! ### the document's rounds -/
theorem l2_run (n : Nat) (W : Int) (l : List S30) (hW : 0 ≤ W) (hl : BFT.Okl n W (l.map toA)) (hlen : l.length ≤ 1000000000) :
    ∀ (m p k : Nat) (d : List Int) (more : Bool) (i B : Int), p + m = l.length → d.length = n → BFT.Bnd d B → 0 ≤ B → B + m * W < BFT.Far →
    ∃ more', watershedref6_from.l2 (k + m + 1) n l d more i (p : Int) = watershedref6_from.l1 k n l (((l.drop p).map toA).foldl BFT.rx d) more' (wrap64 (i + 1)) ∧
      (more' = false → more = false ∧ ((l.drop p).map toA).foldl BFT.rx d = d) ∧
      (more' = true → more = true ∨ ∃ v : Int, 0 ≤ v ∧ v < n ∧ BFT.rd (((l.drop p).map toA).foldl BFT.rx d) v < BFT.rd d v) := by
  intro m
  induction m with
  | zero =>
    intro p k d more i B hp hd hB hB0 hF
    have hdr : l.drop p = [] := List.drop_eq_nil_of_le (by omega)
    refine ⟨more, ?_, ?_, ?_⟩
    · rw [watershedref6_from.l2, if_neg (by omega), hdr]; rfl
    · intro h; rw [hdr]; exact ⟨h, rfl⟩
    · intro h; exact .inl h
  | succ m ih =>
    intro p k d more i B hp hd hB hB0 hF
    have hpl : p < l.length := by omega
    have hdr : l.drop p = l[p] :: l.drop (p + 1) := List.drop_eq_getElem_cons hpl
    have hrd : rd_T30 l (p : Int) = l[p] := by simp [rd_T30, hpl]
    have ha := hl (toA l[p]) (List.mem_map_of_mem (List.getElem_mem hpl))
    obtain ⟨a1, a2, a3, a4, a5, a6⟩ := ha
    simp only [toA] at a1 a2 a3 a4 a5 a6
    have e1 : ((m + 1 : Nat) : Int) * W = m * W + W := by rw [Int.natCast_add, Int.add_mul]; simp
    rw [e1] at hF
    have hmW : 0 ≤ (m : Int) * W := Int.mul_nonneg (by omega) hW
    have hFar : BFT.Far = 1152921504606846976 := rfl
    have hfold : ((l.drop p).map toA).foldl BFT.rx d = ((l.drop (p + 1)).map toA).foldl BFT.rx (BFT.rx d (toA l[p])) := by rw [hdr]; rfl
    have hOk := hl (toA l[p]) (List.mem_map_of_mem (List.getElem_mem hpl))
    have hB' := BFT.rx_bnd d (toA l[p]) n W B hd hOk hW hB
    have hd' : (BFT.rx d (toA l[p])).length = n := by rw [BFT.rx_length, hd]
    have hle := BFT.rx_le d (toA l[p]) n hd ⟨a3, a4⟩
    have hokdrop : BFT.Okl n W ((l.drop (p + 1)).map toA) := fun a hm => by
      obtain ⟨x, hx, rfl⟩ := List.mem_map.1 hm
      exact hl _ (List.mem_map_of_mem (List.mem_of_mem_drop hx))
    have hle2 := BFT.round_le ((l.drop (p + 1)).map toA) n W hokdrop (BFT.rx d (toA l[p])) hd'
    unfold BFT.round at hle2
    rw [hfold]
    rw [show k + (m + 1) + 1 = (k + m + 1) + 1 by omega, watershedref6_from.l2, if_pos (by omega), if_pos (by omega), hrd, if_pos a1, if_pos (by omega)]
    have eRd : ∀ v : Int, rd d v = BFT.rd d v := fun v => rfl
    simp only [eRd]
    by_cases c : BFT.rd d l[p].f0 = 1152921504606846976
    · rw [if_pos c, w64 (by omega) (by omega)]
      have hrx : BFT.rx d (toA l[p]) = d := by unfold BFT.rx; rw [if_neg]; intro h; exact h.1 c
      rw [hrx]
      have := ih (p + 1) k d more i B (by omega) hd hB hB0 (by omega)
      exact_mod_cast this
    · have hu := hB l[p].f0 a1 (by omega)
      have hu2 : -B ≤ BFT.rd d l[p].f0 ∧ BFT.rd d l[p].f0 ≤ B := by
        rcases hu with h | h
        · exact absurd h c
        · exact h
      rw [if_neg c, if_pos a3, if_pos (by omega), w64 (n := BFT.rd d l[p].f0 + l[p].f2) (by omega) (by omega), w64 (n := (p : Int) + 1) (by omega) (by omega)]
      by_cases c2 : BFT.rd d l[p].f0 + l[p].f2 < BFT.rd d l[p].f1
      · rw [if_pos c2]
        have hrx : BFT.rx d (toA l[p]) = d.set l[p].f1.toNat (BFT.rd d l[p].f0 + l[p].f2) := by unfold BFT.rx; rw [if_pos ⟨c, c2⟩]; rfl
        obtain ⟨more', g1, g2, g3⟩ := ih (p + 1) k (BFT.rx d (toA l[p])) true i (B + W) (by omega) hd' hB' (by omega) (by omega)
        rw [hrx] at g1
        refine ⟨more', ?_, ?_, ?_⟩
        · rw [hrx]; exact_mod_cast g1
        · intro h; exact absurd (g2 h).1 (by simp)
        · intro _
          refine .inr ⟨l[p].f1, a3, a4, ?_⟩
          have h1 := hle2.2 l[p].f1 a3 (by rw [hle2.1, hd']; exact a4)
          have h2 : BFT.rd (BFT.rx d (toA l[p])) l[p].f1 = BFT.rd d l[p].f0 + l[p].f2 := by
            rw [hrx, BFT.rd_set _ _ _ _ a3 (by omega) a3, if_pos rfl]
          omega
      · rw [if_neg c2]
        have hrx : BFT.rx d (toA l[p]) = d := by unfold BFT.rx; rw [if_neg]; intro h; exact c2 h.2
        rw [hrx]
        exact ih (p + 1) k d more i B (by omega) hd hB hB0 (by omega)

/-- the rounds, from the i-th -/
theorem l1_run (n : Nat) (W s : Int) (l : List S30) (hW : 0 ≤ W) (hl : BFT.Okl n W (l.map toA)) (hlen : l.length ≤ 1000000) (hn : n ≤ 1000) (h0 : 0 ≤ s) (h1 : s < n)
    (hF : ((n : Int) + 1) * (l.length * W) < BFT.Far) :
    ∀ (m i k : Nat) (more : Bool), i + m = n + 1 →
      (more = false → ∃ j, j < i ∧ BFT.round (l.map toA) (BFT.it (l.map toA) j (BFT.d0 n s)) = BFT.it (l.map toA) j (BFT.d0 n s)) →
      (more = true → i = 0 ∨ ∃ j, i = j + 1 ∧ BFT.it (l.map toA) i (BFT.d0 n s) ≠ BFT.it (l.map toA) j (BFT.d0 n s)) →
    ∃ more', watershedref6_from.l1 (k + m * (l.length + 3) + 2) n l (BFT.it (l.map toA) i (BFT.d0 n s)) more (i : Int) = some (BFT.it (l.map toA) (n + 1) (BFT.d0 n s), more') ∧
      (more' = false → ∃ j, j ≤ n ∧ BFT.round (l.map toA) (BFT.it (l.map toA) j (BFT.d0 n s)) = BFT.it (l.map toA) j (BFT.d0 n s)) ∧
      (more' = true → BFT.it (l.map toA) (n + 1) (BFT.d0 n s) ≠ BFT.it (l.map toA) n (BFT.d0 n s)) := by
  intro m
  induction m with
  | zero =>
    intro i k more hi hm0 hm1
    have hi' : i = n + 1 := by omega
    subst hi'
    refine ⟨more, ?_, ?_, ?_⟩
    · rw [show k + 0 * (l.length + 3) + 2 = k + 1 + 1 by omega, watershedref6_from.l1, if_neg (by omega), watershedref6_from.j2, if_neg (by simp)]
    · intro h; obtain ⟨j, hj, e⟩ := hm0 h; exact ⟨j, by omega, e⟩
    · intro h
      rcases hm1 h with h | ⟨j, hj, e⟩
      · omega
      · have : j = n := by omega
        subst this; exact e
  | succ m ih =>
    intro i k more hi hm0 hm1
    have e0 : k + (m + 1) * (l.length + 3) + 2 = (k + m * (l.length + 3) + 2) + l.length + 1 + 1 + 1 := by rw [Nat.add_mul]; omega
    rw [e0, watershedref6_from.l1, if_pos (by omega), watershedref6_from.j2]
    cases more with
    | false =>
      obtain ⟨j, hj, e⟩ := hm0 rfl
      rw [if_neg (by simp)]
      refine ⟨false, ?_, fun _ => ⟨j, by omega, e⟩, fun h => by cases h⟩
      have a1 := BFT.it_stays _ j _ e (i - j)
      have a2 := BFT.it_stays _ j _ e (n + 1 - j)
      rw [show j + (i - j) = i by omega] at a1
      rw [show j + (n + 1 - j) = n + 1 by omega] at a2
      rw [a1, a2]
    | true =>
      rw [if_pos rfl]
      have S := BFT.St.it (l := l.map toA) hW hl h0 h1 i
      have hlW : 0 ≤ (l.length : Int) * W := Int.mul_nonneg (by omega) hW
      have hle : (i : Int) * (l.length * W) + l.length * W ≤ ((n : Int) + 1) * (l.length * W) := by
        have h2 : ((i : Int) + 1) * (l.length * W) ≤ ((n : Int) + 1) * (l.length * W) := Int.mul_le_mul_of_nonneg_right (by omega) hlW
        rw [Int.add_mul, Int.one_mul] at h2
        exact h2
      have hb := S.bnd
      rw [List.length_map] at hb
      obtain ⟨more', g1, g2, g3⟩ := l2_run n W l hW hl (by omega) l.length 0 (k + m * (l.length + 3) + 2) (BFT.it (l.map toA) i (BFT.d0 n s)) false (i : Int) ((i : Int) * (l.length * W)) (by omega) S.len hb
        (Int.mul_nonneg (by omega) hlW) (by omega)
      have g1' := g1
      rw [List.drop_zero] at g1' g2 g3
      have er : (l.map toA).foldl BFT.rx (BFT.it (l.map toA) i (BFT.d0 n s)) = BFT.it (l.map toA) (i + 1) (BFT.d0 n s) := by rw [BFT.it_succ]; rfl
      rw [er] at g1' g2 g3
      rw [w64 (by omega) (by omega)] at g1'
      obtain ⟨m2, q1, q2, q3⟩ := ih (i + 1) k more' (by omega)
        (fun h => ⟨i, by omega, by rw [← BFT.it_succ]; exact (g2 h).2⟩)
        (fun h => .inr ⟨i, rfl, by
          rcases g3 h with c | ⟨v, v0, v1, v2⟩
          · cases c
          · intro e; rw [e] at v2; omega⟩)
      refine ⟨m2, ?_, q2, q3⟩
      rw [← q1]
      exact_mod_cast g1'

theorem far_l0 (n : Nat) (s : Int) (l : List S30) (hn : n ≤ 1000) (h0 : 0 ≤ s) (h1 : s < n) :
    ∀ (m i k : Nat) (d : List Int), i + m = n → d.length = n → (∀ j, j < i → d.getD j 0 = BFT.Far) →
      watershedref6_from.l0 (k + m + 1) n l s d (i : Int) = watershedref6_from.l1 k n l (BFT.d0 n s) true 0 := by
  intro m
  induction m with
  | zero =>
    intro i k d hi hd hf
    have e : d = List.replicate n BFT.Far := by
      apply List.ext_getElem (by simp [hd])
      intro j a b
      have := hf j (by omega)
      simpa [a] using this
    rw [watershedref6_from.l0, if_neg (by omega), if_pos h0, if_pos (by omega), e]
    rfl
  | succ m ih =>
    intro i k d hi hd hf
    rw [show k + (m + 1) + 1 = (k + m + 1) + 1 by omega, watershedref6_from.l0, if_pos (by omega), if_pos (by omega), if_pos (by omega), w64 (by omega) (by omega)]
    exact ih (i + 1) k (d.set i BFT.Far) (by omega) (by simp [hd]) (by
      intro j hj
      by_cases e : j = i
      · subst e; simp [show j < d.length by omega]
      · have := hf j (by omega)
        simp only [List.getD_eq_getElem?_getD, List.getElem?_set] at this ⊢
        rw [if_neg (fun h => e h.symm)]; exact this)

theorem from_run (n : Nat) (W s : Int) (l : List S30) (hW : 0 ≤ W) (hl : BFT.Okl n W (l.map toA)) (hlen : l.length ≤ 1000) (hn : n ≤ 20) (h0 : 0 ≤ s) (h1 : s < n)
    (hF : ((n : Int) + 1) * (l.length * W) < BFT.Far) (k : Nat) (hk : 30000 ≤ k) :
    ∃ more', watershedref6_from.f k n l s = some (BFT.it (l.map toA) (n + 1) (BFT.d0 n s), more') ∧
      (more' = false → ∃ j, j ≤ n ∧ BFT.round (l.map toA) (BFT.it (l.map toA) j (BFT.d0 n s)) = BFT.it (l.map toA) j (BFT.d0 n s)) ∧
      (more' = true → BFT.it (l.map toA) (n + 1) (BFT.d0 n s) ≠ BFT.it (l.map toA) n (BFT.d0 n s)) := by
  have hb : (n + 1) * (l.length + 3) ≤ 21 * 1003 := Nat.mul_le_mul (by omega) (by omega)
  obtain ⟨more', q1, q2, q3⟩ := l1_run n W s l hW hl (by omega) (by omega) h0 h1 hF (n + 1) 0 (k - n - 1 - (n + 1) * (l.length + 3) - 2) true (by omega) (fun h => by cases h) (fun _ => .inl rfl)
  refine ⟨more', ?_, q2, q3⟩
  unfold watershedref6_from.f
  rw [if_pos (by omega), if_pos (by omega)]
  have := far_l0 n s l (by omega) h0 h1 n 0 (k - n - 1) (List.replicate n 0) (by omega) (by simp) (by intro j hj; omega)
  rw [show k - n - 1 + n + 1 = k by omega] at this
  rw [Int.toNat_natCast]
  refine Eq.trans this ?_
  rw [show k - n - 1 - (n + 1) * (l.length + 3) - 2 + (n + 1) * (l.length + 3) + 2 = k - n - 1 by omega] at q1
  exact q1

/-- the document's From, of arcs none below 0 -/
theorem refFrom (n s : Int) (l : List S30) (h : ArcsOK n l s) (hn : NonNeg l) (hlen : l.length ≤ 1000) (hn2 : n ≤ 20) (k : Nat) (hk : 30000 ≤ k) : watershedref6_From.f k n l s = some (dists n l s) := by
  obtain ⟨N, rfl⟩ : ∃ N : Nat, n = N := ⟨n.toNat, by have := h.1; omega⟩
  have hf := h.far
  have hokl := h.okl
  simp only [Int.toNat_natCast, List.length_map] at hf hokl
  obtain ⟨more', q1, q2, q3⟩ := from_run N _ s l (BFT.mxA_nonneg _) hokl hlen (by omega) h.2.2.1 h.2.2.2.1 hf k hk
  unfold watershedref6_From.f
  rw [q1, Option.bind_some]
  have hokn := h.okn hn
  obtain ⟨j, hj, e⟩ := BFT.stops (l.map toA) N _ (BFT.mxA_nonneg _) hokl s h.2.2.1 h.2.2.2.1 (by simpa using hf) (BFT.hasMin_okn hokn)
  have a1 := BFT.it_stays _ j _ e (N + 1 - j)
  have a2 := BFT.it_stays _ j _ e (N - j)
  rw [show j + (N + 1 - j) = N + 1 by omega] at a1
  rw [show j + (N - j) = N by omega] at a2
  unfold dists
  simp only [Int.toNat_natCast]
  rw [a1, a2]
theorem fixed_nn {n s : Int} {l : List S30} (h : ArcsOK n l s) (hn : NonNeg l) : Fixed n l s := by
  have hn1 := h.1
  obtain ⟨j, hj, e⟩ := BFT.stops (l.map toA) n.toNat _ (BFT.mxA_nonneg _) h.okl s h.2.2.1 (by have := h.2.2.2.1; omega) h.far (BFT.hasMin_okn (h.okn hn))
  unfold Fixed
  have a2 := BFT.it_stays _ j _ e (n.toNat - 1 - j)
  rw [show j + (n.toNat - 1 - j) = n.toNat - 1 by omega] at a2
  rw [a2, e]
theorem from_f {n s : Int} {l : List S30} (h : ArcsOK n l s) (hn : NonNeg l) : path_From.f n l s = some (dists n l s) := by
  unfold path_From.f; rw [if_pos ⟨h, hn⟩]
theorem any_f {n s : Int} {l : List S30} (k : Nat) (h : ArcsOK n l s) (hn : Fixed n l s) : path_Any.f k n l s = some (dists n l s, [], true) := by
  unfold path_Any.f; rw [if_pos ⟨h, hn⟩]
theorem right_f {n s : Int} {l : List S30} (k : Nat) (h : ArcsOK n l s) (hn : Fixed n l s) (hk : n.toNat + 1 ≤ k) : path_Right.f k n l s (dists n l s) = some true := by
  unfold path_Right.f
  rw [any_f k h hn, Option.bind_some, if_pos rfl, equal_same _ (by rw [dists_len]; have := h.2.1; omega) k (by rw [dists_len]; exact hk)]
  rfl
theorem dists_st {n s : Int} {l : List S30} (h : ArcsOK n l s) : BFT.St (l.map toA) n.toNat (BFT.mxA (l.map toA)) s n.toNat (dists n l s) := by
  have := h.1; have := h.2.2.2.1
  exact BFT.St.it (BFT.mxA_nonneg _) h.okl h.2.2.1 (by omega) n.toNat
theorem dists_fix {n s : Int} {l : List S30} (h : ArcsOK n l s) (hf : Fixed n l s) : BFT.round (l.map toA) (dists n l s) = dists n l s := by
  have := h.1
  unfold Fixed at hf
  have a := BFT.it_stays _ _ _ hf 1
  rw [show n.toNat - 1 + 1 = n.toNat by omega] at a
  unfold dists
  rw [a, hf]
/-- what the distances are along an arc -/
theorem dists_arc {n s : Int} {l : List S30} (h : ArcsOK n l s) (hf : Fixed n l s) {a : S30} (ha : a ∈ l) (hr : rd (dists n l s) a.f0 ≠ BFT.Far) :
    rd (dists n l s) a.f1 ≠ BFT.Far ∧ rd (dists n l s) a.f1 ≤ rd (dists n l s) a.f0 + a.f2 := by
  have S := dists_st h
  have hF := h.far
  rw [Int.add_mul, Int.one_mul] at hF
  exact BFT.round_fix _ _ _ (BFT.mxA_nonneg _) h.okl _ _ S.len S.bnd hF (dists_fix h hf) (toA a) (List.mem_map_of_mem ha) hr
theorem dists_bnd {n s : Int} {l : List S30} (h : ArcsOK n l s) (v : Int) (v0 : 0 ≤ v) (v1 : v < n) : rd (dists n l s) v = BFT.Far ∨ (-BFT.Far < rd (dists n l s) v ∧ rd (dists n l s) v < BFT.Far) := by
  have S := dists_st h
  have hF := h.far
  rw [Int.add_mul, Int.one_mul] at hF
  have h2 : 0 ≤ ((l.map toA).length : Int) * BFT.mxA (l.map toA) := Int.mul_nonneg (by omega) (BFT.mxA_nonneg _)
  rcases S.bnd v v0 (by rw [S.len]; omega) with k | k
  · exact .inl k
  · exact .inr ⟨by have : -(↑n.toNat * (↑(List.map toA l).length * BFT.mxA (List.map toA l))) ≤ rd (dists n l s) v := k.1; omega, by have : rd (dists n l s) v ≤ (↑n.toNat * (↑(List.map toA l).length * BFT.mxA (List.map toA l))) := k.2; omega⟩
theorem dists_self {n s : Int} {l : List S30} (h : ArcsOK n l s) (hn : NonNeg l) : rd (dists n l s) s = 0 := by
  have hm : BFT.HasMin (BFT.EE (l.map toA)) s := BFT.hasMin_okn (h.okn hn)
  rcases dists_dist h hn s h.2.2.1 (by have := h.1; have := h.2.2.2.1; omega) with ⟨r, m⟩ | ⟨r, m⟩
  · exact m.uniq (BFT.mn_self hm)
  · exact absurd ⟨0, .nil⟩ r
theorem rd_mem {l : List S30} {i : Nat} (h : i < l.length) : rd_T30 l (i : Int) ∈ l := by
  have : rd_T30 l (i : Int) = l[i] := by simp [rd_T30, h]
  rw [this]; exact List.getElem_mem h
end Go.Proofs.Ytpkhdipedmihgaa.Pure
