/- path.From as a function: so many rounds over the arcs, from where all but one place are far. -/
import Derived.Test.YtpkhdipedmihgaaEFrom
set_option linter.unusedVariables false
set_option linter.unusedSimpArgs false
namespace Go.Proofs.Ytpkhdipedmihgaa.BFT
theorem it_stays (l : List Arc) (j : Nat) (d : List Int) (h : round l (it l j d) = it l j d) : ∀ m, it l (j + m) d = it l j d
  | 0 => rfl
  | m + 1 => by rw [← Nat.add_assoc, it_succ, it_stays l j d h m, h]
theorem it_dist_of (l : List Arc) (n : Nat) (W : Int) (hW : 0 ≤ W) (hl : Okl n W l) (s : Int) (h0 : 0 ≤ s) (h1 : s < n) (hF : ((n : Int) + 1) * (l.length * W) < Far) (j : Nat) (hj : j ≤ n) (hx : round l (it l j (d0 n s)) = it l j (d0 n s)) :
    IsDist (EE l) s n Far (rd (it l n (d0 n s))) := by
  have e : it l n (d0 n s) = it l j (d0 n s) := by
    have := it_stays l j (d0 n s) hx (n - j)
    rwa [show j + (n - j) = n by omega] at this
  rw [e]
  have S := St.it hW hl h0 h1 j
  have hlW : 0 ≤ (l.length : Int) * W := Int.mul_nonneg (by omega) hW
  have hb : (j : Int) * (l.length * W) + l.length * W ≤ ((n : Int) + 1) * (l.length * W) := by
    rw [Int.add_mul, Int.one_mul]
    have : (j : Int) * (l.length * W) ≤ n * (l.length * W) := Int.mul_le_mul_of_nonneg_right (by omega) hlW
    omega
  exact isDist_fix l n W hW hl s _ _ S.len S.bnd (by omega) hx S.att S.le0
theorem it_dist (l : List Arc) (n : Nat) (W : Int) (hW : 0 ≤ W) (hl : Okl n W l) (s : Int) (h0 : 0 ≤ s) (h1 : s < n) (hF : ((n : Int) + 1) * (l.length * W) < Far) (hmin : HasMin (EE l) s) :
    IsDist (EE l) s n Far (rd (it l n (d0 n s))) := by
  obtain ⟨j, hj, hx⟩ := stops l n W hW hl s h0 h1 hF hmin
  exact it_dist_of l n W hW hl s h0 h1 hF j (by omega) hx
theorem Okn.okl {n : Nat} {W : Int} {l : List Arc} (h : Okn n W l) (hW : 0 ≤ W) : Okl n W l := fun a ha => by
  obtain ⟨a1, a2, a3, a4, a5, a6⟩ := h a ha; exact ⟨a1, a2, a3, a4, by omega, a6⟩
theorem hasMin_okn {n : Nat} {W s : Int} {l : List Arc} (h : Okn n W l) : HasMin (EE l) s := hasMin_of_nonneg (fun u v w e => (h _ e).2.2.2.2.1)
/-- the greatest length, in amount -/
def mxA (l : List Arc) : Int := l.foldr (fun a m => max (max a.len (-a.len)) m) 0
theorem mxA_nonneg (l : List Arc) : 0 ≤ mxA l := by
  induction l with
  | nil => exact Int.le_refl _
  | cons a l ih => simp only [mxA, List.foldr_cons] at *; omega
theorem mxA_le {l : List Arc} {a : Arc} (h : a ∈ l) : a.len ≤ mxA l ∧ -a.len ≤ mxA l := by
  induction l with
  | nil => cases h
  | cons b l ih =>
    simp only [mxA, List.foldr_cons] at *
    rcases List.mem_cons.1 h with rfl | h
    · omega
    · have := ih h; omega
end Go.Proofs.Ytpkhdipedmihgaa.BFT
namespace Go.Proofs.Ytpkhdipedmihgaa.P
open Go.RowKit Go.Proofs.YtpkhdipedmihgaaW.PrintWords Go.Proofs.YtpkhdipedmihgaaW.PrintLast Go.Proofs.YtpkhdipedmihgaaW.PrintMore
set_option linter.unusedVariables false
set_option linter.unusedSimpArgs false

/-- Arcs that may be gone along. -/
def ArcsOK (n : Int) (l : List S30) (s : Int) : Prop :=
  1 ≤ n ∧ n ≤ 300 ∧ 0 ≤ s ∧ s < n ∧ l.length ≤ 1073741824 ∧ BFT.mxA (l.map toA) ≤ 1099511627776 ∧ (n + 1) * (l.length * BFT.mxA (l.map toA)) < BFT.Far ∧ ∀ a ∈ l, 0 ≤ a.f0 ∧ a.f0 < n ∧ 0 ≤ a.f1 ∧ a.f1 < n
instance (n : Int) (l : List S30) (s : Int) : Decidable (ArcsOK n l s) := by unfold ArcsOK; exact inferInstance
def NonNeg (l : List S30) : Prop := ∀ a ∈ l, 0 ≤ a.f2
instance (l : List S30) : Decidable (NonNeg l) := by unfold NonNeg; exact inferInstance
def dists (n : Int) (l : List S30) (s : Int) : List Int := BFT.it (l.map toA) n.toNat (BFT.d0 n.toNat s)

theorem ArcsOK.okl {n s : Int} {l : List S30} (h : ArcsOK n l s) : BFT.Okl n.toNat (BFT.mxA (l.map toA)) (l.map toA) := by
  obtain ⟨h1, h2, h3, h4, h5, h6, h7, h8⟩ := h
  intro a ha
  obtain ⟨x, hx, rfl⟩ := List.mem_map.1 ha
  obtain ⟨a1, a2, a3, a4⟩ := h8 x hx
  have := BFT.mxA_le ha
  exact ⟨a1, by show x.f0 < _; omega, a3, by show x.f1 < _; omega, by omega, this.1⟩
theorem ArcsOK.okn {n s : Int} {l : List S30} (h : ArcsOK n l s) (hn : NonNeg l) : BFT.Okn n.toNat (BFT.mxA (l.map toA)) (l.map toA) := fun a ha => by
  obtain ⟨a1, a2, a3, a4, a5, a6⟩ := h.okl a ha
  obtain ⟨x, hx, rfl⟩ := List.mem_map.1 ha
  exact ⟨a1, a2, a3, a4, hn x hx, a6⟩
theorem ArcsOK.far {n s : Int} {l : List S30} (h : ArcsOK n l s) : ((n.toNat : Int) + 1) * (((l.map toA).length : Int) * BFT.mxA (l.map toA)) < BFT.Far := by
  obtain ⟨h1, h2, h3, h4, h5, h6, h7, h8⟩ := h
  rw [List.length_map, show ((n.toNat : Nat) : Int) = n by omega]; exact h7
theorem dists_len (n : Int) (l : List S30) (s : Int) : (dists n l s).length = n.toNat := by
  unfold dists; rw [BFT.it_length, BFT.d0_length]
theorem dists_dist {n s : Int} {l : List S30} (h : ArcsOK n l s) (hn : NonNeg l) : BFT.IsDist (BFT.EE (l.map toA)) s n.toNat BFT.Far (BFT.rd (dists n l s)) :=
  BFT.it_dist _ _ _ (BFT.mxA_nonneg _) h.okl s h.2.2.1 (by have := h.2.2.2.1; have := h.1; omega) h.far (BFT.hasMin_okn (h.okn hn))

def path_From.f (a0 : Int) (l1 : List S30) (a2 : Int) : Option (List Int) := if ArcsOK a0 l1 a2 ∧ NonNeg l1 then some (dists a0 l1 a2) else none
theorem path_From.calls (a0 : Int) (A1 : Option Addr) (c1 : Nat) (l1 : List S30) (a2 : Int) (r : List Int) (w : World) (hr1 : Kd.C k30 w A1 l1.length l1) (hc1 : l1.length ≤ c1) (h : path_From.f a0 l1 a2 = some r) :
    Calls Try.prog 16 #[.int .i64 a0, .slice A1 l1.length c1, .int .i64 a2] w fun e w' => ∃ v0_ : Value, e = .returned (v0_) ∧ Kd.R (Kd.int .i64) 3 w' w.heap.size (fun _ => True) v0_ r ∧ Below w.heap.size w w' := by
  unfold path_From.f at h
  split at h
  · rename_i hc
    obtain ⟨ha, hn⟩ := hc
    obtain rfl := Option.some.inj h
    have h1 := ha.1
    obtain ⟨N, hN⟩ : ∃ N : Nat, a0 = N := ⟨a0.toNat, by omega⟩
    subst hN
    have hd := dists_dist ha hn
    have hl := dists_len N l1 a2
    simp only [Int.toNat_natCast] at hd hl
    refine (from_calls N A1 c1 l1 a2 (BFT.mxA (l1.map toA)) w hr1 (by omega) (by have := ha.2.1; omega) ha.2.2.1 ha.2.2.2.1 (BFT.mxA_nonneg _) ha.2.2.2.2.2.1 (by have := ha.okn hn; simpa using this) ha.2.2.2.2.2.2.1 ha.2.2.2.2.1).mono ?_
    rintro e w' ⟨v0, d, rfl, hdl, hdd, hR, hb⟩
    have he : d = dists N l1 a2 := BFT.rd_ext (by rw [hdl, hl]) (fun v v0 v1 => hdd.uniq hd v v0 (by omega))
    exact ⟨v0, rfl, he ▸ hR, hb⟩
  · cases h
end Go.Proofs.Ytpkhdipedmihgaa.P
