/- PathMore, the plain law. -/
import Derived.Test.YtpkhdipedmihgaaPx14
import Derived.Test.YtpkhdipedmihgaaYLaw
namespace Go.Proofs.Ytpkhdipedmihgaa.Pure
open Go.RowKit Go.Proofs.Ytpkhdipedmihgaa.P Go.Proofs.YtpkhdipedmihgaaW.PrintWords Go.Proofs.YtpkhdipedmihgaaW.PrintLast
set_option linter.unusedVariables false
set_option linter.unusedSimpArgs false

theorem walk_sub {l m : List S30} (h : ∀ a ∈ l, a ∈ m) {s v L : Int} (w : BFT.Walk (BFT.EE (l.map toA)) s v L) : BFT.Walk (BFT.EE (m.map toA)) s v L := by
  induction w with
  | nil => exact .nil
  | snoc _ e ih =>
    obtain ⟨x, hx, ex⟩ := List.mem_map.1 e
    exact ih.snoc (List.mem_map.2 ⟨x, h x hx, ex⟩)
theorem dists_le {n s : Int} {l m : List S30} (hl : ArcsOK n l s) (nl : NonNeg l) (hm : ArcsOK n m s) (nm : NonNeg m) (h : ∀ a ∈ l, a ∈ m) (v : Int) (v0 : 0 ≤ v) (v1 : v < n) :
    rd (dists n m s) v ≤ rd (dists n l s) v := by
  have hb := dists_bnd hm v v0 v1
  rcases dists_dist hl nl v v0 (by omega) with ⟨r, k⟩ | ⟨r, k⟩
  · rcases dists_dist hm nm v v0 (by omega) with ⟨r2, k2⟩ | ⟨r2, k2⟩
    · exact k2.2 _ (walk_sub h k.1)
    · exact absurd ⟨_, walk_sub h k.1⟩ r2
  · have e : rd (dists n l s) v = BFT.Far := k
    omega
theorem dists_eq {n s : Int} {l m : List S30} (hl : ArcsOK n l s) (nl : NonNeg l) (hm : ArcsOK n m s) (nm : NonNeg m) (h : ∀ a ∈ l, a ∈ m) (h' : ∀ a ∈ m, a ∈ l) : dists n m s = dists n l s := by
  refine BFT.rd_ext (by rw [dists_len, dists_len]) (fun v v0 v1 => ?_)
  rw [dists_len] at v1
  have := hl.1
  have a1 : BFT.rd (dists n m s) v ≤ BFT.rd (dists n l s) v := dists_le hl nl hm nm h v v0 (by omega)
  have a2 : BFT.rd (dists n l s) v ≤ BFT.rd (dists n m s) v := dists_le hm nm hl nl h' v v0 (by omega)
  omega
theorem pathMore_l0 (n : Nat) (hn : n ≤ 1000) (d e : List Int) (hd : d.length = n) (he : e.length = n) (h : ∀ v : Int, 0 ≤ v → v < n → rd e v ≤ rd d v) :
    ∀ m i k : Nat, i + m = n → watershedlaw6_PathMore.l0 (k + m + 1) n d e d (i : Int) = some true := by
  intro m
  induction m with
  | zero => intro i k hi; rw [watershedlaw6_PathMore.l0, if_neg (by omega)]
  | succ m ih =>
    intro i k hi
    have := ih (i + 1) k (by omega)
    have hv := h i (by omega) (by omega)
    rw [show k + (m + 1) + 1 = (k + m + 1) + 1 by omega, watershedlaw6_PathMore.l0, if_pos (by omega), if_pos (by omega), if_pos (by omega), if_pos (by omega), if_neg (by omega), if_pos (by omega), if_pos rfl, w64 (by omega) (by omega)]
    exact this
theorem PathMore : watershedlaw6_PathMore.Pure := by
  intro a0 l1 a2 a3 a4 _ _ hlen _ _ _ _
  obtain ⟨t, t0, t1, ht⟩ := within_in a0 14 (by decide) (by decide)
  have en : wrap64 (1 + t) = 1 + t := w64 (by omega) (by omega)
  obtain ⟨l, g1, g2, g3⟩ := arcs_in (1 + t) l1 0 (by omega) (by omega) (by decide) (by decide) (by omega)
  obtain ⟨x, x1, x2, x3⟩ := arcs_in (1 + t) [a3] 0 (by omega) (by omega) (by decide) (by decide) (by simp)
  obtain ⟨s, s0, s1, hs⟩ := within_in a2 (1 + t) (by omega) (by omega)
  obtain ⟨q, q0, q1, hq⟩ := within_in a4 ((l.length : Int) + 1) (by omega) (by omega)
  have hM : ([] ++ List.drop q.toNat l ++ List.take q.toNat l).length = l.length := by simp; omega
  have hMl : ∀ a ∈ ([] ++ List.drop q.toNat l ++ List.take q.toNat l), a ∈ l := by
    intro a ha
    rw [List.nil_append] at ha
    rcases List.mem_append.1 ha with h | h
    · exact List.mem_of_mem_drop h
    · exact List.mem_of_mem_take h
  have hlM : ∀ a ∈ l, a ∈ ([] ++ List.drop q.toNat l ++ List.take q.toNat l) := by
    intro a ha
    rw [← List.take_append_drop q.toNat l] at ha
    rw [List.nil_append]
    rcases List.mem_append.1 ha with h | h
    · exact List.mem_append.2 (.inr h)
    · exact List.mem_append.2 (.inl h)
  have hcut : List.take ((l.length : Int)).toNat ([] ++ List.drop q.toNat l ++ List.take q.toNat l ++ x) = [] ++ List.drop q.toNat l ++ List.take q.toNat l := by
    rw [Int.toNat_natCast, ← hM]; exact List.take_left
  have hA2 : ∀ a ∈ ([] ++ List.drop q.toNat l ++ List.take q.toNat l ++ x), ArcIn (1 + t) 0 a := by
    intro a ha
    rcases List.mem_append.1 ha with h | h
    · exact g2 a (hMl a h)
    · exact x2 a h
  have hlen2 : ([] ++ List.drop q.toNat l ++ List.take q.toNat l ++ x).length = l.length + x.length := by rw [List.length_append, hM]
  have hO : ArcsOK (1 + t) l s := arcsOK_in (by omega) (by omega) s0 s1 (by decide) g2 (by omega)
  have hN := nonneg_in g2
  have hO2 : ArcsOK (1 + t) ([] ++ List.drop q.toNat l ++ List.take q.toNat l ++ x) s := arcsOK_in (by omega) (by omega) s0 s1 (by decide) hA2 (by omega)
  have hN2 := nonneg_in hA2
  have hO3 : ArcsOK (1 + t) ([] ++ List.drop q.toNat l ++ List.take q.toNat l) s := arcsOK_in (by omega) (by omega) s0 s1 (by decide) (fun a ha => g2 a (hMl a ha)) (by omega)
  have hN3 : NonNeg ([] ++ List.drop q.toNat l ++ List.take q.toNat l) := nonneg_in (fun a ha => g2 a (hMl a ha))
  have hd : (dists (1 + t) l s).length = (1 + t).toNat := dists_len _ _ _
  have hd2 : (dists (1 + t) ([] ++ List.drop q.toNat l ++ List.take q.toNat l ++ x) s).length = (1 + t).toNat := dists_len _ _ _
  have he := dists_eq hO hN hO3 hN3 hlM hMl
  refine ⟨30001, ?_⟩
  unfold watershedlaw6_PathMore.f
  rw [known_ge _ (by omega), Option.bind_some, if_pos rfl, ht, Option.bind_some, en, g3 _ (by omega), Option.bind_some, hs, Option.bind_some, w64 (n := (l.length : Int) + 1) (by omega) (by omega), hq, Option.bind_some, Option.bind_some,
    if_pos q0, if_pos (by omega), Option.bind_some, if_pos (by simp; omega), Option.bind_some, Option.bind_some, if_pos (by rw [← List.length_append, hM]; omega), Option.bind_some, x3 _ (by omega), Option.bind_some,
    if_pos (by rw [← List.length_append, hlen2]; omega), Option.bind_some, from_f hO hN, Option.bind_some, from_f hO2 hN2, Option.bind_some, if_pos (by omega), if_pos (by rw [hlen2]; omega), hcut, from_f hO3 hN3, Option.bind_some, he,
    if_pos (by omega), if_pos (by omega), watershedlaw6_PathMore.j0, if_neg (by simp only [bne_iff_ne, ne_eq]; omega)]
  obtain ⟨N, hNn⟩ : ∃ N : Nat, 1 + t = N := ⟨(1 + t).toNat, by omega⟩
  have := pathMore_l0 N (by omega) (dists (1 + t) l s) (dists (1 + t) ([] ++ List.drop q.toNat l ++ List.take q.toNat l ++ x) s) (by omega) (by omega)
    (fun v v0 v1 => dists_le hO hN hO2 hN2 (fun a ha => List.mem_append.2 (.inl (hlM a ha))) v v0 (by omega)) N 0 (30000 - N - 1) (by omega)
  rw [show 30000 - N - 1 + N + 1 = 30000 by omega] at this
  rw [← hNn] at this
  exact this
end Go.Proofs.Ytpkhdipedmihgaa.Pure
