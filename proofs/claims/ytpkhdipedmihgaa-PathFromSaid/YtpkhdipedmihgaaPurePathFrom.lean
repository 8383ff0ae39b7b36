/- PathFrom, the plain law. -/
import Derived.Test.YtpkhdipedmihgaaPx6
import Derived.Test.YtpkhdipedmihgaaYLaw
namespace Go.Proofs.Ytpkhdipedmihgaa.Pure
open Go.RowKit Go.Proofs.Ytpkhdipedmihgaa.P Go.Proofs.YtpkhdipedmihgaaW.PrintWords Go.Proofs.YtpkhdipedmihgaaW.PrintLast
set_option linter.unusedVariables false
set_option linter.unusedSimpArgs false

theorem pathFrom_l0 (n s : Int) (l : List S30) (h : ArcsOK n l s) (hf : Fixed n l s) (hlen : l.length ≤ 1000) :
    ∀ m i k : Nat, i + m = l.length → 1000 ≤ k → watershedlaw6_PathFrom.l0 (k + m + 1) n l s (dists n l s) (i : Int) = some true := by
  intro m
  induction m with
  | zero =>
    intro i k hi hk
    rw [watershedlaw6_PathFrom.l0, if_neg (by omega), right_f _ h hf (by have := h.2.1; omega)]
    rfl
  | succ m ih =>
    intro i k hi hk
    have hm := rd_mem (l := l) (i := i) (by omega)
    obtain ⟨b1, b2, b3, b4⟩ := h.2.2.2.2.2.2.2 _ hm
    have hd : (dists n l s).length = n.toNat := dists_len n l s
    have hn := h.1
    have := ih (i + 1) k (by omega) hk
    rw [show k + (m + 1) + 1 = (k + m + 1) + 1 by omega, watershedlaw6_PathFrom.l0, if_pos (by omega), if_pos (by omega), if_pos b1, if_pos (by omega), w64 (n := (i : Int) + 1) (by omega) (by omega)]
    split
    · exact this
    · rename_i c
      obtain ⟨e1, e2⟩ := dists_arc h hf hm c
      have f0 := dists_bnd h _ b1 b2
      have f1 := dists_bnd h _ b3 b4
      have hF : BFT.Far = 1152921504606846976 := rfl
      have hx : -1152921504606846976 < (rd_T30 l (i : Int)).f2 ∧ (rd_T30 l (i : Int)).f2 < 1152921504606846976 := by
        have := BFT.mxA_le (List.mem_map_of_mem (f := toA) hm)
        have e : (toA (rd_T30 l (i : Int))).len = (rd_T30 l (i : Int)).f2 := rfl
        rw [e] at this
        have := h.2.2.2.2.2.1
        omega
      try rw [if_pos b3]
      rw [if_pos (show (rd_T30 l (i : Int)).f1 < ((dists n l s).length : Int) by omega), if_neg ?_]
      · exact this
      · rw [w64 (by omega) (by omega)]
        omega

theorem PathFrom : watershedlaw6_PathFrom.Pure := by
  intro a0 l1 a2 _ _ hlen _ _
  obtain ⟨t, t0, t1, ht⟩ := within_in a0 14 (by decide) (by decide)
  have en : wrap64 (1 + t) = 1 + t := w64 (by omega) (by omega)
  obtain ⟨l, g1, g2, g3⟩ := arcs_in (1 + t) l1 0 (by omega) (by omega) (by decide) (by decide) (by omega)
  obtain ⟨s, s0, s1, hs⟩ := within_in a2 (1 + t) (by omega) (by omega)
  have hO : ArcsOK (1 + t) l s := arcsOK_in (by omega) (by omega) s0 s1 (by decide) g2 (by omega)
  have hN := nonneg_in g2
  have hd : (dists (1 + t) l s).length = (1 + t).toNat := dists_len _ _ _
  refine ⟨30001, ?_⟩
  unfold watershedlaw6_PathFrom.f
  rw [known_ge _ (by omega), Option.bind_some, if_pos rfl, ht, Option.bind_some, en, g3 _ (by omega), Option.bind_some, hs, Option.bind_some, from_f hO hN, Option.bind_some, refFrom _ _ _ hO hN (by omega) (by omega) _ (by omega),
    Option.bind_some, ints_same _ (by omega) _ (by omega), Option.bind_some, if_pos rfl, if_pos s0, if_pos (by omega), dists_self hO hN, watershedlaw6_PathFrom.j0, if_neg (by decide)]
  have := pathFrom_l0 _ _ _ hO (fixed_nn hO hN) (by omega) l.length 0 (30000 - l.length - 1) (by omega) (by omega)
  rw [show 30000 - l.length - 1 + l.length + 1 = 30000 by omega] at this
  exact this
end Go.Proofs.Ytpkhdipedmihgaa.Pure
