/- PathFew, the plain law: each of the six rows of arcs is evaluated. -/
import Derived.Test.YtpkhdipedmihgaaPx18
import Derived.KernelRfl
namespace Go.Proofs.Ytpkhdipedmihgaa.Pure
open Go.RowKit Go.Proofs.Ytpkhdipedmihgaa.P Go.Proofs.YtpkhdipedmihgaaW.PrintWords Go.Proofs.YtpkhdipedmihgaaW.PrintLast

theorem within_six (a0 : Int) : ∃ t : Int, 0 ≤ t ∧ t < 6 ∧ watershedlaw6_within.f a0 6 = watershedlaw6_within.f t 6 := by
  have h1 : Int.tmod a0 6 < 6 := Int.tmod_lt_of_pos a0 (by decide)
  have h2 : -6 < Int.tmod a0 6 := Int.lt_tmod_of_pos a0 (by decide)
  have key : ∀ t : Int, 0 ≤ t → t < 6 → watershedlaw6_within.f t 6 = some t := by
    intro t h0 h6
    have : Int.tmod t 6 = t := Int.tmod_eq_of_lt h0 h6
    unfold watershedlaw6_within.f
    rw [if_neg (by decide), this, if_neg (by omega)]
  by_cases h : Int.tmod a0 6 < 0
  · refine ⟨Int.tmod a0 6 + 6, by omega, by omega, ?_⟩
    rw [key (Int.tmod a0 6 + 6) (by omega) (by omega)]
    unfold watershedlaw6_within.f
    rw [if_neg (by decide), if_pos h]
    congr 1
    unfold wrap64
    omega
  · refine ⟨Int.tmod a0 6, by omega, by omega, ?_⟩
    rw [key (Int.tmod a0 6) (by omega) (by omega)]
    unfold watershedlaw6_within.f
    rw [if_neg (by decide), if_neg h]

theorem each0 : watershedlaw6_PathFew.f 100 0 = some true := by kernel_rfl
theorem each1 : watershedlaw6_PathFew.f 100 1 = some true := by kernel_rfl
theorem each2 : watershedlaw6_PathFew.f 100 2 = some true := by kernel_rfl
theorem each3 : watershedlaw6_PathFew.f 100 3 = some true := by kernel_rfl
theorem each4 : watershedlaw6_PathFew.f 100 4 = some true := by kernel_rfl
theorem each5 : watershedlaw6_PathFew.f 100 5 = some true := by kernel_rfl

theorem PathFew : watershedlaw6_PathFew.Pure := by
  intro a0 _
  obtain ⟨t, h0, h6, h⟩ := within_six a0
  refine ⟨100, ?_⟩
  have e : watershedlaw6_PathFew.f 100 a0 = watershedlaw6_PathFew.f 100 t := by
    unfold watershedlaw6_PathFew.f
    rw [h]
  rw [e]
  have : t = 0 ∨ t = 1 ∨ t = 2 ∨ t = 3 ∨ t = 4 ∨ t = 5 := by omega
  rcases this with rfl | rfl | rfl | rfl | rfl | rfl
  · exact each0
  · exact each1
  · exact each2
  · exact each3
  · exact each4
  · exact each5

end Go.Proofs.Ytpkhdipedmihgaa.Pure
