/- path.Any as a function, where there is no round below 0. -/
import Derived.Test.YtpkhdipedmihgaaEAny
namespace Go.Proofs.Ytpkhdipedmihgaa.P
open Go.RowKit Go.Proofs.YtpkhdipedmihgaaW.PrintWords Go.Proofs.YtpkhdipedmihgaaW.PrintLast Go.Proofs.YtpkhdipedmihgaaW.PrintMore
set_option linter.unusedVariables false
set_option linter.unusedSimpArgs false

def Fixed (n : Int) (l : List S30) (s : Int) : Prop := BFT.round (l.map toA) (BFT.it (l.map toA) (n.toNat - 1) (BFT.d0 n.toNat s)) = BFT.it (l.map toA) (n.toNat - 1) (BFT.d0 n.toNat s)
instance (n : Int) (l : List S30) (s : Int) : Decidable (Fixed n l s) := by unfold Fixed; exact inferInstance
def path_Any.f (k : Nat) (a0 : Int) (l1 : List S30) (a2 : Int) : Option (List Int × List Int × Bool) := if ArcsOK a0 l1 a2 ∧ Fixed a0 l1 a2 then some (dists a0 l1 a2, [], true) else none
theorem path_Any.mono : ∀ a0 a1 a2 k, LeO (path_Any.f k a0 a1 a2) (path_Any.f (k + 1) a0 a1 a2) := fun _ _ _ _ => LeO.refl _
theorem path_Any.calls (k : Nat) (a0 : Int) (A1 : Option Addr) (c1 : Nat) (l1 : List S30) (a2 : Int) (r1 : List Int) (r2 : List Int) (r3 : Bool) (w : World) (hr1 : Kd.C k30 w A1 l1.length l1) (hc1 : l1.length ≤ c1) (h : path_Any.f k a0 l1 a2 = some (r1, r2, r3)) :
    Calls Try.prog 20 #[.int .i64 a0, .slice A1 l1.length c1, .int .i64 a2] w fun e w' => ∃ v0_ v1_ : Value, e = .returned (.tuple #[v0_, v1_, .bool r3]) ∧ Kd.R (Kd.int .i64) 3 w' w.heap.size (fun k_ => some k_ ≠ (v1_ : Value).ownBlock) v0_ r1 ∧ Kd.V (Kd.int .i64) 3 w' w.heap.size (fun k_ => some k_ ≠ (v0_ : Value).ownBlock ∧ w.heap.size ≤ k_ ∧ k_ < w'.heap.size ∧ True) v1_ r2 ∧ Below w.heap.size w w' := by
  unfold path_Any.f at h
  split at h
  · rename_i hc
    obtain ⟨ha, hf⟩ := hc
    simp only [Option.some.injEq, Prod.mk.injEq] at h
    obtain ⟨rfl, rfl, rfl⟩ := h
    have h1 := ha.1
    obtain ⟨N, hN⟩ : ∃ N : Nat, a0 = N := ⟨a0.toNat, by omega⟩
    subst hN
    unfold Fixed at hf
    simp only [Int.toNat_natCast] at hf
    refine (any_fix N A1 c1 l1 a2 w hr1 ha hf).mono ?_
    rintro e w' ⟨v0, rfl, hR, hb⟩
    exact ⟨v0, .slice none 0 0, rfl, Kd.R_mono hR (fun k _ => by simp [Value.ownBlock]), ⟨none, 0, rfl, Nat.le_refl _, Kd.F_nil _ _ _⟩, hb⟩
  · cases h
end Go.Proofs.Ytpkhdipedmihgaa.P
