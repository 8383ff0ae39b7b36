/- path.Way as a function. -/
import Derived.Test.YtpkhdipedmihgaaEWay
namespace Go.Proofs.Ytpkhdipedmihgaa.P
open Go.RowKit Go.Proofs.YtpkhdipedmihgaaW.PrintWords Go.Proofs.YtpkhdipedmihgaaW.PrintLast Go.Proofs.YtpkhdipedmihgaaW.PrintMore
set_option linter.unusedVariables false
set_option linter.unusedSimpArgs false

def path_Way.f (k : Nat) (a0 : Int) (l1 : List S30) (a2 : Int) (a3 : Int) : Option (List Int × Bool) :=
  if ArcsOK a0 l1 a2 ∧ NonNeg l1 ∧ 0 ≤ a3 ∧ a3 < a0 then
    (bkL l1 1000 ((List.replicate a0.toNat farI).set a3.toNat (0, 0))).bind fun dt => if isFar (dt.getD a2.toNat zI) = true then some ([], false) else (wyL l1 dt a3 1000 a2 []).bind fun r => some (r, true)
  else none
theorem path_Way.mono : ∀ a0 a1 a2 a3 k, LeO (path_Way.f k a0 a1 a2 a3) (path_Way.f (k + 1) a0 a1 a2 a3) := fun _ _ _ _ _ => LeO.refl _
theorem path_Way.calls (k : Nat) (a0 : Int) (A1 : Option Addr) (c1 : Nat) (l1 : List S30) (a2 : Int) (a3 : Int) (r1 : List Int) (r2 : Bool) (w : World) (hr1 : Kd.C k30 w A1 l1.length l1) (hc1 : l1.length ≤ c1) (h : path_Way.f k a0 l1 a2 a3 = some (r1, r2)) :
    Calls Try.prog 24 #[.int .i64 a0, .slice A1 l1.length c1, .int .i64 a2, .int .i64 a3] w fun e w' => ∃ v0_ : Value, e = .returned (.tuple #[v0_, .bool r2]) ∧ Kd.V (Kd.int .i64) 3 w' w.heap.size (fun k_ => True ∧ w.heap.size ≤ k_ ∧ k_ < w'.heap.size ∧ True) v0_ r1 ∧ Below w.heap.size w w' := by
  unfold path_Way.f at h
  split at h
  · rename_i hc
    obtain ⟨ha, hn, h0, h1⟩ := hc
    have hN1 := ha.1
    have hN2 := ha.2.1
    obtain ⟨N, hN⟩ : ∃ N : Nat, a0 = N := ⟨a0.toNat, by omega⟩
    subst hN
    obtain ⟨dt, hdt, h⟩ := Option.bind_eq_some_iff.mp h
    simp only [Int.toNat_natCast] at hdt
    have hok : ∀ a ∈ l1, okA N a := fun a hm => by
      obtain ⟨b1, b2, b3, b4, b5, b6⟩ := ha.okn hn (toA a) (List.mem_map.2 ⟨a, hm, rfl⟩)
      have h2 := ha.2.2.2.2.2.1
      simp only [Int.toNat_natCast] at b2 b4
      exact ⟨b1, b2, b3, b4, by show (-1099511627776 : Int) ≤ (toA a).len; omega, by show (toA a).len ≤ 1099511627776; omega⟩
    cases hf : isFar (dt.getD a2.toNat zI) with
    | true =>
      rw [if_pos hf] at h
      simp only [Option.some.injEq, Prod.mk.injEq] at h
      obtain ⟨rfl, rfl⟩ := h
      exact way_calls N A1 c1 l1 a2 a3 dt [] true w hr1 (by omega) (by omega) ha.2.2.1 ha.2.2.2.1 h0 h1 ha.2.2.2.2.1 hok hn hdt hf (by simp)
    | false =>
      rw [if_neg (by rw [hf]; decide)] at h
      obtain ⟨r, hr, h⟩ := Option.bind_eq_some_iff.mp h
      simp only [Option.some.injEq, Prod.mk.injEq] at h
      obtain ⟨rfl, rfl⟩ := h
      exact way_calls N A1 c1 l1 a2 a3 dt r false w hr1 (by omega) (by omega) ha.2.2.1 ha.2.2.2.1 h0 h1 ha.2.2.2.2.1 hok hn hdt hf (by simpa using hr)
  · cases h
end Go.Proofs.Ytpkhdipedmihgaa.P
