/- slices.Clone of numbers, and of parts. -/
import Derived.Test.YtoipfbffdcahoaaXBase
namespace Go.Proofs.Ytoipfbffdcahoaa.P
open Go.RowKit Go.Proofs.YtoipfbffdcahoaaW.PrintWords Go.Proofs.YtoipfbffdcahoaaW.PrintLast Go.Proofs.YtoipfbffdcahoaaW.PrintMore
set_option linter.unusedVariables false
set_option linter.unusedSimpArgs false

theorem equalIn_nil (d : Nat) (t e : TypeId) (hu : Try.prog.underlying t = some (.slice e)) (A : Option Addr) (n c : Nat) (w : World) : (Op.equalIn (d + 1) t (.slice A n c) (.slice none 0 0)).run Try.prog w = .ok A.isNone w := by
  cases A <;> simp [Op.equalIn, run_underlying hu]
theorem eql_nil (t e : TypeId) (hu : Try.prog.underlying t = some (.slice e)) (A : Option Addr) (n c : Nat) (w : World) : (binOp .eql t (.slice A n c) (.slice none 0 0)).run Try.prog w = .ok (.bool A.isNone) w := by
  simp [binOp, Op.equal, show (Op.equalIn Op.maxDepth t (.slice A n c) (.slice none 0 0)).run Try.prog w = .ok A.isNone w from equalIn_nil 9999 t e hu A n c w]

set_option maxHeartbeats 1000000 in
set_option maxRecDepth 100000 in
theorem CloneI_calls (A : Option Addr) (c : Nat) (l : List Int) (w : World) (hr : Kd.C (Kd.int .i64) w A l.length l) (hl : l.length * 8 ≤ 140737488355328) :
    Calls Try.prog 18 #[.slice A l.length c] w fun e w' => ∃ v, e = .returned v ∧ Kd.R (Kd.int .i64) 3 w' w.heap.size (fun _ => True) v l ∧ Below w.heap.size w w' := by
  have he := fun (A : Option Addr) (n c : Nat) (w : World) => eql_nil 23 3 Try.underlying23 A n c w
  have HR := Aside0.mk hr
  have HL := Aside0.mk hl
  have HB := Aside0.mk (Below.refl w.heap.size w)
  cases A with
  | none =>
    have hn : l = [] := by
      cases l with
      | nil => rfl
      | cons x xs => obtain ⟨ad, h, _⟩ := Kd.at_int hr 0 (by omega) (by simp); cases h
    subst hn
    clear hr
    go_enter Try.func18, Try.ntmps18
    go_wp2_with fail
    trace_state
    go_ret
    exact ⟨_, rfl, Kd.R_nil _ _ _ _ _, HB.out⟩
  | some ad =>
    clear hr hl
    go_enter Try.func18, Try.ntmps18
    go_wp2_with (first
      | ((with_reducible refine gate_dst (N := 5) rfl ?_); refine Kd.R_lit (Kd.int .i64) _ 3 ?hg (N := 5) ?hd (xs := ([] : List Int)) (inner := []) (ok := fun _ => True) (okp := fun _ => True) ?hr ?hp (fun _ hk => hk) trivial (Below.refl _ _) (Nat.le_refl _) (by simp) ?_; (case hd => rfl); (case hg => rfl); (case hr => first | (go_simp; done) | (go_simp; rfl)); (case hp => exact (Reps.none _ _)); intro v1 w1 ho1 hb1 hg_ hnew_; clear hg_ hnew_; have HO1 := Aside0.mk ho1; have HB1 := Aside0.mk hb1; clear ho1 hb1)
      | ((with_reducible refine gate_dst (N := 7) rfl ?_); refine Kd.R_append_row (Value.int .i64) 0 (w0 := w) w.heap.size rfl (.tmp 5) (.tmp 6) 23 3 (.int .i64 0) 8 rfl Try.underlying23 info3 rfl (by decide) v1 ([] : List Int) l (some ad) l.length c (fun _ => True) rfl rfl (fun _ _ => trivial) HO1.out (Kd.C_below HR.out HB1.out) HB1.out (below_size HB1.out) (by have := HL.out; simpa using this) ?_; intro v2 w2 ho2 hb2 hg2 hat2; clear hg2 hat2; have HO2 := Aside0.mk ho2; have HB2 := Aside0.mk hb2; clear ho2 hb2))
    go_ret
    exact ⟨_, rfl, HO2.out, HB2.out⟩

set_option maxHeartbeats 1000000 in
set_option maxRecDepth 100000 in
/-- a row of parts of the call's own, cloned: the elements' rows go over -/
theorem CloneP_calls (v : Value) (xs : List S28) (w0 w : World) (hB : Below w0.heap.size w0 w) (ho : Kd.S k28 28 w w0.heap.size (fun _ => True) v xs) (hl : xs.length * 40 ≤ 140737488355328) :
    Calls Try.prog 21 #[v] w fun e w' => ∃ v1, e = .returned v1 ∧ Kd.S k28 28 w' w0.heap.size (fun _ => True) v1 xs ∧ Below w0.heap.size w0 w' := by
  have he := fun (A : Option Addr) (n c : Nat) (w : World) => eql_nil 29 28 Try.underlying29 A n c w
  obtain ⟨f, hR⟩ := ho
  obtain ⟨A, c, rfl, hc, hC⟩ := OwnRow.reads hR.2
  have HL := Aside0.mk hl
  have HB := Aside0.mk hB
  have hz : xs.zipIdx.length = xs.length := List.length_zipIdx ..
  rw [hz] at hC hc
  cases A with
  | none =>
    have hn : xs = [] := by
      cases xs with
      | nil => rfl
      | cons x xs => obtain ⟨ad, h, _⟩ := hC.2.2 (by simp); cases h
    subst hn
    clear hC hR
    go_enter Try.func21, Try.ntmps21
    go_wp2_with fail
    go_ret
    exact ⟨_, rfl, Kd.S_nil _ _ _ _ _, HB.out⟩
  | some ad =>
    have HR := Aside0.mk (Kd.R_mono (Kd.R_bound hR) (fun k hk => hk.2.2.1) : (Kd.tag f k28).R 28 w w0.heap.size (fun k => k < w.heap.size) _ xs.zipIdx)
    rw [hz] at HR
    clear hl hC hR hB hc
    rw [hz]
    go_enter Try.func21, Try.ntmps21
    go_wp2_with (first
      | ((with_reducible refine gate_dst (N := 5) rfl ?_); refine Kd.R_lit (Kd.tag f k28) (w0 := w0) w0.heap.size 28 ?hg (N := 5) ?hd (xs := ([] : List (S28 × Nat))) (inner := []) (ok := fun _ => True) (okp := fun _ => True) ?hr ?hp (fun _ hk => hk) trivial HB.out (below_size HB.out) (by simp) ?_; (case hd => rfl); (case hg => rfl); (case hr => first | (go_simp; done) | (go_simp; rfl)); (case hp => exact (Reps.none _ _)); intro v1 w1 ho1 hb1 hg1 hnew1; have HO1 := Aside0.mk ho1; have HB1 := Aside0.mk hb1; have HN1 := Aside0.mk hnew1; have HR1 := Aside0.mk (Kd.R_grown HR.out hg1 (fun _ _ => by simp)); have HG1 := Aside0.mk hg1; clear ho1 hb1 hnew1 hg1)
      | ((with_reducible refine gate_dst (N := 7) rfl ?_); refine Kd.R_append_rows (Kd.tag f k28) (w0 := w0) w0.heap.size rfl (.tmp 5) (.tmp 6) 29 28 (.agg #[(.bool false), (.int .i64 0), (.slice none 0 0)]) 40 rfl Try.underlying29 info28 rfl (Nat.succ_pos 2) (by decide) v1 ([] : List (S28 × Nat)) xs.zipIdx (some ad) xs.length c (fun _ => True) (fun k => k < w.heap.size) rfl rfl HO1.out ?hR (fun _ _ h => h) ?hk (fun _ _ => trivial) HB1.out (below_size HB1.out) ?hl ?_; (case hR => obtain ⟨A', c', he', _, hC'⟩ := OwnRow.reads HR1.out.2; rw [List.length_zipIdx] at hC' he'; injection he' with h1_ _ _; rw [h1_]; exact hC'.imp_ (Below.refl _ _) (fun p cs hp => Kd.M_mono _ (fun k hk => hk.1) hp)); (case hk => intro k hk; refine ⟨trivial, fun e => ?_⟩; obtain ⟨b, hb, hle⟩ := HN1.out; rw [hb] at e; injection e with e; omega); (case hl => have := HL.out; simpa using this); intro v2 w2 ho2 hb2 hg2 hat2; clear hg2 hat2; have HO2 := Aside0.mk ho2; have HB2 := Aside0.mk hb2; clear ho2 hb2))
    go_ret
    exact ⟨_, rfl, ⟨f, by simpa using HO2.out⟩, HB2.out⟩
end Go.Proofs.Ytoipfbffdcahoaa.P
