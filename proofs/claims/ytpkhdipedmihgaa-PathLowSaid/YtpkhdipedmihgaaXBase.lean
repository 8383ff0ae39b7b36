/- Small lemmas for the hand-written contracts: a row of whole numbers and its block, both ways. -/
import Derived.Test.YtpkhdipedmihgaaPx0
import Derived.Laws.CopyOwn
import Derived.Deep.RegionLaw
import Derived.Laws.BitsLemmas
import Derived.Outline
namespace Go.Proofs.Ytpkhdipedmihgaa.P
open Go.RowKit Go.Proofs.YtpkhdipedmihgaaW.PrintWords Go.Proofs.YtpkhdipedmihgaaW.PrintLast Go.Proofs.YtpkhdipedmihgaaW.PrintMore
set_option linter.unusedVariables false
set_option linter.unusedSimpArgs false

/-- A row's block: its cells, and what lies behind its length. -/
theorem block_of_R {W : World} {e base : Nat} {ok : Nat → Prop} {v : Value} {xs : List Int} (h : Kd.R (Kd.int .i64) e W base ok v xs) (hv : (∃ b, v.ownBlock = some b) ∨ 0 < xs.length) :
    ∃ g cap rest, v = .slice (some ⟨g, 0, none⟩) xs.length cap ∧ base ≤ g ∧ ok g ∧ W.heap[g]? = some (.cells (xs.map (Value.int .i64) ++ rest).toArray e (0, 0)) ∧ xs.length + rest.length = cap ∧ cap ≤ maxLen := by
  have h0 := h.1
  obtain ⟨h1, h2⟩ := Kd.own_of_R (enc := Value.int .i64) h
  rcases h2 with ⟨rfl, hn⟩ | ⟨g, cap, cur, rfl, hb, hg, hn, hc, hs, ht⟩
  · rcases hv with ⟨b, hb⟩ | hv
    · simp [Value.ownBlock] at hb
    · omega
  · refine ⟨g, cap, cur.toList.drop xs.length, rfl, hb, h0 g rfl, ?_, ?_, hc⟩
    · rw [Nat.mul_one] at ht
      have : xs.map (Value.int .i64) ++ cur.toList.drop xs.length = cur.toList := by
        rw [← List.take_append_drop xs.length cur.toList, ht]; simp [encs]
      rw [this]; simpa using hg
    · have : cur.toList.length = cap := by simpa using hs
      rw [List.length_drop, this]; omega

theorem R_of_block {W : World} {e base g : Nat} {ok : Nat → Prop} {xs : List Int} {rest : List Value} {cap : Nat} (h : W.heap[g]? = some (.cells (xs.map (Value.int .i64) ++ rest).toArray e (0, 0))) (hb : base ≤ g) (hr : xs.length + rest.length = cap) (hcap : cap ≤ maxLen) (hok : ok g) :
    Kd.R (Kd.int .i64) e W base ok (.slice (some ⟨g, 0, none⟩) xs.length cap) xs := by
  refine Kd.R_of_own (enc := Value.int .i64) ⟨by simp [encs], .inr ⟨g, cap, _, rfl, hb, h, by omega, hcap, by simp; omega, ?_⟩⟩ (fun k hk => ?_)
  · simp [encs]
  · have : g = k := by simpa [Value.ownBlock] using hk
    exact this ▸ hok

/-- The cells of a slice that is read. -/
theorem cells_of_C {W : World} {A : Option Addr} {n : Nat} {xs : List Int} (h : Kd.C (Kd.int .i64) W A n xs) (hn : 0 < n) : ∃ ad, A = some ad ∧ ∀ j v, (xs.map (Value.int .i64))[j]? = some v → W.cell? (ad.add j) = some v := by
  obtain ⟨ad, e, hc⟩ := h.2.2 hn
  refine ⟨ad, e, fun j v hv => ?_⟩
  rw [List.getElem?_map] at hv
  obtain ⟨p, hp, rfl⟩ := Option.map_eq_some_iff.1 hv
  obtain ⟨c, _, hK, hcc⟩ := hc j p hp
  have : c = [Value.int .i64 p] := hK
  subst this
  have := hcc 0 _ rfl
  rwa [show j * (Kd.int IntKind.i64).sz + 0 = j by show j * 1 + 0 = j; omega] at this
theorem cell_of_block {W : World} {g e : Nat} {L : List Value} (h : W.heap[g]? = some (.cells L.toArray e (0, 0))) (j : Nat) (v : Value) (hv : L[j]? = some v) : W.cell? ⟨g, j, none⟩ = some v := by
  simp [World.cell?, h, hv]
theorem frozen_of_block {W : World} {g e : Nat} {L : List Value} (h : W.heap[g]? = some (.cells L.toArray e (0, 0))) (j : Nat) : W.frozen? ⟨g, j, none⟩ = false := by
  simp [World.frozen?, h]

/-- A function from a whole number to a whole number, as it answers. -/
structure FnI where
  f : Int → Option Int
/-- A function value (function g, captured fr): wherever all that lay in w0 lies unturned, it answers as s does, and turns nothing. -/
structure FnK (s : FnI) (g : FuncId) (fr : Array Value) (w0 : World) : Prop where
  fn : ∃ fn, Try.prog.funcs[g]? = some fn ∧ (fn.name == "runtime.NumGoroutine") = false ∧ fn.body.isSome = true
  calls : ∀ (a0 r : Int) (W : World), Below w0.heap.size w0 W → s.f a0 = some r → Calls Try.prog g (#[.int .i64 a0] ++ fr) W fun e w' => e = .returned (.int .i64 r) ∧ Below W.heap.size W w'

theorem goesV_ {ops : Array Oper} {Q : Exit → Act → World → Prop} {rest : List Oper} {oi : Oper} {a : Act} {w : World} (N : Option Tmp) (hd : oi.dst = N) (hg : oi.guard = none) {s : FnI} {g : FuncId} {fr : Array Value} {w0 : World} {x : Operand} {as1 : Array Operand} {ts : Array TypeId} (K : FnK s g fr w0)
    (hop : oi.op = .call { callee := .value x, args := as1, argTypes := ts }) (hx : a.eval x = .func (.func g) #[] fr) (a0 r : Int) (hargs : as1.map a.eval = #[.int .i64 a0]) (hb : Below w0.heap.size w0 w) (hr : s.f a0 = some r)
    (h : ∀ w', Below w.heap.size w w' → wpList Try.prog ops Q rest (a.put N (.int .i64 r)) w') : wpList Try.prog ops Q (oi :: rest) a w := by
  obtain ⟨fn, hf, hname, hbd⟩ := K.fn
  refine wpList_plain hg fun K' hK => ?_
  have he := enters_ hf hname hbd (#[.int .i64 a0] ++ fr) w
  have hrun : (execOp a.eval oi).run Try.prog w = .ok (.enter g (#[.int .i64 a0] ++ fr)) w := by
    unfold execOp
    simp [hop, resolve, Deferred.ofValue, invoke, hx, hargs]
    simpa using he
  unfold Oper.wp
  rw [hrun, Oper.upon_enter]
  refine (K.calls a0 r w hb hr).mono fun e w'' hh => ?_
  obtain ⟨rfl, hk⟩ := hh
  subst hd
  exact hK _ _ (h _ hk)
end Go.Proofs.Ytpkhdipedmihgaa.P
