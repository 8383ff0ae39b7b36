/- copy of elements of any size, into a row of the call's own. -/
import Derived.Test.YtpkhdipedmihgaaEHeap
namespace Go.Proofs.Ytpkhdipedmihgaa.P
open Go Go.RowKit Go.Proofs.YtpkhdipedmihgaaW.PrintWords Go.Proofs.YtpkhdipedmihgaaW.PrintLast Go.Proofs.YtpkhdipedmihgaaW.PrintMore
set_option linter.unusedVariables false
set_option linter.unusedSimpArgs false
section
variable {P : Program}
theorem run_copy_sz (w : World) (dT sT ty elem : TypeId) (g o dLen dCap : Nat) (a : Addr) (sLen sCap sz n : Nat) (cur : Array Value) (t : TypeId) (cs : List Value)
    (hu : P.underlying dT = some (.slice elem)) (hs : (P.info? elem).map (·.size) = some sz)
    (hg : w.heap[g]? = some (.cells cur t (0, 0))) (hn : n = Nat.min sLen dLen) (hcs : cs.length = n * sz)
    (hsrc : ∀ j v, cs[j]? = some v → w.cell? (a.add j) = some v) (hfit : o + cs.length ≤ cur.size) (h1 : ∀ v ∈ cs, v.oneCell' = true) :
    (Builtin.copy_ #[dT, sT] ty #[.slice (some ⟨g, o, none⟩) dLen dCap, .slice (some a) sLen sCap]).run P w =
      .ok (goInt n) (w.setRow g (cur.toList.take o ++ cs ++ cur.toList.drop (o + cs.length)).toArray) := by
  have hl := run_loadCells_list (P := P) w a cs hsrc
  have hst := run_storeCells_at P g o t cs 0 cur w hg (by simpa using hfit) h1
  cases hq : P.info? elem with
  | none => simp [hq] at hs
  | some i =>
    have hi : i.size = sz := by simpa [hq] using hs
    rw [hcs] at hl
    simp [Builtin.copy_, run_underlying hu, Builtin.lenOf, Builtin.firstCells, sizeOf, typeInfo, hq, hi, ← hn, hl, hst]
theorem copy_sz {w : World} {ops : Array Oper} {o : Oper} {a : Act} (hgd : o.guard = none) (d s : Operand) (dT sT : TypeId)
    (ho : o.op = .call { callee := .builtin .copy, args := #[d, s], argTypes := #[dT, sT] }) (elem : TypeId) (hu : P.underlying dT = some (.slice elem)) (sz n : Nat) (hsz : (P.info? elem).map (·.size) = some sz)
    (g off dLen dCap sLen sCap : Nat) (ad : Addr) (hd : a.eval d = .slice (some ⟨g, off, none⟩) dLen dCap) (hs : a.eval s = .slice (some ad) sLen sCap)
    (cur : List Value) (t : TypeId) (hg : w.heap[g]? = some (.cells cur.toArray t (0, 0))) (cs : List Value) (hn : n = Nat.min sLen dLen) (hcs : cs.length = n * sz)
    (hsrc : ∀ j v, cs[j]? = some v → w.cell? (ad.add j) = some v) (hfit : off + cs.length ≤ cur.length) (h1 : ∀ v ∈ cs, v.oneCell' = true) (B : Nat) (w0 : World) (hb : Below B w0 w) (hBg : B ≤ g) :
    ∃ w', (execOp a.eval o).run P w = .ok (.value (goInt n)) w' ∧ Hid (w'.heap[g]? = some (.cells (splice cur off cs).toArray t (0, 0))) ∧ Below B w0 w' := by
  have hrun := run_copy_sz (P := P) w dT sT o.type elem g off dLen dCap ad sLen sCap sz n cur.toArray t cs hu hsz hg hn hcs hsrc (by simpa using hfit) h1
  refine ⟨_, ?_, show _ = _ by simpa [splice] using setRow_heap w g _ _ t _ hg, below_setRow hb hBg _⟩
  simp [execOp, ho, resolve, invoke, builtin, hd, hs, hrun, Result.andThen]
theorem wpList_copy_sz {w : World} {ops : Array Oper} {rest : List Oper} {o : Oper} {a : Act} {Q : Exit → Act → World → Prop} (hgd : o.guard = none) (d s : Operand) (dT sT : TypeId)
    (ho : o.op = .call { callee := .builtin .copy, args := #[d, s], argTypes := #[dT, sT] }) (elem : TypeId) (hu : P.underlying dT = some (.slice elem)) (sz n : Nat) (hsz : (P.info? elem).map (·.size) = some sz)
    (g off dLen dCap sLen sCap : Nat) (ad : Addr) (hd : a.eval d = .slice (some ⟨g, off, none⟩) dLen dCap) (hs : a.eval s = .slice (some ad) sLen sCap)
    (cur : List Value) (t : TypeId) (hg : w.heap[g]? = some (.cells cur.toArray t (0, 0))) (cs : List Value) (hn : n = Nat.min sLen dLen) (hcs : cs.length = n * sz)
    (hsrc : ∀ j v, cs[j]? = some v → w.cell? (ad.add j) = some v) (hfit : off + cs.length ≤ cur.length) (h1 : ∀ v ∈ cs, v.oneCell' = true) (B : Nat) (w0 : World) (hb : Below B w0 w) (hBg : B ≤ g)
    (h : ∀ w', Hid (w'.heap[g]? = some (.cells (splice cur off cs).toArray t (0, 0))) → Below B w0 w' → wpList P ops Q rest (a.put o.dst (goInt n)) w') :
    wpList P ops Q (o :: rest) a w := by
  refine wpList_plain hgd fun K hK => ?_
  obtain ⟨w', h2, h3, h4⟩ := copy_sz (P := P) (ops := ops) hgd d s dT sT ho elem hu sz n hsz g off dLen dCap sLen sCap ad hd hs cur t hg cs hn hcs hsrc hfit h1 B w0 hb hBg
  unfold Oper.wp
  rw [h2]
  exact hK _ _ (h w' h3 h4)
theorem step_copy_sz {ops : Array Oper} {o : Oper} {a : Act} {w : World} {K : Act → World → Prop} {Q : Exit → Act → World → Prop} {E : Prop} (hgd : o.guard = none) (d s : Operand) (dT sT : TypeId)
    (ho : o.op = .call { callee := .builtin .copy, args := #[d, s], argTypes := #[dT, sT] }) (elem : TypeId) (hu : P.underlying dT = some (.slice elem)) (sz n : Nat) (hsz : (P.info? elem).map (·.size) = some sz)
    (g off dLen dCap sLen sCap : Nat) (ad : Addr) (hd : a.eval d = .slice (some ⟨g, off, none⟩) dLen dCap) (hs : a.eval s = .slice (some ad) sLen sCap)
    (cur : List Value) (t : TypeId) (hg : w.heap[g]? = some (.cells cur.toArray t (0, 0))) (cs : List Value) (hn : n = Nat.min sLen dLen) (hcs : cs.length = n * sz)
    (hsrc : ∀ j v, cs[j]? = some v → w.cell? (ad.add j) = some v) (hfit : off + cs.length ≤ cur.length) (h1 : ∀ v ∈ cs, v.oneCell' = true) (B : Nat) (w0 : World) (hb : Below B w0 w) (hBg : B ≤ g)
    (h : ∀ w', Hid (w'.heap[g]? = some (.cells (splice cur off cs).toArray t (0, 0))) → Below B w0 w' → K (a.put o.dst (goInt n)) w') :
    if Region.wanted o (yielded ops a.tmps) = true then Oper.wp P o a w K Q else E := by
  have hw : Region.wanted o (yielded ops a.tmps) = true := by simp [Region.wanted, hgd]
  rw [if_pos hw]
  obtain ⟨w', h2, h3, h4⟩ := copy_sz (P := P) (ops := ops) hgd d s dT sT ho elem hu sz n hsz g off dLen dCap sLen sCap ad hd hs cur t hg cs hn hcs hsrc hfit h1 B w0 hb hBg
  unfold Oper.wp
  rw [h2]
  exact h w' h3 h4
end
theorem flatI_rep_get (x : Itm) (k j : Nat) (h : j < 2 * k) (r : List Value) : (flatI (List.replicate k x) ++ r)[j]? = some (if j % 2 = 0 then .int .i64 x.1 else .int .i64 x.2) := by
  obtain ⟨i, hi⟩ : ∃ i, i = j / 2 := ⟨_, rfl⟩
  obtain ⟨g1, g2⟩ := flatI_get x (List.replicate k x) i (by simp; omega) r
  have e : (List.replicate k x).getD i x = x := by
    rw [List.getD_eq_getElem?_getD, List.getElem?_replicate]; split <;> rfl
  rw [e] at g1 g2
  by_cases hp : j % 2 = 0
  · rw [if_pos hp, show j = 2 * i by omega]; exact g1
  · rw [if_neg hp, show j = 2 * i + 1 by omega]; exact g2
theorem flatI_splice (x : Itm) (k m : Nat) (r : List Value) (hm : 2 * m ≤ r.length) : splice (flatI (List.replicate k x) ++ r) (k * 2) (flatI (List.replicate m x)) = flatI (List.replicate (k + m) x) ++ r.drop (2 * m) := by
  have hl : (flatI (List.replicate k x)).length = k * 2 := by rw [flatI_len]; simp; omega
  have hl2 : (flatI (List.replicate m x)).length = 2 * m := by rw [flatI_len]; simp
  unfold splice
  rw [hl2, List.take_left' hl, List.drop_append, hl, List.drop_eq_nil_of_le (by omega), List.nil_append, show k * 2 + 2 * m - k * 2 = 2 * m by omega, ← List.append_assoc, ← flatI_app, List.replicate_append_replicate]
def kI2 : Kd Itm := Kd.pair (Kd.int .i64) (Kd.int .i64)
theorem kI2_openM {w : World} {base : Nat} {ok : Nat → Prop} {x : Itm} {cs : List Value} (h : kI2.M w base ok x cs) : cs = [.int .i64 x.1, .int .i64 x.2] := by
  obtain ⟨_, _, rfl, rfl, rfl⟩ := h
  rfl
theorem kI2_mkM (w : World) (base : Nat) (ok : Nat → Prop) (x : Itm) : kI2.M w base ok x [.int .i64 x.1, .int .i64 x.2] := ⟨[.int .i64 x.1], [.int .i64 x.2], rfl, rfl, rfl⟩
theorem block_of_Rk {W : World} {e base : Nat} {ok : Nat → Prop} {v : Value} {xs : List Itm} (h : Kd.R kI2 e W base ok v xs) (hn : 0 < xs.length) :
    ∃ g cap rest, v = .slice (some ⟨g, 0, none⟩) xs.length cap ∧ base ≤ g ∧ W.heap[g]? = some (.cells (flatI xs ++ rest).toArray e (0, 0)) ∧ xs.length ≤ cap ∧ cap ≤ maxLen ∧ 2 * xs.length + rest.length = cap * 2 := by
  obtain ⟨_, inner, ho, hr⟩ := h
  have hin : ∀ (ys : List Itm) (c : List Value), Reps (kI2.M W base (fun k => ok k ∧ some k ≠ v.ownBlock)) kI2.sz ys c → c = flatI ys := by
    intro ys
    induction ys with
    | nil => intro c hc; exact List.eq_nil_of_length_eq_zero (by have := hc.1; simpa using this)
    | cons y ys ih =>
      intro c hc
      have h0 := hc.2 0 y rfl
      have hy := kI2_openM h0
      have hsz : kI2.sz = 2 := rfl
      rw [Nat.zero_mul, List.drop_zero, hsz] at hy
      have ht : Reps (kI2.M W base (fun k => ok k ∧ some k ≠ v.ownBlock)) kI2.sz ys (c.drop 2) := by
        refine ⟨by rw [List.length_drop, hc.1, hsz]; simp; omega, fun j p hj => ?_⟩
        have := hc.2 (j + 1) p (by simpa using hj)
        rw [List.drop_drop, hsz]
        rw [hsz, show (j + 1) * 2 = 2 + j * 2 by omega] at this
        exact this
      have := ih _ ht
      rw [← List.take_append_drop 2 c, hy, this]
      rfl
  have hi := hin xs inner hr
  subst hi
  have hsz : kI2.sz = 2 := rfl
  rw [hsz] at ho
  rcases ho.2 with ⟨_, hz⟩ | ⟨g, cap, cur, rfl, hb, hg, hc, hm, hs, ht⟩
  · omega
  · refine ⟨g, cap, cur.toList.drop (xs.length * 2), rfl, hb, ?_, hc, hm, ?_⟩
    · rw [← ht, List.take_append_drop]; exact hg
    · rw [List.length_drop]; simp; omega
end Go.Proofs.Ytpkhdipedmihgaa.P
