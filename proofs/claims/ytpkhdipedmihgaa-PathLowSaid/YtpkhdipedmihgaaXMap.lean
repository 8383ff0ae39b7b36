/- A map from whole numbers to whole numbers, by its block: what a look-up, a store, a delete and a clear do to it. -/
import Derived.Test.YtpkhdipedmihgaaXBase
import Derived.ChangeMaps5
namespace Go.Proofs.Ytpkhdipedmihgaa.P
open Go.RowKit Go.Proofs.YtpkhdipedmihgaaW.PrintWords Go.Proofs.YtpkhdipedmihgaaW.PrintLast Go.Proofs.YtpkhdipedmihgaaW.PrintMore
open Go.MapKept
set_option linter.unusedVariables false
set_option linter.unusedSimpArgs false

/-- The block b holds a map that has mp's keys and numbers. -/
def MapAt (W : World) (b : Nat) (mp : Int → Option Int) : Prop :=
  ∃ es clock, W.heap[b]? = some (.map es clock) ∧ (∀ x ∈ es.toList, ∃ a c : Int, x.key = .int .i64 a ∧ x.val = .int .i64 c) ∧ (es.toList.map (·.key)).Nodup ∧ ∀ k v, mp k = some v ↔ ∃ x ∈ es.toList, x.key = .int .i64 k ∧ x.val = .int .i64 v
def mput (mp : Int → Option Int) (k v : Int) : Int → Option Int := fun i => if i = k then some v else mp i
def mdel (mp : Int → Option Int) (k : Int) : Int → Option Int := fun i => if i = k then none else mp i

theorem MapAt.move {W W' : World} {b : Nat} {mp : Int → Option Int} (h : MapAt W b mp) (e : W'.heap[b]? = W.heap[b]?) : MapAt W' b mp := by
  obtain ⟨es, c, h1, h2⟩ := h; exact ⟨es, c, e.trans h1, h2⟩
theorem MapAt.lt {W : World} {b : Nat} {mp : Int → Option Int} (h : MapAt W b mp) : b < W.heap.size := by
  obtain ⟨es, c, h1, _⟩ := h; exact (Array.getElem?_eq_some_iff.1 h1).1

theorem nodup_idx {es : List MapEntry} (hn : (es.map (·.key)).Nodup) {i j : Nat} {x y : MapEntry} (hi : es[i]? = some x) (hj : es[j]? = some y) (e : x.key = y.key) : i = j := by
  have h1 : (es.map (·.key))[i]? = some x.key := by rw [List.getElem?_map, hi]; rfl
  have h2 : (es.map (·.key))[j]? = some y.key := by rw [List.getElem?_map, hj]; rfl
  have l1 : i < (es.map (·.key)).length := (List.getElem?_eq_some_iff.1 h1).1
  exact (List.getElem?_inj l1 hn).1 (by rw [h1, h2, e])
theorem nodup_uniq {es : List MapEntry} (hn : (es.map (·.key)).Nodup) {x y : MapEntry} (hx : x ∈ es) (hy : y ∈ es) (e : x.key = y.key) : x = y := by
  obtain ⟨i, hi⟩ := List.mem_iff_getElem?.1 hx
  obtain ⟨j, hj⟩ := List.mem_iff_getElem?.1 hy
  have := nodup_idx hn hi hj e
  subst this
  rw [hi] at hj; exact Option.some.inj hj

section
variable {P : Program} {W : World} {t kt et : TypeId} {b : Nat} {mp : Int → Option Int}

theorem isKeys {es : List MapEntry} (h : ∀ x ∈ es, ∃ a c : Int, x.key = .int .i64 a ∧ x.val = .int .i64 c) : ∀ y ∈ es, IsKey (.int .i64) y.key := fun y hy => by
  obtain ⟨a, c, h1, _⟩ := h y hy; rw [h1]; rfl

theorem MapAt.look (h : MapAt W b mp) (ht : P.underlying t = some (.map kt et)) (hk : P.underlying kt = some (.int .i64)) (hz : (zeroValue et).run P W = .ok (.int .i64 0) W) (k : Int) :
    (Instr.lookup t (.map (some b)) (.int .i64 k) true).run P W = .ok (.tuple #[.int .i64 ((mp k).getD 0), .bool (mp k).isSome]) W := by
  obtain ⟨es, clock, hb, hf, hn, hm⟩ := h
  have hkey : IsKey (.int .i64) (.int .i64 k) := rfl
  rcases findNow_spec hkey es.toList 0 (isKeys hf) with ⟨h1, h2⟩ | ⟨j, e0, h1, h2, h3⟩
  · have e : mp k = none := by
      cases hq : mp k with
      | none => rfl
      | some v => obtain ⟨x, hx, e1, _⟩ := (hm k v).1 hq; exact absurd e1 (h2 x hx)
    simp [Instr.lookup, run_underlying ht, MapKept.run_getObj_map hb, run_checkKey hk hkey, run_findKey hk h1, hz, Result.andThen, e]
  · have hm0 : e0 ∈ es.toList := List.mem_of_getElem? h2
    obtain ⟨a, c, q1, q2⟩ := hf e0 hm0
    have e : mp k = some c := (hm k c).2 ⟨e0, hm0, h3, q2⟩
    simp [Instr.lookup, run_underlying ht, MapKept.run_getObj_map hb, run_checkKey hk hkey, run_findKey hk h1, Result.andThen, e, q2]

theorem MapAt.put (h : MapAt W b mp) (ht : P.underlying t = some (.map kt et)) (hk : P.underlying kt = some (.int .i64)) (k v : Int) :
    ∃ W', (Instr.mapUpdate t (.map (some b)) (.int .i64 k) (.int .i64 v)).run P W = .ok () W' ∧ MapAt W' b (mput mp k v) ∧ W.grownBy W' (some b) := by
  obtain ⟨es, clock, hb, hf, hn, hm⟩ := h
  have hkey : IsKey (.int .i64) (.int .i64 k) := rfl
  rcases findNow_spec hkey es.toList 0 (isKeys hf) with ⟨h1, h2⟩ | ⟨j, e0, h1, h2, h3⟩
  · refine ⟨ChangeMaps.setBlock W b (.map (es.push ⟨.int .i64 k, .int .i64 v, clock⟩) (clock + 1)), ?_, ⟨_, _, ChangeMaps.heap_setBlock_same hb _, ?_, ?_, ?_⟩, ⟨rfl, rfl, rfl, by simp [ChangeMaps.setBlock], fun i _ hi => ChangeMaps.heap_setBlock_other hb _ (fun e => hi (by rw [e]))⟩⟩
    · simp [Instr.mapUpdate, run_underlying ht, MapKept.run_getObj_map hb, run_checkKey hk hkey, run_findKey hk h1, MapKept.run_setObj_map _ hb, Result.andThen, ChangeMaps.setBlock]
    · intro x hx
      simp only [Array.toList_push, List.mem_append, List.mem_singleton] at hx
      rcases hx with hx | rfl
      · exact hf x hx
      · exact ⟨k, v, rfl, rfl⟩
    · rw [Array.toList_push, List.map_append, List.nodup_append]
      refine ⟨hn, by simp, fun a ha c hc => ?_⟩
      obtain ⟨x, hx, rfl⟩ := List.mem_map.1 ha
      simp only [List.map_cons, List.map_nil, List.mem_singleton] at hc
      rw [hc]; exact h2 x hx
    · intro i u
      simp only [Array.toList_push, List.mem_append, List.mem_singleton, mput]
      by_cases hi : i = k
      · subst hi
        rw [if_pos rfl]
        constructor
        · intro e; exact ⟨_, .inr rfl, rfl, by rw [Option.some.inj e]⟩
        · rintro ⟨x, hx | rfl, e1, e2⟩
          · exact absurd e1 (h2 x hx)
          · injection e2 with _ e2; rw [e2]
      · rw [if_neg hi]
        constructor
        · intro e; obtain ⟨x, hx, r⟩ := (hm i u).1 e; exact ⟨x, .inl hx, r⟩
        · rintro ⟨x, hx | rfl, e1, e2⟩
          · exact (hm i u).2 ⟨x, hx, e1, e2⟩
          · injection e1 with _ e1; exact absurd e1.symm hi
  · have hj : es[j]? = some e0 := by simpa using h2
    have hjl : j < es.toList.length := (List.getElem?_eq_some_iff.1 h2).1
    have el : (es.modify j (fun e' => { e' with key := .int .i64 k, val := .int .i64 v })).toList = es.toList.set j { e0 with key := .int .i64 k, val := .int .i64 v } := by
      rw [Array.toList_modify, ChangeMaps.modify_eq_set _ _ _ _ h2]
    have ek : (es.toList.set j { e0 with key := .int .i64 k, val := .int .i64 v }).map (·.key) = es.toList.map (·.key) := by
      rw [List.map_set]
      apply List.ext_getElem?
      intro i
      rw [List.getElem?_set]
      split
      · rename_i hi; subst hi
        rw [if_pos (by simpa using hjl), List.getElem?_map, h2]; simp [h3]
      · rfl
    have hmem : ∀ x, x ∈ es.toList.set j { e0 with key := .int .i64 k, val := .int .i64 v } ↔ x = { e0 with key := .int .i64 k, val := .int .i64 v } ∨ (x ∈ es.toList ∧ x.key ≠ .int .i64 k) := by
      intro x
      constructor
      · intro hx
        obtain ⟨i, hi⟩ := List.mem_iff_getElem?.1 hx
        rw [List.getElem?_set] at hi
        split at hi
        · rename_i hij; subst hij
          exact .inl (Option.some.inj (by first | exact hi | (rw [if_pos hjl] at hi; exact hi))).symm
        · rename_i hij
          refine .inr ⟨List.mem_of_getElem? hi, fun e => hij (nodup_idx hn h2 hi (h3.trans e.symm))⟩
      · rintro (rfl | ⟨hx, hne⟩)
        · exact List.mem_iff_getElem?.2 ⟨j, by rw [List.getElem?_set, if_pos rfl, if_pos hjl]⟩
        · obtain ⟨i, hi⟩ := List.mem_iff_getElem?.1 hx
          refine List.mem_iff_getElem?.2 ⟨i, ?_⟩
          rw [List.getElem?_set, if_neg ?_]; exact hi
          rintro rfl
          rw [h2] at hi; cases hi; exact hne h3
    refine ⟨ChangeMaps.setBlock W b (.map (es.modify j (fun e' => { e' with key := .int .i64 k, val := .int .i64 v })) clock), ?_, ⟨_, _, ChangeMaps.heap_setBlock_same hb _, ?_, ?_, ?_⟩, ⟨rfl, rfl, rfl, by simp [ChangeMaps.setBlock], fun i _ hi => ChangeMaps.heap_setBlock_other hb _ (fun e => hi (by rw [e]))⟩⟩
    · simp [Instr.mapUpdate, run_underlying ht, MapKept.run_getObj_map hb, run_checkKey hk hkey, run_findKey hk h1, hj, h3, run_keyThatStays hkey, MapKept.run_setObj_map _ hb, Result.andThen, ChangeMaps.setBlock]
    · intro x hx
      rw [el, hmem] at hx
      rcases hx with rfl | ⟨hx, _⟩
      · exact ⟨k, v, rfl, rfl⟩
      · exact hf x hx
    · rw [el, ek]; exact hn
    · intro i u
      rw [el]
      simp only [hmem, mput]
      by_cases hi : i = k
      · subst hi
        rw [if_pos rfl]
        constructor
        · intro e; exact ⟨_, .inl rfl, rfl, by rw [Option.some.inj e]⟩
        · rintro ⟨x, rfl | ⟨hx, hne⟩, e1, e2⟩
          · injection e2 with _ e2; rw [e2]
          · exact absurd e1 hne
      · rw [if_neg hi]
        constructor
        · intro e; obtain ⟨x, hx, r1, r2⟩ := (hm i u).1 e
          exact ⟨x, .inr ⟨hx, fun q => hi (by rw [r1] at q; injection q)⟩, r1, r2⟩
        · rintro ⟨x, rfl | ⟨hx, hne⟩, e1, e2⟩
          · injection e1 with _ e1; exact absurd e1.symm hi
          · exact (hm i u).2 ⟨x, hx, e1, e2⟩

theorem MapAt.del (h : MapAt W b mp) {ty : TypeId} (ht : P.underlying t = some (.map kt et)) (hk : P.underlying kt = some (.int .i64)) (k : Int) :
    ∃ W', (Builtin.delete_ #[t, kt] ty #[.map (some b), .int .i64 k]).run P W = .ok (.tuple #[]) W' ∧ MapAt W' b (mdel mp k) ∧ W.grownBy W' (some b) := by
  obtain ⟨es, clock, hb, hf, hn, hm⟩ := h
  have hkey : IsKey (.int .i64) (.int .i64 k) := rfl
  rcases findNow_spec hkey es.toList 0 (isKeys hf) with ⟨h1, h2⟩ | ⟨j, e0, h1, h2, h3⟩
  · refine ⟨ChangeMaps.setBlock W b (.map es clock), ?_, ⟨es, clock, ChangeMaps.heap_setBlock_same hb _, hf, hn, ?_⟩, ⟨rfl, rfl, rfl, by simp [ChangeMaps.setBlock], fun i _ hi => ChangeMaps.heap_setBlock_other hb _ (fun e => hi (by rw [e]))⟩⟩
    · simp [Builtin.delete_, run_underlying ht, MapKept.run_getObj_map hb, run_checkKey hk hkey, run_findKey hk h1, MapKept.run_setObj_map _ hb, Result.andThen, ChangeMaps.setBlock]
    · intro i u
      unfold mdel
      split
      · rename_i hi; subst hi
        constructor
        · intro e; cases e
        · rintro ⟨x, hx, e1, _⟩; exact absurd e1 (h2 x hx)
      · exact hm i u
  · have hjl : j < es.toList.length := (List.getElem?_eq_some_iff.1 h2).1
    have hjs : j < es.size := by simpa using hjl
    have hsub : (es.eraseIdxIfInBounds j).toList = es.toList.eraseIdx j := by
      unfold Array.eraseIdxIfInBounds
      rw [dif_pos hjs]
      simp
    have hmem : ∀ x, x ∈ es.toList.eraseIdx j ↔ x ∈ es.toList ∧ x.key ≠ .int .i64 k := by
      intro x
      rw [List.mem_eraseIdx_iff_getElem?]
      constructor
      · rintro ⟨i, hij, hi⟩
        exact ⟨List.mem_of_getElem? hi, fun e => hij (nodup_idx hn hi h2 (e.trans h3.symm))⟩
      · rintro ⟨hx, hne⟩
        obtain ⟨i, hi⟩ := List.mem_iff_getElem?.1 hx
        refine ⟨i, ?_, hi⟩
        rintro rfl
        rw [h2] at hi; cases hi; exact hne h3
    refine ⟨ChangeMaps.setBlock W b (.map (es.eraseIdxIfInBounds j) clock), ?_, ⟨_, _, ChangeMaps.heap_setBlock_same hb _, ?_, ?_, ?_⟩, ⟨rfl, rfl, rfl, by simp [ChangeMaps.setBlock], fun i _ hi => ChangeMaps.heap_setBlock_other hb _ (fun e => hi (by rw [e]))⟩⟩
    · simp [Builtin.delete_, run_underlying ht, MapKept.run_getObj_map hb, run_checkKey hk hkey, run_findKey hk h1, MapKept.run_setObj_map _ hb, Result.andThen, ChangeMaps.setBlock]
    · intro x hx
      rw [hsub] at hx
      exact hf x ((List.eraseIdx_sublist _ _).subset hx)
    · rw [hsub]
      exact hn.sublist ((List.eraseIdx_sublist _ _).map _)
    · intro i u
      rw [hsub]
      simp only [hmem, mdel]
      by_cases hi : i = k
      · subst hi
        rw [if_pos rfl]
        constructor
        · intro e; cases e
        · rintro ⟨x, ⟨hx, hne⟩, e1, _⟩; exact absurd e1 hne
      · rw [if_neg hi]
        constructor
        · intro e; obtain ⟨x, hx, r1, r2⟩ := (hm i u).1 e
          exact ⟨x, ⟨hx, fun q => hi (by rw [r1] at q; injection q)⟩, r1, r2⟩
        · rintro ⟨x, ⟨hx, hne⟩, e1, e2⟩
          exact (hm i u).2 ⟨x, hx, e1, e2⟩

theorem MapAt.clr (h : MapAt W b mp) {ty : TypeId} (ht : P.underlying t = some (.map kt et)) :
    ∃ W', (Builtin.clear_ #[t] ty #[.map (some b)]).run P W = .ok (.tuple #[]) W' ∧ MapAt W' b (fun _ => none) ∧ W.grownBy W' (some b) := by
  obtain ⟨es, clock, hb, hf, hn, hm⟩ := h
  refine ⟨ChangeMaps.setBlock W b (.map #[] clock), ?_, ⟨#[], clock, ChangeMaps.heap_setBlock_same hb _, by simp, by simp, by simp⟩, ⟨rfl, rfl, rfl, by simp [ChangeMaps.setBlock], fun i _ hi => ChangeMaps.heap_setBlock_other hb _ (fun e => hi (by rw [e]))⟩⟩
  simp [Builtin.clear_, run_underlying ht, MapKept.run_getObj_map hb, MapKept.run_setObj_map _ hb, Result.andThen, ChangeMaps.setBlock]

theorem MapAt.new (w : World) : MapAt (w.alloc (.map #[] 0)) w.heap.size (fun _ => none) :=
  ⟨#[], 0, heap_alloc_new w _, by simp, by simp, by simp⟩

theorem wpList_look {ops rest : Array Oper × List Oper} {o : Oper} {a : Act} {Q : Exit → Act → World → Prop} (hg : o.guard = none) (m x : Operand) (hop : o.op = Op.lookup t m x true)
    (h : MapAt W b mp) (ht : P.underlying t = some (.map kt et)) (hk : P.underlying kt = some (.int .i64)) (hz : (zeroValue et).run P W = .ok (.int .i64 0) W) (hm : a.eval m = .map (some b)) (k : Int) (hx : a.eval x = .int .i64 k)
    (hK : wpList P ops.1 Q rest.2 (a.put o.dst (.tuple #[.int .i64 ((mp k).getD 0), .bool (mp k).isSome])) W) : wpList P ops.1 Q (o :: rest.2) a W := by
  refine wpList_plain hg fun K' hK' => ?_
  unfold Oper.wp
  simp [execOp, hop, hm, hx, h.look ht hk hz k, Result.andThen]
  exact hK' _ _ hK
theorem wpList_mput {ops : Array Oper} {rest : List Oper} {o : Oper} {a : Act} {Q : Exit → Act → World → Prop} (hg : o.guard = none) (m x v : Operand) (hop : o.op = Op.mapUpdate t m x v)
    (h : MapAt W b mp) (ht : P.underlying t = some (.map kt et)) (hk : P.underlying kt = some (.int .i64)) (hm : a.eval m = .map (some b)) (k : Int) (hx : a.eval x = .int .i64 k) (u : Int) (hv : a.eval v = .int .i64 u)
    (hK : ∀ W', MapAt W' b (mput mp k u) → W.grownBy W' (some b) → wpList P ops Q rest (a.put o.dst undef) W') : wpList P ops Q (o :: rest) a W := by
  refine wpList_plain hg fun K' hK' => ?_
  obtain ⟨W', hrun, r1, r2⟩ := h.put ht hk k u
  unfold Oper.wp
  simp [execOp, hop, hm, hx, hv, hrun, Result.andThen]
  exact hK' _ _ (hK W' r1 r2)
theorem wpList_mdel {ops : Array Oper} {rest : List Oper} {o : Oper} {a : Act} {Q : Exit → Act → World → Prop} (hg : o.guard = none) (m x : Operand) (hop : o.op = Op.call { callee := .builtin .delete, args := #[m, x], argTypes := #[t, kt] })
    (h : MapAt W b mp) (ht : P.underlying t = some (.map kt et)) (hk : P.underlying kt = some (.int .i64)) (hm : a.eval m = .map (some b)) (k : Int) (hx : a.eval x = .int .i64 k)
    (hK : ∀ W', MapAt W' b (mdel mp k) → W.grownBy W' (some b) → wpList P ops Q rest (a.put o.dst (.tuple #[])) W') : wpList P ops Q (o :: rest) a W := by
  refine wpList_plain hg fun K' hK' => ?_
  obtain ⟨W', hrun, r1, r2⟩ := h.del (ty := o.type) ht hk k
  unfold Oper.wp
  simp [execOp, hop, hm, hx, resolve, Deferred.ofValue, invoke, builtin, hrun, Result.andThen]
  exact hK' _ _ (hK W' r1 r2)
theorem wpList_mclr {ops : Array Oper} {rest : List Oper} {o : Oper} {a : Act} {Q : Exit → Act → World → Prop} (hg : o.guard = none) (m : Operand) (hop : o.op = Op.call { callee := .builtin .clear, args := #[m], argTypes := #[t] })
    (h : MapAt W b mp) (ht : P.underlying t = some (.map kt et)) (hm : a.eval m = .map (some b))
    (hK : ∀ W', MapAt W' b (fun _ => none) → W.grownBy W' (some b) → wpList P ops Q rest (a.put o.dst (.tuple #[])) W') : wpList P ops Q (o :: rest) a W := by
  refine wpList_plain hg fun K' hK' => ?_
  obtain ⟨W', hrun, r1, r2⟩ := h.clr (ty := o.type) ht
  unfold Oper.wp
  simp [execOp, hop, hm, resolve, Deferred.ofValue, invoke, builtin, hrun, Result.andThen]
  exact hK' _ _ (hK W' r1 r2)
end
end Go.Proofs.Ytpkhdipedmihgaa.P
