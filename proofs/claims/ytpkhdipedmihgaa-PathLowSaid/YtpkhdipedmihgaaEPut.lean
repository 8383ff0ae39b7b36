/- heap.New, Put, Least, Drop, Take. -/
import Derived.Test.YtpkhdipedmihgaaEDown
namespace Go.Proofs.Ytpkhdipedmihgaa.P
open Go.RowKit Go.Proofs.YtpkhdipedmihgaaW.PrintWords Go.Proofs.YtpkhdipedmihgaaW.PrintLast Go.Proofs.YtpkhdipedmihgaaW.PrintMore
set_option linter.unusedVariables false
set_option linter.unusedSimpArgs false

/-- A heap: the struct, the row that it owns, the map. -/
structure HP (W : World) (base g b : Nat) (v : Value) (row : List Itm) (mp : Int → Option Int) : Prop where
  hg : W.heap[g]? = some (.cells #[v, .map (some b)] 70 (0, 0))
  hv : W.ownsRow base 52 2 v row.length (flatI row)
  hb : MapAt W b mp
  bg : base ≤ g
  bb : base ≤ b
theorem HP.step {W W' : World} {base g b : Nat} {v : Value} {row : List Itm} {mp : Int → Option Int} (h : HP W base g b v row mp) (hb : Below W.heap.size W W') : HP W' base g b v row mp := by
  refine ⟨(hb.block _ (blk_lt h.hg)).trans h.hg, ?_, h.hb.move (hb.block _ h.hb.lt), h.bg, h.bb⟩
  exact own_move h.hv (fun k hk => hb.block k (by obtain ⟨c, hc⟩ := own_typed h.hv k hk; exact blk_lt hc))
theorem HP.drew {W : World} {base g b : Nat} {v : Value} {row : List Itm} {mp : Int → Option Int} (h : HP W base g b v row mp) : HP W.drew base g b v row mp := h.step (below_drew (Below.refl _ _))
theorem HP.raw {W : World} {base g b : Nat} {v : Value} {row : List Itm} {mp : Int → Option Int} (h : HP W base g b v row mp) (hn : 0 < row.length) :
    ∃ r cap rest, v = .slice (some ⟨r, 0, none⟩) row.length cap ∧ base ≤ r ∧ cap ≤ maxLen ∧ 2 * row.length + rest.length = cap * 2 ∧ HRaw W g r b cap row rest mp := by
  obtain ⟨h1, ⟨_, h2⟩ | ⟨r, cap, cur, rfl, hr, hh, hc, hm, hs, ht⟩⟩ := h.hv
  · omega
  · refine ⟨r, cap, cur.toList.drop (row.length * 2), rfl, hr, hm, ?_, ⟨h.hg, ?_, h.hb⟩⟩
    · rw [List.length_drop]; simp; omega
    · rw [← ht, List.take_append_drop]; exact hh
theorem HRaw.hp {W : World} {base g r b cap : Nat} {row : List Itm} {rest : List Value} {mp : Int → Option Int} (h : HRaw W g r b cap row rest mp) (hr : base ≤ r) (hg : base ≤ g) (hb : base ≤ b) (hc : cap ≤ maxLen) (hl : 2 * row.length + rest.length = cap * 2) :
    HP W base g b (.slice (some ⟨r, 0, none⟩) row.length cap) row mp := by
  refine ⟨h.hg, ⟨by rw [flatI_len]; omega, .inr ⟨r, cap, _, rfl, hr, h.hr, by omega, hc, ?_, ?_⟩⟩, h.hb, hg, hb⟩
  · simp [flatI_len]; omega
  · rw [show row.length * 2 = (flatI row).length by rw [flatI_len]; omega]; simp

set_option maxRecDepth 100000 in
theorem new_calls (w : World) : Calls Try.prog 28 #[] w fun e w' => ∃ g b, e = .returned (.pointer (some ⟨g, 0, none⟩)) ∧ HP w' w.heap.size g b (.slice none 0 0) [] (fun _ => none) ∧ Below w.heap.size w w' := by
  have hu := Try.underlying70
  have hmk : ∀ (t : TypeId) (w : World), (Instr.makeMap t none).run Try.prog w = .ok (.map (some w.heap.size)) (w.alloc (.map #[] 0)) := fun _ _ => rfl
  go_enter Try.func28, Try.ntmps28
  go_wp2
  go_ret
  refine ⟨w.heap.size + 1, w.heap.size, ?_, ⟨?_, ⟨rfl, .inl ⟨rfl, rfl⟩⟩, ?_, by omega, by omega⟩, ?_⟩
  · rfl
  · simpa using heap_alloc_new (w.alloc (.map #[] 0)) (.cells #[.slice none 0 0, .map (some w.heap.size)] 70)
  · exact (MapAt.new w).move (Below.heap_alloc _ _ _ (by simp))
  · exact below_alloc (below_alloc (Below.refl _ _) _) _

theorem upF_len : ∀ (i : Nat) (row : List Itm) (mp : Int → Option Int) (x : Itm), (upF row mp i x).1.length = row.length ∧ (upF row mp i x).2.2 ≤ i := by
  intro i
  induction i using Nat.strongRecOn with
  | ind i ih =>
    intro row mp x
    by_cases h : 0 < i ∧ lessI x (row.getD ((i - 1) / 2) zI) = true
    · rw [upF_yes h.1 h.2]
      have := ih ((i - 1) / 2) (by omega) (row.set i (row.getD ((i - 1) / 2) zI)) (mput mp (row.getD ((i - 1) / 2) zI).1 i) x
      rw [List.length_set] at this
      exact ⟨this.1, by omega⟩
    · rw [upF, dif_neg h]; simp
theorem downF_len : ∀ (n i : Nat) (row : List Itm) (mp : Int → Option Int) (x : Itm), row.length - i ≤ n → (downF row mp i x).1.length = row.length := by
  intro n
  induction n with
  | zero =>
    intro i row mp x h
    rw [downF_end (by omega)]; simp
  | succ n ih =>
    intro i row mp x h
    by_cases c : 2 * i + 1 < row.length ∧ lessI (row.getD (kidI row i) zI) x = true
    · rw [downF_yes c.1 rfl rfl c.2, ih _ _ _ _ (by have := kidI_lt c.1; simp only [List.length_set]; omega)]; simp
    · rw [downF, dif_neg c]; simp

/-- up, then down, from a place -/
def fixF (row : List Itm) (mp : Int → Option Int) (i : Nat) (x : Itm) : List Itm × (Int → Option Int) :=
  downF (upF row mp i x).1 (upF row mp i x).2.1 (upF row mp i x).2.2 ((upF row mp i x).1.getD (upF row mp i x).2.2 zI)
/-- a key laid, of a rank -/
def putF (row : List Itm) (mp : Int → Option Int) (key rank : Int) : List Itm × (Int → Option Int) :=
  match mp key with
  | some a => fixF (row.set a.toNat (key, rank)) mp a.toNat (key, rank)
  | none => fixF (row ++ [(key, rank)]) mp row.length (key, rank)
theorem fixF_len (row : List Itm) (mp : Int → Option Int) (i : Nat) (x : Itm) : (fixF row mp i x).1.length = row.length := by
  unfold fixF
  rw [downF_len _ _ _ _ _ (Nat.le_refl _), (upF_len _ _ _ _).1]

theorem HRaw.putCell {W : World} {g r b cap : Nat} {row : List Itm} {rest : List Value} {mp : Int → Option Int} (h : HRaw W g r b cap row rest mp) : W.heap[g]? = some (.cells #[.slice (some ⟨r, 0, none⟩) row.length cap, .map (some b)] 70 (0, 0)) := h.hg

theorem put_raw {W : World} {g b r cap : Nat} {v : Value} {row : List Itm} {cur : Array Value} {mp : Int → Option Int} (hg : W.heap[g]? = some (.cells #[v, .map (some b)] 70 (0, 0))) (hh : W.heap[r]? = some (.cells cur 52 (0, 0))) (ht : cur.toList.take ((row.length + 1) * 2) = flatI row ++ [.int .i64 0, .int .i64 0])
    (hm : MapAt W b mp) : HRaw (W.setCell ⟨g, 0, none⟩ (.slice (some ⟨r, 0, none⟩) (row.length + 1) cap)) g r b cap (row ++ [zI]) (cur.toList.drop ((row.length + 1) * 2)) mp := by
  have hgr : g ≠ r := blk_ne hg hh (by decide)
  have hgb : b ≠ g := by rintro rfl; obtain ⟨es, c, h1, _⟩ := hm; rw [hg] at h1; cases h1
  refine ⟨?_, ?_, hm.move (Below.heap_setCell _ _ _ _ hgb)⟩
  · rw [List.length_append, List.length_singleton]
    exact blk_put hg 0 _ rfl
  · rw [flatI_app, show flatI [zI] = [.int .i64 0, .int .i64 0] from rfl, ← ht, List.take_append_drop]
    exact blk_far hh (Ne.symm hgr) _
theorem put_grow {w W : World} {base g b c : Nat} {A : Option Addr} {v1 : Value} {row : List Itm} {mp : Int → Option Int} (H : HP w base g b (.slice A row.length c) row mp) (hown : W.ownsRow base 52 2 v1 (row.length + 1) (flatI row ++ [.int .i64 0, .int .i64 0]))
    (hgr : w.grownBy W (Value.slice A row.length c).ownBlock) (hg : some g ≠ (Value.slice A row.length c).ownBlock) (hb : some b ≠ (Value.slice A row.length c).ownBlock)
    (hat : v1.ownBlock = (Value.slice A row.length c).ownBlock ∨ ∃ b, v1.ownBlock = some b ∧ w.heap.size ≤ b) :
    ∃ r cap rest, v1 = .slice (some ⟨r, 0, none⟩) (row.length + 1) cap ∧ base ≤ r ∧ cap ≤ maxLen ∧ 2 * (row.length + 1) + rest.length = cap * 2 ∧ W.heap[g]? = some (.cells #[.slice A row.length c, .map (some b)] 70 (0, 0)) ∧ HRaw (W.setCell ⟨g, 0, none⟩ (.slice (some ⟨r, 0, none⟩) (row.length + 1) cap)) g r b cap (row ++ [zI]) rest mp ∧ (some r = (Value.slice A row.length c).ownBlock ∨ w.heap.size ≤ r) := by
  obtain ⟨-, ⟨_, hz⟩ | ⟨r, cap, cur, rfl, hr, hh, hcc, hcm, hcs, htk⟩⟩ := hown
  · omega
  · have hg1 := (hgr.block g (blk_lt H.hg) hg).trans H.hg
    refine ⟨r, cap, _, rfl, hr, hcm, ?_, hg1, put_raw hg1 hh htk (H.hb.move (hgr.block b H.hb.lt hb)), ?_⟩
    · rw [List.length_drop]; simp; omega
    · rcases hat with h | ⟨q, h, hq⟩
      · exact .inl h
      · right; cases h; exact hq

set_option maxHeartbeats 4000000 in
set_option maxRecDepth 100000 in
theorem put_calls (base g b : Nat) (v : Value) (row : List Itm) (mp : Int → Option Int) (key rank : Int) (w : World) (h : HP w base g b v row mp) (hk0 : 0 ≤ key) (hk1 : key < 300) (hc : ∀ a, mp key = some a → 0 ≤ a ∧ a < row.length) (hl : row.length ≤ 1000) (hbase : base ≤ w.heap.size) :
    Calls Try.prog 29 #[.pointer (some ⟨g, 0, none⟩), .int .i64 key, .int .i64 rank] w fun e w' => ∃ v', e = .returned (.bool true) ∧ HP w' base g b v' (putF row mp key rank).1 (putF row mp key rank).2 ∧ Below base w w' ∧ Mod w w' (fun k => k = g ∨ some k = v.ownBlock ∨ k = b) ∧ (v'.ownBlock = v.ownBlock ∨ ∃ q, v'.ownBlock = some q ∧ w.heap.size ≤ q) := by
  have hu := Try.underlying70
  have hu2 := Try.underlying52
  have H := Aside0.mk h
  have HPl := Aside0.mk (place_calls g b v mp key w hk0 hk1 h.hg h.hb)
  have q1 : decide (key < 0) = false := by simp; omega
  have q2 : decide ((300 : Int) ≤ key) = false := by simp; omega
  obtain ⟨o, ho⟩ : ∃ o, mp key = o := ⟨_, rfl⟩
  have HBS := Aside0.mk hbase
  rw [ho] at hc HPl
  have HL := Aside0.mk hl
  cases o with
  | some a =>
    obtain ⟨ha0, ha1⟩ := hc a rfl
    obtain ⟨i, rfl⟩ := Int.eq_ofNat_of_zero_le ha0
    have hi : i < row.length := by omega
    have hres : putF row mp key rank = fixF (row.set i (key, rank)) mp i (key, rank) := by unfold putF; rw [ho]; rfl
    rw [hres]
    obtain ⟨r, cap, rest, rfl, hr, hcm, hcl, hraw⟩ := h.raw (by omega)
    have HW := Aside0.mk hraw
    have HCM := Aside0.mk hcm
    have HCL := Aside0.mk hcl
    have HRB := Aside0.mk hr
    have hk0' : w.cell? ⟨g, 0, none⟩ = some (.slice (some ⟨r, 0, none⟩) row.length cap) := (blk_cell hraw.hg 0).trans rfl
    obtain ⟨hp0, hp1, hf0, hf1⟩ := hraw.at zI i hi
    have q3 : decide ((i : Int) < 0) = false := by simp
    have q4 : decide ((0 : Int) ≤ i) = true := by simp
    have q5 : decide ((i : Int) < row.length) = true := by simpa using hi
    clear h hc ho hres hraw ha0 ha1 hcm hcl hr hbase hl
    go_enter Try.func29, Try.ntmps29
    go_wp2_with fail
    refine HPl.out.mono ?_
    rintro e w1 ⟨rfl, rfl⟩
    simp only [Option.getD]
    go_wp2_with fail
    have HW2 := Aside0.mk (HW.out.set i hi (key, rank))
    have HRS := Aside0.mk (show (some r = (Value.slice (some ⟨r, 0, none⟩) row.length cap).ownBlock) ∨ w1.heap.size ≤ r from .inl rfl)
    have HB2 := Aside0.mk (((Mod.refl w1 (fun k => k = g ∨ some k = (Value.slice (some ⟨r, 0, none⟩) row.length cap).ownBlock ∨ k = b)).setCell (p := ⟨r, i * 2, none⟩) (.inl (.inr (.inl rfl))) (.int .i64 key)).setCell (p := ⟨r, i * 2 + 1, none⟩) (.inl (.inr (.inl rfl))) (.int .i64 rank))
    clear hp0 hp1 hf0 hf1
    have hi2 : i < (row.set i (key, rank)).length := by simp; try omega
    have hgx : (row.set i (key, rank)).getD i zI = (key, rank) := by rw [List.getD_eq_getElem?_getD]; first | (rw [List.getElem?_set_self hi]; rfl) | simp
    have HUP := Aside0.mk (up_calls g r b cap (row.set i (key, rank)) rest mp i _ HW2.out hi2 (by simp; have := HL.out; omega))
    rw [hgx] at HUP
    have hul := upF_len i (row.set i (key, rank)) mp (key, rank)
    obtain ⟨ur, hur⟩ : ∃ ur, upF (row.set i (key, rank)) mp i (key, rank) = ur := ⟨_, rfl⟩
    rw [hur] at HUP hul
    have HF := Aside0.mk (show fixF (row.set i (key, rank)) mp i (key, rank) = downF ur.1 ur.2.1 ur.2.2 (ur.1.getD ur.2.2 zI) by unfold fixF; rw [hur])
    clear hur hgx
    refine HUP.out.mono ?_
    rintro e w3 ⟨rfl, hh3, hm3⟩
    have hu1 : ur.2.2 < ur.1.length := by rw [hul.1]; exact Nat.lt_of_le_of_lt hul.2 hi2
    have HDN := Aside0.mk (down_calls g r b cap ur.1 rest ur.2.1 ur.2.2 _ hh3 hu1 (by rw [hul.1]; simp; have := HL.out; omega))
    have HM3 := Aside0.mk hm3
    have HU := Aside0.mk hul
    clear hh3 hm3 HUP hul
    go_wp2_with fail
    refine HDN.out.mono ?_
    rintro e w4 ⟨rfl, hh4, hm4⟩
    have HH4 := Aside0.mk hh4
    have HM4 := Aside0.mk hm4
    clear hh4 hm4 HDN
    go_wp2_with fail
    go_ret
    refine ⟨.slice (some ⟨r, 0, none⟩) (downF ur.1 ur.2.1 ur.2.2 (ur.1.getD ur.2.2 zI)).1.length cap, rfl, ?_, ?_⟩
    · rw [HF.out]
      refine HRaw.hp HH4.out HRB.out H.out.bg H.out.bb HCM.out ?_
      rw [downF_len _ _ _ _ _ (Nat.le_refl _), HU.out.1]
      simpa using HCL.out
    · have hmm := (HB2.out.then_ HM3.out (fun k h => by rcases h with rfl | rfl; rcases HRS.out with h | h; exact .inl (.inr (.inl h)); exact .inr h; exact .inl (.inr (.inr rfl)))).then_ HM4.out (fun k h => by rcases h with rfl | rfl; rcases HRS.out with h | h; exact .inl (.inr (.inl h)); exact .inr h; exact .inl (.inr (.inr rfl)))
      exact ⟨hmm.toBelow HBS.out (fun k hk => by rcases hk with rfl | h | rfl; exact H.out.bg; exact own_base H.out.hv k h.symm; exact H.out.bb), hmm, HRS.out.elim (fun h => .inl h) (fun h => .inr ⟨r, rfl, h⟩)⟩
  | none =>
    have hres : putF row mp key rank = fixF (row ++ [(key, rank)]) mp row.length (key, rank) := by unfold putF; rw [ho]
    rw [hres]
    have hk0' : w.cell? ⟨g, 0, none⟩ = some v := (blk_cell h.hg 0).trans rfl
    have hf0 := blk_frozen h.hg 0
    have q3 : decide ((-1 : Int) < 0) = true := rfl
    have HRS := Aside0.mk hres
    have HI := Aside0.mk (show row.length < (row ++ [zI]).length by simp)
    obtain ⟨A, c, rfl⟩ : ∃ A c, v = .slice A row.length c := by rcases h.hv.2 with ⟨h1, h2⟩ | ⟨r, cap, cur, h1, _⟩; exact ⟨none, 0, by rw [h1, h2]⟩; exact ⟨_, _, h1⟩
    have hi : row.length < row.length + 1 := by omega
    have hng : some g ≠ (Value.slice A row.length c).ownBlock := fun e => by obtain ⟨_, hcc⟩ := own_typed h.hv g e.symm; rw [h.hg] at hcc; cases hcc
    have hnb : some b ≠ (Value.slice A row.length c).ownBlock := fun e => by obtain ⟨_, hcc⟩ := own_typed h.hv b e.symm; obtain ⟨es, cl, h1, _⟩ := h.hb; rw [h1] at hcc; cases hcc
    have HN := Aside0.mk (And.intro hng hnb)
    clear h hc ho hres hbase hl hng hnb
    go_enter Try.func29, Try.ntmps29
    go_wp2_with fail
    refine HPl.out.mono ?_
    rintro e w1 ⟨rfl, rfl⟩
    simp only [Option.getD]
    go_wp2_with ((with_reducible refine gate_builtin (b := .append) (xs := #[.tmp 28, .tmp 30]) rfl ?_); at_builtin; refine print_append_cells (w0 := w1) base rfl (.tmp 28) (.tmp 30) 68 52 (.agg #[.int .i64 0, .int .i64 0]) 2 16 rfl Try.underlying68 (by kernel_rfl) rfl (by decide) (by decide) _ row.length (flatI row) [.int .i64 0, .int .i64 0] rfl rfl rfl (by simp [Value.oneCell']) H.out.hv (Below.refl _ _) HBS.out (by have := HL.out; omega) ?_; intro v1 w2 hown hbl hgr hat; obtain ⟨r, cap, rest, hv1, hr, hcm, hcl, hg1, hraw, hrs⟩ := put_grow H.out hown hgr HN.out.1 HN.out.2 hat; subst hv1; have HW := Aside0.mk hraw; have HB1 := Aside0.mk (Mod.of_grown (S := fun k => k = g ∨ some k = (Value.slice A row.length c).ownBlock ∨ k = b) hgr (Mod.refl w1 _) (fun k e => .inl (.inr (.inl e.symm)))); have HRS := Aside0.mk hrs; have HCM := Aside0.mk hcm; have HRB := Aside0.mk hr; have HCL := Aside0.mk hcl; have hf0 := blk_frozen hg1 0; have hk9 : w2.cell? ⟨g, 0, none⟩ = some (.slice A row.length c) := (blk_cell hg1 0).trans rfl; obtain ⟨hq0, hq1, hq2, hq3⟩ := hraw.at zI row.length HI.out; clear hraw hbl hcm hr hcl hg1 hgr hown hat hrs)
    have HW2 := Aside0.mk (HW.out.set row.length HI.out (key, rank))
    rw [show (row ++ [zI]).set row.length (key, rank) = row ++ [(key, rank)] by simp] at HW2
    have hrs : (k_ : Nat) → k_ = r → (k_ = g ∨ some k_ = (Value.slice A row.length c).ownBlock ∨ k_ = b) ∨ w1.heap.size ≤ k_ := fun k_ e => by subst e; rcases HRS.out with h | h; exact .inl (.inr (.inl h)); exact .inr h
    have HB2 := Aside0.mk (((HB1.out.setCell (p := ⟨g, 0, none⟩) (.inl (.inl rfl)) (.slice (some ⟨r, 0, none⟩) (row.length + 1) cap)).setCell (p := ⟨r, row.length * 2, none⟩) (hrs r rfl) (.int .i64 key)).setCell (p := ⟨r, row.length * 2 + 1, none⟩) (hrs r rfl) (.int .i64 rank))
    clear hrs
    clear hq0 hq1 hq2 hq3 hf0 hk9 hk0'
    have hi2 : row.length < (row ++ [(key, rank)]).length := by simp; try omega
    have hgx : (row ++ [(key, rank)]).getD row.length zI = (key, rank) := by rw [List.getD_eq_getElem?_getD]; first | (rw [List.getElem?_set_self hi]; rfl) | simp
    have HUP := Aside0.mk (up_calls g r b cap (row ++ [(key, rank)]) rest mp row.length _ HW2.out hi2 (by simp; have := HL.out; omega))
    rw [hgx] at HUP
    have hul := upF_len row.length (row ++ [(key, rank)]) mp (key, rank)
    obtain ⟨ur, hur⟩ : ∃ ur, upF (row ++ [(key, rank)]) mp row.length (key, rank) = ur := ⟨_, rfl⟩
    rw [hur] at HUP hul
    have HF := Aside0.mk (show fixF (row ++ [(key, rank)]) mp row.length (key, rank) = downF ur.1 ur.2.1 ur.2.2 (ur.1.getD ur.2.2 zI) by unfold fixF; rw [hur])
    clear hur hgx
    refine HUP.out.mono ?_
    rintro e w3 ⟨rfl, hh3, hm3⟩
    have hu1 : ur.2.2 < ur.1.length := by rw [hul.1]; exact Nat.lt_of_le_of_lt hul.2 hi2
    have HDN := Aside0.mk (down_calls g r b cap ur.1 rest ur.2.1 ur.2.2 _ hh3 hu1 (by rw [hul.1]; simp; have := HL.out; omega))
    have HM3 := Aside0.mk hm3
    have HU := Aside0.mk hul
    clear hh3 hm3 HUP hul
    go_wp2_with fail
    refine HDN.out.mono ?_
    rintro e w4 ⟨rfl, hh4, hm4⟩
    have HH4 := Aside0.mk hh4
    have HM4 := Aside0.mk hm4
    clear hh4 hm4 HDN
    go_wp2_with fail
    go_ret
    refine ⟨.slice (some ⟨r, 0, none⟩) (downF ur.1 ur.2.1 ur.2.2 (ur.1.getD ur.2.2 zI)).1.length cap, rfl, ?_, ?_⟩
    · rw [HF.out]
      refine HRaw.hp HH4.out HRB.out H.out.bg H.out.bb HCM.out ?_
      rw [downF_len _ _ _ _ _ (Nat.le_refl _), HU.out.1]
      simpa using HCL.out
    · have hmm := (HB2.out.then_ HM3.out (fun k h => by rcases h with rfl | rfl; rcases HRS.out with h | h; exact .inl (.inr (.inl h)); exact .inr h; exact .inl (.inr (.inr rfl)))).then_ HM4.out (fun k h => by rcases h with rfl | rfl; rcases HRS.out with h | h; exact .inl (.inr (.inl h)); exact .inr h; exact .inl (.inr (.inr rfl)))
      exact ⟨hmm.toBelow HBS.out (fun k hk => by rcases hk with rfl | h | rfl; exact H.out.bg; exact own_base H.out.hv k h.symm; exact H.out.bb), hmm, HRS.out.elim (fun h => .inl h) (fun h => .inr ⟨r, rfl, h⟩)⟩
end Go.Proofs.Ytpkhdipedmihgaa.P
