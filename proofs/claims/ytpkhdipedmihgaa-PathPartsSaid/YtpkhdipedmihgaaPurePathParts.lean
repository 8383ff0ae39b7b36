/- PathParts, the plain law; ahead of it what path.Way tells, plain: rounds over pairs are rounds over one number each; the way told is a chain of tight arcs. -/
import Derived.Test.YtpkhdipedmihgaaPx15
import Derived.Test.YtpkhdipedmihgaaYLaw
import Derived.Test.YtpkhdipedmihgaaYWay
namespace Go.Proofs.Ytpkhdipedmihgaa.Pure
open Go.RowKit Go.Proofs.Ytpkhdipedmihgaa.P Go.Proofs.YtpkhdipedmihgaaW.PrintWords Go.Proofs.YtpkhdipedmihgaaW.PrintLast
set_option linter.unusedVariables false
set_option linter.unusedSimpArgs false

def enc (x : Itm) : Int := if isFar x = true then BFT.Far else x.1 * 1000000 + x.2
def revA (a : S30) : BFT.Arc := ⟨a.f1, a.f0, a.f2 * 1000000 + 1⟩
def OkI (B Y : Int) (x : Itm) : Prop := x = farI ∨ (0 ≤ x.1 ∧ x.1 ≤ B ∧ 0 ≤ x.2 ∧ x.2 ≤ Y)
def OkW (n : Nat) (a : S30) : Prop := 0 ≤ a.f0 ∧ a.f0 < n ∧ 0 ≤ a.f1 ∧ a.f1 < n ∧ 0 ≤ a.f2 ∧ a.f2 ≤ 1048576

theorem isFar_iff (x : Itm) : isFar x = true ↔ x = farI := by
  obtain ⟨a, b⟩ := x
  simp [isFar, farI]
theorem enc_far : enc farI = BFT.Far := rfl
theorem enc_near {x : Itm} (h : x ≠ farI) : enc x = x.1 * 1000000 + x.2 := by
  unfold enc; rw [if_neg (fun k => h ((isFar_iff x).1 k))]
theorem OkI.mono {B Y B' Y' : Int} {x : Itm} (h : OkI B Y x) (hB : B ≤ B') (hY : Y ≤ Y') : OkI B' Y' x := by
  rcases h with h | ⟨a, b, c, d⟩
  · exact .inl h
  · exact .inr ⟨a, by omega, c, by omega⟩
theorem OkI.near {B Y : Int} {x : Itm} (h : OkI B Y x) (hx : x ≠ farI) : 0 ≤ x.1 ∧ x.1 ≤ B ∧ 0 ≤ x.2 ∧ x.2 ≤ Y := by
  rcases h with h | h
  · exact absurd h hx
  · exact h
theorem OkI.notfar {B Y : Int} {x : Itm} (h : 0 ≤ x.1 ∧ x.1 ≤ B ∧ 0 ≤ x.2 ∧ x.2 ≤ Y) (hB : B < 1152921504606846976) : x ≠ farI := by
  intro e; rw [e] at h; simp only [farI] at h; omega
theorem rd_enc (out : List Itm) (i : Int) : BFT.rd (out.map enc) i = enc (out.getD i.toNat zI) := by
  unfold BFT.rd
  simp only [List.getD_eq_getElem?_getD, List.getElem?_map]
  cases out[i.toNat]? <;> rfl
theorem getD_ok {out : List Itm} {B Y : Int} (h : ∀ x ∈ out, OkI B Y x) {i : Int} (i0 : 0 ≤ i) (i1 : i < out.length) : OkI B Y (out.getD i.toNat zI) := by
  have h2 : i.toNat < out.length := by omega
  have : out.getD i.toNat zI = out[i.toNat] := by simp [List.getD_eq_getElem?_getD, h2]
  rw [this]; exact h _ (List.getElem_mem h2)

theorem bkS_step (n : Nat) (out : List Itm) (a : S30) (B Y : Int) (hn : out.length = n) (ha : OkW n a) (h : ∀ x ∈ out, OkI B Y x) (hB0 : 0 ≤ B) (hB : B ≤ 100000000000) (hY0 : 0 ≤ Y) (hY : Y < 900000) :
    (bkS out a).1.map enc = BFT.rx (out.map enc) (revA a) ∧ (∀ x ∈ (bkS out a).1, OkI (B + 1048576) (Y + 1) x) ∧
      ((bkS out a).2 = false → (bkS out a).1 = out) ∧ ((bkS out a).2 = true → BFT.rd ((bkS out a).1.map enc) a.f0 < BFT.rd (out.map enc) a.f0) := by
  obtain ⟨a1, a2, a3, a4, a5, a6⟩ := ha
  have hF : BFT.Far = 1152921504606846976 := rfl
  have hu := getD_ok h (i := a.f1) a3 (by omega)
  have hv := getD_ok h (i := a.f0) a1 (by omega)
  have hmono : ∀ x ∈ out, OkI (B + 1048576) (Y + 1) x := fun x hx => (h x hx).mono (by omega) (by omega)
  unfold bkS BFT.rx
  simp only [revA, rd_enc]
  by_cases c : isFar (out.getD a.f1.toNat zI) = true
  · rw [if_pos c, if_neg (by intro k; exact k.1 (by rw [(isFar_iff _).1 c]; rfl))]
    exact ⟨rfl, hmono, fun _ => rfl, (fun k => by cases k)⟩
  · have cn : out.getD a.f1.toNat zI ≠ farI := fun k => c ((isFar_iff _).2 k)
    have eu := enc_near cn
    obtain ⟨u1, u2, u3, u4⟩ := hu.near cn
    rw [if_neg c]
    generalize hU : out.getD a.f1.toNat zI = U at *
    generalize hV : out.getD a.f0.toNat zI = V at *
    have eX : bkX U a = (U.1 + a.f2, U.2 + 1) := by unfold bkX; rw [w64 (by omega) (by omega), w64 (by omega) (by omega)]
    have eXf : (U.1 + a.f2, U.2 + 1) ≠ farI := by intro k; simp only [farI, Prod.mk.injEq] at k; omega
    have eXe : enc (U.1 + a.f2, U.2 + 1) = enc U + (a.f2 * 1000000 + 1) := by rw [enc_near eXf, eu]; simp only; omega
    have key : nearer (U.1 + a.f2, U.2 + 1) V = true ↔ enc U + (a.f2 * 1000000 + 1) < enc V := by
      unfold nearer
      rw [decide_eq_true_iff]
      simp only
      rcases hv with k | ⟨v1, v2, v3, v4⟩
      · rw [k, enc_far, eu]; simp only [farI]; omega
      · have := OkI.notfar ⟨v1, v2, v3, v4⟩ (by omega)
        rw [enc_near this, eu]; omega
    rw [eX]
    by_cases d : nearer (U.1 + a.f2, U.2 + 1) V = true
    · rw [if_pos d, if_pos ⟨by rw [eu]; omega, key.1 d⟩]
      refine ⟨by rw [List.map_set, eXe], fun x hx => ?_, (fun k => by cases k), fun _ => ?_⟩
      · rcases List.mem_or_eq_of_mem_set hx with k | k
        · exact hmono x k
        · rw [k]; exact .inr ⟨by show 0 ≤ U.1 + a.f2; omega, by show U.1 + a.f2 ≤ _; omega, by show 0 ≤ U.2 + 1; omega, by show U.2 + 1 ≤ _; omega⟩
      · rw [← rd_enc, List.map_set, BFT.rd_set _ _ _ _ a1 (by rw [List.length_map]; omega) a1, if_pos rfl, eXe]
        exact key.1 d
    · rw [if_neg d, if_neg (fun k => d (key.2 k.2))]
      exact ⟨rfl, hmono, fun _ => rfl, (fun k => by cases k)⟩

theorem bkP_run (n : Nat) : ∀ (l : List S30) (out : List Itm) (g : Bool) (B Y : Int), out.length = n → (∀ a ∈ l, OkW n a) → (∀ x ∈ out, OkI B Y x) → 0 ≤ B → 0 ≤ Y → B + 1048576 * l.length ≤ 100000000000 → Y + l.length < 900000 →
    (bkP l out g).1.map enc = (l.map revA).foldl BFT.rx (out.map enc) ∧ (bkP l out g).1.length = n ∧ (∀ x ∈ (bkP l out g).1, OkI (B + 1048576 * l.length) (Y + l.length) x) ∧
      ((bkP l out g).2 = false → g = false ∧ (bkP l out g).1 = out) ∧
      ((bkP l out g).2 = true → g = true ∨ ∃ v : Int, 0 ≤ v ∧ v < n ∧ BFT.rd ((bkP l out g).1.map enc) v < BFT.rd (out.map enc) v) := by
  intro l
  induction l with
  | nil =>
    intro out g B Y hn hl h h0 h1 h2 h3
    refine ⟨rfl, hn, fun x hx => (h x hx).mono (by simp) (by simp), fun k => ⟨k, rfl⟩, fun k => .inl k⟩
  | cons a l ih =>
    intro out g B Y hn hl h h0 h1 h2 h3
    simp only [List.length_cons, Int.natCast_add, Int.natCast_one] at h2 h3
    have ha := hl a (by simp)
    obtain ⟨s1, s2, s3, s4⟩ := bkS_step n out a B Y hn ha h h0 (by omega) h1 (by omega)
    obtain ⟨p1, p2, p3, p4, p5⟩ := ih (bkS out a).1 (g || (bkS out a).2) (B + 1048576) (Y + 1) (by rw [bkS_len, hn]) (fun b hb => hl b (by simp [hb])) s2 (by omega) (by omega) (by omega) (by omega)
    have hok : BFT.Okl n 1048576000001 (l.map revA) := fun x hx => by
      obtain ⟨b, hb, rfl⟩ := List.mem_map.1 hx
      obtain ⟨b1, b2, b3, b4, b5, b6⟩ := hl b (by simp [hb])
      exact ⟨b3, b4, b1, b2, by show _ ≤ b.f2 * 1000000 + 1; omega, by show b.f2 * 1000000 + 1 ≤ _; omega⟩
    have hle := BFT.round_le (l.map revA) n _ hok ((bkS out a).1.map enc) (by rw [List.length_map, bkS_len, hn])
    unfold BFT.round at hle
    rw [← p1] at hle
    refine ⟨?_, p2, ?_, ?_, ?_⟩
    · show (bkP l (bkS out a).1 (g || (bkS out a).2)).1.map enc = _
      rw [p1, s1]; rfl
    · intro x hx
      refine (p3 x hx).mono ?_ ?_ <;> (simp only [List.length_cons, Int.natCast_add, Int.natCast_one]; omega)
    · intro k
      obtain ⟨q1, q2⟩ := p4 k
      simp only [Bool.or_eq_false_iff] at q1
      exact ⟨q1.1, q2.trans (s3 q1.2)⟩
    · intro k
      rcases p5 k with q | ⟨v, v0, v1, v2⟩
      · simp only [Bool.or_eq_true] at q
        rcases q with q | q
        · exact .inl q
        · refine .inr ⟨a.f0, ha.1, ha.2.1, ?_⟩
          have := hle.2 a.f0 ha.1 (by rw [hle.1, List.length_map, bkS_len, hn]; exact ha.2.1)
          have := s4 q
          show BFT.rd ((bkP l (bkS out a).1 (g || (bkS out a).2)).1.map enc) a.f0 < _
          omega
      · refine .inr ⟨v, v0, v1, ?_⟩
        have h2 : BFT.rd ((bkS out a).1.map enc) v ≤ BFT.rd (out.map enc) v := by
          have := (BFT.rx_le (out.map enc) (revA a) n (by simpa using hn) ⟨ha.1, ha.2.1⟩).2 v v0 (by rw [BFT.rx_length, List.length_map, hn]; exact v1)
          rw [s1]; exact this
        show BFT.rd ((bkP l (bkS out a).1 (g || (bkS out a).2)).1.map enc) v < _
        omega

theorem okl_rev {n : Nat} {l : List S30} (hl : ∀ a ∈ l, OkW n a) : BFT.Okl n 1048576000001 (l.map revA) := fun x hx => by
  obtain ⟨b, hb, rfl⟩ := List.mem_map.1 hx
  obtain ⟨b1, b2, b3, b4, b5, b6⟩ := hl b hb
  exact ⟨b3, b4, b1, b2, by show _ ≤ b.f2 * 1000000 + 1; omega, by show b.f2 * 1000000 + 1 ≤ _; omega⟩
theorem hasMin_rev {n : Nat} {l : List S30} (hl : ∀ a ∈ l, OkW n a) (t : Int) : BFT.HasMin (BFT.EE (l.map revA)) t := by
  refine BFT.hasMin_of_nonneg (fun u v w e => ?_)
  obtain ⟨b, hb, eb⟩ := List.mem_map.1 e
  have := (hl b hb).2.2.2.2.1
  have e2 : w = b.f2 * 1000000 + 1 := by simp only [revA, BFT.Arc.mk.injEq] at eb; omega
  omega

theorem bkL_run (n : Nat) (t : Int) (l : List S30) (hn : n ≤ 14) (t0 : 0 ≤ t) (t1 : t < n) (hl : ∀ a ∈ l, OkW n a) (hlen : l.length ≤ 50) (j0 : Nat) (hj0 : j0 < n)
    (hx : BFT.round (l.map revA) (BFT.it (l.map revA) j0 (BFT.d0 n t)) = BFT.it (l.map revA) j0 (BFT.d0 n t)) :
    ∀ (m j k : Nat) (out : List Itm), j + m = j0 → out.length = n → (∀ x ∈ out, OkI (j * 52428800) (j * 50) x) → out.map enc = BFT.it (l.map revA) j (BFT.d0 n t) →
    ∃ dt, bkL l (k + m + 1) out = some dt ∧ dt.length = n ∧ (∀ x ∈ dt, OkI 786432000 750 x) ∧ dt.map enc = BFT.it (l.map revA) n (BFT.d0 n t) := by
  intro m
  induction m with
  | zero =>
    intro j k out hj hlo hok he
    have hj' : j = j0 := by omega
    subst hj'
    obtain ⟨p1, p2, p3, p4, p5⟩ := bkP_run n l out false _ _ hlo hl hok (by omega) (by omega) (by omega) (by omega)
    have e1 : (bkP l out false).1.map enc = BFT.it (l.map revA) j (BFT.d0 n t) := by rw [p1, he]; exact hx
    have hf : (bkP l out false).2 = false := by
      cases hb : (bkP l out false).2 with
      | false => rfl
      | true =>
        rcases p5 hb with q | ⟨v, v0, v1, v2⟩
        · cases q
        · rw [e1, he] at v2; omega
    refine ⟨(bkP l out false).1, ?_, p2, fun x hx => (p3 x hx).mono (by omega) (by omega), ?_⟩
    · show (if (bkP l out false).2 = true then _ else _) = _
      rw [if_neg (by rw [hf]; decide)]
    · rw [e1]
      have a1 := BFT.it_stays _ j _ hx (n - j)
      rw [show j + (n - j) = n by omega] at a1
      exact a1.symm
  | succ m ih =>
    intro j k out hj hlo hok he
    obtain ⟨p1, p2, p3, p4, p5⟩ := bkP_run n l out false _ _ hlo hl hok (by omega) (by omega) (by omega) (by omega)
    have e1 : (bkP l out false).1.map enc = BFT.it (l.map revA) (j + 1) (BFT.d0 n t) := by rw [p1, he, BFT.it_succ]; rfl
    by_cases hb : (bkP l out false).2 = true
    · obtain ⟨dt, q1, q2⟩ := ih (j + 1) k (bkP l out false).1 (by omega) p2 (fun x hx => (p3 x hx).mono (by omega) (by omega)) e1
      refine ⟨dt, ?_, q2⟩
      show (if (bkP l out false).2 = true then _ else _) = _
      rw [if_pos hb]
      exact q1
    · have hf : (bkP l out false).2 = false := by simpa using hb
      have e2 := (p4 hf).2
      have e3 : BFT.it (l.map revA) (j + 1) (BFT.d0 n t) = BFT.it (l.map revA) j (BFT.d0 n t) := by rw [← e1, e2, he]
      refine ⟨(bkP l out false).1, ?_, p2, fun x hx => (p3 x hx).mono (by omega) (by omega), ?_⟩
      · show (if (bkP l out false).2 = true then _ else _) = _
        rw [if_neg hb]
      · rw [e1, e3]
        rw [BFT.it_succ] at e3
        have a1 := BFT.it_stays _ j _ e3 (n - j)
        rw [show j + (n - j) = n by omega] at a1
        exact a1.symm

/-- what holds of the pairs: they don't fall along arcs; each is made by an arc -/
structure WayOK (n : Nat) (l : List S30) (t : Int) (dt : List Itm) : Prop where
  len : dt.length = n
  ok : ∀ x ∈ dt, OkI 786432000 750 x
  feas : ∀ a ∈ l, dt.getD a.f1.toNat zI ≠ farI → dt.getD a.f0.toNat zI ≠ farI ∧ (dt.getD a.f0.toNat zI).1 ≤ (dt.getD a.f1.toNat zI).1 + a.f2
  step : ∀ v : Int, 0 ≤ v → v < n → v ≠ t → dt.getD v.toNat zI ≠ farI → ∃ a ∈ l, a.f0 = v ∧ dt.getD a.f1.toNat zI ≠ farI ∧ dt.getD v.toNat zI = ((dt.getD a.f1.toNat zI).1 + a.f2, (dt.getD a.f1.toNat zI).2 + 1)
  goal : dt.getD t.toNat zI = (0, 0)
  dist : BFT.IsDist (BFT.EE (l.map revA)) t n BFT.Far (BFT.rd (dt.map enc))

theorem back_ok (n : Nat) (t : Int) (l : List S30) (hn : n ≤ 14) (t0 : 0 ≤ t) (t1 : t < n) (hl : ∀ a ∈ l, OkW n a) (hlen : l.length ≤ 50) :
    ∃ dt, bkL l 1000 ((List.replicate n farI).set t.toNat (0, 0)) = some dt ∧ WayOK n l t dt := by
  have hF : BFT.Far = 1152921504606846976 := rfl
  have hfar : ((n : Int) + 1) * (((l.map revA).length : Int) * 1048576000001) < BFT.Far := by
    rw [List.length_map]
    have a1 : (l.length : Int) * 1048576000001 ≤ 50 * 1048576000001 := by omega
    have a2 : ((n : Int) + 1) * ((l.length : Int) * 1048576000001) ≤ 15 * (50 * 1048576000001) := Int.mul_le_mul (by omega) a1 (by omega) (by decide)
    omega
  obtain ⟨j0, hj0, hx⟩ := BFT.stops (l.map revA) n 1048576000001 (by decide) (okl_rev hl) t t0 t1 hfar (hasMin_rev hl t)
  obtain ⟨dt, q1, q2, q3, q4⟩ := bkL_run n t l hn t0 t1 hl hlen j0 hj0 hx j0 0 (1000 - j0 - 1) ((List.replicate n farI).set t.toNat (0, 0)) (by omega) (by simp)
    (fun x hx => by
      rcases List.mem_or_eq_of_mem_set hx with k | k
      · exact .inl (List.eq_of_mem_replicate k)
      · rw [k]; exact .inr ⟨by simp, by simp, by simp, by simp⟩)
    (by rw [List.map_set, List.map_replicate]; rfl)
  rw [show 1000 - j0 - 1 + j0 + 1 = 1000 by omega] at q1
  refine ⟨dt, q1, ?_⟩
  have D : BFT.IsDist (BFT.EE (l.map revA)) t n BFT.Far (BFT.rd (dt.map enc)) := by
    rw [q4]; exact BFT.it_dist _ _ _ (by decide) (okl_rev hl) t t0 t1 hfar (hasMin_rev hl t)
  have hg : ∀ v : Int, 0 ≤ v → v < n → OkI 786432000 750 (dt.getD v.toNat zI) := fun v v0 v1 => getD_ok q3 v0 (by omega)
  have hne : ∀ v : Int, 0 ≤ v → v < n → dt.getD v.toNat zI ≠ farI → BFT.rd (dt.map enc) v = (dt.getD v.toNat zI).1 * 1000000 + (dt.getD v.toNat zI).2 ∧ 0 ≤ (dt.getD v.toNat zI).1 ∧ (dt.getD v.toNat zI).1 ≤ 786432000 ∧ 0 ≤ (dt.getD v.toNat zI).2 ∧ (dt.getD v.toNat zI).2 ≤ 750 :=
    fun v v0 v1 h => ⟨by rw [rd_enc, enc_near h], (hg v v0 v1).near h⟩
  have hnf : ∀ v : Int, 0 ≤ v → v < n → BFT.rd (dt.map enc) v ≠ BFT.Far → dt.getD v.toNat zI ≠ farI := fun v v0 v1 h k => h (by rw [rd_enc, k]; rfl)
  refine ⟨q2, q3, ?_, ?_, ?_, D⟩
  · intro a ha hf
    obtain ⟨a1, a2, a3, a4, a5, a6⟩ := hl a ha
    obtain ⟨e1, f1, f2, f3, f4⟩ := hne _ a3 a4 hf
    rcases D a.f1 a3 a4 with ⟨r, m⟩ | ⟨r, m⟩
    · have hw := m.1.snoc (show BFT.EE (l.map revA) a.f1 a.f0 (a.f2 * 1000000 + 1) from List.mem_map_of_mem (f := revA) ha)
      rcases D a.f0 a1 a2 with ⟨r2, m2⟩ | ⟨r2, m2⟩
      · have hle := m2.2 _ hw
        have hn0 := hnf _ a1 a2 (by omega)
        obtain ⟨e2, g1, g2, g3, g4⟩ := hne _ a1 a2 hn0
        exact ⟨hn0, by omega⟩
      · exact absurd ⟨_, hw⟩ r2
    · exact absurd m (by omega)
  · intro v v0 v1 hv hf
    obtain ⟨e1, f1, f2, f3, f4⟩ := hne _ v0 v1 hf
    rcases D v v0 v1 with ⟨r, m⟩ | ⟨r, m⟩
    · generalize hz : BFT.rd (dt.map enc) v = z at m e1
      obtain ⟨mw, mm⟩ := m
      cases mw with
      | nil => exact absurd rfl hv
      | @snoc u _ L w hu e =>
        obtain ⟨a, ha, ea⟩ := List.mem_map.1 e
        simp only [revA, BFT.Arc.mk.injEq] at ea
        obtain ⟨b1, b2, b3⟩ := ea
        obtain ⟨a1, a2, a3, a4, a5, a6⟩ := hl a ha
        have hmu : BFT.Mn (BFT.EE (l.map revA)) t u L := ⟨hu, fun L' h' => by have := mm _ (h'.snoc e); omega⟩
        rcases D u (by omega) (by omega) with ⟨r2, m2⟩ | ⟨r2, m2⟩
        · have hL := m2.uniq hmu
          have hn0 := hnf u (by omega) (by omega) (by omega)
          obtain ⟨e2, g1, g2, g3, g4⟩ := hne u (by omega) (by omega) hn0
          refine ⟨a, ha, b2, by rw [b1]; exact hn0, ?_⟩
          rw [b1]
          refine Prod.ext ?_ ?_
          · show (dt.getD v.toNat zI).1 = (dt.getD u.toNat zI).1 + a.f2; omega
          · show (dt.getD v.toNat zI).2 = (dt.getD u.toNat zI).2 + 1; omega
        · exact absurd ⟨_, hu⟩ r2
    · exact absurd m (by omega)
  · rcases D t t0 t1 with ⟨r, m⟩ | ⟨r, m⟩
    · have h0 := m.uniq (BFT.mn_self (hasMin_rev hl t))
      have hn0 := hnf t t0 t1 (by omega)
      obtain ⟨e2, g1, g2, g3, g4⟩ := hne t t0 t1 hn0
      refine Prod.ext ?_ ?_
      · show (dt.getD t.toNat zI).1 = 0; omega
      · show (dt.getD t.toNat zI).2 = 0; omega
    · exact absurd ⟨0, .nil⟩ r

/-- tight arcs, one behind the other, up to t -/
def Chain (l : List S30) (dt : List Itm) (t : Int) : Int → List Int → Prop
  | at_, [] => at_ = t
  | at_, i :: w => 0 ≤ i ∧ i < l.length ∧ (rd_T30 l i).f0 = at_ ∧ dt.getD (rd_T30 l i).f1.toNat zI ≠ farI ∧ dt.getD at_.toNat zI = ((dt.getD (rd_T30 l i).f1.toNat zI).1 + (rd_T30 l i).f2, (dt.getD (rd_T30 l i).f1.toNat zI).2 + 1) ∧ Chain l dt t (rd_T30 l i).f1 w

theorem wyT_of {n : Nat} {l : List S30} {t : Int} {dt : List Itm} (h : WayOK n l t dt) {a : S30} (ha : OkW n a) {v : Int} (v0 : 0 ≤ v) (v1 : v < n) (hv : dt.getD v.toNat zI ≠ farI) :
    wyT dt v a = true ↔ a.f0 = v ∧ dt.getD a.f1.toNat zI ≠ farI ∧ dt.getD v.toNat zI = ((dt.getD a.f1.toNat zI).1 + a.f2, (dt.getD a.f1.toNat zI).2 + 1) := by
  obtain ⟨a1, a2, a3, a4, a5, a6⟩ := ha
  have gv := (getD_ok h.ok (i := v) v0 (by rw [h.len]; exact v1)).near hv
  have gu := getD_ok h.ok (i := a.f1) a3 (by rw [h.len]; exact a4)
  unfold wyT
  simp only [Bool.and_eq_true, decide_eq_true_eq, beq_iff_eq]
  constructor
  · rintro ⟨e1, e2, e3⟩
    have hf : dt.getD a.f1.toNat zI ≠ farI := by
      intro k
      rw [k] at e3
      have : (bkX farI a).2 = 1152921504606846977 := by simp only [bkX, farI]; exact w64 (by omega) (by omega)
      omega
    have gg := gu.near hf
    unfold bkX at e2 e3
    simp only at e2 e3
    rw [w64 (by omega) (by omega)] at e2 e3
    exact ⟨e1, hf, Prod.ext e2 e3⟩
  · rintro ⟨e1, hf, e2⟩
    have gg := gu.near hf
    refine ⟨e1, ?_, ?_⟩
    · unfold bkX; simp only; rw [w64 (by omega) (by omega), e2]
    · unfold bkX; simp only; rw [w64 (by omega) (by omega), e2]
theorem wyI_some (dt : List Itm) (v : Int) : ∀ (l : List S30) (j : Nat) (a : S30), a ∈ l → wyT dt v a = true → ∃ i b, wyI dt v l j = some (j + i, b.f1) ∧ l[i]? = some b ∧ wyT dt v b = true
  | [], _, _, h, _ => by cases h
  | b :: l, j, a, h, hw => by
    by_cases c : wyT dt v b = true
    · exact ⟨0, b, by simp [wyI, c], rfl, c⟩
    · rcases List.mem_cons.1 h with rfl | h
      · exact absurd hw c
      · obtain ⟨i, x, e1, e2, e3⟩ := wyI_some dt v l (j + 1) a h hw
        refine ⟨i + 1, x, ?_, by simpa using e2, e3⟩
        rw [wyI, if_neg c, e1]
        congr 2; omega
theorem wyL_run {n : Nat} {l : List S30} {t : Int} {dt : List Itm} (h : WayOK n l t dt) (hl : ∀ a ∈ l, OkW n a) :
    ∀ (k : Nat) (v : Int) (acc : List Int), 0 ≤ v → v < n → dt.getD v.toNat zI ≠ farI → (dt.getD v.toNat zI).2 < k → ∃ w, wyL l dt t k v acc = some (acc ++ w) ∧ Chain l dt t v w := by
  intro k
  induction k with
  | zero =>
    intro v acc v0 v1 hv hk
    have := (getD_ok h.ok (i := v) v0 (by rw [h.len]; exact v1)).near hv
    omega
  | succ k ih =>
    intro v acc v0 v1 hv hk
    by_cases c : v = t
    · exact ⟨[], by rw [wyL, if_pos c, List.append_nil], c⟩
    · obtain ⟨a, ha, b1, b2, b3⟩ := h.step v v0 v1 c hv
      obtain ⟨i, x, e1, e2, e3⟩ := wyI_some dt v l 0 a ha ((wyT_of h (hl a ha) v0 v1 hv).2 ⟨b1, b2, b3⟩)
      have hi : i < l.length := by
        rcases Nat.lt_or_ge i l.length with q | q
        · exact q
        · rw [List.getElem?_eq_none q] at e2; cases e2
      have hx : x ∈ l := List.mem_of_getElem? e2
      have hrd : rd_T30 l (i : Int) = x := by
        simp only [rd_T30, Int.toNat_natCast, List.getD_eq_getElem?_getD, e2]; rfl
      obtain ⟨d1, d2, d3⟩ := (wyT_of h (hl x hx) v0 v1 hv).1 e3
      obtain ⟨x1, x2, x3, x4, x5, x6⟩ := hl x hx
      have d4 : (dt.getD v.toNat zI).2 = (dt.getD x.f1.toNat zI).2 + 1 := by rw [d3]
      obtain ⟨w, w1, w2⟩ := ih x.f1 (acc ++ [(i : Int)]) x3 x4 d2 (by omega)
      refine ⟨(i : Int) :: w, ?_, by omega, by omega, by rw [hrd]; exact d1, by rw [hrd]; exact d2, by rw [hrd]; exact d3, by rw [hrd]; exact w2⟩
      rw [wyL, if_neg c, e1]
      simp only [Nat.zero_add]
      rw [w1, List.append_assoc]; rfl
/-- path.Way, as a function, on arcs none below 0 -/
theorem way_f {n s t : Int} {l : List S30} (k : Nat) (hO : ArcsOK n l s) (hN : NonNeg l) (hn : n ≤ 14) (t0 : 0 ≤ t) (t1 : t < n) (hl : ∀ a ∈ l, OkW n.toNat a) (hlen : l.length ≤ 50) :
    ∃ dt w is, WayOK n.toNat l t dt ∧ path_Way.f k n l s t = some (w, is) ∧ (is = false → w = [] ∧ dt.getD s.toNat zI = farI) ∧ (is = true → dt.getD s.toNat zI ≠ farI ∧ Chain l dt t s w) := by
  obtain ⟨dt, d1, d2⟩ := back_ok n.toNat t l (by omega) t0 (by omega) hl hlen
  have hs := hO.2.2.1
  have hs1 := hO.2.2.2.1
  unfold path_Way.f
  rw [if_pos ⟨hO, hN, t0, t1⟩, d1, Option.bind_some]
  by_cases c : isFar (dt.getD s.toNat zI) = true
  · refine ⟨dt, [], false, d2, by rw [if_pos c], fun _ => ⟨rfl, (isFar_iff _).1 c⟩, (fun k => by cases k)⟩
  · have hf : dt.getD s.toNat zI ≠ farI := fun k => c ((isFar_iff _).2 k)
    have gs := (getD_ok d2.ok (i := s) hs (by rw [d2.len]; omega)).near hf
    obtain ⟨w, w1, w2⟩ := wyL_run d2 hl 1000 s [] hs (by omega) hf (by omega)
    refine ⟨dt, w, true, d2, by rw [if_neg c, w1]; rfl, (fun k => by cases k), fun _ => ⟨hf, w2⟩⟩
theorem okW_in {n : Int} {l : List S30} (h0 : 0 ≤ n) (hl : ∀ a ∈ l, ArcIn n 0 a) : ∀ a ∈ l, OkW n.toNat a := fun a ha => by
  obtain ⟨a1, a2, a3, a4, a5, a6⟩ := hl a ha
  exact ⟨a1, by omega, a3, by omega, by omega, by omega⟩
/-- what lies ahead is no more than what was gone and what lies ahead there -/
theorem WayOK.ahead {n : Nat} {l : List S30} {t : Int} {dt : List Itm} (h : WayOK n l t dt) {s v L : Int} (w : BFT.Walk (BFT.EE (l.map toA)) s v L) :
    dt.getD v.toNat zI ≠ farI → dt.getD s.toNat zI ≠ farI ∧ (dt.getD s.toNat zI).1 ≤ L + (dt.getD v.toNat zI).1 := by
  induction w with
  | nil => intro hv; exact ⟨hv, by omega⟩
  | snoc _ e ih =>
    intro hv
    obtain ⟨a, ha, ea⟩ := List.mem_map.1 e
    simp only [toA, BFT.Arc.mk.injEq] at ea
    obtain ⟨rfl, rfl, rfl⟩ := ea
    obtain ⟨f1, f2⟩ := h.feas a ha hv
    obtain ⟨g1, g2⟩ := ih f1
    exact ⟨g1, by omega⟩
theorem pathParts_far (l : List S30) (d w : List Int) (at_ sum : Int) (i : Int) (k : Nat) : watershedlaw6_PathParts.l0 (k + 2) l d w false at_ sum i = some true := by
  rw [watershedlaw6_PathParts.l0]
  split <;> rw [watershedlaw6_PathParts.j3, if_neg (by simp)]
theorem pathParts_l0 {n s t : Int} {l : List S30} {dt : List Itm} (hO : ArcsOK n l s) (hN : NonNeg l) (h : WayOK n.toNat l t dt) (hs : dt.getD s.toNat zI ≠ farI) (w : List Int) (hw : w.length ≤ 1000000) :
    ∀ (m i k : Nat) (v sum : Int), i + m = w.length → 0 ≤ v → v < n → dt.getD v.toNat zI ≠ farI → Chain l dt t v (w.drop i) → BFT.Walk (BFT.EE (l.map toA)) s v sum → sum + (dt.getD v.toNat zI).1 = (dt.getD s.toNat zI).1 →
      watershedlaw6_PathParts.l0 (k + 2 * m + 2) l (dists n l s) w true v sum (i : Int) = some true := by
  intro m
  induction m with
  | zero =>
    intro i k v sum hi v0 v1 hv hc hwk hsum
    rw [show k + 2 * 0 + 2 = k + 1 + 1 by omega, watershedlaw6_PathParts.l0, if_neg (by omega), watershedlaw6_PathParts.j3, if_neg (by simp)]
  | succ m ih =>
    intro i k v sum hi v0 v1 hv hc hwk hsum
    have hil : i < w.length := by omega
    have hdr : w.drop i = w[i] :: w.drop (i + 1) := List.drop_eq_getElem_cons hil
    have hrd : rd w (i : Int) = w[i] := by
      show w.getD ((i : Int)).toNat 0 = _
      simp [hil]
    rw [hdr] at hc
    obtain ⟨c1, c2, c3, c4, c5, c6⟩ := hc
    have hn := hO.1
    have hlen := hO.2.2.2.2.1
    have hmem : rd_T30 l w[i] ∈ l := by
      have := rd_mem (l := l) (i := w[i].toNat) (by omega)
      rwa [show ((w[i].toNat : Nat) : Int) = w[i] by omega] at this
    obtain ⟨b1, b2, b3, b4⟩ := hO.2.2.2.2.2.2.2 _ hmem
    have hd : (dists n l s).length = n.toNat := dists_len n l s
    have gs := (getD_ok h.ok (i := s) hO.2.2.1 (by rw [h.len]; have := hO.2.2.2.1; omega)).near hs
    have gu := (getD_ok h.ok (i := (rd_T30 l w[i]).f1) b3 (by rw [h.len]; omega)).near c4
    have gv := (getD_ok h.ok (i := v) v0 (by rw [h.len]; omega)).near hv
    have hnn := hN _ hmem
    have e1 : (dt.getD v.toNat zI).1 = (dt.getD (rd_T30 l w[i]).f1.toNat zI).1 + (rd_T30 l w[i]).f2 := by rw [c5]
    have hsum0 : 0 ≤ sum := BFT.Walk.nonneg (fun u v w e => by
      obtain ⟨a, ha, ea⟩ := List.mem_map.1 e
      simp only [toA, BFT.Arc.mk.injEq] at ea
      have := hN a ha; omega) hwk
    have hdist : rd (dists n l s) v = sum := by
      rcases dists_dist hO hN v v0 (by omega) with ⟨r, q⟩ | ⟨r, q⟩
      · have q1 := q.2 _ hwk
        have q2 := (h.ahead q.1 hv).2
        show BFT.rd (dists n l s) v = sum
        omega
      · exact absurd ⟨_, hwk⟩ r
    have hwk2 : BFT.Walk (BFT.EE (l.map toA)) s (rd_T30 l w[i]).f1 (sum + (rd_T30 l w[i]).f2) :=
      hwk.snoc (List.mem_map.2 ⟨_, hmem, by rw [← c3]; rfl⟩)
    have := ih (i + 1) k (rd_T30 l w[i]).f1 (sum + (rd_T30 l w[i]).f2) (by omega) b3 b4 c4 c6 hwk2 (by omega)
    rw [show k + 2 * (m + 1) + 2 = (k + 2 * m + 2) + 1 + 1 by omega, watershedlaw6_PathParts.l0, if_pos (by omega), watershedlaw6_PathParts.j3, if_pos rfl, if_pos (by omega), if_pos (by omega), hrd, if_neg (by omega), if_neg (by omega),
      if_pos v0, if_pos (by omega), if_pos hdist, if_pos c1, if_pos c2, w64 (n := sum + (rd_T30 l w[i]).f2) (by omega) (by omega), w64 (n := (i : Int) + 1) (by omega) (by omega)]
    exact this
theorem chain_len {n : Nat} {l : List S30} {t : Int} {dt : List Itm} (h : WayOK n l t dt) (hl : ∀ a ∈ l, OkW n a) : ∀ (w : List Int) (v : Int), 0 ≤ v → v < n → dt.getD v.toNat zI ≠ farI → Chain l dt t v w → (w.length : Int) ≤ (dt.getD v.toNat zI).2
  | [], v, v0, v1, hv, _ => by
    have := (getD_ok h.ok (i := v) v0 (by rw [h.len]; exact v1)).near hv
    simp only [List.length_nil]; omega
  | i :: w, v, v0, v1, hv, hc => by
    obtain ⟨c1, c2, c3, c4, c5, c6⟩ := hc
    have hmem : rd_T30 l i ∈ l := by
      have := rd_mem (l := l) (i := i.toNat) (by omega)
      rwa [show ((i.toNat : Nat) : Int) = i by omega] at this
    obtain ⟨x1, x2, x3, x4, x5, x6⟩ := hl _ hmem
    have := chain_len h hl w _ x3 x4 c4 c6
    have e : (dt.getD v.toNat zI).2 = (dt.getD (rd_T30 l i).f1.toNat zI).2 + 1 := by rw [c5]
    simp only [List.length_cons, Int.natCast_add, Int.natCast_one]; omega

theorem pathParts_j1 (n s t : Int) (l : List S30) (hO : ArcsOK n l s) (hN : NonNeg l) (hn : n ≤ 14) (t0 : 0 ≤ t) (t1 : t < n) (hl : ∀ a ∈ l, OkW n.toNat a) (hlen : l.length ≤ 50) (k : Nat) (hk : 2000 ≤ k) :
    watershedlaw6_PathParts.j1 (k + 1) n l s t (dists n l s) false = some true := by
  obtain ⟨dt, w, is, h, hf, h0, h1⟩ := way_f k hO hN hn t0 t1 hl hlen
  rw [watershedlaw6_PathParts.j1, if_neg (by simp), hf, Option.bind_some]
  have hs := hO.2.2.1
  have hs1 := hO.2.2.2.1
  cases is with
  | false =>
    have := pathParts_far l (dists n l s) w s 0 0 (k - 2)
    rw [show k - 2 + 2 = k by omega] at this
    exact this
  | true =>
    obtain ⟨g1, g2⟩ := h1 rfl
    have gl := chain_len h hl w s hs (by omega) g1 g2
    have gs := (getD_ok h.ok (i := s) hs (by rw [h.len]; omega)).near g1
    have := pathParts_l0 hO hN h g1 w (by omega) w.length 0 (k - 2 * w.length - 2) s 0 (by omega) hs hs1 g1 (by simpa using g2) .nil (by omega)
    rw [show k - 2 * w.length - 2 + 2 * w.length + 2 = k by omega] at this
    exact this
theorem PathParts : watershedlaw6_PathParts.Pure := by
  intro a0 l1 a2 a3 a4 _ _ hlen _ _ _ _
  obtain ⟨t, t0, t1, ht⟩ := within_in a0 12 (by decide) (by decide)
  have en : wrap64 (1 + t) = 1 + t := w64 (by omega) (by omega)
  obtain ⟨l, g1, g2, g3⟩ := arcs_in (1 + t) l1 0 (by omega) (by omega) (by decide) (by decide) (by omega)
  obtain ⟨x, x0, x1, hx⟩ := within_in a2 (1 + t) (by omega) (by omega)
  obtain ⟨y, y0, y1, hy⟩ := within_in a3 (1 + t) (by omega) (by omega)
  obtain ⟨z, z0, z1, hz⟩ := within_in a4 (1 + t) (by omega) (by omega)
  have hO : ArcsOK (1 + t) l x := arcsOK_in (by omega) (by omega) x0 x1 (by decide) g2 (by omega)
  have hO2 : ArcsOK (1 + t) l y := arcsOK_in (by omega) (by omega) y0 y1 (by decide) g2 (by omega)
  have hN := nonneg_in g2
  have hd : (dists (1 + t) l x).length = (1 + t).toNat := dists_len _ _ _
  have hd2 : (dists (1 + t) l y).length = (1 + t).toNat := dists_len _ _ _
  have hj := pathParts_j1 (1 + t) x y l hO hN (by omega) y0 y1 (okW_in (by omega) g2) g1 9998 (by omega)
  refine ⟨10000, ?_⟩
  unfold watershedlaw6_PathParts.f
  rw [known_ge _ (by omega), Option.bind_some, if_pos rfl, ht, Option.bind_some, en, g3 _ (by omega), Option.bind_some, hx, Option.bind_some, hy, Option.bind_some, hz, Option.bind_some, from_f hO hN, Option.bind_some, from_f hO2 hN, Option.bind_some,
    if_pos (by omega), watershedlaw6_PathParts.j0, if_neg (by simp only [bne_iff_ne, ne_eq]; omega), if_pos y0, if_pos (by omega)]
  by_cases c1 : rd (dists (1 + t) l x) y = 1152921504606846976
  · rw [if_pos c1]; exact hj
  · rw [if_neg c1, if_pos z0, if_pos (by omega)]
    by_cases c2 : rd (dists (1 + t) l y) z = 1152921504606846976
    · rw [if_pos c2]; exact hj
    · rw [if_neg c2, if_pos (by omega)]
      have hF : BFT.Far = 1152921504606846976 := rfl
      have b1 := dists_bnd hO y y0 y1
      have b2 := dists_bnd hO2 z z0 z1
      have hle : rd (dists (1 + t) l x) z ≤ rd (dists (1 + t) l x) y + rd (dists (1 + t) l y) z := by
        rcases dists_dist hO hN y y0 (by omega) with ⟨r, q⟩ | ⟨r, q⟩
        · rcases dists_dist hO2 hN z z0 (by omega) with ⟨r2, q2⟩ | ⟨r2, q2⟩
          · have hw := q.1.cat q2.1
            rcases dists_dist hO hN z z0 (by omega) with ⟨r3, q3⟩ | ⟨r3, q3⟩
            · exact q3.2 _ hw
            · exact absurd ⟨_, hw⟩ r3
          · exact absurd q2 c2
        · exact absurd q c1
      rw [w64 (by omega) (by omega), show decide (rd (dists (1 + t) l x) z > rd (dists (1 + t) l x) y + rd (dists (1 + t) l y) z) = false from decide_eq_false (by omega)]
      exact hj
end Go.Proofs.Ytpkhdipedmihgaa.Pure
