/- What the heap's functions do to its content: plain law, no program. -/
import Derived.Test.YtpkhdipedmihgaaEPut
import Derived.Test.YtpkhdipedmihgaaEDrop
namespace Go.Proofs.Ytpkhdipedmihgaa.P
set_option linter.unusedVariables false
set_option linter.unusedSimpArgs false

theorem lessI_iff (a b : Itm) : lessI a b = true ↔ a.2 < b.2 ∨ (a.2 = b.2 ∧ a.1 < b.1) := by
  unfold lessI; split <;> simp <;> omega
theorem lessI_not (a b : Itm) : lessI a b = false ↔ b.2 < a.2 ∨ (a.2 = b.2 ∧ b.1 ≤ a.1) := by
  rw [← Bool.not_eq_true, lessI_iff]; omega
theorem less_tr {a b c : Itm} (h : lessI b a = false) (k : lessI c b = false) : lessI c a = false := by
  rw [lessI_not] at *; omega
theorem less_of {a b : Itm} (h : lessI a b = true) : lessI b a = false := by
  rw [lessI_iff] at h; rw [lessI_not]; omega

abbrev gt (row : List Itm) (j : Nat) : Itm := row.getD j zI
theorem gt_set (row : List Itm) (i j : Nat) (x : Itm) (hi : i < row.length) : gt (row.set i x) j = if j = i then x else gt row j := by
  unfold gt
  rw [List.getD_eq_getElem?_getD, List.getElem?_set, List.getD_eq_getElem?_getD]
  by_cases h : i = j
  · subst h; simp [hi]
  · rw [if_neg h, if_neg (Ne.symm h)]

/-- The items' keys are unlike. -/
def Dist (row : List Itm) : Prop := ∀ a b, a < row.length → b < row.length → (gt row a).1 = (gt row b).1 → a = b
def Has (row : List Itm) (p : Itm) : Prop := ∃ j, j < row.length ∧ gt row j = p
/-- The map tells each key's place, but for the place i. -/
def Cons (row : List Itm) (mp : Int → Option Int) (i : Nat) : Prop := (∀ j, j < row.length → j ≠ i → mp (gt row j).1 = some (j : Int)) ∧ ∀ k v, mp k = some v → ∃ j, j < row.length ∧ (gt row j).1 = k
def Full (row : List Itm) (mp : Int → Option Int) : Prop := (∀ j, j < row.length → mp (gt row j).1 = some (j : Int)) ∧ ∀ k v, mp k = some v → ∃ j, j < row.length ∧ (gt row j).1 = k
/-- The order holds, but about the place i. -/
def Hole (row : List Itm) (i : Nat) : Prop :=
  (∀ j, j < row.length → 0 < j → j ≠ i → (j - 1) / 2 ≠ i → lessI (gt row j) (gt row ((j - 1) / 2)) = false) ∧
  (0 < i → ∀ c, c < row.length → 0 < c → (c - 1) / 2 = i → lessI (gt row c) (gt row ((i - 1) / 2)) = false)
def Ordd (row : List Itm) : Prop := ∀ j, j < row.length → 0 < j → lessI (gt row j) (gt row ((j - 1) / 2)) = false

structure Swp (R R' : List Itm) (i p : Nat) : Prop where
  len : R'.length = R.length
  hi : i < R.length
  hp : p < R.length
  ne : i ≠ p
  get : ∀ j, gt R' j = if j = i then gt R p else if j = p then gt R i else gt R j

theorem Swp.mk_ {row : List Itm} {i p : Nat} {x : Itm} (hi : i < row.length) (hp : p < row.length) (hne : i ≠ p) : Swp (row.set i x) ((row.set i (gt row p)).set p x) i p := by
  refine ⟨by simp, by simpa using hi, by simpa using hp, hne, fun j => ?_⟩
  rw [gt_set _ _ _ _ (by simpa using hp), gt_set _ _ _ _ hi, gt_set _ _ _ _ hi, gt_set _ _ _ _ hi, gt_set _ _ _ _ hi]
  by_cases h1 : j = i
  · subst h1; simp [hne, Ne.symm hne]
  · by_cases h2 : j = p
    · subst h2; simp [h1]
    · simp [h1, h2]

section
variable {R R' : List Itm} {i p : Nat} {mp : Int → Option Int}
theorem Swp.dist (h : Swp R R' i p) (d : Dist R) : Dist R' := by
  intro a b ha hb e
  rw [h.len] at ha hb
  rw [h.get a, h.get b] at e
  have hi := h.hi; have hp := h.hp
  by_cases a1 : a = i <;> by_cases b1 : b = i
  · omega
  · rw [if_pos a1, if_neg b1] at e
    by_cases b2 : b = p
    · rw [if_pos b2] at e; have := d p i hp hi e; omega
    · rw [if_neg b2] at e; have := d p b hp hb e; omega
  · rw [if_neg a1, if_pos b1] at e
    by_cases a2 : a = p
    · rw [if_pos a2] at e; have := d i p hi hp e; omega
    · rw [if_neg a2] at e; have := d a p ha hp e; omega
  · rw [if_neg a1, if_neg b1] at e
    by_cases a2 : a = p <;> by_cases b2 : b = p
    · omega
    · rw [if_pos a2, if_neg b2] at e; have := d i b hi hb e; omega
    · rw [if_neg a2, if_pos b2] at e; have := d a i ha hi e; omega
    · rw [if_neg a2, if_neg b2] at e; exact d a b ha hb e
theorem Swp.has (h : Swp R R' i p) (q : Itm) : Has R' q ↔ Has R q := by
  have hi := h.hi; have hp := h.hp; have hl := h.len; have hne := h.ne
  constructor
  · rintro ⟨j, hj, e⟩
    rw [h.get j] at e
    split at e
    · exact ⟨p, hp, e⟩
    · split at e
      · exact ⟨i, hi, e⟩
      · exact ⟨j, by omega, e⟩
  · rintro ⟨j, hj, e⟩
    by_cases h1 : j = i
    · exact ⟨p, by omega, by rw [h.get p, if_neg (Ne.symm hne), if_pos rfl, ← h1]; exact e⟩
    · by_cases h2 : j = p
      · exact ⟨i, by omega, by rw [h.get i, if_pos rfl, ← h2]; exact e⟩
      · exact ⟨j, by omega, by rw [h.get j, if_neg h1, if_neg h2]; exact e⟩
theorem Swp.cons (h : Swp R R' i p) (d : Dist R) (c : Cons R mp i) : Cons R' (mput mp (gt R p).1 i) p := by
  have hi := h.hi; have hp := h.hp; have hl := h.len; have hne := h.ne
  refine ⟨fun j hj hjp => ?_, fun k v hk => ?_⟩
  · rw [hl] at hj
    rw [h.get j]
    by_cases h1 : j = i
    · subst h1; rw [if_pos rfl]; unfold mput; rw [if_pos rfl]
    · rw [if_neg h1, if_neg hjp]
      unfold mput
      rw [if_neg (fun e => hjp (d j p hj hp e))]
      exact c.1 j hj h1
  · have hm : ∃ j, j < R.length ∧ (gt R j).1 = k := by
      unfold mput at hk
      split at hk
      · rename_i e; exact ⟨p, hp, e.symm⟩
      · exact c.2 k v hk
    obtain ⟨j, hj, e⟩ := hm
    obtain ⟨m, hm, e2⟩ := (h.has (gt R j)).2 ⟨j, hj, rfl⟩
    exact ⟨m, hm, by rw [e2]; exact e⟩
theorem Cons.full (d : Dist R) (hi : i < R.length) (c : Cons R mp i) : Full R (mput mp (gt R i).1 i) := by
  refine ⟨fun j hj => ?_, fun k v hk => ?_⟩
  · unfold mput
    by_cases e : j = i
    · subst e; rw [if_pos rfl]
    · rw [if_neg (fun q => e (d j i hj hi q))]; exact c.1 j hj e
  · unfold mput at hk
    split at hk
    · rename_i e; exact ⟨i, hi, e.symm⟩
    · exact c.2 k v hk
theorem Full.cons (f : Full R mp) (i : Nat) : Cons R mp i := ⟨fun j hj _ => f.1 j hj, f.2⟩

/-- up: the item is less than the one above it -/
theorem Swp.up (h : Swp R R' i p) (hp : p = (i - 1) / 2) (hi : 0 < i) (o : Hole R i) : Hole R' p := by
  have hil := h.hi; have hpl := h.hp; have hl := h.len
  refine ⟨fun j hj h0 h1 h2 => ?_, fun h0 c hc c0 c1 => ?_⟩
  · rw [hl] at hj
    rw [h.get j, h.get ((j - 1) / 2)]
    by_cases e1 : j = i
    · subst e1; exact absurd hp.symm h2
    · rw [if_neg e1, if_neg h1]
      by_cases e2 : (j - 1) / 2 = i
      · rw [if_pos e2]
        rw [hp]; exact o.2 hi j hj h0 e2
      · rw [if_neg e2, if_neg h2]; exact o.1 j hj h0 e1 e2
  · rw [hl] at hc
    have hpp : lessI (gt R p) (gt R ((p - 1) / 2)) = false := o.1 p hpl h0 (by omega) (by omega)
    rw [h.get c, h.get ((p - 1) / 2), if_neg (show (p - 1) / 2 ≠ i by omega), if_neg (show (p - 1) / 2 ≠ p by omega)]
    by_cases e1 : c = i
    · rw [if_pos e1]; exact hpp
    · rw [if_neg e1, if_neg (show c ≠ p by omega)]
      refine less_tr hpp ?_
      have := o.1 c hc c0 e1 (by omega)
      rw [c1] at this; exact this
/-- down: the least child is less than the item -/
theorem Swp.down {k : Nat} (h : Swp R R' i k) (hk : (k - 1) / 2 = i) (k0 : 0 < k) (hm : ∀ s, s < R.length → 0 < s → (s - 1) / 2 = i → lessI (gt R s) (gt R k) = false) (o : Hole R i) : Hole R' k := by
  have hil := h.hi; have hkl := h.hp; have hl := h.len
  refine ⟨fun j hj h0 h1 h2 => ?_, fun h0 c hc c0 c1 => ?_⟩
  · rw [hl] at hj
    rw [h.get j, h.get ((j - 1) / 2)]
    by_cases e1 : j = i
    · subst e1
      rw [if_pos rfl, if_neg (show (j - 1) / 2 ≠ j by omega), if_neg h2]
      exact o.2 h0 k hkl k0 hk
    · rw [if_neg e1, if_neg h1]
      by_cases e2 : (j - 1) / 2 = i
      · rw [if_pos e2]; exact hm j hj h0 e2
      · rw [if_neg e2, if_neg h2]; exact o.1 j hj h0 e1 e2
  · rw [hl] at hc
    rw [hk, h.get c, h.get i, if_neg (show c ≠ i by omega), if_neg (show c ≠ k by omega), if_pos rfl]
    have := o.1 c hc c0 (by omega) (by omega)
    rw [c1] at this; exact this
end
theorem kid_par {row : List Itm} {i : Nat} (h : 2 * i + 1 < row.length) : (kidI row i - 1) / 2 = i ∧ 0 < kidI row i ∧ ∀ s, s < row.length → 0 < s → (s - 1) / 2 = i → lessI (gt row s) (gt row (kidI row i)) = false := by
  unfold kidI
  have self : ∀ a : Itm, lessI a a = false := fun a => by rw [lessI_not]; omega
  split
  · rename_i c
    refine ⟨by omega, by omega, fun s hs h0 hp => ?_⟩
    have : s = 2 * i + 1 ∨ s = 2 * i + 2 := by omega
    rcases this with rfl | rfl
    · exact less_of c.2
    · exact self _
  · rename_i c
    refine ⟨by omega, by omega, fun s hs h0 hp => ?_⟩
    have : s = 2 * i + 1 ∨ s = 2 * i + 2 := by omega
    rcases this with rfl | rfl
    · exact self _
    · cases hq : lessI (gt row (2 * i + 2)) (gt row (2 * i + 1)) with
      | false => rfl
      | true => exact absurd ⟨hs, hq⟩ c

theorem upF_law : ∀ (i : Nat) (row : List Itm) (mp : Int → Option Int) (x : Itm), i < row.length → Dist (row.set i x) → Cons (row.set i x) mp i → Hole (row.set i x) i →
    Dist (upF row mp i x).1 ∧ (∀ q, Has (upF row mp i x).1 q ↔ Has (row.set i x) q) ∧ Full (upF row mp i x).1 (upF row mp i x).2.1 ∧ Hole (upF row mp i x).1 (upF row mp i x).2.2 ∧ (upF row mp i x).2.2 < row.length ∧
      (0 < (upF row mp i x).2.2 → lessI (gt (upF row mp i x).1 (upF row mp i x).2.2) (gt (upF row mp i x).1 (((upF row mp i x).2.2 - 1) / 2)) = false) := by
  intro i
  induction i using Nat.strongRecOn with
  | ind i ih =>
    intro row mp x hi d c o
    by_cases h : 0 < i ∧ lessI x (row.getD ((i - 1) / 2) zI) = true
    · rw [upF_yes h.1 h.2]
      obtain ⟨p, hp⟩ : ∃ p, (i - 1) / 2 = p := ⟨_, rfl⟩
      rw [hp]
      have S := Swp.mk_ (x := x) hi (show p < row.length by omega) (show i ≠ p by omega)
      have e : gt (row.set i x) p = row.getD p zI := by rw [gt_set _ _ _ _ hi, if_neg (by omega)]
      have c' := S.cons d c
      rw [e] at c'
      have := ih p (by omega) (row.set i (row.getD p zI)) (mput mp (row.getD p zI).1 i) x (by simp; omega) (S.dist d) c' (S.up hp.symm h.1 o)
      rw [List.length_set] at this
      obtain ⟨a1, a2, a3, a4, a5, a6⟩ := this
      exact ⟨a1, fun q => (a2 q).trans (S.has q), a3, a4, a5, a6⟩
    · have hn : i = 0 ∨ lessI x (row.getD ((i - 1) / 2) zI) = false := by
        by_cases h0 : i = 0
        · exact .inl h0
        · right
          cases hq : lessI x (row.getD ((i - 1) / 2) zI) with
          | false => rfl
          | true => exact absurd ⟨by omega, hq⟩ h
      rw [upF_no hn]
      have f := c.full d (by simpa using hi)
      rw [gt_set _ _ _ _ hi, if_pos rfl] at f
      refine ⟨d, fun q => Iff.rfl, f, o, hi, fun h0 => ?_⟩
      simp only at h0 ⊢
      rw [gt_set _ _ _ _ hi, if_pos rfl, gt_set _ _ _ _ hi, if_neg (by omega)]
      rcases hn with hn | hn
      · omega
      · exact hn

theorem downF_law : ∀ (n i : Nat) (row : List Itm) (mp : Int → Option Int) (x : Itm), row.length - i ≤ n → i < row.length → Dist (row.set i x) → Cons (row.set i x) mp i → Hole (row.set i x) i →
    (0 < i → lessI x (gt row ((i - 1) / 2)) = false) →
    Dist (downF row mp i x).1 ∧ (∀ q, Has (downF row mp i x).1 q ↔ Has (row.set i x) q) ∧ Full (downF row mp i x).1 (downF row mp i x).2 ∧ Ordd (downF row mp i x).1 := by
  intro n
  induction n with
  | zero => intro i row mp x hn hi; omega
  | succ n ih =>
    intro i row mp x hn hi d c o hu
    by_cases h : 2 * i + 1 < row.length ∧ lessI (row.getD (kidI row i) zI) x = true
    · obtain ⟨k, hk⟩ : ∃ k, kidI row i = k := ⟨_, rfl⟩
      have hkl := kidI_lt h.1
      have hkp := kid_par h.1
      rw [hk] at hkl hkp h
      rw [downF_yes h.1 hk rfl h.2]
      have S := Swp.mk_ (x := x) hi hkl.2 (show i ≠ k by omega)
      have e : ∀ j, j ≠ i → gt (row.set i x) j = row.getD j zI := fun j hj => by rw [gt_set _ _ _ _ hi, if_neg hj]
      have c' := S.cons d c
      rw [e k (by omega)] at c'
      have := ih k (row.set i (row.getD k zI)) (mput mp (row.getD k zI).1 i) x (by simp; omega) (by simp; omega) (S.dist d) c' (S.down hkp.1 hkp.2.1 (fun s hs h0 hp => by
          rw [e s (by omega), e k (by omega)]; exact hkp.2.2 s (by simpa using hs) h0 hp) o) (fun h0 => by
          rw [hkp.1, gt_set _ _ _ _ hi, if_pos rfl]; exact less_of h.2)
      obtain ⟨a1, a2, a3, a4⟩ := this
      exact ⟨a1, fun q => (a2 q).trans (S.has q), a3, a4⟩
    · have hd : downF row mp i x = (row.set i x, mput mp x.1 i) := by rw [downF, dif_neg h]
      rw [hd]
      have f := c.full d (by simpa using hi)
      rw [gt_set _ _ _ _ hi, if_pos rfl] at f
      refine ⟨d, fun q => Iff.rfl, f, fun j hj h0 => ?_⟩
      simp only at hj ⊢
      rw [List.length_set] at hj
      by_cases e1 : j = i
      · subst e1
        rw [gt_set _ _ _ _ hi, if_pos rfl, gt_set _ _ _ _ hi, if_neg (by omega)]
        exact hu h0
      · by_cases e2 : (j - 1) / 2 = i
        · have h1 : 2 * i + 1 < row.length := by omega
          have hkp := kid_par h1
          rw [gt_set _ _ _ _ hi, if_neg e1, gt_set _ _ _ _ hi, if_pos e2]
          have hkx : lessI (row.getD (kidI row i) zI) x = false := by
            cases hq : lessI (row.getD (kidI row i) zI) x with
            | false => rfl
            | true => exact absurd ⟨h1, hq⟩ h
          exact less_tr hkx (hkp.2.2 j hj h0 e2)
        · exact o.1 j (by simpa using hj) h0 e1 e2

theorem set_self (row : List Itm) (i : Nat) : row.set i (gt row i) = row := by
  apply List.ext_getElem?
  intro j
  rw [List.getElem?_set]
  split
  · rename_i h; subst h
    split
    · rename_i hl; rw [List.getElem?_eq_getElem hl]; unfold gt; rw [List.getD_eq_getElem?_getD, List.getElem?_eq_getElem hl]; rfl
    · rename_i hl; rw [List.getElem?_eq_none (by omega)]
  · rfl

theorem fixF_law (row : List Itm) (mp : Int → Option Int) (i : Nat) (x : Itm) (hi : i < row.length) (d : Dist (row.set i x)) (c : Cons (row.set i x) mp i) (o : Hole (row.set i x) i) :
    Dist (fixF row mp i x).1 ∧ (∀ q, Has (fixF row mp i x).1 q ↔ Has (row.set i x) q) ∧ Full (fixF row mp i x).1 (fixF row mp i x).2 ∧ Ordd (fixF row mp i x).1 := by
  obtain ⟨a1, a2, a3, a4, a5, a6⟩ := upF_law i row mp x hi d c o
  have hl := (upF_len i row mp x).1
  unfold fixF
  have := downF_law _ (upF row mp i x).2.2 (upF row mp i x).1 (upF row mp i x).2.1 (gt (upF row mp i x).1 (upF row mp i x).2.2) (Nat.le_refl _) (by omega)
    (by rw [set_self]; exact a1) (by rw [set_self]; exact a3.cons _) (by rw [set_self]; exact a4) a6
  rw [set_self] at this
  obtain ⟨b1, b2, b3, b4⟩ := this
  exact ⟨b1, fun q => (b2 q).trans (a2 q), b3, b4⟩

/-- A heap that holds hk: of each key its rank. -/
structure HInv (row : List Itm) (mp : Int → Option Int) (hk : Int → Option Int) : Prop where
  dist : Dist row
  full : Full row mp
  ordd : Ordd row
  holds : ∀ k r, hk k = some r ↔ Has row (k, r)

theorem HInv.new : HInv [] (fun _ => none) (fun _ => none) := by
  refine ⟨fun a b ha => by simp at ha, ⟨fun j hj => by simp at hj, fun k v h => (by cases h)⟩, fun j hj => (by simp at hj), fun k r => ⟨fun h => (by cases h), fun ⟨j, hj, _⟩ => (by simp at hj)⟩⟩
theorem HInv.none {row : List Itm} {mp hk : Int → Option Int} (h : HInv row mp hk) (hl : row.length = 0) (k : Int) : hk k = .none := by
  cases hq : hk k with
  | none => rfl
  | some r => obtain ⟨j, hj, _⟩ := (h.holds k r).1 hq; omega
theorem HInv.place {row : List Itm} {mp hk : Int → Option Int} (h : HInv row mp hk) {k a : Int} (hm : mp k = some a) : 0 ≤ a ∧ a < row.length ∧ (gt row a.toNat).1 = k := by
  obtain ⟨j, hj, e⟩ := h.full.2 k a hm
  have := h.full.1 j hj
  rw [e, hm] at this
  have e2 : a = j := Option.some.inj this
  subst e2
  exact ⟨by omega, by omega, by simpa using e⟩

theorem HInv.least {row : List Itm} {mp hk : Int → Option Int} (h : HInv row mp hk) (hn : 0 < row.length) : hk (gt row 0).1 = some (gt row 0).2 ∧ mp (gt row 0).1 = some 0 ∧ ∀ k r, hk k = some r → (gt row 0).2 ≤ r := by
  refine ⟨(h.holds _ _).2 ⟨0, hn, rfl⟩, h.full.1 0 hn, fun k r hr => ?_⟩
  obtain ⟨j, hj, e⟩ := (h.holds k r).1 hr
  have low : ∀ j, j < row.length → lessI (gt row j) (gt row 0) = false := by
    intro j
    induction j using Nat.strongRecOn with
    | ind j ih =>
      intro hj
      by_cases h0 : j = 0
      · subst h0; rw [lessI_not]; omega
      · exact less_tr (ih ((j - 1) / 2) (by omega) (by omega)) (h.ordd j hj (by omega))
  have := low j hj
  rw [e, lessI_not] at this
  simp only at this
  omega

theorem HInv.put {row : List Itm} {mp hk : Int → Option Int} (h : HInv row mp hk) (key rank : Int) : HInv (putF row mp key rank).1 (putF row mp key rank).2 (fun v => if v = key then some rank else hk v) := by
  unfold putF
  cases hm : mp key with
  | some a =>
    obtain ⟨a0, a1, a2⟩ := h.place hm
    obtain ⟨i, rfl⟩ := Int.eq_ofNat_of_zero_le a0
    have hi : i < row.length := by omega
    simp only [Int.toNat_natCast] at a2
    show HInv (fixF (row.set i (key, rank)) mp i (key, rank)).1 (fixF (row.set i (key, rank)) mp i (key, rank)).2 _
    have ek : ∀ j, (gt (row.set i (key, rank)) j).1 = (gt row j).1 := fun j => by
      rw [gt_set _ _ _ _ hi]; split
      · rename_i e; subst e; exact a2.symm
      · rfl
    have ess : (row.set i (key, rank)).set i (key, rank) = row.set i (key, rank) := by rw [List.set_set]
    have d : Dist (row.set i (key, rank)) := fun p q hp hq e => h.dist p q (by simpa using hp) (by simpa using hq) (by rw [ek, ek] at e; exact e)
    have c : Cons (row.set i (key, rank)) mp i := ⟨fun j hj _ => by rw [ek]; exact h.full.1 j (by simpa using hj), fun k v hv => by obtain ⟨j, hj, e⟩ := h.full.2 k v hv; exact ⟨j, by simpa using hj, by rw [ek]; exact e⟩⟩
    have o : Hole (row.set i (key, rank)) i := by
      refine ⟨fun j hj h0 h1 h2 => ?_, fun h0 q hq q0 q1 => ?_⟩
      · rw [gt_set _ _ _ _ hi, if_neg h1, gt_set _ _ _ _ hi, if_neg h2]; exact h.ordd j (by simpa using hj) h0
      · rw [gt_set _ _ _ _ hi, if_neg (by omega), gt_set _ _ _ _ hi, if_neg (by omega)]
        have h2 := h.ordd q (by simpa using hq) q0
        rw [q1] at h2
        exact less_tr (h.ordd i hi h0) h2
    have L := fixF_law (row.set i (key, rank)) mp i (key, rank) (by simpa using hi) (by rw [ess]; exact d) (by rw [ess]; exact c) (by rw [ess]; exact o)
    rw [ess] at L
    obtain ⟨b1, b2, b3, b4⟩ := L
    refine ⟨b1, b3, b4, fun k r => ?_⟩
    rw [b2]
    by_cases hkk : k = key
    · subst hkk
      rw [if_pos rfl]
      constructor
      · intro e; cases e; exact ⟨i, by simpa using hi, by rw [gt_set _ _ _ _ hi, if_pos rfl]⟩
      · rintro ⟨j, hj, e⟩
        have hj' : j < row.length := by simpa using hj
        have e1 : (gt row j).1 = k := by rw [← ek, e]
        have := h.dist j i hj' hi (by rw [e1, a2])
        subst this
        rw [gt_set _ _ _ _ hi, if_pos rfl] at e
        cases e; rfl
    · rw [if_neg hkk, h.holds]
      constructor
      · rintro ⟨j, hj, e⟩
        refine ⟨j, by simpa using hj, ?_⟩
        rw [gt_set _ _ _ _ hi, if_neg ?_]; exact e
        rintro rfl
        rw [e] at a2; exact hkk a2
      · rintro ⟨j, hj, e⟩
        refine ⟨j, by simpa using hj, ?_⟩
        rw [gt_set _ _ _ _ hi] at e
        split at e
        · cases e; exact absurd rfl hkk
        · exact e
  | none =>
    show HInv (fixF (row ++ [(key, rank)]) mp row.length (key, rank)).1 (fixF (row ++ [(key, rank)]) mp row.length (key, rank)).2 _
    have ess : (row ++ [(key, rank)]).set row.length (key, rank) = row ++ [(key, rank)] := by simp
    have gl : gt (row ++ [(key, rank)]) row.length = (key, rank) := by simp [gt, List.getD]
    have go : ∀ j, j < row.length → gt (row ++ [(key, rank)]) j = gt row j := fun j hj => by
      unfold gt; rw [List.getD_eq_getElem?_getD, List.getElem?_append_left hj, List.getD_eq_getElem?_getD]
    have hnk : ∀ j, j < row.length → (gt row j).1 ≠ key := fun j hj e => by
      have := h.full.1 j hj; rw [e, hm] at this; cases this
    have hlen : (row ++ [(key, rank)]).length = row.length + 1 := by simp
    have d : Dist (row ++ [(key, rank)]) := by
      intro p q hp hq e
      rw [hlen] at hp hq
      by_cases p1 : p = row.length <;> by_cases q1 : q = row.length
      · omega
      · rw [p1, gl, go q (by omega)] at e; exact absurd e.symm (hnk q (by omega))
      · rw [q1, gl, go p (by omega)] at e; exact absurd e (hnk p (by omega))
      · rw [go p (by omega), go q (by omega)] at e; exact h.dist p q (by omega) (by omega) e
    have c : Cons (row ++ [(key, rank)]) mp row.length := by
      refine ⟨fun j hj hj2 => ?_, fun k v hv => ?_⟩
      · rw [hlen] at hj; rw [go j (by omega)]; exact h.full.1 j (by omega)
      · obtain ⟨j, hj, e⟩ := h.full.2 k v hv
        exact ⟨j, by omega, by rw [go j hj]; exact e⟩
    have o : Hole (row ++ [(key, rank)]) row.length := by
      refine ⟨fun j hj h0 h1 h2 => ?_, fun h0 q hq q0 q1 => ?_⟩
      · rw [hlen] at hj; rw [go j (by omega), go _ (by omega)]; exact h.ordd j (by omega) h0
      · rw [hlen] at hq; omega
    have L := fixF_law (row ++ [(key, rank)]) mp row.length (key, rank) (by omega) (by rw [ess]; exact d) (by rw [ess]; exact c) (by rw [ess]; exact o)
    rw [ess] at L
    obtain ⟨b1, b2, b3, b4⟩ := L
    refine ⟨b1, b3, b4, fun k r => ?_⟩
    rw [b2]
    by_cases hkk : k = key
    · subst hkk
      rw [if_pos rfl]
      constructor
      · intro e; cases e; exact ⟨row.length, by omega, gl⟩
      · rintro ⟨j, hj, e⟩
        by_cases j1 : j = row.length
        · rw [j1, gl] at e; cases e; rfl
        · rw [hlen] at hj; rw [go j (by omega)] at e; exact absurd (by rw [e]) (hnk j (by omega))
    · rw [if_neg hkk, h.holds]
      constructor
      · rintro ⟨j, hj, e⟩; exact ⟨j, by omega, by rw [go j hj]; exact e⟩
      · rintro ⟨j, hj, e⟩
        by_cases j1 : j = row.length
        · rw [j1, gl] at e; cases e; exact absurd rfl hkk
        · rw [hlen] at hj; rw [go j (by omega)] at e; exact ⟨j, by omega, e⟩

theorem HInv.drop {row : List Itm} {mp hk : Int → Option Int} (h : HInv row mp hk) (hn : 0 < row.length) : HInv (dropF row mp (gt row 0).1).1 (dropF row mp (gt row 0).1).2 (fun v => if v = (gt row 0).1 then .none else hk v) := by
  unfold dropF
  have hd0 : ∀ j, j < row.length → (gt row j).1 = (gt row 0).1 → j = 0 := fun j hj e => h.dist j 0 hj hn e
  split
  · rename_i h1
    have : HInv [] (fun _ => .none) (fun _ => .none) := HInv.new
    refine ⟨this.dist, this.full, this.ordd, fun k r => ?_⟩
    rw [← this.holds]
    split
    · exact Iff.rfl
    · rename_i hk1
      rw [h.holds]
      constructor
      · rintro ⟨j, hj, e⟩
        have : j = 0 := by omega
        subst this; rw [e] at hk1; exact absurd rfl hk1
      · intro e; cases e
  · rename_i h1
    obtain ⟨n, hn1⟩ : ∃ n, row.length - 1 = n := ⟨_, rfl⟩
    rw [hn1]
    have hl : row.length = n + 1 := by omega
    have hn0 : 0 < n := by omega
    have htl : (row.take n).length = n := by rw [List.length_take]; omega
    have hsl : ((row.take n).set 0 (row.getD n zI)).length = n := by rw [List.length_set, htl]
    have ess : ((row.take n).set 0 (row.getD n zI)).set 0 (row.getD n zI) = (row.take n).set 0 (row.getD n zI) := by rw [List.set_set]
    have go : ∀ j, j < n → gt ((row.take n).set 0 (row.getD n zI)) j = if j = 0 then gt row n else gt row j := fun j hj => by
      rw [gt_set _ _ _ _ (by omega)]
      split
      · rfl
      · unfold gt; rw [List.getD_eq_getElem?_getD, List.getElem?_take_of_lt hj, List.getD_eq_getElem?_getD]
    have d : Dist ((row.take n).set 0 (row.getD n zI)) := by
      intro p q hp hq e
      rw [hsl] at hp hq
      rw [go p hp, go q hq] at e
      split at e <;> split at e
      · omega
      · have := h.dist n q (by omega) (by omega) e; omega
      · have := h.dist p n (by omega) (by omega) e; omega
      · exact h.dist p q (by omega) (by omega) e
    have c : Cons ((row.take n).set 0 (row.getD n zI)) (mdel mp (gt row 0).1) 0 := by
      refine ⟨fun j hj hj0 => ?_, fun k v hv => ?_⟩
      · rw [hsl] at hj
        rw [go j hj, if_neg hj0]
        unfold mdel
        rw [if_neg (fun e => hj0 (hd0 j (by omega) e))]
        exact h.full.1 j (by omega)
      · unfold mdel at hv
        split at hv
        · cases hv
        · rename_i hk0
          obtain ⟨j, hj, e⟩ := h.full.2 k v hv
          by_cases jn : j = n
          · exact ⟨0, by omega, by rw [go 0 hn0, if_pos rfl, ← jn]; exact e⟩
          · refine ⟨j, by omega, ?_⟩
            rw [go j (by omega), if_neg ?_]; exact e
            rintro rfl; exact hk0 e.symm
    have o : Hole ((row.take n).set 0 (row.getD n zI)) 0 := by
      refine ⟨fun j hj h0 h1 h2 => ?_, fun h0 => by omega⟩
      rw [hsl] at hj
      rw [go j hj, if_neg h1, go _ (by omega), if_neg h2]; exact h.ordd j (by omega) h0
    have L := fixF_law ((row.take n).set 0 (row.getD n zI)) (mdel mp (gt row 0).1) 0 (row.getD n zI) (by omega) (by rw [ess]; exact d) (by rw [ess]; exact c) (by rw [ess]; exact o)
    rw [ess] at L
    obtain ⟨b1, b2, b3, b4⟩ := L
    refine ⟨b1, b3, b4, fun k r => ?_⟩
    rw [b2]
    by_cases hkk : k = (gt row 0).1
    · rw [if_pos hkk]
      constructor
      · intro e; cases e
      · rintro ⟨j, hj, e⟩
        rw [hsl] at hj
        rw [go j hj] at e
        split at e
        · have := hd0 n (by omega) (by rw [e]; exact hkk); omega
        · rename_i j0
          exact absurd (hd0 j (by omega) (by rw [e]; exact hkk)) j0
    · rw [if_neg hkk, h.holds]
      constructor
      · rintro ⟨j, hj, e⟩
        by_cases jn : j = n
        · exact ⟨0, by omega, by rw [go 0 hn0, if_pos rfl, ← jn]; exact e⟩
        · refine ⟨j, by omega, ?_⟩
          rw [go j (by omega), if_neg ?_]; exact e
          rintro rfl; rw [e] at hkk; exact hkk rfl
      · rintro ⟨j, hj, e⟩
        rw [hsl] at hj
        rw [go j hj] at e
        split at e
        · exact ⟨n, by omega, e⟩
        · exact ⟨j, by omega, e⟩
end Go.Proofs.Ytpkhdipedmihgaa.P
