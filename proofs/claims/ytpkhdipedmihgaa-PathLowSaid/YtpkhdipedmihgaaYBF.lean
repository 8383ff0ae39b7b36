/- Shortest walks: what distances are, that they are alone, that rounds over the arcs find them. Plain, no program. -/
namespace Go.Proofs.Ytpkhdipedmihgaa.BFT
set_option linter.unusedVariables false
set_option linter.unusedSimpArgs false
/-- Walks from s along arcs E. -/
inductive Walk (E : Int → Int → Int → Prop) (s : Int) : Int → Int → Prop
  | nil : Walk E s s 0
  | snoc {u v L w : Int} : Walk E s u L → E u v w → Walk E s v (L + w)

def Rch (E : Int → Int → Int → Prop) (s v : Int) : Prop := ∃ L, Walk E s v L
def Mn (E : Int → Int → Int → Prop) (s v m : Int) : Prop := Walk E s v m ∧ ∀ L, Walk E s v L → m ≤ L
def IsDist (E : Int → Int → Int → Prop) (s : Int) (n : Nat) (far : Int) (d : Int → Int) : Prop :=
  ∀ v : Int, 0 ≤ v → v < n → (Rch E s v ∧ Mn E s v (d v)) ∨ (¬ Rch E s v ∧ d v = far)

theorem Mn.uniq {E : Int → Int → Int → Prop} {s v a b : Int} (h : Mn E s v a) (k : Mn E s v b) : a = b := by
  have := h.2 _ k.1
  have := k.2 _ h.1
  omega

theorem IsDist.uniq {E : Int → Int → Int → Prop} {s : Int} {n : Nat} {far : Int} {d e : Int → Int} (hd : IsDist E s n far d) (he : IsDist E s n far e)
    (v : Int) (h0 : 0 ≤ v) (h1 : v < n) : d v = e v := by
  rcases hd v h0 h1 with ⟨r, m⟩ | ⟨r, m⟩ <;> rcases he v h0 h1 with ⟨r', m'⟩ | ⟨r', m'⟩
  · exact m.uniq m'
  · exact absurd r r'
  · exact absurd r' r
  · rw [m, m']

theorem Walk.range {E : Int → Int → Int → Prop} {s v L : Int} {n : Nat} (hE : ∀ u v w, E u v w → 0 ≤ v ∧ v < n) (hs : 0 ≤ s ∧ s < n) (h : Walk E s v L) : 0 ≤ v ∧ v < n := by
  cases h with
  | nil => exact hs
  | snoc _ e => exact hE _ _ _ e

/-- Feasible and attained: the distances. -/
theorem isDist_of {E : Int → Int → Int → Prop} {s : Int} {n : Nat} {far : Int} {d : Int → Int}
    (hatt : ∀ v : Int, 0 ≤ v → v < n → d v ≠ far → Walk E s v (d v)) (h0 : d s ≤ 0) (h1 : d s ≠ far)
    (hf : ∀ u v w, E u v w → d u ≠ far → d v ≠ far ∧ d v ≤ d u + w) : IsDist E s n far d := by
  have key : ∀ v L, Walk E s v L → d v ≠ far ∧ d v ≤ L := by
    intro v L h
    induction h with
    | nil => exact ⟨h1, h0⟩
    | snoc _ e ih =>
      have := hf _ _ _ e ih.1
      exact ⟨this.1, by omega⟩
  intro v hv0 hv1
  by_cases hv : d v = far
  · exact .inr ⟨fun ⟨L, hL⟩ => (key v L hL).1 hv, hv⟩
  · have := hatt v hv0 hv1 hv
    exact .inl ⟨⟨_, this⟩, this, fun L hL => (key v L hL).2⟩

/-! ### lists of numbers -/
def rd (xs : List Int) (i : Int) : Int := xs.getD i.toNat 0
theorem rd_set (xs : List Int) (i v j : Int) (h0 : 0 ≤ i) (h1 : i < xs.length) (hj : 0 ≤ j) : rd (xs.set i.toNat v) j = if j = i then v else rd xs j := by
  unfold rd
  simp only [List.getD_eq_getElem?_getD, List.getElem?_set]
  by_cases h : j = i
  · subst h; simp [show j.toNat < xs.length by omega]
  · have : i.toNat ≠ j.toNat := by omega
    simp [this, h]
theorem rd_ext {xs ys : List Int} (hl : xs.length = ys.length) (h : ∀ v : Int, 0 ≤ v → v < xs.length → rd xs v = rd ys v) : xs = ys := by
  apply List.ext_getElem hl
  intro i h1 h2
  have := h i (by omega) (by omega)
  simpa [rd, h1, h2] using this

structure Arc where
  fr : Int
  to : Int
  len : Int
  deriving DecidableEq

def EE (l : List Arc) (u v w : Int) : Prop := (⟨u, v, w⟩ : Arc) ∈ l

def Far : Int := 1152921504606846976

def rx (d : List Int) (a : Arc) : List Int :=
  if rd d a.fr ≠ Far ∧ rd d a.fr + a.len < rd d a.to then d.set a.to.toNat (rd d a.fr + a.len) else d
def round (l : List Arc) (d : List Int) : List Int := l.foldl rx d

def Okl (n : Nat) (W : Int) (l : List Arc) : Prop := ∀ a ∈ l, 0 ≤ a.fr ∧ a.fr < n ∧ 0 ≤ a.to ∧ a.to < n ∧ -W ≤ a.len ∧ a.len ≤ W
/-- Values: Far, or within bounds. -/
def Bnd (d : List Int) (B : Int) : Prop := ∀ v : Int, 0 ≤ v → v < d.length → rd d v = Far ∨ (-B ≤ rd d v ∧ rd d v ≤ B)
def Att (E : Int → Int → Int → Prop) (s : Int) (d : List Int) : Prop := ∀ v : Int, 0 ≤ v → v < d.length → rd d v ≠ Far → Walk E s v (rd d v)
/-- less or equal everywhere -/
def Le (d e : List Int) : Prop := d.length = e.length ∧ ∀ v : Int, 0 ≤ v → v < d.length → rd d v ≤ rd e v

theorem rx_length (d : List Int) (a : Arc) : (rx d a).length = d.length := by unfold rx; split <;> simp
theorem round_length (l : List Arc) (d : List Int) : (round l d).length = d.length := by
  unfold round
  induction l generalizing d with
  | nil => rfl
  | cons a l ih => simp only [List.foldl_cons]; rw [ih, rx_length]

theorem rx_rd (d : List Int) (a : Arc) (n : Nat) (hn : d.length = n) (h : 0 ≤ a.to ∧ a.to < n) (v : Int) (hv : 0 ≤ v) :
    rd (rx d a) v = if rd d a.fr ≠ Far ∧ rd d a.fr + a.len < rd d a.to ∧ v = a.to then rd d a.fr + a.len else rd d v := by
  unfold rx
  by_cases c : rd d a.fr ≠ Far ∧ rd d a.fr + a.len < rd d a.to
  · rw [if_pos c, rd_set _ _ _ _ h.1 (by omega) hv]
    by_cases e : v = a.to <;> simp [e, c]
  · rw [if_neg c, if_neg (fun k => c ⟨k.1, k.2.1⟩)]

theorem rx_le (d : List Int) (a : Arc) (n : Nat) (hn : d.length = n) (h : 0 ≤ a.to ∧ a.to < n) : Le (rx d a) d := by
  refine ⟨rx_length _ _, fun v h0 h1 => ?_⟩
  rw [rx_rd d a n hn h v h0]
  split
  · rename_i c; rw [c.2.2]; omega
  · omega

theorem Le.refl (d : List Int) : Le d d := ⟨rfl, fun _ _ _ => by omega⟩
theorem Le.trans {a b c : List Int} (h : Le a b) (k : Le b c) : Le a c := ⟨h.1.trans k.1, fun v h0 h1 => by
  have := h.2 v h0 h1
  have := k.2 v h0 (by rw [← h.1]; exact h1)
  omega⟩

theorem round_le (l : List Arc) (n : Nat) (W : Int) (hl : Okl n W l) : ∀ (d : List Int), d.length = n → Le (round l d) d := by
  unfold round
  induction l with
  | nil => intro d _; exact Le.refl d
  | cons a l ih =>
    intro d hd
    have ha := hl a (by simp)
    simp only [List.foldl_cons]
    exact (ih (fun b hb => hl b (by simp [hb])) (rx d a) (by rw [rx_length, hd])).trans (rx_le d a n hd ⟨ha.2.2.1, ha.2.2.2.1⟩)

theorem rx_att (E : Int → Int → Int → Prop) (s : Int) (d : List Int) (a : Arc) (n : Nat) (hn : d.length = n) (ha : 0 ≤ a.fr ∧ a.fr < n ∧ 0 ≤ a.to ∧ a.to < n) (hE : E a.fr a.to a.len)
    (h : Att E s d) : Att E s (rx d a) := by
  intro v h0 h1 h2
  rw [rx_length] at h1
  rw [rx_rd d a n hn ⟨ha.2.2.1, ha.2.2.2⟩ v h0] at h2 ⊢
  split at h2
  · rename_i c
    rw [if_pos c]
    have := h a.fr ha.1 (by omega) c.1
    rw [c.2.2]
    exact this.snoc hE
  · rename_i c
    rw [if_neg c]
    exact h v h0 h1 h2

theorem rx_bnd (d : List Int) (a : Arc) (n : Nat) (W B : Int) (hn : d.length = n) (ha : 0 ≤ a.fr ∧ a.fr < n ∧ 0 ≤ a.to ∧ a.to < n ∧ -W ≤ a.len ∧ a.len ≤ W) (hW : 0 ≤ W) (h : Bnd d B) : Bnd (rx d a) (B + W) := by
  intro v h0 h1
  rw [rx_length] at h1
  rw [rx_rd d a n hn ⟨ha.2.2.1, ha.2.2.2.1⟩ v h0]
  split
  · rename_i c
    rcases h a.fr ha.1 (by omega) with k | k
    · exact absurd k c.1
    · right; omega
  · rcases h v h0 h1 with k | k
    · exact .inl k
    · right; omega

theorem round_bnd (l : List Arc) (n : Nat) (W : Int) (hW : 0 ≤ W) (hl : Okl n W l) : ∀ (d : List Int) (B : Int), d.length = n → Bnd d B → Bnd (round l d) (B + l.length * W) := by
  unfold round
  induction l with
  | nil => intro d B _ h; simpa using h
  | cons a l ih =>
    intro d B hd h
    simp only [List.foldl_cons]
    have := ih (fun b hb => hl b (by simp [hb])) (rx d a) (B + W) (by rw [rx_length, hd]) (rx_bnd d a n W B hd (hl a (by simp)) hW h)
    have e : B + W + (l.length : Int) * W = B + ((a :: l).length : Int) * W := by
      simp only [List.length_cons, Int.natCast_add, Int.natCast_one, Int.add_mul]; omega
    rw [← e]; exact this

theorem round_att (E : Int → Int → Int → Prop) (s : Int) (l : List Arc) (n : Nat) (W : Int) (hl : Okl n W l) (hE : ∀ a ∈ l, E a.fr a.to a.len) : ∀ (d : List Int), d.length = n → Att E s d → Att E s (round l d) := by
  unfold round
  induction l with
  | nil => intro d _ h; exact h
  | cons a l ih =>
    intro d hd h
    simp only [List.foldl_cons]
    have ha := hl a (by simp)
    exact ih (fun b hb => hl b (by simp [hb])) (fun b hb => hE b (by simp [hb])) (rx d a) (by rw [rx_length, hd]) (rx_att E s d a n hd ⟨ha.1, ha.2.1, ha.2.2.1, ha.2.2.2.1⟩ (hE a (by simp)) h)

/-- one round relaxes each arc -/
theorem round_relax (l : List Arc) (n : Nat) (W : Int) (hW : 0 ≤ W) (hl : Okl n W l) : ∀ (d : List Int) (B : Int), d.length = n → Bnd d B → B + l.length * W < Far →
    ∀ a ∈ l, rd d a.fr ≠ Far → rd (round l d) a.to ≤ rd d a.fr + a.len := by
  unfold round
  induction l with
  | nil => intro d B _ _ _ a ha; cases ha
  | cons b l ih =>
    intro d B hd hB hF a ha hfr
    simp only [List.foldl_cons]
    have hb := hl b (by simp)
    have e : B + W + (l.length : Int) * W = B + ((b :: l).length : Int) * W := by
      simp only [List.length_cons, Int.natCast_add, Int.natCast_one, Int.add_mul]; omega
    have hlW : 0 ≤ (l.length : Int) * W := Int.mul_nonneg (by omega) hW
    have hl' : Okl n W l := fun c hc => hl c (by simp [hc])
    have hd' : (rx d b).length = n := by rw [rx_length, hd]
    have hB' := rx_bnd d b n W B hd hb hW hB
    have hle := rx_le d b n hd ⟨hb.2.2.1, hb.2.2.2.1⟩
    have ha' := hl a ha
    rcases List.mem_cons.1 ha with rfl | ha2
    · have h1 := (round_le l n W hl' (rx d a) hd').2 a.to ha'.2.2.1 (by rw [show (round l (rx d a)).length = n by rw [round_length, hd']]; omega)
      unfold round at h1
      have h2 : rd (rx d a) a.to ≤ rd d a.fr + a.len := by
        rw [rx_rd d a n hd ⟨hb.2.2.1, hb.2.2.2.1⟩ _ hb.2.2.1]
        split
        · omega
        · rename_i c
          have : ¬ (rd d a.fr + a.len < rd d a.to) := fun k => c ⟨hfr, k, rfl⟩
          omega
      omega
    · have hx := hle.2 a.fr ha'.1 (by omega)
      have hnf : rd (rx d b) a.fr ≠ Far := by
        rcases hB a.fr ha'.1 (by omega) with k | k
        · exact absurd k hfr
        · omega
      have := ih hl' (rx d b) (B + W) hd' hB' (by omega) a ha2 hnf
      omega

/-- a round that changes nothing: feasible -/
theorem round_fix (l : List Arc) (n : Nat) (W : Int) (hW : 0 ≤ W) (hl : Okl n W l) (d : List Int) (B : Int) (hd : d.length = n) (hB : Bnd d B) (hF : B + l.length * W < Far)
    (h : round l d = d) : ∀ a ∈ l, rd d a.fr ≠ Far → rd d a.to ≠ Far ∧ rd d a.to ≤ rd d a.fr + a.len := by
  intro a ha hfr
  have h1 := round_relax l n W hW hl d B hd hB hF a ha hfr
  rw [h] at h1
  refine ⟨?_, h1⟩
  have ha' := hl a ha
  rcases hB a.fr ha'.1 (by omega) with k | k
  · exact absurd k hfr
  · have : W ≤ l.length * W := by
      have h1 : (1 : Int) ≤ l.length := by have := List.length_pos_of_mem ha; omega
      have := Int.mul_le_mul_of_nonneg_right h1 hW
      omega
    omega

theorem isDist_fix (l : List Arc) (n : Nat) (W : Int) (hW : 0 ≤ W) (hl : Okl n W l) (s : Int) (d : List Int) (B : Int) (hd : d.length = n) (hB : Bnd d B)
    (hF : B + l.length * W < Far) (h : round l d = d) (hatt : Att (EE l) s d) (h0 : rd d s ≤ 0) : IsDist (EE l) s n Far (rd d) := by
  refine isDist_of (fun v a b c => hatt v a (by omega) c) h0 ?_ (fun u v w e c => ?_)
  · have : (0 : Int) < Far := by decide
    omega
  · exact round_fix l n W hW hl d B hd hB hF h ⟨u, v, w⟩ e c

/-! ### how many rounds -/
/-- the places that are right -/
def Good (E : Int → Int → Int → Prop) (s : Int) (d : List Int) (v : Int) : Prop := (¬ Rch E s v ∧ rd d v = Far) ∨ (rd d v ≠ Far ∧ Mn E s v (rd d v))

/-- If some reached place is not right, there is an arc from a right one to a wrong one, both tight. -/
theorem front {E : Int → Int → Int → Prop} {s : Int} (d : List Int) (hs : Good E s d s) {v m : Int} (h : Mn E s v m) (hv : ¬ Good E s d v) :
    ∃ a b w x, Good E s d a ∧ ¬ Good E s d b ∧ E a b w ∧ Mn E s a x ∧ Mn E s b (x + w) := by
  obtain ⟨hw, hm⟩ := h
  induction hw with
  | nil => exact absurd hs hv
  | @snoc u v L w hu e ih =>
    have hmu : ∀ L', Walk E s u L' → L ≤ L' := fun L' h' => by have := hm _ (h'.snoc e); omega
    by_cases g : Good E s d u
    · exact ⟨u, v, w, L, g, hv, e, ⟨hu, hmu⟩, ⟨hu.snoc e, hm⟩⟩
    · exact ih g hmu

def cnt (p : Nat → Bool) : Nat → Nat
  | 0 => 0
  | n + 1 => cnt p n + (if p n then 1 else 0)
theorem cnt_le (p : Nat → Bool) (n : Nat) : cnt p n ≤ n := by induction n with
  | zero => exact Nat.le_refl _
  | succ n ih => simp only [cnt]; split <;> omega
theorem cnt_mono {p q : Nat → Bool} {n : Nat} (h : ∀ i, i < n → p i = true → q i = true) : cnt p n ≤ cnt q n := by
  induction n with
  | zero => exact Nat.le_refl _
  | succ n ih =>
    have := ih (fun i hi => h i (by omega))
    have := h n (by omega)
    simp only [cnt]
    cases hp : p n <;> cases hq : q n <;> simp_all <;> omega
theorem cnt_lt {p q : Nat → Bool} {n j : Nat} (h : ∀ i, i < n → p i = true → q i = true) (hj : j < n) (h1 : p j = false) (h2 : q j = true) : cnt p n < cnt q n := by
  induction n with
  | zero => omega
  | succ n ih =>
    simp only [cnt]
    by_cases e : j = n
    · subst e
      have := cnt_mono (p := p) (q := q) (n := j) (fun i hi => h i (by omega))
      simp [h1, h2]; omega
    · have := ih (fun i hi => h i (by omega)) (by omega)
      have := h n (by omega)
      cases hp : p n <;> cases hq : q n <;> simp_all <;> omega
theorem cnt_all {p : Nat → Bool} {n : Nat} (h : cnt p n = n) : ∀ i, i < n → p i = true := by
  induction n with
  | zero => intro i hi; omega
  | succ n ih =>
    have := cnt_le p n
    simp only [cnt] at h
    intro i hi
    by_cases e : i = n
    · subst e; cases hp : p i <;> simp_all <;> omega
    · exact ih (by split at h <;> omega) i (by omega)

/-- every place that is reached has a shortest walk -/
def HasMin (E : Int → Int → Int → Prop) (s : Int) : Prop := ∀ v, Rch E s v → ∃ m, Mn E s v m

theorem good_keep (E : Int → Int → Int → Prop) (s : Int) (d e : List Int) (hle : Le e d) (hatt : Att E s e) (v : Int) (h0 : 0 ≤ v) (h1 : v < e.length) (hf : rd d v ≤ Far) (h : Good E s d v) : Good E s e v := by
  have hx := hle.2 v h0 h1
  by_cases c : rd e v = Far
  · rcases h with h | h
    · exact .inl ⟨h.1, c⟩
    · omega
  · have hw := hatt v h0 h1 c
    rcases h with h | h
    · exact absurd ⟨_, hw⟩ h.1
    · have := h.2.2 _ hw
      have : rd e v = rd d v := by omega
      exact .inr ⟨c, this ▸ h.2⟩

open Classical in
noncomputable def goods (E : Int → Int → Int → Prop) (s : Int) (d : List Int) (i : Nat) : Bool := decide (Good E s d i)

open Classical in
theorem goods_true {E : Int → Int → Int → Prop} {s : Int} {d : List Int} {i : Nat} : goods E s d i = true ↔ Good E s d i := by unfold goods; exact decide_eq_true_iff

theorem bnd_far {d : List Int} {B : Int} (h : Bnd d B) (hB : B < Far) (v : Int) (h0 : 0 ≤ v) (h1 : v < d.length) : rd d v ≤ Far := by
  rcases h v h0 h1 with k | k <;> omega

/-- one round: more places are right, or all are -/
theorem round_more (l : List Arc) (n : Nat) (W : Int) (hW : 0 ≤ W) (hl : Okl n W l) (s : Int) (d : List Int) (B : Int) (hd : d.length = n) (hB : Bnd d B) (hF : B + l.length * W < Far)
    (hatt : Att (EE l) s d) (hs : Good (EE l) s d s) (hmin : HasMin (EE l) s) :
    (∀ i, i < n → goods (EE l) s d i = true) ∨ cnt (goods (EE l) s d) n < cnt (goods (EE l) s (round l d)) n := by
  by_cases hall : ∀ i, i < n → goods (EE l) s d i = true
  · exact .inl hall
  refine .inr ?_
  have hlW : 0 ≤ (l.length : Int) * W := Int.mul_nonneg (by omega) hW
  have hle := round_le l n W hl d hd
  have hatt' := round_att (EE l) s l n W hl (fun a ha => ha) d hd hatt
  have hkeep : ∀ i, i < n → goods (EE l) s d i = true → goods (EE l) s (round l d) i = true := by
    intro i hi h
    simp only [goods, decide_eq_true_eq] at h ⊢
    exact good_keep _ s d _ hle hatt' i (by omega) (by rw [round_length, hd]; omega) (bnd_far hB (by omega) i (by omega) (by omega)) h
  simp only [Classical.not_forall] at hall
  obtain ⟨i, hi, hg⟩ := hall
  have hg' : ¬ Good (EE l) s d i := by simpa [goods] using hg
  have hr : Rch (EE l) s i := by
    by_cases c : Rch (EE l) s i
    · exact c
    · exfalso
      refine hg' (.inl ⟨c, ?_⟩)
      by_cases c2 : rd d i = Far
      · exact c2
      · exact absurd ⟨_, hatt i (by omega) (by omega) c2⟩ c
  obtain ⟨m, hm⟩ := hmin _ hr
  obtain ⟨a, b, w, x, ga, gb, e, ma, mb⟩ := front d hs hm hg'
  have he := hl _ e
  simp only at he
  have hax : rd d a = x ∧ rd d a ≠ Far := by
    rcases ga with ga | ga
    · exact absurd ⟨_, ma.1⟩ ga.1
    · exact ⟨ga.2.uniq ma, ga.1⟩
  have h1 := round_relax l n W hW hl d B hd hB hF ⟨a, b, w⟩ e hax.2
  simp only at h1
  have hb' : Good (EE l) s (round l d) b := by
    right
    have hlb := hle.2 b he.2.2.1 (by rw [round_length, hd]; omega)
    have hnf : rd (round l d) b ≠ Far := by
      have := (round_bnd l n W hW hl d B hd hB) b he.2.2.1 (by rw [round_length, hd]; omega)
      rcases hB a he.1 (by omega) with k | k
      · exact absurd k hax.2
      · have : W ≤ l.length * W := by
          have h1 : (1 : Int) ≤ l.length := by have := List.length_pos_of_mem e; omega
          have := Int.mul_le_mul_of_nonneg_right h1 hW
          omega
        omega
    have hw := hatt' b he.2.2.1 (by rw [round_length, hd]; omega) hnf
    have := mb.2 _ hw
    have e2 : rd (round l d) b = x + w := by omega
    exact ⟨hnf, by rw [e2]; exact mb⟩
  refine cnt_lt (j := b.toNat) hkeep (by omega) ?_ ?_
  · simp only [goods, decide_eq_false_iff_not]; rw [show ((b.toNat : Nat) : Int) = b by omega]; exact gb
  · simp only [goods, decide_eq_true_eq]; rw [show ((b.toNat : Nat) : Int) = b by omega]; exact hb'

theorem Walk.cat {E : Int → Int → Int → Prop} {s u K : Int} (h : Walk E s u K) {v L : Int} (k : Walk E u v L) : Walk E s v (K + L) := by
  induction k with
  | nil => simpa using h
  | snoc _ e ih => rw [← Int.add_assoc]; exact ih.snoc e

theorem mn_self {E : Int → Int → Int → Prop} {s : Int} (h : HasMin E s) : Mn E s s 0 := by
  obtain ⟨m, hm⟩ := h s ⟨0, .nil⟩
  have h1 := hm.2 _ .nil
  have h2 := hm.2 _ (hm.1.cat hm.1)
  have : m = 0 := by omega
  exact this ▸ hm

def it (l : List Arc) : Nat → List Int → List Int
  | 0, d => d
  | k + 1, d => it l k (round l d)
theorem it_succ (l : List Arc) (k : Nat) (d : List Int) : it l (k + 1) d = round l (it l k d) := by
  induction k generalizing d with
  | zero => rfl
  | succ k ih => rw [it, ih, ← it]
theorem it_length (l : List Arc) (k : Nat) (d : List Int) : (it l k d).length = d.length := by
  induction k generalizing d with
  | zero => rfl
  | succ k ih => rw [it, ih, round_length]

def d0 (n : Nat) (s : Int) : List Int := (List.replicate n Far).set s.toNat 0
theorem d0_length (n : Nat) (s : Int) : (d0 n s).length = n := by simp [d0]
theorem d0_rd (n : Nat) (s v : Int) (h0 : 0 ≤ s) (h1 : s < n) (h2 : 0 ≤ v) (h3 : v < n) : rd (d0 n s) v = if v = s then 0 else Far := by
  unfold d0
  rw [rd_set _ _ _ _ h0 (by simpa using h1) h2]
  split
  · rfl
  · have : v.toNat < n := by omega
    simp [rd, this]

/-- the state after k rounds -/
structure St (l : List Arc) (n : Nat) (W s : Int) (k : Nat) (d : List Int) : Prop where
  len : d.length = n
  bnd : Bnd d (k * (l.length * W))
  att : Att (EE l) s d
  le0 : rd d s ≤ 0

theorem St.zero (l : List Arc) (n : Nat) (W s : Int) (h0 : 0 ≤ s) (h1 : s < n) : St l n W s 0 (d0 n s) := by
  refine ⟨d0_length _ _, fun v a b => ?_, fun v a b c => ?_, ?_⟩
  · rw [d0_length] at b
    rw [d0_rd n s v h0 h1 a b]
    split
    · right; simp
    · left; rfl
  · rw [d0_length] at b
    rw [d0_rd n s v h0 h1 a b] at c ⊢
    split at c
    · rename_i e; rw [if_pos e, e]; exact .nil
    · exact absurd rfl c
  · rw [d0_rd n s s h0 h1 h0 h1, if_pos rfl]; exact Int.le_refl _

theorem St.step {l : List Arc} {n : Nat} {W s : Int} {k : Nat} {d : List Int} (h : St l n W s k d) (hW : 0 ≤ W) (hl : Okl n W l) (h0 : 0 ≤ s) (h1 : s < n) : St l n W s (k + 1) (round l d) := by
  refine ⟨by rw [round_length, h.len], ?_, round_att _ s l n W hl (fun a ha => ha) d h.len h.att, ?_⟩
  · have := round_bnd l n W hW hl d _ h.len h.bnd
    have e : ((k + 1 : Nat) : Int) * (l.length * W) = k * (l.length * W) + l.length * W := by
      rw [Int.natCast_add, Int.add_mul]; simp
    rw [e]; exact this
  · have := (round_le l n W hl d h.len).2 s h0 (by rw [round_length, h.len]; exact h1)
    have := h.le0
    omega

theorem St.it {l : List Arc} {n : Nat} {W s : Int} (hW : 0 ≤ W) (hl : Okl n W l) (h0 : 0 ≤ s) (h1 : s < n) (k : Nat) : St l n W s k (it l k (d0 n s)) := by
  induction k with
  | zero => exact St.zero l n W s h0 h1
  | succ k ih => rw [it_succ]; exact ih.step hW hl h0 h1

/-- where all are right one more round changes nothing -/
theorem fix_of_good (l : List Arc) (n : Nat) (W : Int) (hl : Okl n W l) (s : Int) (d : List Int) (hd : d.length = n) (hatt : Att (EE l) s d)
    (hg : ∀ i, i < n → goods (EE l) s d i = true) : round l d = d := by
  have hle := round_le l n W hl d hd
  have hatt' := round_att (EE l) s l n W hl (fun a ha => ha) d hd hatt
  refine rd_ext hle.1 (fun v a b => ?_)
  rw [round_length, hd] at b
  have g := hg v.toNat (by omega)
  simp only [goods, decide_eq_true_eq] at g
  rw [show ((v.toNat : Nat) : Int) = v by omega] at g
  have h1 := hle.2 v a (by rw [round_length, hd]; exact b)
  by_cases c : rd (round l d) v = Far
  · rcases g with g | g
    · rw [c, g.2]
    · have := hatt v a (by omega) g.1
      have hw : Walk (EE l) s v (rd d v) := g.2.1
      rcases Int.lt_or_le (rd (round l d) v) (rd d v) with k | k
      · exfalso
        have : ∀ (l2 : List Arc), Okl n W l2 → (∀ a ∈ l2, EE l a.fr a.to a.len) → ∀ e : List Int, e.length = n → Att (EE l) s e → rd e v = rd d v → rd (l2.foldl rx e) v = rd d v := by
          intro l2
          induction l2 with
          | nil => intro _ _ e _ _ h; exact h
          | cons x l2 ih =>
            intro ho hE e he hae h
            simp only [List.foldl_cons]
            have hx := ho x (by simp)
            refine ih (fun y hy => ho y (by simp [hy])) (fun y hy => hE y (by simp [hy])) _ (by rw [rx_length, he]) (rx_att _ s e x n he ⟨hx.1, hx.2.1, hx.2.2.1, hx.2.2.2.1⟩ (hE x (by simp)) hae) ?_
            rw [rx_rd e x n he ⟨hx.2.2.1, hx.2.2.2.1⟩ v a]
            split
            · rename_i c2
              have := (hae x.fr hx.1 (by omega) c2.1).snoc (hE x (by simp))
              have := g.2.2 _ (c2.2.2 ▸ this)
              rw [← c2.2.2] at c2
              omega
            · exact h
        have := this l hl (fun a ha => ha) d hd hatt rfl
        unfold round at k
        omega
      · omega
  · have hw := hatt' v a (by rw [round_length, hd]; exact b) c
    rcases g with g | g
    · exact absurd ⟨_, hw⟩ g.1
    · have := g.2.2 _ hw
      omega

/-- within n - 1 rounds nothing changes any more, if each place has a shortest walk -/
theorem stops (l : List Arc) (n : Nat) (W : Int) (hW : 0 ≤ W) (hl : Okl n W l) (s : Int) (h0 : 0 ≤ s) (h1 : s < n) (hF : (n + 1) * (l.length * W) < Far) (hmin : HasMin (EE l) s) :
    ∃ j, j < n ∧ round l (it l j (d0 n s)) = it l j (d0 n s) := by
  have hlW : 0 ≤ (l.length : Int) * W := Int.mul_nonneg (by omega) hW
  have hn : (0 : Int) < n := by omega
  have hstep : ∀ j, j < n → (∃ i, i ≤ j ∧ round l (it l i (d0 n s)) = it l i (d0 n s)) ∨ j + 1 ≤ cnt (goods (EE l) s (it l j (d0 n s))) n := by
    intro j
    induction j with
    | zero =>
      intro _
      right
      have : cnt (goods (EE l) s (it l 0 (d0 n s))) n ≠ 0 := by
        have : cnt (fun _ => false) n < cnt (goods (EE l) s (it l 0 (d0 n s))) n := by
          refine cnt_lt (j := s.toNat) (fun _ _ h => by simp at h) (by omega) rfl ?_
          refine goods_true.2 ?_
          rw [show ((s.toNat : Nat) : Int) = s by omega, it]
          right
          rw [d0_rd n s s h0 h1 h0 h1, if_pos rfl]
          exact ⟨by decide, mn_self hmin⟩
        omega
      omega
    | succ j ih =>
      intro hj
      rcases ih (by omega) with ⟨i, hi, e⟩ | hc
      · exact .inl ⟨i, by omega, e⟩
      · have S := St.it (l := l) (n := n) (s := s) hW hl h0 h1 j
        have hjl : (j : Int) * (l.length * W) + l.length * W < Far := by
          have h2 : ((j : Int) + 1) * (l.length * W) ≤ ((n : Int) + 1) * (l.length * W) := Int.mul_le_mul_of_nonneg_right (by omega) hlW
          rw [Int.add_mul, Int.one_mul] at h2
          omega
        have hgs : Good (EE l) s (it l j (d0 n s)) s := by
          right
          have hm := mn_self hmin
          have hlt : rd (it l j (d0 n s)) s ≠ Far := by
            have := S.le0
            have : (0 : Int) < Far := by decide
            omega
          have hw := S.att s h0 (by rw [S.len]; exact h1) hlt
          have := hm.2 _ hw
          have := S.le0
          have e : rd (it l j (d0 n s)) s = 0 := by omega
          exact ⟨hlt, e ▸ hm⟩
        rcases round_more l n W hW hl s _ _ S.len S.bnd hjl S.att hgs hmin with hall | hlt
        · exact .inl ⟨j, by omega, fix_of_good l n W hl s _ S.len S.att hall⟩
        · right
          rw [it_succ]
          omega
  rcases hstep (n - 1) (by omega) with ⟨i, hi, e⟩ | hc
  · exact ⟨i, by omega, e⟩
  · have hle := cnt_le (goods (EE l) s (it l (n - 1) (d0 n s))) n
    refine ⟨n - 1, by omega, ?_⟩
    have S := St.it (l := l) (n := n) (s := s) hW hl h0 h1 (n - 1)
    exact fix_of_good l n W hl s _ S.len S.att (cnt_all (by omega))

theorem least_nat {p : Nat → Prop} (h : ∃ n, p n) : ∃ n, p n ∧ ∀ m, p m → n ≤ m := by
  obtain ⟨n, hn⟩ := h
  induction n using Nat.strongRecOn with
  | _ n ih =>
    by_cases c : ∃ m, m < n ∧ p m
    · obtain ⟨m, hm, hp⟩ := c; exact ih m hm hp
    · exact ⟨n, hn, fun m hm => by
        rcases Nat.lt_or_ge m n with k | k
        · exact absurd ⟨m, k, hm⟩ c
        · exact k⟩
theorem Walk.nonneg {E : Int → Int → Int → Prop} {s v L : Int} (hE : ∀ u v w, E u v w → 0 ≤ w) (h : Walk E s v L) : 0 ≤ L := by
  induction h with
  | nil => exact Int.le_refl _
  | snoc _ e ih => have := hE _ _ _ e; omega
theorem hasMin_of_nonneg {E : Int → Int → Int → Prop} {s : Int} (hE : ∀ u v w, E u v w → 0 ≤ w) : HasMin E s := by
  rintro v ⟨L, hL⟩
  have h0 := hL.nonneg hE
  obtain ⟨n, hn, hm⟩ := least_nat (p := fun n => Walk E s v n) ⟨L.toNat, by rw [show ((L.toNat : Nat) : Int) = L by omega]; exact hL⟩
  refine ⟨n, hn, fun K hK => ?_⟩
  have k0 := hK.nonneg hE
  have := hm K.toNat (by rw [show ((K.toNat : Nat) : Int) = K by omega]; exact hK)
  omega
theorem hasMin_of_isDist {E : Int → Int → Int → Prop} {s : Int} {n : Nat} {far : Int} {d : Int → Int} (hs : 0 ≤ s ∧ s < n) (hE : ∀ u v w, E u v w → 0 ≤ v ∧ v < n) (h : IsDist E s n far d) : HasMin E s := by
  rintro v ⟨L, hL⟩
  have := hL.range hE hs
  rcases h v this.1 this.2 with k | k
  · exact ⟨_, k.2⟩
  · exact absurd ⟨L, hL⟩ k.1
end Go.Proofs.Ytpkhdipedmihgaa.BFT
