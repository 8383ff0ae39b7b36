/- Distances by a heap: what holds of them, of what is done and of what the heap holds, at each step. Plain, no program. -/
import Derived.Test.YtpkhdipedmihgaaYBF
namespace Go.Proofs.Ytpkhdipedmihgaa.BFT
set_option linter.unusedVariables false
set_option linter.unusedSimpArgs false
def rb (xs : List Bool) (i : Int) : Bool := xs.getD i.toNat false
theorem rb_set (xs : List Bool) (i : Int) (v : Bool) (j : Int) (h0 : 0 ≤ i) (h1 : i < xs.length) (hj : 0 ≤ j) : rb (xs.set i.toNat v) j = if j = i then v else rb xs j := by
  unfold rb
  simp only [List.getD_eq_getElem?_getD, List.getElem?_set]
  by_cases h : j = i
  · subst h; simp [show j.toNat < xs.length by omega]
  · have : i.toNat ≠ j.toNat := by omega
    simp [this, h]

/-- What a heap holds: of each key its rank. -/
def hput (hk : Int → Option Int) (x r : Int) : Int → Option Int := fun v => if v = x then some r else hk v
def hdel (hk : Int → Option Int) (x : Int) : Int → Option Int := fun v => if v = x then none else hk v

structure DJ (l : List Arc) (n : Nat) (W s : Int) (d : List Int) (dn : List Bool) (hk : Int → Option Int) (C : Arc → Prop) (top : Int) : Prop where
  dlen : d.length = n
  nlen : dn.length = n
  att : Att (EE l) s d
  zero : rd d s = 0
  bnd : ∀ v : Int, 0 ≤ v → v < n → rd d v = Far ∨ (0 ≤ rd d v ∧ rd d v ≤ top + W)
  doneF : ∀ u : Int, 0 ≤ u → u < n → rb dn u = true → rd d u ≠ Far ∧ rd d u ≤ top
  opens : ∀ v : Int, 0 ≤ v → v < n → rb dn v = false → rd d v ≠ Far → top ≤ rd d v
  rel : ∀ a ∈ l, rb dn a.fr = true → C a → rd d a.to ≤ rd d a.fr + a.len
  heap : ∀ v : Int, hk v = if 0 ≤ v ∧ v < n ∧ rb dn v = false ∧ rd d v ≠ Far then some (rd d v) else none

def Okn (n : Nat) (W : Int) (l : List Arc) : Prop := ∀ a ∈ l, 0 ≤ a.fr ∧ a.fr < n ∧ 0 ≤ a.to ∧ a.to < n ∧ 0 ≤ a.len ∧ a.len ≤ W

theorem DJ.start (l : List Arc) (n : Nat) (W s : Int) (hW : 0 ≤ W) (h0 : 0 ≤ s) (h1 : s < n) :
    DJ l n W s (d0 n s) (List.replicate n false) (hput (fun _ => none) s 0) (fun _ => True) 0 := by
  have hF : Far = 1152921504606846976 := rfl
  have e : ∀ v : Int, 0 ≤ v → v < n → rb (List.replicate n false) v = false := fun v a b => by unfold rb; simp [show v.toNat < n by omega]
  refine ⟨d0_length _ _, by simp, (St.zero l n W s h0 h1).att, by rw [d0_rd n s s h0 h1 h0 h1, if_pos rfl], ?_, ?_, ?_, ?_, ?_⟩
  · intro v a b
    rw [d0_rd n s v h0 h1 a b]
    split
    · right; omega
    · left; rfl
  · intro u a b c; rw [e u a b] at c; cases c
  · intro v a b _ c
    rw [d0_rd n s v h0 h1 a b] at c ⊢
    split at c
    · rename_i k; rw [if_pos k]; exact Int.le_refl _
    · exact absurd rfl c
  · intro a ha c
    by_cases k : a.fr.toNat < n
    · have : rb (List.replicate n false) a.fr = false := by unfold rb; simp [k]
      rw [this] at c; cases c
    · have : rb (List.replicate n false) a.fr = false := by unfold rb; simp [k]
      rw [this] at c; cases c
  · intro v
    unfold hput
    by_cases k : v = s
    · subst k
      rw [if_pos rfl, if_pos ⟨h0, h1, e v h0 h1, by rw [d0_rd n v v h0 h1 h0 h1, if_pos rfl]; decide⟩, d0_rd n v v h0 h1 h0 h1, if_pos rfl]
    · rw [if_neg k]
      by_cases r : 0 ≤ v ∧ v < n
      · rw [if_neg]; intro c; rw [d0_rd n s v h0 h1 r.1 r.2, if_neg k] at c; exact c.2.2.2 rfl
      · rw [if_neg]; intro c; exact r ⟨c.1, c.2.1⟩

theorem DJ.take {l : List Arc} {n : Nat} {W s : Int} {d : List Int} {dn : List Bool} {hk : Int → Option Int} {top x r : Int} (h : DJ l n W s d dn hk (fun _ => True) top)
    (hl : Okn n W l) (hx : hk x = some r) (hm : ∀ v r', hk v = some r' → r ≤ r') :
    0 ≤ x ∧ x < n ∧ rb dn x = false ∧ r = rd d x ∧ r ≠ Far ∧ top ≤ r ∧ r ≤ top + W ∧ DJ l n W s d (dn.set x.toNat true) (hdel hk x) (fun a => a.fr ≠ x) r := by
  have hx' := h.heap x
  rw [hx] at hx'
  split at hx'
  · rename_i c
    obtain ⟨x0, x1, xd, xf⟩ := c
    have hr : r = rd d x := by simpa using hx'
    have ht := h.opens x x0 x1 xd xf
    have hb := h.bnd x x0 x1
    have hb2 : 0 ≤ rd d x ∧ rd d x ≤ top + W := by rcases hb with k | k; exact absurd k xf; exact k
    have eb : ∀ v : Int, 0 ≤ v → rb (dn.set x.toNat true) v = if v = x then true else rb dn v := fun v hv => rb_set dn x true v x0 (by rw [h.nlen]; exact x1) hv
    refine ⟨x0, x1, xd, hr, hr ▸ xf, by omega, by omega, h.dlen, by simp [h.nlen], h.att, h.zero, ?_, ?_, ?_, ?_, ?_⟩
    · intro v a b
      rcases h.bnd v a b with k | k
      · exact .inl k
      · right; omega
    · intro u a b c
      rw [eb u a] at c
      split at c
      · rename_i k; subst k; exact ⟨xf, by omega⟩
      · have := h.doneF u a b c; exact ⟨this.1, by omega⟩
    · intro v a b c k
      rw [eb v a] at c
      split at c
      · cases c
      · have : hk v = some (rd d v) := by rw [h.heap v, if_pos ⟨a, b, c, k⟩]
        exact hm v _ this
    · intro a ha c k
      have := (hl a ha).1
      rw [eb _ this, if_neg k] at c
      exact h.rel a ha c trivial
    · intro v
      unfold hdel
      by_cases k : v = x
      · subst k
        rw [if_pos rfl, if_neg]
        intro c
        rw [eb v x0, if_pos rfl] at c
        cases c.2.2.1
      · rw [if_neg k, h.heap v]
        by_cases q : 0 ≤ v
        · rw [eb v q, if_neg k]
        · rw [if_neg (fun c => q c.1), if_neg (fun c => q c.1)]
  · cases hx'

/-- one arc that is passed over -/
theorem DJ.skip {l : List Arc} {n : Nat} {W s : Int} {d : List Int} {dn : List Bool} {hk : Int → Option Int} {C : Arc → Prop} {x : Int} (h : DJ l n W s d dn hk C (rd d x))
    (hl : Okn n W l) (x0 : 0 ≤ x) (x1 : x < n) (xd : rb dn x = true) (a : Arc) (ha : a ∈ l)
    (hs : a.fr ≠ x ∨ rb dn a.to = true ∨ ¬ (rd d a.fr + a.len < rd d a.to)) (C' : Arc → Prop) (hC : ∀ b, C' b → C b ∨ (b = a ∧ a.fr = x)) :
    DJ l n W s d dn hk C' (rd d x) := by
  refine ⟨h.dlen, h.nlen, h.att, h.zero, h.bnd, h.doneF, h.opens, ?_, h.heap⟩
  intro b hb c k
  rcases hC b k with q | ⟨rfl, q⟩
  · exact h.rel b hb c q
  · have hb' := hl b hb
    rcases hs with z | z | z
    · exact absurd q z
    · have := h.doneF b.to hb'.2.2.1 hb'.2.2.2.1 z
      rw [q]; omega
    · omega

/-- one arc that makes it shorter -/
theorem DJ.relax {l : List Arc} {n : Nat} {W s : Int} {d : List Int} {dn : List Bool} {hk : Int → Option Int} {C : Arc → Prop} {x : Int} (h : DJ l n W s d dn hk C (rd d x))
    (hl : Okn n W l) (x0 : 0 ≤ x) (x1 : x < n) (xd : rb dn x = true) (a : Arc) (ha : a ∈ l) (hF : rd d x + W < Far)
    (hf : a.fr = x) (ht : rb dn a.to = false) (hlt : rd d a.fr + a.len < rd d a.to) (C' : Arc → Prop) (hC : ∀ b, C' b → C b ∨ b = a) :
    rd (d.set a.to.toNat (rd d a.fr + a.len)) x = rd d x ∧
    DJ l n W s (d.set a.to.toNat (rd d a.fr + a.len)) dn (hput hk a.to (rd d a.fr + a.len)) C' (rd d x) := by
  have ha' := hl a ha
  have hne : x ≠ a.to := by intro e; rw [← e, xd] at ht; cases ht
  have e : ∀ v : Int, 0 ≤ v → rd (d.set a.to.toNat (rd d a.fr + a.len)) v = if v = a.to then rd d a.fr + a.len else rd d v := fun v hv => rd_set d _ _ v ha'.2.2.1 (by rw [h.dlen]; exact ha'.2.2.2.1) hv
  have ex : rd (d.set a.to.toNat (rd d a.fr + a.len)) x = rd d x := by rw [e x x0, if_neg hne]
  have hxF := h.doneF x x0 x1 xd
  have hx0 : 0 ≤ rd d x := by
    rcases h.bnd x x0 x1 with k | k
    · exact absurd k hxF.1
    · exact k.1
  have hs0 : 0 ≤ s ∨ s < 0 := by omega
  refine ⟨ex, by simp [h.dlen], h.nlen, ?_, ?_, ?_, ?_, ?_, ?_, ?_⟩
  · intro v v0 v1 vf
    rw [List.length_set] at v1
    rw [e v v0] at vf ⊢
    split
    · rename_i k
      rw [k]
      have := h.att a.fr ha'.1 (by rw [h.dlen]; exact ha'.2.1) (by rw [hf]; exact hxF.1)
      exact this.snoc ha
    · rename_i k; rw [if_neg k] at vf; exact h.att v v0 v1 vf
  · by_cases k : s.toNat = a.to.toNat
    · exfalso
      have : rd d a.to = rd d s := by unfold rd; rw [k]
      rw [h.zero] at this
      rw [hf] at hlt
      omega
    · have : rd (d.set a.to.toNat (rd d a.fr + a.len)) s = rd d s := by
        unfold rd
        simp only [List.getD_eq_getElem?_getD, List.getElem?_set]
        rw [if_neg (fun q => k q.symm)]
      rw [this]; exact h.zero
  · intro v v0 v1
    rw [e v v0]
    split
    · right; rw [hf]; omega
    · exact h.bnd v v0 v1
  · intro u u0 u1 c
    have := h.doneF u u0 u1 c
    rw [e u u0]
    split
    · rename_i k; rw [k, ht] at c; cases c
    · exact this
  · intro v v0 v1 c k
    rw [e v v0] at k ⊢
    split
    · rw [hf]; omega
    · rename_i q; rw [if_neg q] at k; exact h.opens v v0 v1 c k
  · intro b hb c k
    have hb' := hl b hb
    have hbt : b.fr ≠ a.to := by intro q; rw [q, ht] at c; cases c
    rw [e _ hb'.1, if_neg hbt, e _ hb'.2.2.1]
    rcases hC b k with q | q
    · have := h.rel b hb c q
      split
      · rename_i z; rw [z] at this; omega
      · exact this
    · subst q; rw [if_pos rfl]; exact Int.le_refl _
  · intro v
    unfold hput
    by_cases k : v = a.to
    · subst k
      rw [if_pos rfl, if_pos, e _ ha'.2.2.1, if_pos rfl]
      refine ⟨ha'.2.2.1, ha'.2.2.2.1, ht, ?_⟩
      rw [e _ ha'.2.2.1, if_pos rfl, hf]; omega
    · rw [if_neg k, h.heap v]
      by_cases q : 0 ≤ v
      · rw [e v q, if_neg k]
      · rw [if_neg (fun c => q c.1), if_neg (fun c => q c.1)]

/-- nothing left in the heap: these are the distances -/
theorem DJ.done {l : List Arc} {n : Nat} {W s : Int} {d : List Int} {dn : List Bool} {hk : Int → Option Int} {top : Int} (h : DJ l n W s d dn hk (fun _ => True) top)
    (hl : Okn n W l) (hF : top + W < Far) (he : ∀ v, hk v = none) : IsDist (EE l) s n Far (rd d) := by
  refine isDist_of (fun v a b c => h.att v a (by rw [h.dlen]; exact b) c) (by rw [h.zero]; exact Int.le_refl _) (by rw [h.zero]; decide) (fun u v w e c => ?_)
  have he' := hl _ e
  simp only at he'
  have hd : rb dn u = true := by
    cases k : rb dn u with
    | true => rfl
    | false =>
      have := h.heap u
      rw [he u, if_pos ⟨he'.1, he'.2.1, k, c⟩] at this
      cases this
  have h1 := h.rel _ e hd trivial
  simp only at h1
  have h2 := h.doneF u he'.1 he'.2.1 hd
  exact ⟨by omega, h1⟩

/-- how many are done -/
def ndone (dn : List Bool) : Nat := (dn.filter fun b => !b).length
theorem ndone_set (dn : List Bool) (i : Nat) (h : i < dn.length) (hb : dn.getD i false = false) : ndone (dn.set i true) + 1 = ndone dn := by
  unfold ndone
  induction dn generalizing i with
  | nil => simp at h
  | cons b dn ih =>
    cases i with
    | zero => simp at hb; subst hb; simp
    | succ i =>
      have := ih i (by simpa using h) (by simpa using hb)
      simp only [List.set_cons_succ]
      cases b <;> simp_all
end Go.Proofs.Ytpkhdipedmihgaa.BFT
