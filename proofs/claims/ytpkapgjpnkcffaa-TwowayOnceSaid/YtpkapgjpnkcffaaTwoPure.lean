/- Plain facts on greatest ends, periods and critical cuts of a text, and on finding one text: no program and no memory. -/
set_option linter.unusedVariables false
namespace Seine.Two

/-- A strict order in which any two unlike numbers stand. -/
structure Ord (R : Nat → Nat → Prop) : Prop where
  irr : ∀ a, ¬ R a a
  tr : ∀ a b c, R a b → R b c → R a c
  tot : ∀ a b, a ≠ b → R a b ∨ R b a
theorem Ord.asym {R : Nat → Nat → Prop} (o : Ord R) {a b : Nat} (h : R a b) (k : R b a) : False := o.irr a (o.tr a b a h k)
theorem Ord.flip {R R' : Nat → Nat → Prop} (o : Ord R) (h : ∀ a b, R' a b ↔ R b a) : Ord R' :=
  ⟨fun a k => o.irr a ((h a a).1 k), fun a b c k l => (h a c).2 (o.tr c b a ((h b c).1 l) ((h a b).1 k)), fun a b k => by
    rcases o.tot a b k with k | k
    · exact .inr ((h b a).2 k)
    · exact .inl ((h a b).2 k)⟩

section
variable {R R' : Nat → Nat → Prop} {x : Nat → Nat} {m : Nat}

/-- The end at j stands ahead of that at a by a byte. -/
def Dom (R : Nat → Nat → Prop) (x : Nat → Nat) (m j a : Nat) : Prop := ∃ d, j + d < m ∧ a + d < m ∧ (∀ e, e < d → x (j + e) = x (a + e)) ∧ R (x (j + d)) (x (a + d))
/-- The end at j stands ahead of that at a. -/
def Lt (R : Nat → Nat → Prop) (x : Nat → Nat) (m j a : Nat) : Prop := Dom R x m j a ∨ (a < j ∧ ∀ e, j + e < m → x (j + e) = x (a + e))
def MaxEnd (R : Nat → Nat → Prop) (x : Nat → Nat) (m a : Nat) : Prop := a < m ∧ ∀ j, j < m → j ≠ a → Lt R x m j a

theorem Dom.trans (o : Ord R) {i j k : Nat} (h : Dom R x m i j) (g : Dom R x m j k) : Dom R x m i k := by
  obtain ⟨d, h1, h2, h3, h4⟩ := h
  obtain ⟨f, g1, g2, g3, g4⟩ := g
  rcases Nat.lt_trichotomy d f with hl | rfl | hl
  · exact ⟨d, h1, by omega, fun e he => (h3 e he).trans (g3 e (by omega)), by rw [← g3 d hl]; exact h4⟩
  · exact ⟨d, h1, g2, fun e he => (h3 e he).trans (g3 e he), o.tr _ _ _ h4 g4⟩
  · exact ⟨f, by omega, g2, fun e he => (h3 e (by omega)).trans (g3 e he), by rw [h3 f hl]; exact g4⟩
theorem dom_lt (o : Ord R) {i j : Nat} (h : Dom R x m i j) (g : Lt R x m j i) : False := by
  obtain ⟨d, h1, h2, h3, h4⟩ := h
  rcases g with ⟨f, g1, g2, g3, g4⟩ | ⟨g1, g2⟩
  · rcases Nat.lt_trichotomy d f with hl | rfl | hl
    · have := g3 d hl; rw [this] at h4; exact o.irr _ h4
    · exact o.asym h4 g4
    · have := h3 f hl; rw [this] at g4; exact o.irr _ g4
  · have := g2 d h2; rw [this] at h4; exact o.irr _ h4

/-- What holds at the head of a round of the search for the greatest end. -/
structure Inv (R : Nat → Nat → Prop) (x : Nat → Nat) (m a nx k p : Nat) : Prop where
  p1 : 1 ≤ p
  kp : k < p
  nm : nx + k ≤ m
  mul : ∃ J, 1 ≤ J ∧ nx = a + J * p
  A : ∀ j, j < a → Dom R x m j a
  B : ∀ i, 0 < i → i < p → ∃ d, i + d < p ∧ (∀ e, e < d → x (a + i + e) = x (a + e)) ∧ R (x (a + i + d)) (x (a + d))
  C : ∀ e, a + p + e < nx + k → x (a + p + e) = x (a + e)

theorem Inv.lo {a nx k p : Nat} (h : Inv R x m a nx k p) : a + p ≤ nx := by
  obtain ⟨J, h1, h2⟩ := h.mul
  have : 1 * p ≤ J * p := Nat.mul_le_mul_right p h1
  omega
theorem Inv.start (hm : 1 ≤ m) : Inv R x m 0 1 0 1 := ⟨by omega, by omega, hm, ⟨1, by omega, by omega⟩, fun j hj => by omega, fun i a b => by omega, fun e he => by omega⟩
theorem Inv.rep {a nx k p : Nat} (h : Inv R x m a nx k p) : ∀ (t e : Nat), a + t * p + e < nx + k → x (a + t * p + e) = x (a + e)
  | 0, e, _ => by simp
  | t + 1, e, he => by
    have e1 : a + (t + 1) * p + e = a + p + (t * p + e) := by rw [Nat.add_mul]; omega
    rw [e1] at he ⊢
    rw [h.C _ he, ← Nat.add_assoc, h.rep t e (by omega)]
theorem Inv.fits {a nx k p : Nat} (h : Inv R x m a nx k p) (hx : nx + k < m) (hy : x (a + k) = x (nx + k)) (hk : k + 1 < p) : Inv R x m a nx (k + 1) p := by
  refine ⟨h.p1, hk, by omega, h.mul, h.A, h.B, fun e he => ?_⟩
  rcases Nat.lt_or_ge (a + p + e) (nx + k) with hl | hl
  · exact h.C e hl
  · obtain ⟨J, h1, h2⟩ := h.mul
    obtain ⟨t, rfl⟩ : ∃ t, J = t + 1 := ⟨J - 1, by omega⟩
    have e1 : (t + 1) * p = t * p + p := by rw [Nat.add_mul]; omega
    have e2 : a + e = a + t * p + k := by omega
    rw [show a + p + e = nx + k by omega, ← hy, e2, h.rep t k (by omega)]
theorem Inv.whole {a nx k p : Nat} (h : Inv R x m a nx k p) (hx : nx + k < m) (hy : x (a + k) = x (nx + k)) (hk : k + 1 = p) : Inv R x m a (nx + p) 0 p := by
  obtain ⟨J, h1, h2⟩ := h.mul
  refine ⟨h.p1, by omega, by omega, ⟨J + 1, by omega, by rw [Nat.add_mul]; omega⟩, h.A, h.B, fun e he => ?_⟩
  rcases Nat.lt_or_ge (a + p + e) (nx + k) with hl | hl
  · exact h.C e hl
  · obtain ⟨t, rfl⟩ : ∃ t, J = t + 1 := ⟨J - 1, by omega⟩
    have e1 : (t + 1) * p = t * p + p := by rw [Nat.add_mul]; omega
    have e2 : a + e = a + t * p + k := by omega
    rw [show a + p + e = nx + k by omega, ← hy, e2, h.rep t k (by omega)]
/-- A place between the best end and the next: so many periods on, and more. -/
theorem split_at (p i : Nat) (hp : 1 ≤ p) : ∃ t r, i = t * p + r ∧ r < p := ⟨i / p, i % p, by have := Nat.div_add_mod i p; rw [Nat.mul_comm] at this; omega, Nat.mod_lt _ hp⟩
theorem Inv.less (o : Ord R) {a nx k p : Nat} (h : Inv R x m a nx k p) (hx : nx + k < m) (hy : R (x (nx + k)) (x (a + k))) : Inv R x m a (nx + k + 1) 0 (nx + k + 1 - a) := by
  have hlo := h.lo
  obtain ⟨J, h1, h2⟩ := h.mul
  refine ⟨by omega, by omega, by omega, ⟨1, by omega, by omega⟩, h.A, fun i hi hip => ?_, fun e he => by omega⟩
  obtain ⟨t, r, rfl, hr⟩ := split_at p i h.p1
  have key : ∀ e, t * p + r + e < nx + k - a → x (a + (t * p + r) + e) = x (a + r + e) := fun e he => by
    have := h.rep t (r + e) (by omega)
    rw [show a + (t * p + r) + e = a + t * p + (r + e) by omega, this, Nat.add_assoc]
  rcases Nat.eq_zero_or_pos r with h0 | h0
  · subst h0
    refine ⟨nx + k - a - t * p, by omega, fun e he => ?_, ?_⟩
    · rw [key e (by omega)]; simp
    · have e1 : a + (t * p + 0) + (nx + k - a - t * p) = nx + k := by omega
      rw [e1]
      have htJ : t ≤ J := by
        rcases Nat.lt_or_ge J t with hj | hj
        · have : (J + 1) * p ≤ t * p := Nat.mul_le_mul_right p hj
          rw [Nat.add_mul] at this
          have := h.kp
          omega
        · exact hj
      obtain ⟨q, rfl⟩ : ∃ q, J = t + q := ⟨J - t, by omega⟩
      have e2 : a + (nx + k - a - t * p) = a + q * p + k := by rw [Nat.add_mul] at h2; omega
      rw [e2]
      have ht : 1 ≤ t := by
        rcases Nat.eq_zero_or_pos t with h3 | h3
        · subst h3; omega
        · exact h3
      have : 1 * p ≤ t * p := Nat.mul_le_mul_right p ht
      rw [h.rep q k (by rw [Nat.add_mul] at h2; have := h.p1; omega)]
      exact hy
  · obtain ⟨d, d1, d2, d3⟩ := h.B r h0 hr
    rcases Nat.lt_or_ge (t * p + r + d) (nx + k - a) with hd | hd
    · exact ⟨d, by omega, fun e he => by rw [key e (by omega), d2 e he], by rw [key d hd]; exact d3⟩
    · have htJ : t = J := by
        rcases Nat.lt_trichotomy t J with hj | hj | hj
        · have : (t + 1) * p ≤ J * p := Nat.mul_le_mul_right p hj
          rw [Nat.add_mul] at this
          omega
        · exact hj
        · have : (J + 1) * p ≤ t * p := Nat.mul_le_mul_right p hj
          rw [Nat.add_mul] at this
          have := h.kp
          omega
      subst htJ
      obtain ⟨e, he⟩ : ∃ e, r + e = k := ⟨k - r, by have := h.kp; omega⟩
      refine ⟨e, by omega, fun f hf => by rw [key f (by omega), d2 f (by omega)], ?_⟩
      rw [show a + (t * p + r) + e = nx + k by omega]
      rcases Nat.lt_or_ge e d with hed | hed
      · rw [← d2 e hed, show a + r + e = a + k by omega]; exact hy
      · obtain rfl : e = d := by omega
        exact o.tr _ _ _ (by rw [show a + r + e = a + k by omega]; exact hy) d3
theorem Inv.more (o : Ord R) {a nx k p : Nat} (h : Inv R x m a nx k p) (hx : nx + k < m) (hy : R (x (a + k)) (x (nx + k))) : Inv R x m nx (nx + 1) 0 1 := by
  have hlo := h.lo
  obtain ⟨J, h1, h2⟩ := h.mul
  have hkp := h.kp
  have hD : Dom R x m a nx := ⟨k, by omega, hx, fun e he => by
    have := h.rep J e (by omega)
    rw [h2, this], hy⟩
  refine ⟨by omega, by omega, by omega, ⟨1, by omega, by omega⟩, fun j hj => ?_, fun i a b => by omega, fun e he => by omega⟩
  rcases Nat.lt_trichotomy j a with hl | rfl | hl
  · exact (h.A j hl).trans o hD
  · exact hD
  · obtain ⟨i, rfl⟩ : ∃ i, j = a + i := ⟨j - a, by omega⟩
    obtain ⟨t, r, rfl, hr⟩ := split_at p i h.p1
    have htJ : t + 1 ≤ J := by
      rcases Nat.lt_or_ge t J with hj | hj
      · exact hj
      · have : J * p ≤ t * p := Nat.mul_le_mul_right p hj
        omega
    have htp : (t + 1) * p ≤ J * p := Nat.mul_le_mul_right p htJ
    rw [Nat.add_mul] at htp
    have key : ∀ e, t * p + r + e < nx + k - a → x (a + (t * p + r) + e) = x (a + r + e) := fun e he => by
      have := h.rep t (r + e) (by omega)
      rw [show a + (t * p + r) + e = a + t * p + (r + e) by omega, this, Nat.add_assoc]
    rcases Nat.eq_zero_or_pos r with h0 | h0
    · subst h0
      refine ⟨k, by omega, hx, fun e he => ?_, ?_⟩
      · rw [key e (by omega), h2, h.rep J e (by omega)]; simp
      · rw [key k (by omega)]; simpa using hy
    · obtain ⟨d, d1, d2, d3⟩ := h.B r h0 hr
      refine Dom.trans o (j := a) ⟨d, by omega, by omega, fun e he => by rw [key e (by omega), d2 e he], by rw [key d (by omega)]; exact d3⟩ hD

theorem Inv.done (o : Ord R) {a nx k p : Nat} (h : Inv R x m a nx k p) (hx : m ≤ nx + k) : MaxEnd R x m a ∧ (∀ e, a + p + e < m → x (a + p + e) = x (a + e)) ∧ (∀ q, 0 < q → q < p → ∃ e, a + q + e < m ∧ x (a + q + e) ≠ x (a + e)) ∧ a + p ≤ m := by
  have hlo := h.lo
  have hnm := h.nm
  have hkp := h.kp
  obtain rfl : m = nx + k := by omega
  refine ⟨⟨by omega, fun j hj hja => ?_⟩, h.C, fun q hq hqp => ?_, by omega⟩
  · rcases Nat.lt_or_ge j a with hl | hl
    · exact .inl (h.A j hl)
    · obtain ⟨i, rfl⟩ : ∃ i, j = a + i := ⟨j - a, by omega⟩
      obtain ⟨t, r, rfl, hr⟩ := split_at p i h.p1
      have key : ∀ e, a + (t * p + r) + e < nx + k → x (a + (t * p + r) + e) = x (a + r + e) := fun e he => by
        have := h.rep t (r + e) (by omega)
        rw [show a + (t * p + r) + e = a + t * p + (r + e) by omega, this, Nat.add_assoc]
      rcases Nat.eq_zero_or_pos r with h0 | h0
      · subst h0
        exact .inr ⟨by omega, fun e he => by rw [key e he]; simp⟩
      · obtain ⟨d, d1, d2, d3⟩ := h.B r h0 hr
        rcases Nat.lt_or_ge (a + (t * p + r) + d) (nx + k) with hd | hd
        · exact .inl ⟨d, hd, by omega, fun e he => by rw [key e (by omega), d2 e he], by rw [key d hd]; exact d3⟩
        · exact .inr ⟨by omega, fun e he => by rw [key e he, d2 e (by omega)]⟩
  · obtain ⟨d, d1, d2, d3⟩ := h.B q hq hqp
    exact ⟨d, by omega, fun e => by rw [e] at d3; exact o.irr _ d3⟩

/-! ### critical cuts -/
/-- x has the period r. -/
def Per (x : Nat → Nat) (m r : Nat) : Prop := ∀ k, k + r < m → x k = x (k + r)
/-- At a place a, what is r bytes on either side fits. -/
def Loc (x : Nat → Nat) (m a r : Nat) : Prop := ∀ k, k < a → a ≤ k + r → k + r < m → x k = x (k + r)
theorem Per.loc {r : Nat} (h : Per x m r) (a : Nat) : Loc x m a r := fun k _ _ hk => h k hk
def Crit (x : Nat → Nat) (m a : Nat) : Prop := ∀ r, 0 < r → Loc x m a r → a < r ∧ Per x m r

theorem crit_far (o : Ord R) {a : Nat} (h : MaxEnd R x m a) {r : Nat} (hr : 0 < r) (hl : Loc x m a r) : a < r := by
  rcases Nat.lt_or_ge a r with hc | hc
  · exact hc
  exfalso
  have ham := h.1
  rcases h.2 (a - r) (by omega) (by omega) with ⟨d, h1, h2, h3, h4⟩ | ⟨h1, h2⟩
  · have heq : ∀ e, e < r → a + e < m → x (a - r + e) = x (a + e) := fun e he hem => by
      have := hl (a - r + e) (by omega) (by omega) (by omega)
      rw [this]; congr 1; omega
    rcases Nat.lt_or_ge d r with hd | hd
    · rw [heq d hd h2] at h4; exact o.irr _ h4
    · have hD : Dom R x m a (a + r) := ⟨d - r, by omega, by omega, fun e he => by
        have := h3 (e + r) (by omega)
        rw [show a - r + (e + r) = a + e by omega] at this
        rw [this]; congr 1; omega, by
        rw [show a + (d - r) = a - r + d by omega, show a + r + (d - r) = a + d by omega]; exact h4⟩
      exact dom_lt o hD (h.2 (a + r) (by omega) (by omega))
  · omega
theorem crit_of (o : Ord R) (hRR : ∀ a b, R' a b ↔ R b a) {a b : Nat} (h : MaxEnd R x m a) (h' : MaxEnd R' x m b) (hba : b ≤ a) : Crit x m a := by
  intro r hr hl
  have hlt := crit_far o h hr hl
  refine ⟨hlt, fun k hk => ?_⟩
  rcases Nat.lt_or_ge k a with hka | hka
  · exact hl k hka (by omega) hk
  obtain ⟨f, rfl⟩ : ∃ f, k = a + f := ⟨k - a, by omega⟩
  have ham := h.1
  rcases h.2 (a + r) (by omega) (by omega) with ⟨d, h1, h2, h3, h4⟩ | ⟨h1, h2⟩
  · exfalso
    have hpre : ∀ e, b + e < a → x (b + r + e) = x (b + e) := fun e he => by
      have := hl (b + e) he (by omega) (by omega)
      rw [this]; congr 1; omega
    have hmid : ∀ e, e < (a - b) + d → x (b + r + e) = x (b + e) := fun e he => by
      rcases Nat.lt_or_ge (b + e) a with hc | hc
      · exact hpre e hc
      · have := h3 (b + e - a) (by omega)
        rw [show a + r + (b + e - a) = b + r + e by omega, show a + (b + e - a) = b + e by omega] at this
        exact this
    have hend : R (x (b + r + ((a - b) + d))) (x (b + ((a - b) + d))) := by
      rw [show b + r + ((a - b) + d) = a + r + d by omega, show b + ((a - b) + d) = a + d by omega]; exact h4
    rcases h'.2 (b + r) (by omega) (by omega) with ⟨d', g1, g2, g3, g4⟩ | ⟨g1, g2⟩
    · have g4 := (hRR _ _).1 g4
      rcases Nat.lt_trichotomy d' ((a - b) + d) with hc | hc | hc
      · rw [hmid d' hc] at g4; exact o.irr _ g4
      · subst hc; exact o.asym g4 hend
      · rw [g3 _ hc] at hend; exact o.irr _ hend
    · rw [g2 _ (by omega)] at hend; exact o.irr _ hend
  · have := h2 f (by omega)
    rw [show a + f + r = a + r + f by omega]
    exact this.symm

/-- What a text's cut is good for. -/
structure Cut (x : Nat → Nat) (m a s : Nat) (small : Bool) : Prop where
  am : a < m
  s1 : 1 ≤ s
  crit : Crit x m a
  least : ∀ r, 0 < r → Per x m r → s ≤ r
  per : small = true → Per x m s
  far : s ≤ m + 1
theorem mul_on {q n : Nat} {y : Nat → Nat} (hp : ∀ e, q + e < n → y (q + e) = y e) : ∀ (t e : Nat), t * q + e < n → y (t * q + e) = y e
  | 0, e, _ => by simp
  | t + 1, e, h => by
    have e1 : (t + 1) * q + e = q + (t * q + e) := by rw [Nat.add_mul]; omega
    rw [e1] at h ⊢
    rw [hp _ h, mul_on hp t e (by omega)]
/-- The greatest end's period is the text's, or the text's is long. -/
theorem cut_of (hm : 0 < m) {a q : Nat} (ham : a < m) (hcr : Crit x m a) (q1 : 1 ≤ q) (hper : ∀ e, a + q + e < m → x (a + q + e) = x (a + e)) (hmin : ∀ p, 0 < p → p < q → ∃ e, a + p + e < m ∧ x (a + p + e) ≠ x (a + e)) (hq : a + q ≤ m)
    {small : Bool} (hs : small = true ↔ ∀ k, k < a → x k = x (k + q)) : Cut x m a (if small then q else max a (m - a) + 1) small := by
  have hlo : ∀ r, 0 < r → Per x m r → a < r ∧ q ≤ r := fun r h0 hp => by
    refine ⟨(hcr r h0 (hp.loc a)).1, ?_⟩
    rcases Nat.lt_or_ge r q with hc | hc
    · obtain ⟨e, h1, h2⟩ := hmin r h0 hc
      exact absurd (by have := hp (a + e) (by omega); rw [this]; congr 1; omega) h2
    · exact hc
  cases small with
  | true =>
    have hq' := hs.1 rfl
    have hP : Per x m q := fun k hk => by
      rcases Nat.lt_or_ge k a with hc | hc
      · exact hq' k hc
      · obtain ⟨e, rfl⟩ : ∃ e, k = a + e := ⟨k - a, by omega⟩
        rw [← hper e (by omega)]; congr 1; omega
    exact ⟨ham, q1, hcr, fun r h0 hp => (hlo r h0 hp).2, fun _ => hP, by simp; omega⟩
  | false =>
    refine ⟨ham, by simp, hcr, fun r h0 hp => ?_, (fun h => by cases h), by simp; omega⟩
    obtain ⟨l1, l2⟩ := hlo r h0 hp
    simp only [Bool.false_eq_true, if_false]
    rcases Nat.lt_or_ge (max a (m - a)) r with hc | hc
    · omega
    exfalso
    have hrm : r ≤ m - a := by omega
    -- the end's own period, many times
    have hy := mul_on (q := q) (n := m - a) (y := fun e => x (a + e)) (fun e he => by show x (a + (q + e)) = x (a + e); rw [← Nat.add_assoc]; exact hper e (by omega))
    obtain ⟨t, c, hrc, hcq⟩ : ∃ t c, r = t * q + c ∧ c < q := ⟨r / q, r % q, by have := Nat.div_add_mod r q; rw [Nat.mul_comm] at this; omega, Nat.mod_lt _ q1⟩
    rcases Nat.eq_zero_or_pos c with h1 | h1
    · subst h1
      have hP : ∀ k, k < a → x k = x (k + q) := fun k hk => by
        have k1 := hp k (by omega)
        have t1 : 1 ≤ t := by
          rcases Nat.eq_zero_or_pos t with h | h
          · subst h; omega
          · exact h
        obtain ⟨t', rfl⟩ : ∃ t', t = t' + 1 := ⟨t - 1, by omega⟩
        have e1 : (t' + 1) * q = t' * q + q := by rw [Nat.add_mul]; omega
        rcases Nat.lt_or_ge (k + q) a with hc | hc
        · have k2 := hp (k + q) (by omega)
          rw [k1, k2]
          obtain ⟨f, hf⟩ : ∃ f, k + r = a + f := ⟨k + r - a, by omega⟩
          have := hper f (by omega)
          rw [hf, ← this]; congr 1; omega
        · rw [k1]
          obtain ⟨f, hf⟩ : ∃ f, k + q = a + f := ⟨k + q - a, by omega⟩
          have := hy t' f (by omega)
          rw [hf, ← this]; congr 1; omega
      have := hs.2 hP
      cases this
    · have hloc : Loc x m a c := fun k hk h2 h3 => by
        have k1 := hp k (by omega)
        obtain ⟨f, hf⟩ : ∃ f, k + c = a + f := ⟨k + c - a, by omega⟩
        have := hy t f (by omega)
        rw [k1, hf, ← this]; congr 1; omega
      obtain ⟨e, g1, g2⟩ := hmin c h1 hcq
      have := (hcr c h1 hloc).2 (a + e) (by omega)
      exact g2 (by rw [this]; congr 1; omega)

/-! ### finding -/
variable {y : Nat → Nat} {n : Nat}
def Match (x : Nat → Nat) (m : Nat) (y : Nat → Nat) (n i : Nat) : Prop := i + m ≤ n ∧ ∀ k, k < m → y (i + k) = x k
/-- The bytes from the cut on fit up to one that doesn't: none stands before the move's end. -/
theorem Cut.skip {a s : Nat} {small : Bool} (h : Cut x m a s small) {p i : Nat} (hai : a ≤ i) (him : i < m) (hfit : ∀ k, a ≤ k → k < i → y (p + k) = x k) (hno : y (p + i) ≠ x i) : ∀ j, p ≤ j → j < p + (i - a + 1) → ¬ Match x m y n j := by
  intro j hj1 hj2 ⟨hm1, hm2⟩
  obtain ⟨r, rfl⟩ : ∃ r, j = p + r := ⟨j - p, by omega⟩
  rcases Nat.eq_zero_or_pos r with h0 | h0
  · subst h0; exact hno (by simpa using hm2 i him)
  · have hl : Loc x m a r := fun k h1 h2 h3 => by
      have e1 := hm2 k (by omega)
      have e2 := hfit (k + r) h2 (by omega)
      rw [← e1, ← e2]; congr 1; omega
    have hp := (h.crit r h0 hl).2 (i - r) (by omega)
    have e3 := hm2 (i - r) (by omega)
    rw [show p + r + (i - r) = p + i by omega, hp, show i - r + r = i by omega] at e3
    exact hno e3
/-- The bytes from the cut on all fit: behind this place none stands before the move's end. -/
theorem Cut.jump {a s : Nat} {small : Bool} (h : Cut x m a s small) {p : Nat} (hfit : ∀ k, a ≤ k → k < m → y (p + k) = x k) : ∀ j, p < j → j < p + s → ¬ Match x m y n j := by
  intro j hj1 hj2 ⟨hm1, hm2⟩
  obtain ⟨r, rfl⟩ : ∃ r, j = p + r := ⟨j - p, by omega⟩
  have hl : Loc x m a r := fun k h1 h2 h3 => by
    have e1 := hm2 k (by omega)
    have e2 := hfit (k + r) h2 h3
    rw [← e1, ← e2]; congr 1; omega
  have := h.least r (by omega) (h.crit r (by omega) hl).2
  omega
/-- What fitted fits still behind a move by the period. -/
theorem Cut.known {a s : Nat} (h : Cut x m a s true) {p : Nat} (hfit : ∀ k, a ≤ k → k < m → y (p + k) = x k) : ∀ k, k < m - s → y (p + s + k) = x k := by
  intro k hk
  have hp := h.per rfl
  have ha := (h.crit s h.s1 (hp.loc a)).1
  have := hfit (s + k) (by omega) (by omega)
  rw [show p + s + k = p + (s + k) by omega, this, hp k (by omega)]; congr 1; omega
/-- The first place from p on; -1: none. -/
def next (x : Nat → Nat) (m : Nat) (y : Nat → Nat) (n p : Nat) (r : Int) : Prop := (0 ≤ r → p ≤ r.toNat ∧ Match x m y n r.toNat ∧ ∀ j, p ≤ j → j < r.toNat → ¬ Match x m y n j) ∧ (r < 0 → r = -1 ∧ ∀ j, p ≤ j → ¬ Match x m y n j)
theorem next_one {p : Nat} {r r' : Int} (h : next x m y n p r) (h' : next x m y n p r') : r = r' := by
  rcases Int.lt_or_le r 0 with a | a <;> rcases Int.lt_or_le r' 0 with b | b
  · rw [(h.2 a).1, (h'.2 b).1]
  · exact absurd (h'.1 b).2.1 ((h.2 a).2 _ (h'.1 b).1)
  · exact absurd (h.1 a).2.1 ((h'.2 b).2 _ (h.1 a).1)
  · obtain ⟨a1, a2, a3⟩ := h.1 a
    obtain ⟨b1, b2, b3⟩ := h'.1 b
    rcases Nat.lt_trichotomy r.toNat r'.toNat with c | c | c
    · exact absurd a2 (b3 _ a1 c)
    · omega
    · exact absurd b2 (a3 _ b1 c)
theorem next_from {p q : Nat} {r : Int} (hpq : p ≤ q) (hno : ∀ j, p ≤ j → j < q → ¬ Match x m y n j) (h : next x m y n q r) : next x m y n p r := by
  refine ⟨fun a => ?_, fun a => ?_⟩
  · obtain ⟨a1, a2, a3⟩ := h.1 a
    refine ⟨by omega, a2, fun j h1 h2 => ?_⟩
    rcases Nat.lt_or_ge j q with c | c
    · exact hno j h1 c
    · exact a3 j c h2
  · obtain ⟨a1, a2⟩ := h.2 a
    refine ⟨a1, fun j h1 => ?_⟩
    rcases Nat.lt_or_ge j q with c | c
    · exact hno j h1 c
    · exact a2 j c
end
end Seine.Two
