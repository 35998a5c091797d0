/- Joined texts: TwoPure, TwoWalk, TwoWalk2, TwoWalk3, TwoWalk4, TwoScan. -/
import Derived.Test.YtbklkemfcdkihaaM1
import Derived.Deep.LoopGhost
import Derived.Deep.QuietTactic
import Derived.BigQuiet
import Derived.Laws.EntriesVeiled
import Derived.Test.YtbklkemfcdkihaaM4
import Derived.Test.YtbklkemfcdkihaaM6
import Derived.WalkSpells
import Derived.Test.YtbklkemfcdkihaaM7
section
/- Plain facts on greatest ends, periods and critical cuts of a text, and on finding one text: no program and no memory. -/
set_option linter.unusedVariables false
namespace Seine.Two

/-- A strict order in which any two unlike numbers stand. -/
structure Ord (R : Nat → Nat → Prop) : Prop where
  irr : ∀ a, ¬ R a a
  tr : ∀ a b c, R a b → R b c → R a c
  tot : ∀ a b, a ≠ b → R a b ∨ R b a
theorem Ord.asym {R : Nat → Nat → Prop} (o : Ord R) {a b : Nat} (h : R a b) (k : R b a) : False := o.irr a (o.tr a b a h k)
theorem Ord.flip {R R' : Nat → Nat → Prop} (o : Ord R) (h : ∀ a b, R' a b ↔ R b a) : Ord R' :=
  ⟨fun a k => o.irr a ((h a a).1 k), fun a b c k l => (h a c).2 (o.tr c b a ((h b c).1 l) ((h a b).1 k)), fun a b k => by
    rcases o.tot a b k with k | k
    · exact .inr ((h b a).2 k)
    · exact .inl ((h a b).2 k)⟩

section
variable {R R' : Nat → Nat → Prop} {x : Nat → Nat} {m : Nat}

/-- The end at j stands ahead of that at a by a byte. -/
def Dom (R : Nat → Nat → Prop) (x : Nat → Nat) (m j a : Nat) : Prop := ∃ d, j + d < m ∧ a + d < m ∧ (∀ e, e < d → x (j + e) = x (a + e)) ∧ R (x (j + d)) (x (a + d))
/-- The end at j stands ahead of that at a. -/
def Lt (R : Nat → Nat → Prop) (x : Nat → Nat) (m j a : Nat) : Prop := Dom R x m j a ∨ (a < j ∧ ∀ e, j + e < m → x (j + e) = x (a + e))
def MaxEnd (R : Nat → Nat → Prop) (x : Nat → Nat) (m a : Nat) : Prop := a < m ∧ ∀ j, j < m → j ≠ a → Lt R x m j a

theorem Dom.trans (o : Ord R) {i j k : Nat} (h : Dom R x m i j) (g : Dom R x m j k) : Dom R x m i k := by
  obtain ⟨d, h1, h2, h3, h4⟩ := h
  obtain ⟨f, g1, g2, g3, g4⟩ := g
  rcases Nat.lt_trichotomy d f with hl | rfl | hl
  · exact ⟨d, h1, by omega, fun e he => (h3 e he).trans (g3 e (by omega)), by rw [← g3 d hl]; exact h4⟩
  · exact ⟨d, h1, g2, fun e he => (h3 e he).trans (g3 e he), o.tr _ _ _ h4 g4⟩
  · exact ⟨f, by omega, g2, fun e he => (h3 e (by omega)).trans (g3 e he), by rw [h3 f hl]; exact g4⟩
theorem dom_lt (o : Ord R) {i j : Nat} (h : Dom R x m i j) (g : Lt R x m j i) : False := by
  obtain ⟨d, h1, h2, h3, h4⟩ := h
  rcases g with ⟨f, g1, g2, g3, g4⟩ | ⟨g1, g2⟩
  · rcases Nat.lt_trichotomy d f with hl | rfl | hl
    · have := g3 d hl; rw [this] at h4; exact o.irr _ h4
    · exact o.asym h4 g4
    · have := h3 f hl; rw [this] at g4; exact o.irr _ g4
  · have := g2 d h2; rw [this] at h4; exact o.irr _ h4

/-- What holds at the head of a round of the search for the greatest end. -/
structure Inv (R : Nat → Nat → Prop) (x : Nat → Nat) (m a nx k p : Nat) : Prop where
  p1 : 1 ≤ p
  kp : k < p
  nm : nx + k ≤ m
  mul : ∃ J, 1 ≤ J ∧ nx = a + J * p
  A : ∀ j, j < a → Dom R x m j a
  B : ∀ i, 0 < i → i < p → ∃ d, i + d < p ∧ (∀ e, e < d → x (a + i + e) = x (a + e)) ∧ R (x (a + i + d)) (x (a + d))
  C : ∀ e, a + p + e < nx + k → x (a + p + e) = x (a + e)

theorem Inv.lo {a nx k p : Nat} (h : Inv R x m a nx k p) : a + p ≤ nx := by
  obtain ⟨J, h1, h2⟩ := h.mul
  have : 1 * p ≤ J * p := Nat.mul_le_mul_right p h1
  omega
theorem Inv.start (hm : 1 ≤ m) : Inv R x m 0 1 0 1 := ⟨by omega, by omega, hm, ⟨1, by omega, by omega⟩, fun j hj => by omega, fun i a b => by omega, fun e he => by omega⟩
theorem Inv.rep {a nx k p : Nat} (h : Inv R x m a nx k p) : ∀ (t e : Nat), a + t * p + e < nx + k → x (a + t * p + e) = x (a + e)
  | 0, e, _ => by simp
  | t + 1, e, he => by
    have e1 : a + (t + 1) * p + e = a + p + (t * p + e) := by rw [Nat.add_mul]; omega
    rw [e1] at he ⊢
    rw [h.C _ he, ← Nat.add_assoc, h.rep t e (by omega)]
theorem Inv.fits {a nx k p : Nat} (h : Inv R x m a nx k p) (hx : nx + k < m) (hy : x (a + k) = x (nx + k)) (hk : k + 1 < p) : Inv R x m a nx (k + 1) p := by
  refine ⟨h.p1, hk, by omega, h.mul, h.A, h.B, fun e he => ?_⟩
  rcases Nat.lt_or_ge (a + p + e) (nx + k) with hl | hl
  · exact h.C e hl
  · obtain ⟨J, h1, h2⟩ := h.mul
    obtain ⟨t, rfl⟩ : ∃ t, J = t + 1 := ⟨J - 1, by omega⟩
    have e1 : (t + 1) * p = t * p + p := by rw [Nat.add_mul]; omega
    have e2 : a + e = a + t * p + k := by omega
    rw [show a + p + e = nx + k by omega, ← hy, e2, h.rep t k (by omega)]
theorem Inv.whole {a nx k p : Nat} (h : Inv R x m a nx k p) (hx : nx + k < m) (hy : x (a + k) = x (nx + k)) (hk : k + 1 = p) : Inv R x m a (nx + p) 0 p := by
  obtain ⟨J, h1, h2⟩ := h.mul
  refine ⟨h.p1, by omega, by omega, ⟨J + 1, by omega, by rw [Nat.add_mul]; omega⟩, h.A, h.B, fun e he => ?_⟩
  rcases Nat.lt_or_ge (a + p + e) (nx + k) with hl | hl
  · exact h.C e hl
  · obtain ⟨t, rfl⟩ : ∃ t, J = t + 1 := ⟨J - 1, by omega⟩
    have e1 : (t + 1) * p = t * p + p := by rw [Nat.add_mul]; omega
    have e2 : a + e = a + t * p + k := by omega
    rw [show a + p + e = nx + k by omega, ← hy, e2, h.rep t k (by omega)]
/-- A place between the best end and the next: so many periods on, and more. -/
theorem split_at (p i : Nat) (hp : 1 ≤ p) : ∃ t r, i = t * p + r ∧ r < p := ⟨i / p, i % p, by have := Nat.div_add_mod i p; rw [Nat.mul_comm] at this; omega, Nat.mod_lt _ hp⟩
theorem Inv.less (o : Ord R) {a nx k p : Nat} (h : Inv R x m a nx k p) (hx : nx + k < m) (hy : R (x (nx + k)) (x (a + k))) : Inv R x m a (nx + k + 1) 0 (nx + k + 1 - a) := by
  have hlo := h.lo
  obtain ⟨J, h1, h2⟩ := h.mul
  refine ⟨by omega, by omega, by omega, ⟨1, by omega, by omega⟩, h.A, fun i hi hip => ?_, fun e he => by omega⟩
  obtain ⟨t, r, rfl, hr⟩ := split_at p i h.p1
  have key : ∀ e, t * p + r + e < nx + k - a → x (a + (t * p + r) + e) = x (a + r + e) := fun e he => by
    have := h.rep t (r + e) (by omega)
    rw [show a + (t * p + r) + e = a + t * p + (r + e) by omega, this, Nat.add_assoc]
  rcases Nat.eq_zero_or_pos r with h0 | h0
  · subst h0
    refine ⟨nx + k - a - t * p, by omega, fun e he => ?_, ?_⟩
    · rw [key e (by omega)]; simp
    · have e1 : a + (t * p + 0) + (nx + k - a - t * p) = nx + k := by omega
      rw [e1]
      have htJ : t ≤ J := by
        rcases Nat.lt_or_ge J t with hj | hj
        · have : (J + 1) * p ≤ t * p := Nat.mul_le_mul_right p hj
          rw [Nat.add_mul] at this
          have := h.kp
          omega
        · exact hj
      obtain ⟨q, rfl⟩ : ∃ q, J = t + q := ⟨J - t, by omega⟩
      have e2 : a + (nx + k - a - t * p) = a + q * p + k := by rw [Nat.add_mul] at h2; omega
      rw [e2]
      have ht : 1 ≤ t := by
        rcases Nat.eq_zero_or_pos t with h3 | h3
        · subst h3; omega
        · exact h3
      have : 1 * p ≤ t * p := Nat.mul_le_mul_right p ht
      rw [h.rep q k (by rw [Nat.add_mul] at h2; have := h.p1; omega)]
      exact hy
  · obtain ⟨d, d1, d2, d3⟩ := h.B r h0 hr
    rcases Nat.lt_or_ge (t * p + r + d) (nx + k - a) with hd | hd
    · exact ⟨d, by omega, fun e he => by rw [key e (by omega), d2 e he], by rw [key d hd]; exact d3⟩
    · have htJ : t = J := by
        rcases Nat.lt_trichotomy t J with hj | hj | hj
        · have : (t + 1) * p ≤ J * p := Nat.mul_le_mul_right p hj
          rw [Nat.add_mul] at this
          omega
        · exact hj
        · have : (J + 1) * p ≤ t * p := Nat.mul_le_mul_right p hj
          rw [Nat.add_mul] at this
          have := h.kp
          omega
      subst htJ
      obtain ⟨e, he⟩ : ∃ e, r + e = k := ⟨k - r, by have := h.kp; omega⟩
      refine ⟨e, by omega, fun f hf => by rw [key f (by omega), d2 f (by omega)], ?_⟩
      rw [show a + (t * p + r) + e = nx + k by omega]
      rcases Nat.lt_or_ge e d with hed | hed
      · rw [← d2 e hed, show a + r + e = a + k by omega]; exact hy
      · obtain rfl : e = d := by omega
        exact o.tr _ _ _ (by rw [show a + r + e = a + k by omega]; exact hy) d3
theorem Inv.more (o : Ord R) {a nx k p : Nat} (h : Inv R x m a nx k p) (hx : nx + k < m) (hy : R (x (a + k)) (x (nx + k))) : Inv R x m nx (nx + 1) 0 1 := by
  have hlo := h.lo
  obtain ⟨J, h1, h2⟩ := h.mul
  have hkp := h.kp
  have hD : Dom R x m a nx := ⟨k, by omega, hx, fun e he => by
    have := h.rep J e (by omega)
    rw [h2, this], hy⟩
  refine ⟨by omega, by omega, by omega, ⟨1, by omega, by omega⟩, fun j hj => ?_, fun i a b => by omega, fun e he => by omega⟩
  rcases Nat.lt_trichotomy j a with hl | rfl | hl
  · exact (h.A j hl).trans o hD
  · exact hD
  · obtain ⟨i, rfl⟩ : ∃ i, j = a + i := ⟨j - a, by omega⟩
    obtain ⟨t, r, rfl, hr⟩ := split_at p i h.p1
    have htJ : t + 1 ≤ J := by
      rcases Nat.lt_or_ge t J with hj | hj
      · exact hj
      · have : J * p ≤ t * p := Nat.mul_le_mul_right p hj
        omega
    have htp : (t + 1) * p ≤ J * p := Nat.mul_le_mul_right p htJ
    rw [Nat.add_mul] at htp
    have key : ∀ e, t * p + r + e < nx + k - a → x (a + (t * p + r) + e) = x (a + r + e) := fun e he => by
      have := h.rep t (r + e) (by omega)
      rw [show a + (t * p + r) + e = a + t * p + (r + e) by omega, this, Nat.add_assoc]
    rcases Nat.eq_zero_or_pos r with h0 | h0
    · subst h0
      refine ⟨k, by omega, hx, fun e he => ?_, ?_⟩
      · rw [key e (by omega), h2, h.rep J e (by omega)]; simp
      · rw [key k (by omega)]; simpa using hy
    · obtain ⟨d, d1, d2, d3⟩ := h.B r h0 hr
      refine Dom.trans o (j := a) ⟨d, by omega, by omega, fun e he => by rw [key e (by omega), d2 e he], by rw [key d (by omega)]; exact d3⟩ hD

theorem Inv.done (o : Ord R) {a nx k p : Nat} (h : Inv R x m a nx k p) (hx : m ≤ nx + k) : MaxEnd R x m a ∧ (∀ e, a + p + e < m → x (a + p + e) = x (a + e)) ∧ (∀ q, 0 < q → q < p → ∃ e, a + q + e < m ∧ x (a + q + e) ≠ x (a + e)) ∧ a + p ≤ m := by
  have hlo := h.lo
  have hnm := h.nm
  have hkp := h.kp
  obtain rfl : m = nx + k := by omega
  refine ⟨⟨by omega, fun j hj hja => ?_⟩, h.C, fun q hq hqp => ?_, by omega⟩
  · rcases Nat.lt_or_ge j a with hl | hl
    · exact .inl (h.A j hl)
    · obtain ⟨i, rfl⟩ : ∃ i, j = a + i := ⟨j - a, by omega⟩
      obtain ⟨t, r, rfl, hr⟩ := split_at p i h.p1
      have key : ∀ e, a + (t * p + r) + e < nx + k → x (a + (t * p + r) + e) = x (a + r + e) := fun e he => by
        have := h.rep t (r + e) (by omega)
        rw [show a + (t * p + r) + e = a + t * p + (r + e) by omega, this, Nat.add_assoc]
      rcases Nat.eq_zero_or_pos r with h0 | h0
      · subst h0
        exact .inr ⟨by omega, fun e he => by rw [key e he]; simp⟩
      · obtain ⟨d, d1, d2, d3⟩ := h.B r h0 hr
        rcases Nat.lt_or_ge (a + (t * p + r) + d) (nx + k) with hd | hd
        · exact .inl ⟨d, hd, by omega, fun e he => by rw [key e (by omega), d2 e he], by rw [key d hd]; exact d3⟩
        · exact .inr ⟨by omega, fun e he => by rw [key e he, d2 e (by omega)]⟩
  · obtain ⟨d, d1, d2, d3⟩ := h.B q hq hqp
    exact ⟨d, by omega, fun e => by rw [e] at d3; exact o.irr _ d3⟩

/-! ### critical cuts -/
/-- x has the period r. -/
def Per (x : Nat → Nat) (m r : Nat) : Prop := ∀ k, k + r < m → x k = x (k + r)
/-- At a place a, what is r bytes on either side fits. -/
def Loc (x : Nat → Nat) (m a r : Nat) : Prop := ∀ k, k < a → a ≤ k + r → k + r < m → x k = x (k + r)
theorem Per.loc {r : Nat} (h : Per x m r) (a : Nat) : Loc x m a r := fun k _ _ hk => h k hk
def Crit (x : Nat → Nat) (m a : Nat) : Prop := ∀ r, 0 < r → Loc x m a r → a < r ∧ Per x m r

theorem crit_far (o : Ord R) {a : Nat} (h : MaxEnd R x m a) {r : Nat} (hr : 0 < r) (hl : Loc x m a r) : a < r := by
  rcases Nat.lt_or_ge a r with hc | hc
  · exact hc
  exfalso
  have ham := h.1
  rcases h.2 (a - r) (by omega) (by omega) with ⟨d, h1, h2, h3, h4⟩ | ⟨h1, h2⟩
  · have heq : ∀ e, e < r → a + e < m → x (a - r + e) = x (a + e) := fun e he hem => by
      have := hl (a - r + e) (by omega) (by omega) (by omega)
      rw [this]; congr 1; omega
    rcases Nat.lt_or_ge d r with hd | hd
    · rw [heq d hd h2] at h4; exact o.irr _ h4
    · have hD : Dom R x m a (a + r) := ⟨d - r, by omega, by omega, fun e he => by
        have := h3 (e + r) (by omega)
        rw [show a - r + (e + r) = a + e by omega] at this
        rw [this]; congr 1; omega, by
        rw [show a + (d - r) = a - r + d by omega, show a + r + (d - r) = a + d by omega]; exact h4⟩
      exact dom_lt o hD (h.2 (a + r) (by omega) (by omega))
  · omega
theorem crit_of (o : Ord R) (hRR : ∀ a b, R' a b ↔ R b a) {a b : Nat} (h : MaxEnd R x m a) (h' : MaxEnd R' x m b) (hba : b ≤ a) : Crit x m a := by
  intro r hr hl
  have hlt := crit_far o h hr hl
  refine ⟨hlt, fun k hk => ?_⟩
  rcases Nat.lt_or_ge k a with hka | hka
  · exact hl k hka (by omega) hk
  obtain ⟨f, rfl⟩ : ∃ f, k = a + f := ⟨k - a, by omega⟩
  have ham := h.1
  rcases h.2 (a + r) (by omega) (by omega) with ⟨d, h1, h2, h3, h4⟩ | ⟨h1, h2⟩
  · exfalso
    have hpre : ∀ e, b + e < a → x (b + r + e) = x (b + e) := fun e he => by
      have := hl (b + e) he (by omega) (by omega)
      rw [this]; congr 1; omega
    have hmid : ∀ e, e < (a - b) + d → x (b + r + e) = x (b + e) := fun e he => by
      rcases Nat.lt_or_ge (b + e) a with hc | hc
      · exact hpre e hc
      · have := h3 (b + e - a) (by omega)
        rw [show a + r + (b + e - a) = b + r + e by omega, show a + (b + e - a) = b + e by omega] at this
        exact this
    have hend : R (x (b + r + ((a - b) + d))) (x (b + ((a - b) + d))) := by
      rw [show b + r + ((a - b) + d) = a + r + d by omega, show b + ((a - b) + d) = a + d by omega]; exact h4
    rcases h'.2 (b + r) (by omega) (by omega) with ⟨d', g1, g2, g3, g4⟩ | ⟨g1, g2⟩
    · have g4 := (hRR _ _).1 g4
      rcases Nat.lt_trichotomy d' ((a - b) + d) with hc | hc | hc
      · rw [hmid d' hc] at g4; exact o.irr _ g4
      · subst hc; exact o.asym g4 hend
      · rw [g3 _ hc] at hend; exact o.irr _ hend
    · rw [g2 _ (by omega)] at hend; exact o.irr _ hend
  · have := h2 f (by omega)
    rw [show a + f + r = a + r + f by omega]
    exact this.symm

/-- What a text's cut is good for. -/
structure Cut (x : Nat → Nat) (m a s : Nat) (small : Bool) : Prop where
  am : a < m
  s1 : 1 ≤ s
  crit : Crit x m a
  least : ∀ r, 0 < r → Per x m r → s ≤ r
  per : small = true → Per x m s
  far : s ≤ m + 1
theorem mul_on {q n : Nat} {y : Nat → Nat} (hp : ∀ e, q + e < n → y (q + e) = y e) : ∀ (t e : Nat), t * q + e < n → y (t * q + e) = y e
  | 0, e, _ => by simp
  | t + 1, e, h => by
    have e1 : (t + 1) * q + e = q + (t * q + e) := by rw [Nat.add_mul]; omega
    rw [e1] at h ⊢
    rw [hp _ h, mul_on hp t e (by omega)]
/-- The greatest end's period is the text's, or the text's is long. -/
theorem cut_of (hm : 0 < m) {a q : Nat} (ham : a < m) (hcr : Crit x m a) (q1 : 1 ≤ q) (hper : ∀ e, a + q + e < m → x (a + q + e) = x (a + e)) (hmin : ∀ p, 0 < p → p < q → ∃ e, a + p + e < m ∧ x (a + p + e) ≠ x (a + e)) (hq : a + q ≤ m)
    {small : Bool} (hs : small = true ↔ ∀ k, k < a → x k = x (k + q)) : Cut x m a (if small then q else max a (m - a) + 1) small := by
  have hlo : ∀ r, 0 < r → Per x m r → a < r ∧ q ≤ r := fun r h0 hp => by
    refine ⟨(hcr r h0 (hp.loc a)).1, ?_⟩
    rcases Nat.lt_or_ge r q with hc | hc
    · obtain ⟨e, h1, h2⟩ := hmin r h0 hc
      exact absurd (by have := hp (a + e) (by omega); rw [this]; congr 1; omega) h2
    · exact hc
  cases small with
  | true =>
    have hq' := hs.1 rfl
    have hP : Per x m q := fun k hk => by
      rcases Nat.lt_or_ge k a with hc | hc
      · exact hq' k hc
      · obtain ⟨e, rfl⟩ : ∃ e, k = a + e := ⟨k - a, by omega⟩
        rw [← hper e (by omega)]; congr 1; omega
    exact ⟨ham, q1, hcr, fun r h0 hp => (hlo r h0 hp).2, fun _ => hP, by simp; omega⟩
  | false =>
    refine ⟨ham, by simp, hcr, fun r h0 hp => ?_, (fun h => by cases h), by simp; omega⟩
    obtain ⟨l1, l2⟩ := hlo r h0 hp
    simp only [Bool.false_eq_true, if_false]
    rcases Nat.lt_or_ge (max a (m - a)) r with hc | hc
    · omega
    exfalso
    have hrm : r ≤ m - a := by omega
    -- the end's own period, many times
    have hy := mul_on (q := q) (n := m - a) (y := fun e => x (a + e)) (fun e he => by show x (a + (q + e)) = x (a + e); rw [← Nat.add_assoc]; exact hper e (by omega))
    obtain ⟨t, c, hrc, hcq⟩ : ∃ t c, r = t * q + c ∧ c < q := ⟨r / q, r % q, by have := Nat.div_add_mod r q; rw [Nat.mul_comm] at this; omega, Nat.mod_lt _ q1⟩
    rcases Nat.eq_zero_or_pos c with h1 | h1
    · subst h1
      have hP : ∀ k, k < a → x k = x (k + q) := fun k hk => by
        have k1 := hp k (by omega)
        have t1 : 1 ≤ t := by
          rcases Nat.eq_zero_or_pos t with h | h
          · subst h; omega
          · exact h
        obtain ⟨t', rfl⟩ : ∃ t', t = t' + 1 := ⟨t - 1, by omega⟩
        have e1 : (t' + 1) * q = t' * q + q := by rw [Nat.add_mul]; omega
        rcases Nat.lt_or_ge (k + q) a with hc | hc
        · have k2 := hp (k + q) (by omega)
          rw [k1, k2]
          obtain ⟨f, hf⟩ : ∃ f, k + r = a + f := ⟨k + r - a, by omega⟩
          have := hper f (by omega)
          rw [hf, ← this]; congr 1; omega
        · rw [k1]
          obtain ⟨f, hf⟩ : ∃ f, k + q = a + f := ⟨k + q - a, by omega⟩
          have := hy t' f (by omega)
          rw [hf, ← this]; congr 1; omega
      have := hs.2 hP
      cases this
    · have hloc : Loc x m a c := fun k hk h2 h3 => by
        have k1 := hp k (by omega)
        obtain ⟨f, hf⟩ : ∃ f, k + c = a + f := ⟨k + c - a, by omega⟩
        have := hy t f (by omega)
        rw [k1, hf, ← this]; congr 1; omega
      obtain ⟨e, g1, g2⟩ := hmin c h1 hcq
      have := (hcr c h1 hloc).2 (a + e) (by omega)
      exact g2 (by rw [this]; congr 1; omega)

/-! ### finding -/
variable {y : Nat → Nat} {n : Nat}
def Match (x : Nat → Nat) (m : Nat) (y : Nat → Nat) (n i : Nat) : Prop := i + m ≤ n ∧ ∀ k, k < m → y (i + k) = x k
/-- The bytes from the cut on fit up to one that doesn't: none stands before the move's end. -/
theorem Cut.skip {a s : Nat} {small : Bool} (h : Cut x m a s small) {p i : Nat} (hai : a ≤ i) (him : i < m) (hfit : ∀ k, a ≤ k → k < i → y (p + k) = x k) (hno : y (p + i) ≠ x i) : ∀ j, p ≤ j → j < p + (i - a + 1) → ¬ Match x m y n j := by
  intro j hj1 hj2 ⟨hm1, hm2⟩
  obtain ⟨r, rfl⟩ : ∃ r, j = p + r := ⟨j - p, by omega⟩
  rcases Nat.eq_zero_or_pos r with h0 | h0
  · subst h0; exact hno (by simpa using hm2 i him)
  · have hl : Loc x m a r := fun k h1 h2 h3 => by
      have e1 := hm2 k (by omega)
      have e2 := hfit (k + r) h2 (by omega)
      rw [← e1, ← e2]; congr 1; omega
    have hp := (h.crit r h0 hl).2 (i - r) (by omega)
    have e3 := hm2 (i - r) (by omega)
    rw [show p + r + (i - r) = p + i by omega, hp, show i - r + r = i by omega] at e3
    exact hno e3
/-- The bytes from the cut on all fit: behind this place none stands before the move's end. -/
theorem Cut.jump {a s : Nat} {small : Bool} (h : Cut x m a s small) {p : Nat} (hfit : ∀ k, a ≤ k → k < m → y (p + k) = x k) : ∀ j, p < j → j < p + s → ¬ Match x m y n j := by
  intro j hj1 hj2 ⟨hm1, hm2⟩
  obtain ⟨r, rfl⟩ : ∃ r, j = p + r := ⟨j - p, by omega⟩
  have hl : Loc x m a r := fun k h1 h2 h3 => by
    have e1 := hm2 k (by omega)
    have e2 := hfit (k + r) h2 h3
    rw [← e1, ← e2]; congr 1; omega
  have := h.least r (by omega) (h.crit r (by omega) hl).2
  omega
/-- What fitted fits still behind a move by the period. -/
theorem Cut.known {a s : Nat} (h : Cut x m a s true) {p : Nat} (hfit : ∀ k, a ≤ k → k < m → y (p + k) = x k) : ∀ k, k < m - s → y (p + s + k) = x k := by
  intro k hk
  have hp := h.per rfl
  have ha := (h.crit s h.s1 (hp.loc a)).1
  have := hfit (s + k) (by omega) (by omega)
  rw [show p + s + k = p + (s + k) by omega, this, hp k (by omega)]; congr 1; omega
/-- The first place from p on; -1: none. -/
def next (x : Nat → Nat) (m : Nat) (y : Nat → Nat) (n p : Nat) (r : Int) : Prop := (0 ≤ r → p ≤ r.toNat ∧ Match x m y n r.toNat ∧ ∀ j, p ≤ j → j < r.toNat → ¬ Match x m y n j) ∧ (r < 0 → r = -1 ∧ ∀ j, p ≤ j → ¬ Match x m y n j)
theorem next_one {p : Nat} {r r' : Int} (h : next x m y n p r) (h' : next x m y n p r') : r = r' := by
  rcases Int.lt_or_le r 0 with a | a <;> rcases Int.lt_or_le r' 0 with b | b
  · rw [(h.2 a).1, (h'.2 b).1]
  · exact absurd (h'.1 b).2.1 ((h.2 a).2 _ (h'.1 b).1)
  · exact absurd (h.1 a).2.1 ((h'.2 b).2 _ (h.1 a).1)
  · obtain ⟨a1, a2, a3⟩ := h.1 a
    obtain ⟨b1, b2, b3⟩ := h'.1 b
    rcases Nat.lt_trichotomy r.toNat r'.toNat with c | c | c
    · exact absurd a2 (b3 _ a1 c)
    · omega
    · exact absurd b2 (a3 _ b1 c)
theorem next_from {p q : Nat} {r : Int} (hpq : p ≤ q) (hno : ∀ j, p ≤ j → j < q → ¬ Match x m y n j) (h : next x m y n q r) : next x m y n p r := by
  refine ⟨fun a => ?_, fun a => ?_⟩
  · obtain ⟨a1, a2, a3⟩ := h.1 a
    refine ⟨by omega, a2, fun j h1 h2 => ?_⟩
    rcases Nat.lt_or_ge j q with c | c
    · exact hno j h1 c
    · exact a3 j c h2
  · obtain ⟨a1, a2⟩ := h.2 a
    refine ⟨a1, fun j h1 => ?_⟩
    rcases Nat.lt_or_ge j q with c | c
    · exact hno j h1 c
    · exact a2 j c
end
end Seine.Two
end
section
/- The walks of packages suffix and critical: the greatest end of a text, and where it is cut. -/
set_option linter.unusedVariables false
set_option linter.unusedSimpArgs false
namespace Go.Proofs.Ytbklkemfcdkihaa
open Go.RowKit Seine.Trie Seine.Two

/-- How bytes stand: by the order, or the turned one. -/
def RB (t : Bool) (a b : Nat) : Prop := if t then b < a else a < b
instance (t : Bool) (a b : Nat) : Decidable (RB t a b) := by unfold RB; exact inferInstance
theorem RB_ord (t : Bool) : Ord (RB t) := by
  cases t
  · exact ⟨fun a => by simp [RB], fun a b c h1 h2 => by simp [RB] at *; omega, fun a b h => by simp [RB]; omega⟩
  · exact ⟨fun a => by simp [RB], fun a b c h1 h2 => by simp [RB] at *; omega, fun a b h => by simp [RB]; omega⟩
theorem RB_flip (a b : Nat) : RB true a b ↔ RB false b a := by simp [RB]
/-- A text's bytes as numbers. -/
def bx (b : Txt) (k : Nat) : Nat := (b.getD k 0).toNat

theorem less_calls (w : World) (bl : Nat) (t : Bool) (a c : Nat) (hc : w.cell? ⟨bl, 0, none⟩ = some (.bool t)) (r : Bool) (hr : r = decide (RB t a c)) :
    Calls Try.prog 93 #[.int .u8 (a : Int), .int .u8 (c : Int), .pointer (some ⟨bl, 0, none⟩)] w fun e w' => e = .returned (.bool r) ∧ w = w' := by
  rcases Nat.lt_trichotomy a c with h | h | h
  · have h1 : ((a : Int) != (c : Int)) = true := by simp; omega
    have h2 : decide ((a : Int) < (c : Int)) = true := by simp; omega
    have h2' : decide (a < c) = true := by simp; omega
    obtain rfl : r = !t := by rw [hr]; cases t <;> simp [RB] <;> omega
    clear hr h
    cases t
    all_goals
      go_enter Try.func93, Try.ntmps93
      go_wp2
      go_ret
      exact ⟨rfl, rfl⟩
  · subst h
    have h1 : ((a : Int) != (a : Int)) = false := by simp
    obtain rfl : r = false := by rw [hr]; cases t <;> simp [RB]
    clear hr
    go_enter Try.func93, Try.ntmps93
    go_wp2
    go_ret
    exact ⟨rfl, rfl⟩
  · have h1 : ((a : Int) != (c : Int)) = true := by simp; omega
    have h2 : decide ((a : Int) < (c : Int)) = false := by simp; omega
    have h2' : decide (a < c) = false := by simp; omega
    obtain rfl : r = t := by rw [hr]; cases t <;> simp [RB] <;> omega
    clear hr h
    cases r
    all_goals
      go_enter Try.func93, Try.ntmps93
      go_wp2
      go_ret
      exact ⟨rfl, rfl⟩

theorem by_calls (w : World) (t : Bool) : Calls Try.prog 90 #[.bool t] w fun e w' => ∃ bl, e = .returned (.agg #[.func (.func 93) #[] #[.pointer (some ⟨bl, 0, none⟩)]]) ∧ w'.heap[bl]? = some (.cells #[.bool t] 4 (0, 0)) ∧ Below w.heap.size w w' := by
  have hmf : ∀ (fn : Fn) (first cap : Array Value) (w : World), (Instr.makeFunc fn first cap).run Try.prog w = .ok (.func fn first cap) w := fun _ _ _ _ => rfl
  go_enter Try.func90, Try.ntmps90
  go_wp2
  refine bodyPost_ret (v := .agg #[.func (.func 93) #[] #[.pointer (some ⟨w.heap.size, 0, none⟩)]]) (by simp [results, Try.results90, go_sem]) rfl ⟨w.heap.size, rfl, ?_, ?_⟩
  · exact blk_old (heap_alloc_new w _)
  · exact ((Below.refl _ _).alloc (Nat.le_refl _) _).alloc (by simp) _

set_option maxRecDepth 100000 in
set_option maxHeartbeats 1600000 in
theorem max_calls (w : World) (A : Option Addr) (c : Nat) (b : Txt) (t : Bool) (hb : Byt w A b) (hl : b.length ≤ 1000000) (hne : 0 < b.length) :
    Calls Try.prog 84 #[.slice A b.length c, .bool t] w fun e w' => ∃ a p : Nat, e = .returned (.tuple #[.int .i64 (a : Int), .int .i64 (p : Int)]) ∧ (MaxEnd (RB t) (bx b) b.length a ∧ (∀ e, a + p + e < b.length → bx b (a + p + e) = bx b (a + e)) ∧ (∀ q, 0 < q → q < p → ∃ e, a + q + e < b.length ∧ bx b (a + q + e) ≠ bx b (a + e)) ∧ a + p ≤ b.length ∧ 1 ≤ p) ∧ Below w.heap.size w w' := by
  have HX := As.mk hb
  clear hb
  obtain ⟨n, hn⟩ : ∃ n, b.length = n := ⟨_, rfl⟩
  rw [hn] at hl hne
  have hn' := As.mk hn
  have hst : As (Inv (RB t) (bx b) n 0 1 0 1) := ⟨Inv.start hne⟩
  have hord := As.mk (RB_ord t)
  have hn0 : ((n : Int) == 0) = false := by simp; omega
  rw [hn]
  clear hn
  go_enter Try.func84, Try.ntmps84
  go_wp2_with fail
  refine Calls.mono (by_calls w t) ?_
  rintro e w1 ⟨bl, rfl, hbl, hb1⟩
  have HX1 := As.mk (HX.out.below hb1)
  replace hb1 := As.mk hb1
  have hbl0 := block_lt hbl
  go_wp2
  have v1 : (w1.alloc (.cells #[.func (.func 93) #[] #[.pointer (some ⟨bl, 0, none⟩)]] 155)).cell? ⟨w1.heap.size, 0, none⟩ = some (.func (.func 93) #[] #[.pointer (some ⟨bl, 0, none⟩)]) := cell_of_blk (heap_alloc_new w1 _) 0
  have v2 : (w1.alloc (.cells #[.func (.func 93) #[] #[.pointer (some ⟨bl, 0, none⟩)]] 155)).cell? ⟨bl, 0, none⟩ = some (.bool t) := cell_of_blk (blk_old hbl) 0
  have hX2 := As.mk (HX1.out.alloc (.cells #[.func (.func 93) #[] #[.pointer (some ⟨bl, 0, none⟩)]] 155))
  have hB2 := As.mk (hb1.out.alloc hb1.out.size (.cells #[.func (.func 93) #[] #[.pointer (some ⟨bl, 0, none⟩)]] 155))
  clear hbl hbl0
  generalize (w1.alloc (.cells #[.func (.func 93) #[] #[.pointer (some ⟨bl, 0, none⟩)]] 155)) = w2 at *
  generalize w1.heap.size = ob at *
  go_loopg [7, 8, 9, 10] (2 * n + 1) (fun gk a nx k p wr => ∃ (A' N K Q m : Nat), As (2 * n + 2 ≤ gk + (A' + N + K)) ∧ a = .int .i64 A' ∧ nx = .int .i64 N ∧ k = .int .i64 K ∧ p = .int .i64 Q ∧ As (Inv (RB t) (bx b) n A' N K Q) ∧ wr = w2.drewN m)
  case atStart => exact ⟨0, 1, 0, 1, 0, ⟨by omega⟩, rfl, rfl, rfl, rfl, hst, rfl⟩
  case round =>
    obtain ⟨a, N, K, Q, m, hgk, rfl, rfl, rfl, rfl, hinv, rfl⟩ := hrel
    have h1 := hinv.out.p1
    have h2 := hinv.out.kp
    have h3 := hinv.out.nm
    have h4 := hinv.out.lo
    obtain ⟨gp, rfl⟩ : ∃ gp, gk = gp + 1 := ⟨gk - 1, by have := hgk.out; omega⟩
    by_cases hlt : N + K < n
    · obtain ⟨ad, rfl, c1⟩ := Byt.at_ hX2.out (i := a + K) (by have := hn'.out; omega)
      obtain ⟨ad', e', c2⟩ := Byt.at_ hX2.out (i := N + K) (by have := hn'.out; omega)
      injection e' with e'
      subst e'
      obtain ⟨x, hx⟩ : ∃ x, (b.getD (a + K) 0).toNat = x := ⟨_, rfl⟩
      obtain ⟨y, hy⟩ : ∃ y, (b.getD (N + K) 0).toNat = y := ⟨_, rfl⟩
      rw [hx] at c1
      rw [hy] at c2
      have hx := As.mk (show bx b (a + K) = x from hx)
      have hy := As.mk (show bx b (N + K) = y from hy)
      have hlt' : (N : Int) + (K : Int) < (n : Int) := by omega
      have hak : (a : Int) + (K : Int) < (n : Int) := by omega
      have i1 : IntKind.i64.wrap ((a : Int) + (K : Int)) = (a : Int) + (K : Int) := IntWalk.i64_in _ (by omega)
      have i2 : IntKind.i64.wrap ((N : Int) + (K : Int)) = (N : Int) + (K : Int) := IntWalk.i64_in _ (by omega)
      have j1 : 0 ≤ (a : Int) + (K : Int) := by omega
      have j2 : 0 ≤ (N : Int) + (K : Int) := by omega
      have k1 : ((a : Int) + (K : Int)).toNat = a + K := by omega
      have k2 : ((N : Int) + (K : Int)).toNat = N + K := by omega
      go_wp2
      go_quiet (fail)
      clear i1 i2 j1 j2 k1 k2
      rw [World.drewN_drewN]
      have cl := As.mk (fun (r : Bool) (hr : r = decide (RB t y x)) => less_calls (w2.drewN (m + nq)) bl t y x v2 r hr)
      have v1' : (w2.drewN (m + nq)).cell? ⟨ob, 0, none⟩ = some (.func (.func 93) #[] #[.pointer (some ⟨bl, 0, none⟩)]) := v1
      clear c1 c2
      rcases (show RB t y x ∨ (¬ RB t y x ∧ x = y) ∨ (¬ RB t y x ∧ RB t x y) by
        by_cases h1 : RB t y x
        · exact .inl h1
        · by_cases h2 : x = y
          · exact .inr (.inl ⟨h1, h2⟩)
          · rcases hord.out.tot x y h2 with h3 | h3
            · exact .inr (.inr ⟨h1, h3⟩)
            · exact absurd h3 h1) with hR | ⟨hR, hxy⟩ | ⟨hR, hR2⟩
      · have hinv2 := As.mk (hinv.out.less hord.out hlt (by rw [hx.out, hy.out]; exact hR))
        have c3 := As.mk (cl.out true (by simp [hR]))
        clear hR
        go_wp2_with (go_at_call 93; refine Calls.mono c3.out ?_; rintro e w' ⟨rfl, rfl⟩)
        go_roundg gp
        case rel => exact ⟨a, N + K + 1, 0, N + K + 1 - a, _, ⟨by have := hgk.out; omega⟩, rfl, (by first | rfl | go_num | (congr 1; omega)), rfl, (by first | rfl | go_num | (congr 1; omega)), hinv2, rfl⟩
        case measure => omega
      · subst hxy
        have c3 := As.mk (cl.out false (by simp [hR]))
        clear hR
        by_cases hk : K + 1 < Q
        · have hinv2 := As.mk (hinv.out.fits hlt (by rw [hx.out, hy.out]) hk)
          have hk1 : decide ((K : Int) + 1 < (Q : Int)) = true := by simp; omega
          go_wp2_with (go_at_call 93; refine Calls.mono c3.out ?_; rintro e w' ⟨rfl, rfl⟩)
          go_roundg gp
          case rel => exact ⟨a, N, K + 1, Q, _, ⟨by have := hgk.out; omega⟩, rfl, rfl, (by first | rfl | go_num | (congr 1; omega)), rfl, hinv2, rfl⟩
          case measure => omega
        · have hinv2 := As.mk (hinv.out.whole hlt (by rw [hx.out, hy.out]) (by omega))
          have hk1 : decide ((K : Int) + 1 < (Q : Int)) = false := by simp; omega
          go_wp2_with (go_at_call 93; refine Calls.mono c3.out ?_; rintro e w' ⟨rfl, rfl⟩)
          go_roundg gp
          case rel => exact ⟨a, N + Q, 0, Q, _, ⟨by have := hgk.out; omega⟩, rfl, (by first | rfl | go_num | (congr 1; omega)), rfl, rfl, hinv2, rfl⟩
          case measure => omega
      · have hinv2 := As.mk (hinv.out.more hord.out hlt (by rw [hx.out, hy.out]; exact hR2))
        have c3 := As.mk (cl.out false (by simp [hR]))
        have hne1 : ((x : Int) == (y : Int)) = false := by
          have : x ≠ y := fun e => hord.out.irr x (by rw [← e] at hR2; exact hR2)
          simp; omega
        clear hR hR2
        go_wp2_with (go_at_call 93; refine Calls.mono c3.out ?_; rintro e w' ⟨rfl, rfl⟩)
        go_roundg gp
        case rel => exact ⟨N, N + 1, 0, 1, _, ⟨by have := hgk.out; omega⟩, rfl, (by first | rfl | go_num | (congr 1; omega)), rfl, rfl, hinv2, rfl⟩
        case measure => omega
    · have hlt' : decide ((N : Int) + (K : Int) < (n : Int)) = false := by simp; omega
      obtain ⟨d1, d2, d3, d4⟩ := hinv.out.done hord.out (by omega)
      have hfin := As.mk (And.intro d1 (And.intro d2 (And.intro d3 (And.intro d4 h1))))
      clear d1 d2 d3 d4 hlt
      go_wp2
      go_ret2
      exact ⟨a, Q, rfl, hfin.out, below_drewN hB2.out m⟩
end Go.Proofs.Ytbklkemfcdkihaa
end
section
/- The walks of package critical, and of package twoway's parts. -/
set_option linter.unusedVariables false
set_option linter.unusedSimpArgs false
namespace Go.Proofs.Ytbklkemfcdkihaa
open Go.RowKit Seine.Trie Seine.Two Go.Proofs.YtbklkemfcdkihaaW.PrintWords

theorem set3 {w : World} {b t : Nat} {x y z : Value} (h : w.heap[b]? = some (.cells #[x, y, z] t (0, 0))) (u v s : Value) : (w.setCell ⟨b, 0, none⟩ u).cell? ⟨b, 0, none⟩ = some u ∧ ((w.setCell ⟨b, 0, none⟩ u).setCell ⟨b, 1, none⟩ v).cell? ⟨b, 1, none⟩ = some v ∧
    (((w.setCell ⟨b, 0, none⟩ u).setCell ⟨b, 1, none⟩ v).setCell ⟨b, 2, none⟩ s).cell? ⟨b, 2, none⟩ = some s :=
  ⟨(cell_of_blk (blk_set h 0 u) 0).trans (by simp), (cell_of_blk (blk_set (blk_set h 0 u) 1 v) 1).trans (by simp), (cell_of_blk (blk_set (blk_set (blk_set h 0 u) 1 v) 2 s) 2).trans (by simp)⟩
/-- What the greatest ends tell of a text's cut, ahead of its period. -/
def CutP (x : Nat → Nat) (m a q : Nat) : Prop := a < m ∧ Crit x m a ∧ 1 ≤ q ∧ (∀ e, a + q + e < m → x (a + q + e) = x (a + e)) ∧ (∀ p, 0 < p → p < q → ∃ e, a + p + e < m ∧ x (a + p + e) ≠ x (a + e)) ∧ a + q ≤ m
set_option maxHeartbeats 800000 in
theorem cut_calls (w : World) (A : Option Addr) (c : Nat) (b : Txt) (hb : Byt w A b) (hl : b.length ≤ 1000000) (hne : 0 < b.length) :
    Calls Try.prog 62 #[.slice A b.length c] w fun e w' => ∃ a q : Nat, e = .returned (.agg #[.int .i64 (a : Int), .int .i64 (q : Int), .bool false]) ∧ CutP (bx b) b.length a q ∧ Below w.heap.size w w' := by
  have HX := As.mk hb
  clear hb
  obtain ⟨n, hn⟩ : ∃ n, b.length = n := ⟨_, rfl⟩
  have cm := As.mk (fun (v : World) (h : Byt v A b) t => max_calls v A c b t h hl hne)
  rw [hn] at cm hl hne
  rw [hn]
  clear hn
  go_enter Try.func62, Try.ntmps62
  go_wp2_with fail
  refine Calls.mono (cm.out _ ?_ false) ?_
  · exact HX.out.alloc _
  rintro e w1 ⟨a1, p1, rfl, h1, hb1⟩
  replace h1 := As.mk h1
  have hs1 := hb1.size
  simp only [World.size_alloc] at hs1
  have hx1 := As.mk ((HX.out.alloc (.cells #[.int .i64 0, .int .i64 0, .bool false] 67)).below hb1)
  have z1 := As.mk (blkBelow hb1 (heap_alloc_new w (.cells #[.int .i64 0, .int .i64 0, .bool false] 67)))
  have hB1 := As.mk (((Below.refl w.heap.size w).alloc (Nat.le_refl _) (.cells #[.int .i64 0, .int .i64 0, .bool false] 67)).trans (hb1.mono (by simp)))
  clear hb1
  go_wp2_with fail
  refine Calls.mono (cm.out _ hx1.out true) ?_
  rintro e w2 ⟨a2, p2, rfl, h2, hb2⟩
  replace h2 := As.mk h2
  have z2 := As.mk (blkBelow hb2 z1.out)
  have hB2 := As.mk (hB1.out.trans (hb2.mono (by omega)))
  have hs2 := hb2.size
  clear hb2
  have y0 := cell_of_blk z2.out 0
  have y1 := cell_of_blk z2.out 1
  have y2 := cell_of_blk z2.out 2
  have f0 := free_of_blk z2.out 0
  have f1 := free_of_blk z2.out 1
  have f2 := free_of_blk z2.out 2
  simp at y0 y1 y2
  by_cases hgt : a1 < a2
  · have hgt' : decide ((a1 : Int) < (a2 : Int)) = true := by simp; omega
    have hc : CutP (bx b) n a2 p2 := by
      obtain ⟨m1, _⟩ := h1.out
      obtain ⟨m2, r2, r3, r4, r5⟩ := h2.out
      exact ⟨m2.1, crit_of (RB_ord true) (fun a b => (RB_flip b a).symm) m2 m1 (by omega), r5, r2, r3, r4⟩
    go_wp2
    obtain ⟨e0, e1, e2⟩ := set3 z2.out (.int .i64 (a2 : Int)) (.int .i64 (p2 : Int)) (.bool false)
    refine bodyPost_ret (v := .agg #[.int .i64 (a2 : Int), .int .i64 (p2 : Int), .bool false]) (by simp [results, Try.results62, go_sem, e0, e1, e2]) rfl ⟨a2, p2, rfl, hc, ?_⟩
    exact ((hB2.out.setCell (by simp) _).setCell (by simp) _).setCell (by simp) _
  · have hgt' : decide ((a1 : Int) < (a2 : Int)) = false := by simp; omega
    have hc : CutP (bx b) n a1 p1 := by
      obtain ⟨m1, r2, r3, r4, r5⟩ := h1.out
      obtain ⟨m2, _⟩ := h2.out
      exact ⟨m1.1, crit_of (RB_ord false) (fun a b => RB_flip a b) m1 m2 (by omega), r5, r2, r3, r4⟩
    go_wp2
    obtain ⟨e0, e1, e2⟩ := set3 z2.out (.int .i64 (a1 : Int)) (.int .i64 (p1 : Int)) (.bool false)
    refine bodyPost_ret (v := .agg #[.int .i64 (a1 : Int), .int .i64 (p1 : Int), .bool false]) (by simp [results, Try.results62, go_sem, e0, e1, e2]) rfl ⟨a1, p1, rfl, hc, ?_⟩
    exact ((hB2.out.setCell (by simp) _).setCell (by simp) _).setCell (by simp) _

/-- A piece of a row of bytes. -/
theorem Byt.piece {w : World} {ad : Addr} {b : Txt} (h : Byt w (some ad) b) (i k : Nat) (hik : i + k ≤ b.length) : Byt w (some (ad.add i)) ((b.drop i).take k) := by
  rcases Nat.eq_zero_or_pos k with rfl | hk
  · exact .inl (by simp [byCells])
  · rcases h with h | ⟨ad', e, hlt, hc⟩
    · have := congrArg List.length h; rw [byCells_length] at this; simp at this; simp [this] at hik; omega
    · injection e with e
      subst e
      refine .inr ⟨_, rfl, by rw [Addr.block_add]; exact hlt, fun j u hu => ?_⟩
      rw [Addr.add_add']
      refine hc _ u ?_
      unfold byCells at hu ⊢
      rw [List.getElem?_map, List.getElem?_take] at hu
      split at hu
      · rw [List.getElem?_drop] at hu; rw [List.getElem?_map]; exact hu
      · simp at hu
theorem Byt.empty (w : World) (A : Option Addr) : Byt w A [] := .inl rfl
set_option maxHeartbeats 800000 in
theorem alike_calls (w : World) (ad : Addr) (c : Nat) (b : Txt) (hb : Byt w (some ad) b) (hl : b.length ≤ 1000000) (hc : b.length ≤ c) (q a : Nat) (hqa : a + q ≤ b.length) (hq : 1 ≤ q) :
    Calls Try.prog 63 #[.slice (some ad) b.length c, .int .i64 0, .int .i64 (q : Int), .int .i64 (a : Int)] w fun e w' => e = .returned (.bool (decide (b.take a = (b.drop q).take a))) ∧ Below w.heap.size w w' := by
  obtain ⟨n, hn⟩ : ∃ n, b.length = n := ⟨_, rfl⟩
  rw [hn] at hl hc hqa
  rw [hn]
  have hn := As.mk hn
  have hb := As.mk hb
  have hcA : ∀ m c', (convert 110 9 (.slice (some ad) a c')).run Try.prog (w.drewN m) = .ok (.string (bb (b.take a))) (w.drewN m) := fun m c' => by
    have h0 : Byt (w.drewN m) (some ad) (b.take a) := by
      have := Byt.piece (b := b) (hb.out.drewN m) 0 a (by have := hn.out; omega)
      rwa [show ad.add 0 = ad from (by unfold Addr.add; simp), List.drop_zero] at this
    have := conv_byt (c := c') Try.underlying110 h0 (by rw [List.length_take]; have := hn.out; omega)
    rwa [show (b.take a).length = a by rw [List.length_take]; have := hn.out; omega] at this
  have hcB : ∀ m c', (convert 110 9 (.slice (some (ad.add q)) a c')).run Try.prog (w.drewN m) = .ok (.string (bb ((b.drop q).take a))) (w.drewN m) := fun m c' => by
    have h0 := Byt.piece (b := b) (hb.out.drewN m) q a (by have := hn.out; omega)
    have := conv_byt (c := c') Try.underlying110 h0 (by rw [List.length_take, List.length_drop]; have := hn.out; omega)
    rwa [show ((b.drop q).take a).length = a by rw [List.length_take, List.length_drop]; have := hn.out; omega] at this
  have hn1 : (a : Int) ≤ (c : Int) := by omega
  have hn2 : (q : Int) + (a : Int) ≤ (c : Int) := by omega
  have hn3 : (q : Int) ≤ (q : Int) + (a : Int) := by omega
  by_cases he : b.take a = (b.drop q).take a
  · rw [decide_eq_true he]
    rw [← he] at hcB
    obtain ⟨x, hx⟩ : ∃ x, bb (b.take a) = x := ⟨_, rfl⟩
    rw [hx] at hcA hcB
    clear hx he
    by_cases hqc : q < c
    · go_enter Try.func63, Try.ntmps63
      go_wp2
      go_quiet (fail)
      go_wp2
      go_ret
      exact ⟨rfl, below_drewN (Below.refl _ _) _⟩
    · obtain rfl : a = 0 := by omega
      obtain rfl : q = c := by omega
      go_enter Try.func63, Try.ntmps63
      go_wp2
      go_quiet (fail)
      go_wp2
      go_ret
      exact ⟨rfl, below_drewN (Below.refl _ _) _⟩
  · rw [decide_eq_false he]
    have hqc : q < c := by
      rcases Nat.lt_or_ge q c with h | h
      · exact h
      · exfalso
        obtain rfl : a = 0 := by omega
        exact he (by simp)
    obtain ⟨x, hx⟩ : ∃ x, bb (b.take a) = x := ⟨_, rfl⟩
    obtain ⟨y, hy⟩ : ∃ y, bb ((b.drop q).take a) = y := ⟨_, rfl⟩
    have hne : (x.toList == y.toList) = false := by
      rw [← hx, ← hy, bb_toList, bb_toList]; simpa using he
    rw [hx] at hcA
    rw [hy] at hcB
    clear hx hy he
    go_enter Try.func63, Try.ntmps63
    go_wp2
    go_quiet (fail)
    go_wp2
    go_ret
    exact ⟨rfl, below_drewN (Below.refl _ _) _⟩

theorem eqSplit (d : Nat) (w : World) (x0 y0 x1 y1 : Int) (x2 y2 : Bool) :
    (Op.equalIn (d + 2) 67 (.agg #[.int .i64 x0, .int .i64 x1, .bool x2]) (.agg #[.int .i64 y0, .int .i64 y1, .bool y2])).run Try.prog w = .ok (x0 == y0 && (x1 == y1 && (x2 == y2))) w := by
  have h := field_eq (P := Try.prog) (d := d + 1) (w := w) (xs := #[.int .i64 x0, .int .i64 x1, .bool x2]) (ys := #[.int .i64 y0, .int .i64 y1, .bool y2]) (f := ⟨"At", 3, 0, false, "", "", 0⟩) (by decide) (by go_simp; rfl) (by go_simp; rfl) (by go_simp; rfl)
    (field_eq (f := ⟨"Per", 3, 1, false, "", "", 8⟩) (by decide) (by go_simp; rfl) (by go_simp; rfl) (by go_simp; rfl)
      (field_eq (f := ⟨"Small", 4, 2, false, "", "", 16⟩) (by decide) (by go_simp; rfl) (by go_simp; rfl) (by go_simp; rfl) fields_none))
  rw [Bool.and_true] at h
  exact struct_eq Try.underlying67 (by kernel_rfl) h
theorem small_iff (b : Txt) (a q : Nat) (h : a + q ≤ b.length) : b.take a = (b.drop q).take a ↔ ∀ k, k < a → bx b k = bx b (k + q) := by
  constructor
  · intro he k hk
    have := congrArg (fun l => (l.getD k 0).toNat) he
    simp only [List.getD_eq_getElem?_getD, List.getElem?_take, List.getElem?_drop, if_pos hk] at this
    unfold bx
    rw [List.getD_eq_getElem?_getD, List.getD_eq_getElem?_getD, Nat.add_comm k q]; exact this
  · intro he
    refine txt_ext (by rw [List.length_take, List.length_take, List.length_drop]; omega) fun j hj => ?_
    have hja : j < a := by rw [List.length_take] at hj; omega
    have := he j hja
    unfold bx at this
    have h2 := UInt8.toNat_inj.1 this
    simp only [List.getD_eq_getElem?_getD, List.getElem?_take, List.getElem?_drop, if_pos hja] at h2 ⊢
    rw [Nat.add_comm q j]; exact h2

attribute [local go_sem high] eqSplit
attribute [local go_sem] max2_i min2_i max_two' min_two'
set_option maxRecDepth 100000 in
set_option maxHeartbeats 1600000 in
theorem factor_calls (w : World) (ad : Addr) (c : Nat) (b : Txt) (hb : Byt w (some ad) b) (hl : b.length ≤ 1000000) (hne : 0 < b.length) (hc : b.length ≤ c) :
    Calls Try.prog 34 #[.slice (some ad) b.length c] w fun e w' => ∃ (a s : Nat) (sm : Bool), e = .returned (.agg #[.int .i64 (a : Int), .int .i64 (s : Int), .bool sm]) ∧ Cut (bx b) b.length a s sm ∧ Below w.heap.size w w' := by
  have hu := Try.underlying67
  have HX := As.mk hb
  clear hb
  have hmf : ∀ (fn : Fn) (first cap : Array Value) (w : World), (Instr.makeFunc fn first cap).run Try.prog w = .ok (.func fn first cap) w := fun _ _ _ _ => rfl
  have ca := As.mk (fun (v : World) (h : Byt v (some ad) b) q a h1 h2 => alike_calls v ad c b h hl hc q a h1 h2)
  have cc := As.mk (fun (v : World) (h : Byt v (some ad) b) => cut_calls v (some ad) c b h hl hne)
  have hsm := As.mk (fun a q h => small_iff b a q h)
  have hco := As.mk (fun (a q : Nat) (h : CutP (bx b) b.length a q) (sm : Bool) hs => cut_of hne h.1 h.2.1 h.2.2.1 h.2.2.2.1 h.2.2.2.2.1 h.2.2.2.2.2 (small := sm) hs)
  obtain ⟨n, hn⟩ : ∃ n, b.length = n := ⟨_, rfl⟩
  rw [hn] at ca cc hsm hl hne hc hco
  rw [hn]
  clear hn
  go_enter Try.func34, Try.ntmps34
  go_wp2_with fail
  refine Calls.mono (cc.out _ ?_) ?_
  · exact HX.out.alloc _
  rintro e w1 ⟨a, q, rfl, hcp, hb1⟩
  have hs1 := hb1.size
  simp only [World.size_alloc] at hs1
  have hx1 := As.mk ((HX.out.alloc (.cells #[.int .i64 0, .int .i64 0, .bool false] 67)).below hb1)
  have z1 := As.mk (blkBelow hb1 (heap_alloc_new w (.cells #[.int .i64 0, .int .i64 0, .bool false] 67)))
  have hB1 := As.mk (((Below.refl w.heap.size w).alloc (Nat.le_refl _) (.cells #[.int .i64 0, .int .i64 0, .bool false] 67)).trans (hb1.mono (by simp)))
  have hq1 : 1 ≤ q := hcp.2.2.1
  have haq : a + q ≤ n := hcp.2.2.2.2.2
  have han : a < n := hcp.1
  replace hcp := As.mk hcp
  clear hb1
  have hq0 : ((q : Int) == 0) = false := by simp; omega
  have z2 := blk_old (o' := .cells #[.int .i64 (a : Int), .int .i64 (q : Int), .bool false] 67) z1.out
  have z3 := heap_alloc_new w1 (.cells #[.int .i64 (a : Int), .int .i64 (q : Int), .bool false] 67)
  have hx2 := As.mk (hx1.out.alloc (.cells #[.int .i64 (a : Int), .int .i64 (q : Int), .bool false] 67))
  have hB2 := As.mk (hB1.out.alloc (by omega) (.cells #[.int .i64 (a : Int), .int .i64 (q : Int), .bool false] 67))
  have y0 := cell_of_blk z3 0
  have y1 := cell_of_blk z3 1
  have y2 := cell_of_blk z3 2
  simp at y0 y1 y2
  go_wp2_with fail
  refine Calls.mono (ca.out _ hx2.out q a haq hq1) ?_
  rintro e w3 ⟨rfl, hb3⟩
  have hs3 := hb3.size
  simp only [World.size_alloc] at hs3
  have z2 := blkBelow hb3 z2
  have z3 := blkBelow hb3 z3
  have hB3 := As.mk (hB2.out.trans (hb3.mono (by simp; omega)))
  have hlt : w.heap.size < w1.heap.size := by omega
  clear hb3 y0 y1 y2
  obtain ⟨sm, hsm2⟩ : ∃ sm, decide (b.take a = (b.drop q).take a) = sm := ⟨_, rfl⟩
  have hcut := As.mk (hco.out a q hcp.out sm (by rw [← hsm2, decide_eq_true_iff]; exact hsm.out a q haq))
  rw [hsm2]
  clear hsm2
  generalize w1.heap.size = b3 at *
  obtain ⟨r0, hr0⟩ : ∃ r0, w.heap.size = r0 := ⟨_, rfl⟩
  rw [hr0] at z2 hB3 hlt ⊢
  have y0 := cell_of_blk z3 0
  have y1 := cell_of_blk z3 1
  have y2 := cell_of_blk z3 2
  have g0 := cell_of_blk z2 0
  have g1 := cell_of_blk z2 1
  have g2 := cell_of_blk z2 2
  have f0 := free_of_blk z3 0
  have f1 := free_of_blk z3 1
  have f2 := free_of_blk z3 2
  have k0 := free_of_blk z2 0
  have k1 := free_of_blk z2 1
  have k2 := free_of_blk z2 2
  simp at y0 y1 y2 g0 g1 g2
  have hne3 : ¬ r0 = b3 := by omega
  have hne4 : ¬ b3 = r0 := by omega
  have hbs3 := block_lt z3
  cases sm with
  | true =>
    have e2 : (w3.setCell ⟨b3, 2, none⟩ (.bool true)).cell? ⟨b3, 2, none⟩ = some (.bool true) := (cell_of_blk (blk_set z3 2 _) 2).trans (by simp)
    have zr := blk_far z2 (p := ⟨b3, 2, none⟩) hne3 (.bool true)
    obtain ⟨o0, o1, o2⟩ := set3 zr (.int .i64 (a : Int)) (.int .i64 (q : Int)) (.bool true)
    replace z2 := As.mk z2
    replace z3 := As.mk z3
    replace zr := As.mk zr
    go_wp2
    refine bodyPost_ret (v := .agg #[.int .i64 (a : Int), .int .i64 (q : Int), .bool true]) (by simp [results, Try.results34, go_sem, o0, o1, o2]) rfl ⟨a, q, true, rfl, hcut.out, ?_⟩
    rw [hr0]
    exact (((hB3.out.setCell (by show r0 ≤ b3; omega) _).setCell (Nat.le_refl _) _).setCell (Nat.le_refl _) _).setCell (Nat.le_refl _) _
  | false =>
    have hmx : As (((max a (n - a) + 1 : Nat) : Int) = max (a : Int) ((n : Int) - (a : Int)) + 1) := ⟨by omega⟩
    obtain ⟨S, hS⟩ : ∃ S : Nat, max a (n - a) + 1 = S := ⟨_, rfl⟩
    have hS2 : max (a : Int) ((n : Int) - (a : Int)) + 1 = (S : Int) := by rw [← hmx.out, hS]
    have e2 : (w3.setCell ⟨b3, 2, none⟩ (.bool false)).cell? ⟨b3, 2, none⟩ = some (.bool false) := (cell_of_blk (blk_set z3 2 _) 2).trans (by simp)
    have e1 : ((w3.setCell ⟨b3, 2, none⟩ (.bool false)).setCell ⟨b3, 1, none⟩ (.int .i64 (S : Int))).cell? ⟨b3, 1, none⟩ = some (.int .i64 (S : Int)) := (cell_of_blk (blk_set (blk_set z3 2 _) 1 _) 1).trans (by simp)
    have zr := blk_far (blk_far z2 (p := ⟨b3, 2, none⟩) hne3 (.bool false)) (p := ⟨b3, 1, none⟩) hne3 (.int .i64 (S : Int))
    obtain ⟨o0, o1, o2⟩ := set3 zr (.int .i64 (a : Int)) (.int .i64 (S : Int)) (.bool false)
    have hcut2 : As (Cut (bx b) n a S false) := ⟨by have := hcut.out; simp only [Bool.false_eq_true, if_false] at this; rw [hS] at this; exact this⟩
    replace z2 := As.mk z2
    replace z3 := As.mk z3
    replace zr := As.mk zr
    clear hcut hS
    have hw1 : IntKind.i64.wrap ((n : Int) - (a : Int)) = (n : Int) - (a : Int) := IntWalk.i64_in _ (by omega)
    go_wp2
    refine bodyPost_ret (v := .agg #[.int .i64 (a : Int), .int .i64 (S : Int), .bool false]) (by simp [results, Try.results34, go_sem, o0, o1, o2]) rfl ⟨a, S, false, rfl, hcut2.out, ?_⟩
    rw [hr0]
    exact ((((hB3.out.setCell (by show r0 ≤ b3; omega) _).setCell (by show r0 ≤ b3; omega) _).setCell (Nat.le_refl _) _).setCell (Nat.le_refl _) _).setCell (Nat.le_refl _) _
end Go.Proofs.Ytbklkemfcdkihaa
end
section
/- The walks of package twoway: a text's bytes held against a line's. -/
set_option linter.unusedVariables false
set_option linter.unusedSimpArgs false
namespace Go.Proofs.Ytbklkemfcdkihaa
open Go.RowKit Seine.Trie Seine.Two Go.Proofs.YtbklkemfcdkihaaW.PrintWords

/-- A finder of the text b at block g: the cut a, the move s, whether s is the period. -/
def TwoIn (w : World) (g : Nat) (b : Txt) (ad : Addr) (cb a s : Nat) (sm : Bool) : Prop :=
  w.heap[g]? = some (.cells #[.slice (some ad) b.length cb, .int .i64 (a : Int), .int .i64 (s : Int), .bool sm, .func (.func (if sm then 36 else 35)) #[] #[]] 72 (0, 0)) ∧ b.length ≤ cb ∧ Byt w (some ad) b ∧ Cut (bx b) b.length a s sm
theorem TwoIn.below {w w' : World} {g : Nat} {b : Txt} {ad : Addr} {cb a s : Nat} {sm : Bool} (h : TwoIn w g b ad cb a s sm) (hb : Below w.heap.size w w') : TwoIn w' g b ad cb a s sm :=
  ⟨blkBelow hb h.1, h.2.1, Row.below h.2.2.1 hb, h.2.2.2⟩
section
variable {w : World} {g : Nat} {b : Txt} {ad : Addr} {cb a s : Nat} {sm : Bool}
theorem TwoIn.c0 (h : TwoIn w g b ad cb a s sm) : w.cell? ⟨g, 0, none⟩ = some (.slice (some ad) b.length cb) := cell_of_blk h.1 0
theorem TwoIn.c1 (h : TwoIn w g b ad cb a s sm) : w.cell? ⟨g, 1, none⟩ = some (.int .i64 (a : Int)) := cell_of_blk h.1 1
theorem TwoIn.c2 (h : TwoIn w g b ad cb a s sm) : w.cell? ⟨g, 2, none⟩ = some (.int .i64 (s : Int)) := cell_of_blk h.1 2
theorem TwoIn.c4 (h : TwoIn w g b ad cb a s sm) : w.cell? ⟨g, 4, none⟩ = some (.func (.func (if sm then 36 else 35)) #[] #[]) := cell_of_blk h.1 4
end

set_option maxRecDepth 100000 in
set_option maxHeartbeats 1600000 in
theorem right_calls (w : World) (g : Nat) (b : Txt) (ad : Addr) (cb a s : Nat) (sm : Bool) (h : TwoIn w g b ad cb a s sm) (hl : b.length ≤ 1000000) (A : Option Addr) (c : Nat) (l : Txt) (hx : Byt w A l) (hll : l.length ≤ 1000000) (p fr : Nat) (hp : p + b.length ≤ l.length) (hf : fr ≤ b.length) :
    Calls Try.prog 64 #[.pointer (some ⟨g, 0, none⟩), .slice A l.length c, .int .i64 (p : Int), .int .i64 (fr : Int)] w fun e w' => ∃ i : Nat, e = .returned (.int .i64 (i : Int)) ∧ (fr ≤ i ∧ i ≤ b.length ∧ (∀ k, fr ≤ k → k < i → bx l (p + k) = bx b k) ∧ (i < b.length → bx l (p + i) ≠ bx b i)) ∧ Below w.heap.size w w' := by
  have c0 := h.c0
  have HB := As.mk h.2.2.1
  have HX := As.mk hx
  clear h hx
  obtain ⟨n, hn⟩ : ∃ n, b.length = n := ⟨_, rfl⟩
  obtain ⟨m, hm⟩ : ∃ m, l.length = m := ⟨_, rfl⟩
  rw [hn] at c0 hl hp hf
  rw [hm] at hp hll
  rw [hn, hm]
  have hn := As.mk hn
  have hm := As.mk hm
  go_enter Try.func64, Try.ntmps64
  go_wp2
  go_loopw [9] (fun i wr => ∃ k j : Nat, fr ≤ k ∧ k ≤ n ∧ i = .int .i64 k ∧ As (∀ q, fr ≤ q → q < k → bx l (p + q) = bx b q) ∧ wr = w.drewN j) (fun i _ => n - (intOf i).toNat)
  case atStart => exact ⟨fr, 0, Nat.le_refl _, hf, rfl, ⟨fun q h1 h2 => by omega⟩, rfl⟩
  case round =>
    obtain ⟨k, j, hk1, hk2, rfl, hfit, rfl⟩ := hrel
    by_cases hlt : k < n
    · obtain ⟨ad', e', c1⟩ := Byt.at_ HB.out (i := k) (by have := hn.out; omega)
      injection e' with e'
      subst e'
      obtain ⟨ad2, rfl, c2⟩ := Byt.at_ HX.out (i := p + k) (by have := hm.out; omega)
      obtain ⟨x, hx⟩ : ∃ x, (b.getD k 0).toNat = x := ⟨_, rfl⟩
      obtain ⟨y, hy⟩ : ∃ y, (l.getD (p + k) 0).toNat = y := ⟨_, rfl⟩
      rw [hx] at c1
      rw [hy] at c2
      have hx := As.mk (show bx b k = x from hx)
      have hy := As.mk (show bx l (p + k) = y from hy)
      have hkn : (k : Int) < (n : Int) := by omega
      have hkn' : decide ((k : Int) < (n : Int)) = true := by simp; omega
      have hpk : (p : Int) + (k : Int) < (m : Int) := by omega
      have i1 : IntKind.i64.wrap ((p : Int) + (k : Int)) = (p : Int) + (k : Int) := IntWalk.i64_in _ (by omega)
      have j1 : 0 ≤ (p : Int) + (k : Int) := by omega
      have k1 : ((p : Int) + (k : Int)).toNat = p + k := by omega
      by_cases hxy : x = y
      · have hb1 : ((x : Int) == (y : Int)) = true := by simp; omega
        have hfit2 : As (∀ q, fr ≤ q → q < k + 1 → bx l (p + q) = bx b q) := ⟨fun q h1 h2 => by
          rcases Nat.lt_or_ge q k with h | h
          · exact hfit.out q h1 h
          · obtain rfl : q = k := by omega
            rw [hx.out, hy.out, hxy]⟩
        go_wp2
        go_quiet (fail)
        clear i1 j1 k1 c1 c2
        rw [World.drewN_drewN]
        go_wp2
        go_roundw
        case rel => exact ⟨k + 1, _, by omega, by omega, (by first | rfl | go_num | (congr 1; omega)), hfit2, rfl⟩
        case measure => simp [intOf]; omega
      · have hb1 : ((x : Int) == (y : Int)) = false := by simp; omega
        have hno : As (bx l (p + k) ≠ bx b k) := ⟨by rw [hx.out, hy.out]; exact fun e => hxy e.symm⟩
        go_wp2
        go_quiet (fail)
        clear i1 j1 k1 c1 c2
        rw [World.drewN_drewN]
        go_wp2
        go_ret
        exact ⟨k, rfl, ⟨hk1, by omega, hfit.out, fun _ => hno.out⟩, below_drewN (Below.refl _ _) _⟩
    · obtain rfl : k = n := by omega
      have hkn : decide ((k : Int) < (k : Int)) = false := by simp
      go_wp2
      go_quiet (fail)
      go_wp2
      go_ret
      exact ⟨k, rfl, ⟨hk1, by omega, hfit.out, fun h => absurd h (by omega)⟩, below_drewN (below_drewN (Below.refl _ _) _) _⟩

def LeftPost (w : World) (y x : Nat → Nat) (p dn a : Nat) (e : Ending) (w' : World) : Prop := ∃ r : Bool, e = .returned (.bool r) ∧ (r = true ↔ ∀ k, dn ≤ k → k < a → y (p + k) = x k) ∧ Below w.heap.size w w'
def NextPost (w : World) (x : Nat → Nat) (n : Nat) (y : Nat → Nat) (m p : Nat) (e : Ending) (w' : World) : Prop := ∃ r : Int, e = .returned (.int .i64 r) ∧ Seine.Two.next x n y m p r ∧ Below w.heap.size w w'
set_option maxRecDepth 100000 in
set_option maxHeartbeats 1600000 in
theorem left_calls (w : World) (g : Nat) (b : Txt) (ad : Addr) (cb a s : Nat) (sm : Bool) (h : TwoIn w g b ad cb a s sm) (hl : b.length ≤ 1000000) (A : Option Addr) (c : Nat) (l : Txt) (hx : Byt w A l) (hll : l.length ≤ 1000000) (p dn : Nat) (hp : p + b.length ≤ l.length) :
    Calls Try.prog 65 #[.pointer (some ⟨g, 0, none⟩), .slice A l.length c, .int .i64 (p : Int), .int .i64 (dn : Int)] w (LeftPost w (bx l) (bx b) p dn a) := by
  have c0 := h.c0
  have c1 := h.c1
  have ham := h.2.2.2.am
  have HB := As.mk h.2.2.1
  have HX := As.mk hx
  clear h hx
  obtain ⟨n, hn⟩ : ∃ n, b.length = n := ⟨_, rfl⟩
  obtain ⟨m, hm⟩ : ∃ m, l.length = m := ⟨_, rfl⟩
  rw [hn] at c0 hl hp ham
  rw [hm] at hp hll
  rw [hm]
  have hn := As.mk hn
  have hm := As.mk hm
  have hw0 : IntKind.i64.wrap ((a : Int) - 1) = (a : Int) - 1 := IntWalk.i64_in _ (by omega)
  go_enter Try.func65, Try.ntmps65
  go_wp2
  clear hw0
  go_loopw [9] (fun i wr => ∃ (z : Int) (j : Nat), i = .int .i64 z ∧ -1 ≤ z ∧ z < a ∧ As (∀ q : Nat, dn ≤ q → z < q → q < a → bx l (p + q) = bx b q) ∧ wr = w.drewN j) (fun i _ => (intOf i + 1).toNat)
  case atStart => exact ⟨(a : Int) - 1, 0, rfl, by omega, by omega, ⟨fun q h1 h2 h3 => by omega⟩, rfl⟩
  case round =>
    obtain ⟨z, j, rfl, hz1, hz2, hfit, rfl⟩ := hrel
    by_cases hlt : (dn : Int) ≤ z
    · obtain ⟨k, rfl⟩ : ∃ k : Nat, z = k := ⟨z.toNat, by omega⟩
      have hka : k < a := by omega
      have hdk : dn ≤ k := by omega
      obtain ⟨ad', e', c2⟩ := Byt.at_ HB.out (i := k) (by have := hn.out; omega)
      injection e' with e'
      subst e'
      obtain ⟨ad2, rfl, c3⟩ := Byt.at_ HX.out (i := p + k) (by have := hm.out; omega)
      obtain ⟨x, hx⟩ : ∃ x, (b.getD k 0).toNat = x := ⟨_, rfl⟩
      obtain ⟨y, hy⟩ : ∃ y, (l.getD (p + k) 0).toNat = y := ⟨_, rfl⟩
      rw [hx] at c2
      rw [hy] at c3
      have hx := As.mk (show bx b k = x from hx)
      have hy := As.mk (show bx l (p + k) = y from hy)
      have hkn : (k : Int) < (n : Int) := by omega
      have hpk : (p : Int) + (k : Int) < (m : Int) := by omega
      have i1 : IntKind.i64.wrap ((p : Int) + (k : Int)) = (p : Int) + (k : Int) := IntWalk.i64_in _ (by omega)
      have j1 : 0 ≤ (p : Int) + (k : Int) := by omega
      have k1 : ((p : Int) + (k : Int)).toNat = p + k := by omega
      by_cases hxy : x = y
      · have hb1 : ((x : Int) != (y : Int)) = false := by simp; omega
        have hfit2 : As (∀ q : Nat, dn ≤ q → (k : Int) - 1 < q → q < a → bx l (p + q) = bx b q) := ⟨fun q h1 h2 h3 => by
          rcases Nat.lt_or_ge k q with h | h
          · exact hfit.out q h1 (by omega) h3
          · obtain rfl : q = k := by omega
            rw [hx.out, hy.out, hxy]⟩
        go_wp2
        go_quiet (fail)
        clear i1 j1 k1 c2 c3
        rw [World.drewN_drewN]
        go_wp2
        go_roundw
        case rel => exact ⟨(k : Int) - 1, _, rfl, by omega, by omega, hfit2, rfl⟩
        case measure => first | (simp [intOf]; done) | (simp [intOf]; omega)
      · have hb1 : ((x : Int) != (y : Int)) = true := by simp; omega
        have hno : As (bx l (p + k) ≠ bx b k) := ⟨by rw [hx.out, hy.out]; exact fun e => hxy e.symm⟩
        go_wp2
        go_quiet (fail)
        clear i1 j1 k1 c2 c3
        rw [World.drewN_drewN]
        go_wp2
        go_ret
        exact ⟨false, rfl, ⟨(fun h => by cases h), fun h => absurd (h k hdk hka) hno.out⟩, below_drewN (Below.refl _ _) _⟩
    · have hz3 : decide ((dn : Int) ≤ z) = false := by simp; omega
      go_wp2
      go_ret
      exact ⟨true, rfl, ⟨fun _ k h1 h2 => hfit.out k h1 (by omega) h2, fun _ => rfl⟩, below_drewN (Below.refl _ _) _⟩

set_option maxRecDepth 100000 in
set_option maxHeartbeats 1600000 in
theorem plain_calls (w : World) (g : Nat) (b : Txt) (ad : Addr) (cb a s : Nat) (sm : Bool) (h : TwoIn w g b ad cb a s sm) (hl : b.length ≤ 1000000) (A : Option Addr) (c : Nat) (l : Txt) (hx : Byt w A l) (hll : l.length ≤ 1000000) (p0 : Nat) (hp0 : p0 ≤ 1000000) :
    Calls Try.prog 35 #[.pointer (some ⟨g, 0, none⟩), .slice A l.length c, .int .i64 (p0 : Int)] w (NextPost w (bx b) b.length (bx l) l.length p0) := by
  have H := As.mk h
  have HX := As.mk hx
  have hcut := As.mk h.2.2.2
  have ham := h.2.2.2.am
  have hs1 := h.2.2.2.s1
  have hsf := h.2.2.2.far
  have hrg := As.mk (fun (v : World) (hv : Below w.heap.size w v) p fr h1 h2 => right_calls v g b ad cb a s sm (h.below hv) hl A c l (Row.below hx hv) hll p fr h1 h2)
  have hlf := As.mk (fun (v : World) (hv : Below w.heap.size w v) p dn h1 => left_calls v g b ad cb a s sm (h.below hv) hl A c l (Row.below hx hv) hll p dn h1)
  clear h hx
  obtain ⟨n, hn⟩ : ∃ n, b.length = n := ⟨_, rfl⟩
  obtain ⟨m, hm⟩ : ∃ m, l.length = m := ⟨_, rfl⟩
  rw [hn] at hcut hl ham hsf hrg
  rw [hm] at hll hrg hlf
  rw [hn] at hlf
  rw [hn, hm]
  have hn := As.mk hn
  have hm := As.mk hm
  go_enter Try.func35, Try.ntmps35
  go_wp2
  go_step3
  go_wp2
  go_step3
  go_wp2
  go_loopg [2] (m + 2) (fun gk i wr => ∃ p : Nat, As (m + 2 ≤ gk + p) ∧ i = .int .i64 p ∧ p0 ≤ p ∧ p ≤ 4000000 ∧ As (∀ j, p0 ≤ j → j < p → ¬ Match (bx b) n (bx l) m j) ∧ As (Below w.heap.size w wr))
  case atStart => exact ⟨p0, ⟨by omega⟩, rfl, Nat.le_refl _, by omega, ⟨fun j h1 h2 => by omega⟩, ⟨Below.refl _ _⟩⟩
  case round =>
    obtain ⟨p, hgk, rfl, hp1, hp2, hno, hbel⟩ := hrel
    have HI := H.out.below hbel.out
    have c0 := HI.c0
    have c1 := HI.c1
    have c2 := HI.c2
    rw [hn.out] at c0
    clear HI
    by_cases hlt : p + n ≤ m
    · obtain ⟨gp, rfl⟩ : ∃ gp, gk = gp + 1 := ⟨gk - 1, by have := hgk.out; omega⟩
      have hlt' : decide ((p : Int) + (n : Int) ≤ (m : Int)) = true := by simp; omega
      go_wp2_with fail
      refine Calls.mono (hrg.out wr hbel.out p a hlt (by omega)) ?_
      rintro e w1 ⟨i, rfl, ⟨hi1, hi2, hi3, hi4⟩, hb1⟩
      have hb01 := As.mk (belowNext hbel.out hb1)
      have HI := H.out.below hb01.out
      have d0 := HI.c0
      have d1 := HI.c1
      have d2 := HI.c2
      rw [hn.out] at d0
      replace hi3 := As.mk hi3
      replace hi4 := As.mk hi4
      clear hb1 HI c0 c1 c2
      by_cases hin : i < n
      · have hskip := hcut.out.skip (y := bx l) (n := m) hi1 hin hi3.out (hi4.out hin)
        have hno2 : As (∀ j, p0 ≤ j → j < p + (i - a + 1) → ¬ Match (bx b) n (bx l) m j) := ⟨fun j h1 h2 => by
          rcases Nat.lt_or_ge j p with h | h
          · exact hno.out j h1 h
          · exact hskip j h h2⟩
        have hin' : decide ((i : Int) < (n : Int)) = true := by simp; omega
        clear hskip
        go_wp2
        go_roundg gp
        case rel => exact ⟨p + (i - a + 1), ⟨by have := hgk.out; omega⟩, (by first | rfl | go_num | (congr 1; omega)), by omega, by omega, hno2, hb01⟩
        case measure => omega
      · obtain rfl : i = n := by omega
        go_wp2_with fail
        refine Calls.mono (hlf.out w1 hb01.out p 0 hlt) ?_
        rintro e w2 ⟨r, rfl, hr, hb2⟩
        have hb02 := As.mk (belowNext hb01.out hb2)
        have HI := H.out.below hb02.out
        have e0 := HI.c0
        have e1 := HI.c1
        have e2 := HI.c2
        rw [hn.out] at e0
        replace hr := As.mk hr
        clear hb2 HI d0 d1 d2
        cases r with
        | true =>
          have hm0 := hr.out.1 rfl
          have hM : Match (bx b) i (bx l) m p := ⟨hlt, fun k hk => by
            rcases Nat.lt_or_ge k a with h | h
            · exact hm0 k (Nat.zero_le _) h
            · exact hi3.out k h hk⟩
          have hfin : As (Seine.Two.next (bx b) i (bx l) m p0 (p : Int)) := ⟨⟨fun _ => ⟨by omega, by rw [Int.toNat_natCast]; exact hM, fun j h1 h2 => hno.out j h1 (by omega)⟩, fun h => by omega⟩⟩
          clear hm0 hM
          go_wp2
          try rw [Exit.noGoto_ret]
          go_ret
          exact ⟨(p : Int), rfl, hfin.out, hb02.out⟩
        | false =>
          have hjump := hcut.out.jump (y := bx l) (n := m) hi3.out
          have hno2 : As (∀ j, p0 ≤ j → j < p + s → ¬ Match (bx b) i (bx l) m j) := ⟨fun j h1 h2 => by
            rcases Nat.lt_trichotomy j p with h | h | h
            · exact hno.out j h1 h
            · subst h
              intro hM
              have := hr.out.2 (fun k h3 h4 => hM.2 k (by omega))
              cases this
            · exact hjump j h h2⟩
          clear hjump
          go_wp2
          go_roundg gp
          case rel => exact ⟨p + s, ⟨by have := hgk.out; omega⟩, (by first | rfl | go_num | (congr 1; omega)), by omega, by omega, hno2, hb02⟩
          case measure => omega
    · have hlt' : decide ((p : Int) + (n : Int) ≤ (m : Int)) = false := by simp; omega
      have hfin : As (Seine.Two.next (bx b) n (bx l) m p0 (-1)) := ⟨⟨fun h => by omega, fun _ => ⟨rfl, fun j h1 hM => by
        rcases Nat.lt_or_ge j p with h | h
        · exact hno.out j h1 h hM
        · have := hM.1; omega⟩⟩⟩
      clear hlt
      go_wp2
      try rw [Exit.noGoto_ret]
      go_ret
      exact ⟨-1, rfl, hfin.out, hbel.out⟩

attribute [local go_sem] max2_i min2_i max_two' min_two'
set_option maxRecDepth 100000 in
set_option maxHeartbeats 1600000 in
theorem lapped_calls (w : World) (g : Nat) (b : Txt) (ad : Addr) (cb a s : Nat) (h : TwoIn w g b ad cb a s true) (hl : b.length ≤ 1000000) (A : Option Addr) (c : Nat) (l : Txt) (hx : Byt w A l) (hll : l.length ≤ 1000000) (p0 : Nat) (hp0 : p0 ≤ 1000000) :
    Calls Try.prog 36 #[.pointer (some ⟨g, 0, none⟩), .slice A l.length c, .int .i64 (p0 : Int)] w (NextPost w (bx b) b.length (bx l) l.length p0) := by
  have H := As.mk h
  have HX := As.mk hx
  have hcut := As.mk h.2.2.2
  have ham := h.2.2.2.am
  have hs1 := h.2.2.2.s1
  have hsf := h.2.2.2.far
  have hrg := As.mk (fun (v : World) (hv : Below w.heap.size w v) p fr h1 h2 => right_calls v g b ad cb a s true (h.below hv) hl A c l (Row.below hx hv) hll p fr h1 h2)
  have hlf := As.mk (fun (v : World) (hv : Below w.heap.size w v) p dn h1 => left_calls v g b ad cb a s true (h.below hv) hl A c l (Row.below hx hv) hll p dn h1)
  clear h hx
  obtain ⟨n, hn⟩ : ∃ n, b.length = n := ⟨_, rfl⟩
  obtain ⟨m, hm⟩ : ∃ m, l.length = m := ⟨_, rfl⟩
  rw [hn] at hcut hl ham hsf hrg
  rw [hm] at hll hrg hlf
  rw [hn] at hlf
  rw [hn, hm]
  have hn := As.mk hn
  have hm := As.mk hm
  go_enter Try.func36, Try.ntmps36
  go_wp2
  go_step3
  go_wp2
  go_step3
  go_wp2
  go_loopg [2, 7] (m + 2) (fun gk i kw wr => ∃ p kn : Nat, As (m + 2 ≤ gk + p) ∧ i = .int .i64 p ∧ kw = .int .i64 kn ∧ kn ≤ n ∧ As (∀ k, k < kn → bx l (p + k) = bx b k) ∧ p0 ≤ p ∧ p ≤ 4000000 ∧ As (∀ j, p0 ≤ j → j < p → ¬ Match (bx b) n (bx l) m j) ∧ As (Below w.heap.size w wr))
  case atStart => exact ⟨p0, 0, ⟨by omega⟩, rfl, rfl, Nat.zero_le _, ⟨fun k h => by omega⟩, Nat.le_refl _, by omega, ⟨fun j h1 h2 => by omega⟩, ⟨Below.refl _ _⟩⟩
  case round =>
    obtain ⟨p, kn, hgk, rfl, rfl, hkn, hknow, hp1, hp2, hno, hbel⟩ := hrel
    have HI := H.out.below hbel.out
    have c0 := HI.c0
    have c1 := HI.c1
    have c2 := HI.c2
    rw [hn.out] at c0
    clear HI
    by_cases hlt : p + n ≤ m
    · obtain ⟨gp, rfl⟩ : ∃ gp, gk = gp + 1 := ⟨gk - 1, by have := hgk.out; omega⟩
      have hlt' : decide ((p : Int) + (n : Int) ≤ (m : Int)) = true := by simp; omega
      obtain ⟨fr, hfr, f1, f2, f3, f4⟩ : ∃ fr : Nat, max (a : Int) (kn : Int) = (fr : Int) ∧ a ≤ fr ∧ kn ≤ fr ∧ fr ≤ n ∧ (fr = a ∨ fr = kn) := ⟨max a kn, by omega, by omega, by omega, by omega, by omega⟩
      go_wp2_with fail
      refine Calls.mono (hrg.out wr hbel.out p fr hlt f3) ?_
      rintro e w1 ⟨i, rfl, ⟨hi1, hi2, hi3, hi4⟩, hb1⟩
      have hi3 : ∀ k, a ≤ k → k < i → bx l (p + k) = bx b k := fun k h1 h2 => by
        rcases Nat.lt_or_ge k fr with h | h
        · rcases f4 with f4 | f4
          · omega
          · exact hknow.out k (by omega)
        · exact hi3 k h h2
      have hi1 : a ≤ i := by omega
      have hi0 : kn ≤ i := by omega
      clear hfr f1 f2 f3 f4
      have hb01 := As.mk (belowNext hbel.out hb1)
      have HI := H.out.below hb01.out
      have d0 := HI.c0
      have d1 := HI.c1
      have d2 := HI.c2
      rw [hn.out] at d0
      replace hi3 := As.mk hi3
      replace hi4 := As.mk hi4
      clear hb1 HI c0 c1 c2
      by_cases hin : i < n
      · have hskip := hcut.out.skip (y := bx l) (n := m) hi1 hin hi3.out (hi4.out hin)
        have hno2 : As (∀ j, p0 ≤ j → j < p + (i - a + 1) → ¬ Match (bx b) n (bx l) m j) := ⟨fun j h1 h2 => by
          rcases Nat.lt_or_ge j p with h | h
          · exact hno.out j h1 h
          · exact hskip j h h2⟩
        have hin' : decide ((i : Int) < (n : Int)) = true := by simp; omega
        clear hskip
        go_wp2
        go_roundg gp
        case rel => exact ⟨p + (i - a + 1), 0, ⟨by have := hgk.out; omega⟩, (by first | rfl | go_num | (congr 1; omega)), rfl, Nat.zero_le _, ⟨fun k h => by omega⟩, by omega, by omega, hno2, hb01⟩
        case measure => omega
      · obtain rfl : i = n := by omega
        go_wp2_with fail
        refine Calls.mono (hlf.out w1 hb01.out p kn hlt) ?_
        rintro e w2 ⟨r, rfl, hr, hb2⟩
        have hb02 := As.mk (belowNext hb01.out hb2)
        have HI := H.out.below hb02.out
        have e0 := HI.c0
        have e1 := HI.c1
        have e2 := HI.c2
        rw [hn.out] at e0
        replace hr := As.mk hr
        clear hb2 HI d0 d1 d2
        cases r with
        | true =>
          have hm0 := hr.out.1 rfl
          have hM : Match (bx b) i (bx l) m p := ⟨hlt, fun k hk => by
            rcases Nat.lt_or_ge k a with h | h
            · rcases Nat.lt_or_ge k kn with h' | h'
              · exact hknow.out k h'
              · exact hm0 k h' h
            · exact hi3.out k h hk⟩
          have hfin : As (Seine.Two.next (bx b) i (bx l) m p0 (p : Int)) := ⟨⟨fun _ => ⟨by omega, by rw [Int.toNat_natCast]; exact hM, fun j h1 h2 => hno.out j h1 (by omega)⟩, fun h => by omega⟩⟩
          clear hm0 hM
          go_wp2
          try rw [Exit.noGoto_ret]
          go_ret
          exact ⟨(p : Int), rfl, hfin.out, hb02.out⟩
        | false =>
          have hjump := hcut.out.jump (y := bx l) (n := m) hi3.out
          have hknow2 := hcut.out.known (y := bx l) hi3.out
          have hsi : s ≤ i := hcut.out.least i (by omega) (fun k hk => by omega)
          have hno2 : As (∀ j, p0 ≤ j → j < p + s → ¬ Match (bx b) i (bx l) m j) := ⟨fun j h1 h2 => by
            rcases Nat.lt_trichotomy j p with h | h | h
            · exact hno.out j h1 h
            · subst h
              intro hM
              have := hr.out.2 (fun k h3 h4 => hM.2 k (by omega))
              cases this
            · exact hjump j h h2⟩
          replace hknow2 := As.mk hknow2
          clear hjump
          go_wp2
          go_quiet (fail)
          go_wp2
          go_roundg gp
          case rel => exact ⟨p + s, i - s, ⟨by have := hgk.out; omega⟩, (by first | rfl | go_num | (congr 1; omega)), (by first | rfl | go_num | (congr 1; omega)), by omega, hknow2, by omega, by omega, hno2, ⟨below_drewN hb02.out _⟩⟩
          case measure => omega
    · have hlt' : decide ((p : Int) + (n : Int) ≤ (m : Int)) = false := by simp; omega
      have hfin : As (Seine.Two.next (bx b) n (bx l) m p0 (-1)) := ⟨⟨fun h => by omega, fun _ => ⟨rfl, fun j h1 hM => by
        rcases Nat.lt_or_ge j p with h | h
        · exact hno.out j h1 h hM
        · have := hM.1; omega⟩⟩⟩
      clear hlt
      go_wp2
      try rw [Exit.noGoto_ret]
      go_ret
      exact ⟨-1, rfl, hfin.out, hbel.out⟩
end Go.Proofs.Ytbklkemfcdkihaa
end
section
/- The walks of package twoway: a finder, the next place, all places. -/
set_option linter.unusedVariables false
set_option linter.unusedSimpArgs false
namespace Go.Proofs.Ytbklkemfcdkihaa
open Go.RowKit Seine.Trie Seine.Two Go.Proofs.YtbklkemfcdkihaaW.PrintWords

theorem ownsRow_blk {w : World} {base b n : Nat} {cs : List Value} {t : TypeId} (h : w.heap[b]? = some (.cells cs.toArray t (0, 0))) (hl : cs.length = n) (hb : base ≤ b) (hn : n ≤ maxLen) : w.ownsRow base t 1 (.slice (some ⟨b, 0, none⟩) n n) n cs := by
  refine ⟨by omega, .inr ⟨b, n, cs.toArray, rfl, hb, h, Nat.le_refl _, hn, by simp [hl], by rw [Nat.mul_one]; exact List.take_of_length_le (by simp; omega)⟩⟩
set_option maxRecDepth 100000 in
set_option maxHeartbeats 400000 in
theorem cloneByt_calls (w : World) (ad : Addr) (c : Nat) (b : Txt) (h : Byt w (some ad) b) (hl : b.length ≤ 1000000) (hne : 0 < b.length) :
    Calls Try.prog 33 #[.slice (some ad) b.length c] w fun e w' => ∃ bl cp, e = .returned (.slice (some ⟨bl, 0, none⟩) b.length cp) ∧ b.length ≤ cp ∧ Byt w' (some ⟨bl, 0, none⟩) b ∧ w.heap.size ≤ bl ∧ Below w.heap.size w w' := by
  obtain ⟨n, hn⟩ : ∃ n, b.length = n := ⟨_, rfl⟩
  rw [hn] at hl hne ⊢
  have hn := As.mk hn
  have H := As.mk h
  clear h
  obtain ⟨i0, hi, hz0, hz1, hz2⟩ := info_parts info_u8
  have hown : As ((w.alloc (.cells #[] 5)).ownsRow w.heap.size 5 1 (.slice (some ⟨w.heap.size, 0, none⟩) 0 0) 0 []) := ⟨ownsRow_blk (cs := []) (heap_alloc_new w _) rfl (Nat.le_refl _) (Nat.zero_le _)⟩
  have hcells : As (∀ j u, (byCells b)[j]? = some u → (w.alloc (.cells #[] 5)).cell? (ad.add j) = some u) := ⟨fun j u hj => by
    have hjl : j < (byCells b).length := (List.getElem?_eq_some_iff.1 hj).1
    obtain ⟨ad2, e2, hc2⟩ := Row.at_ (H.out.alloc (.cells #[] 5)) hjl
    injection e2 with e2
    subst e2
    rw [hc2, ← hj]; exact (List.getElem?_eq_getElem hjl).symm⟩
  have hone : As (∀ u ∈ byCells b, u.oneCell' = true) := ⟨fun u hu => by obtain ⟨x, _, rfl⟩ := List.mem_map.1 hu; rfl⟩
  have hnl : As ((byCells b).length = n * 1) := ⟨by rw [byCells_length, hn.out, Nat.mul_one]⟩
  have hnil : ∀ (w : World) (a : Addr) (n c : Nat), (binOp .eql 23 (.slice (some a) n c) (.slice none 0 0)).run Try.prog w = .ok (.bool false) w := fun w a n c => Lib.run_eql_slice_nil w _ _ (some a) n c 0 0 Try.underlying23
  go_enter Try.func33, Try.ntmps33
  go_wp2_with (at_builtin
               refine wpList_append_own_at _ rfl (.tmp 5) (.tmp 6) 23 rfl w.heap.size 5 i0 _ 1 1 Try.underlying23 hi hz0 hz1 hz2 rfl (by decide) (.slice (some ⟨w.heap.size, 0, none⟩) 0 0) 0 [] rfl hown.out ad n c (byCells b) rfl hnl.out hcells.out hone.out (by unfold maxLen; omega) (by omega) (by simp) ?_
               intro v' w' h2 h3 h4 h5)
  go_ret
  have h2 : w'.ownsRow w.heap.size 5 1 v' n (byCells b) := by simpa using h2
  obtain ⟨bl, cp, rfl, hbl, _⟩ := h2.form hne
  obtain ⟨A, c2, e2, hc2⟩ := own_slice h2
  injection e2 with _ _ e2
  exact ⟨bl, cp, rfl, by omega, Row.of_own h2, (own_blk h2 rfl).1, ((Below.refl _ _).alloc (Nat.le_refl _) _).grown h3 (by simp) (fun k hk => Nat.le_of_eq (Option.some.inj hk))⟩

theorem new_empty_calls (w : World) (A : Option Addr) (c : Nat) : Calls Try.prog 19 #[.slice A 0 c] w fun e w' => e = .returned (.tuple #[.pointer none, .int .i64 1]) ∧ w = w' := by
  go_enter Try.func19, Try.ntmps19
  go_wp2
  go_ret2
  exact ⟨rfl, rfl⟩
def NewPost2 (w : World) (b : Txt) (e : Ending) (w' : World) : Prop := ∃ g ad cb a s sm, e = .returned (.tuple #[.pointer (some ⟨g, 0, none⟩), .int .i64 0]) ∧ TwoIn w' g b ad cb a s sm ∧ (w.heap.size ≤ g ∧ w.heap.size ≤ ad.block) ∧ Below w.heap.size w w'
def NewPost (w : World) (b : Txt) (e : Ending) (w' : World) : Prop := ∃ g ad cb a s sm, e = .returned (.tuple #[.pointer (some ⟨g, 0, none⟩), .int .i64 0]) ∧ TwoIn w' g b ad cb a s sm ∧ Below w.heap.size w w'
set_option maxRecDepth 100000 in
set_option maxHeartbeats 1600000 in
theorem new_calls2 (w : World) (ad : Addr) (c : Nat) (b : Txt) (hb : Byt w (some ad) b) (hl : b.length ≤ 1000000) (hne : 0 < b.length) (hc : b.length ≤ c) : Calls Try.prog 19 #[.slice (some ad) b.length c] w (NewPost2 w b) := by
  have HX := As.mk hb
  clear hb
  have ccl := As.mk (fun (v : World) (h : Byt v (some ad) b) => cloneByt_calls v ad c b h hl hne)
  have cfa := As.mk (fun (v : World) (h : Byt v (some ad) b) => factor_calls v ad c b h hl hne hc)
  obtain ⟨n, hn⟩ : ∃ n, b.length = n := ⟨_, rfl⟩
  rw [hn] at ccl cfa hl hne hc
  rw [hn]
  have hn := As.mk hn
  have hn0 : ((n : Int) == 0) = false := by simp; omega
  go_enter Try.func19, Try.ntmps19
  go_wp2_with fail
  refine Calls.mono (ccl.out w HX.out) ?_
  rintro e w1 ⟨bl, cp, rfl, hcp, hby, hfr, hb1⟩
  have HX1 := As.mk (HX.out.below hb1)
  replace hby := As.mk hby
  replace hb1 := As.mk hb1
  go_wp2_with fail
  refine Calls.mono (cfa.out w1 HX1.out) ?_
  rintro e w2 ⟨a, s, sm, rfl, hcut, hb2⟩
  have hB2 := As.mk (belowNext hb1.out hb2)
  have hby2 := As.mk (Row.below hby.out hb2)
  replace hcut := As.mk hcut
  replace hb2 := As.mk hb2
  have hsz : w.heap.size ≤ w2.heap.size := hB2.out.size
  have z := heap_alloc_new w2 (.cells #[.slice (some ⟨bl, 0, none⟩) n cp, .int .i64 (a : Int), .int .i64 (s : Int), .bool sm, .func (.func 35) #[] #[]] 72)
  have y3 := cell_of_blk z 3
  have y4 := cell_of_blk z 4
  have f4 := free_of_blk z 4
  simp at y3 y4
  cases sm with
  | true =>
    replace z := As.mk z
    go_wp2
    go_ret2
    refine ⟨w2.heap.size, ⟨bl, 0, none⟩, cp, a, s, true, rfl, ⟨?_, by rw [hn.out]; exact hcp, ?_, by rw [hn.out]; exact hcut.out⟩, ⟨hsz, hfr⟩, ?_⟩
    · rw [hn.out]; exact heap_alloc_new w2 _
    · exact Row.alloc hby2.out _
    · exact hB2.out.alloc hsz _
  | false =>
    replace z := As.mk z
    go_wp2
    go_ret2
    refine ⟨w2.heap.size, ⟨bl, 0, none⟩, cp, a, s, false, rfl, ⟨?_, by rw [hn.out]; exact hcp, ?_, by rw [hn.out]; exact hcut.out⟩, ⟨hsz, hfr⟩, ?_⟩
    · rw [hn.out]; exact heap_alloc_new w2 _
    · exact Row.alloc hby2.out _
    · exact hB2.out.alloc hsz _
theorem new_calls (w : World) (ad : Addr) (c : Nat) (b : Txt) (hb : Byt w (some ad) b) (hl : b.length ≤ 1000000) (hne : 0 < b.length) (hc : b.length ≤ c) : Calls Try.prog 19 #[.slice (some ad) b.length c] w (NewPost w b) :=
  (new_calls2 w ad c b hb hl hne hc).mono fun e w' ⟨g, ad, cb, a, s, sm, h1, h2, _, h4⟩ => ⟨g, ad, cb, a, s, sm, h1, h2, h4⟩
end Go.Proofs.Ytbklkemfcdkihaa
end
section
/- The walks of package twoway: the next place, all places; a nil finder. -/
set_option linter.unusedVariables false
set_option linter.unusedSimpArgs false
namespace Go.Proofs.Ytbklkemfcdkihaa
open Go.RowKit Seine.Trie Seine.Two Go.Proofs.YtbklkemfcdkihaaW.PrintWords

/-- b stands in l at i. -/
def isAt (b l : Txt) (i : Nat) : Bool := decide (i + b.length ≤ l.length ∧ (l.drop i).take b.length = b)
theorem match_iff (b l : Txt) (i : Nat) : Match (bx b) b.length (bx l) l.length i ↔ isAt b l i = true := by
  unfold isAt Match
  rw [decide_eq_true_iff]
  constructor
  · rintro ⟨h1, h2⟩
    refine ⟨h1, txt_ext (by rw [List.length_take, List.length_drop]; omega) fun j hj => ?_⟩
    have hjn : j < b.length := by rw [List.length_take] at hj; omega
    have := UInt8.toNat_inj.1 (h2 j hjn)
    simp only [List.getD_eq_getElem?_getD, List.getElem?_take, List.getElem?_drop, if_pos hjn] at this ⊢
    exact this
  · rintro ⟨h1, h2⟩
    refine ⟨h1, fun k hk => ?_⟩
    have := congrArg (fun l => (l.getD k 0).toNat) h2
    simp only [List.getD_eq_getElem?_getD, List.getElem?_take, List.getElem?_drop, if_pos hk] at this
    unfold bx
    rw [List.getD_eq_getElem?_getD, List.getD_eq_getElem?_getD]; exact this
/-- The first place from p on; -1: none. -/
def nextF (b l : Txt) (p : Nat) : Int := match (List.range' p (l.length + 1 - p)).find? (isAt b l) with | some i => i | none => -1
theorem isAt_le {b l : Txt} {i : Nat} (h : isAt b l i = true) : i + b.length ≤ l.length := (of_decide_eq_true h).1
theorem nextF_none {b l : Txt} {p : Nat} (h : nextF b l p < 0) : nextF b l p = -1 ∧ ∀ j, p ≤ j → isAt b l j = false := by
  unfold nextF at *
  cases hf : (List.range' p (l.length + 1 - p)).find? (isAt b l) with
  | some i => rw [hf] at h; simp at h; omega
  | none =>
    refine ⟨rfl, fun j hj => ?_⟩
    rw [List.find?_eq_none] at hf
    cases hi : isAt b l j with
    | false => rfl
    | true =>
      have := isAt_le hi
      exact absurd hi (hf j (List.mem_range'.2 ⟨j - p, by omega, by omega⟩))
theorem find_split {q : Nat → Bool} : ∀ {k p i : Nat}, (List.range' p k).find? q = some i → p ≤ i ∧ i < p + k ∧ q i = true ∧ (∀ j, p ≤ j → j < i → q j = false)
  | 0, p, i, h => by simp at h
  | k + 1, p, i, h => by
    rw [List.range'_succ, List.find?_cons] at h
    cases hp : q p with
    | true => rw [hp] at h; injection h with h; subst h; exact ⟨Nat.le_refl _, by omega, hp, fun j a b => by omega⟩
    | false =>
      rw [hp] at h
      obtain ⟨h1, h2, h3, h4⟩ := find_split h
      refine ⟨by omega, by omega, h3, fun j a b => ?_⟩
      rcases Nat.eq_or_lt_of_le a with e | e
      · subst e; exact hp
      · exact h4 j e b
theorem nextF_some {b l : Txt} {p : Nat} (h : 0 ≤ nextF b l p) : ∃ i : Nat, nextF b l p = i ∧ p ≤ i ∧ isAt b l i = true ∧ ∀ j, p ≤ j → j < i → isAt b l j = false := by
  unfold nextF at *
  cases hf : (List.range' p (l.length + 1 - p)).find? (isAt b l) with
  | none => rw [hf] at h; simp at h
  | some i =>
    obtain ⟨h1, h2, h3, h4⟩ := find_split hf
    exact ⟨i, rfl, h1, h3, h4⟩
theorem nextF_spec (b l : Txt) (p : Nat) : Seine.Two.next (bx b) b.length (bx l) l.length p (nextF b l p) := by
  refine ⟨fun h => ?_, fun h => ?_⟩
  · obtain ⟨i, h1, h2, h3, h4⟩ := nextF_some h
    rw [h1, Int.toNat_natCast]
    exact ⟨h2, (match_iff _ _ _).2 h3, fun j a c hm => by rw [match_iff, h4 j a c] at hm; cases hm⟩
  · obtain ⟨h1, h2⟩ := nextF_none h
    exact ⟨h1, fun j a hm => by rw [match_iff, h2 j a] at hm; cases hm⟩
/-- All places from p on. -/
def occFrom (b l : Txt) (p : Nat) : List Pr := ((List.range' p (l.length + 1 - p)).filter (isAt b l)).map fun (i : Nat) => ((i : Int), (i : Int) + (b.length : Int))
theorem filter_skip {q : Nat → Bool} : ∀ (k p i : Nat), p ≤ i → i < p + k → (∀ j, p ≤ j → j < i → q j = false) → (List.range' p k).filter q = (List.range' i (p + k - i)).filter q
  | 0, p, i, h1, h2, _ => by omega
  | k + 1, p, i, h1, h2, h3 => by
    rcases Nat.eq_or_lt_of_le h1 with e | e
    · subst e; congr 2; omega
    · rw [List.range'_succ, List.filter_cons_of_neg (by rw [h3 p (Nat.le_refl _) e]; simp), filter_skip k (p + 1) i e (by omega) (fun j a b => h3 j (by omega) b)]
      congr 2; omega
theorem occ_some {b l : Txt} {p i : Nat} (hi : nextF b l p = (i : Int)) : occFrom b l p = ((i : Int), (i : Int) + (b.length : Int)) :: occFrom b l (i + 1) := by
  obtain ⟨i', e, h1, h2, h3⟩ := nextF_some (b := b) (l := l) (p := p) (by omega)
  obtain rfl : i' = i := by omega
  have := isAt_le h2
  unfold occFrom
  rw [filter_skip (l.length + 1 - p) p i' h1 (by omega) h3, show p + (l.length + 1 - p) - i' = (l.length + 1 - (i' + 1)) + 1 by omega, List.range'_succ, List.filter_cons_of_pos (by rw [h2]), List.map_cons]
theorem occ_none {b l : Txt} {p : Nat} (h : nextF b l p < 0) : occFrom b l p = [] := by
  unfold occFrom
  rw [List.map_eq_nil_iff, List.filter_eq_nil_iff]
  intro j hj
  obtain ⟨i, _, rfl⟩ := List.mem_range'.1 hj
  rw [(nextF_none h).2 _ (by omega)]; simp
theorem occ_length (b l : Txt) (p : Nat) : (occFrom b l p).length ≤ l.length + 1 := by
  unfold occFrom
  rw [List.length_map]
  exact Nat.le_trans (List.length_filter_le _ _) (by rw [List.length_range']; omega)

theorem next_nil_calls (w : World) (A : Option Addr) (m c : Nat) (z : Int) : Calls Try.prog 37 #[.pointer none, .slice A m c, .int .i64 z] w fun e w' => e = .returned (.int .i64 (-1)) ∧ w = w' := by
  go_enter Try.func37, Try.ntmps37
  go_wp2
  go_ret
  exact ⟨rfl, rfl⟩
theorem scan_nil_calls (w : World) (A : Option Addr) (m c : Nat) : Calls Try.prog 20 #[.pointer none, .slice A m c] w fun e w' => e = .returned (.slice none 0 0) ∧ w = w' := by
  have hn := As.mk (fun v => next_nil_calls v A m c)
  go_enter Try.func20, Try.ntmps20
  go_wp2_with (go_at_call 37; refine Calls.mono (hn.out _ _) ?_; rintro e w' ⟨rfl, rfl⟩)
  refine wp_loop_rounds 1 ?_
  rw [rounds_succ]
  go_wp2
  go_ret
  exact ⟨rfl, rfl⟩
attribute [local go_sem] max2_i min2_i max_two' min_two'
set_option maxRecDepth 100000 in
set_option maxHeartbeats 1600000 in
theorem next_calls (w : World) (g : Nat) (b : Txt) (ad : Addr) (cb a s : Nat) (sm : Bool) (h : TwoIn w g b ad cb a s sm) (hl : b.length ≤ 1000000) (A : Option Addr) (c : Nat) (l : Txt) (hx : Byt w A l) (hll : l.length ≤ 1000000) (z : Int) :
    Calls Try.prog 37 #[.pointer (some ⟨g, 0, none⟩), .slice A l.length c, .int .i64 z] w fun e w' => e = .returned (.int .i64 (nextF b l z.toNat)) ∧ Below w.heap.size w w' := by
  have c4 := h.c4
  have hbl : 0 < b.length := by have := h.2.2.2.am; omega
  obtain ⟨m, hm⟩ : ∃ m, l.length = m := ⟨_, rfl⟩
  by_cases hz : (m : Int) < z
  · have hno : nextF b l z.toNat = -1 := by
      rcases Int.lt_or_le (nextF b l z.toNat) 0 with h0 | h0
      · exact (nextF_none h0).1
      · obtain ⟨i, _, h1, h2, _⟩ := nextF_some h0
        have := isAt_le h2
        omega
    rw [hno, hm]
    have hz' : decide ((m : Int) < z) = true := by simpa using hz
    clear h hx hno hm c4 hbl
    go_enter Try.func37, Try.ntmps37
    go_wp2
    go_ret
    exact ⟨rfl, Below.refl _ _⟩
  · have hz' : decide ((m : Int) < z) = false := by simpa using hz
    obtain ⟨p, hp⟩ : ∃ p : Nat, z.toNat = p := ⟨_, rfl⟩
    have hzn : max z 0 = (p : Int) := by omega
    have hzl : p ≤ 1000000 := by omega
    have huni := As.mk (fun (r : Int) hr => next_one (nextF_spec b l p) (r' := r) hr)
    rw [hp]
    clear hp hz
    rw [hm] at huni
    cases sm with
    | true =>
      have hq := As.mk (lapped_calls w g b ad cb a s h hl A c l hx hll p hzl)
      rw [hm] at hq ⊢
      clear h hx hm hbl
      go_enter Try.func37, Try.ntmps37
      go_wp2_with (go_at_call 36; refine Calls.mono hq.out ?_; rintro e w' ⟨r, rfl, hr, hb⟩)
      go_ret
      exact ⟨ret_int (huni.out r hr).symm, hb⟩
    | false =>
      have hq := As.mk (plain_calls w g b ad cb a s false h hl A c l hx hll p hzl)
      rw [hm] at hq ⊢
      clear h hx hm hbl
      go_enter Try.func37, Try.ntmps37
      go_wp2_with (go_at_call 35; refine Calls.mono hq.out ?_; rintro e w' ⟨r, rfl, hr, hb⟩)
      go_ret
      exact ⟨ret_int (huni.out r hr).symm, hb⟩

set_option maxRecDepth 100000 in
set_option maxHeartbeats 1600000 in
theorem scan_calls (w : World) (g : Nat) (b : Txt) (ad : Addr) (cb a s : Nat) (sm : Bool) (h : TwoIn w g b ad cb a s sm) (hl : b.length ≤ 1000000) (A : Option Addr) (c : Nat) (l : Txt) (hx : Byt w A l) (hll : l.length ≤ 1000000) :
    Calls Try.prog 20 #[.pointer (some ⟨g, 0, none⟩), .slice A l.length c] w (RetPrs w (occFrom b l 0)) := by
  obtain ⟨R, hR⟩ : ∃ R, occFrom b l 0 = R := ⟨_, rfl⟩
  have hRl : R.length ≤ l.length + 1 := by rw [← hR]; exact occ_length b l 0
  have hbl : 0 < b.length := by have := h.2.2.2.am; omega
  rw [hR]
  have hR := As.mk hR
  have H := As.mk h
  have hnx := As.mk (fun (v : World) (hv : Below w.heap.size w v) z => next_calls v g b ad cb a s sm (h.below hv) hl A c l (Row.below hx hv) hll z)
  clear h hx
  obtain ⟨m, hm⟩ : ∃ m, l.length = m := ⟨_, rfl⟩
  obtain ⟨n, hn⟩ : ∃ n, b.length = n := ⟨_, rfl⟩
  rw [hm] at hRl hnx hll
  rw [hn] at hbl hl
  rw [hm]
  have hm := As.mk hm
  have hn := As.mk hn
  have hRl := As.mk hRl
  go_enter Try.func20, Try.ntmps20
  go_wp2_with fail
  refine Calls.mono (hnx.out w (Below.refl _ _) 0) ?_
  rintro e w1 ⟨he, hb1⟩
  rw [show (0 : Int).toNat = 0 from rfl] at he
  obtain ⟨r0, hr0⟩ : ∃ r, nextF b l 0 = r := ⟨_, rfl⟩
  rw [hr0] at he
  subst he
  replace hr0 := As.mk hr0
  replace hb1 := As.mk hb1
  go_wp2
  go_loopg [5, 6] (m + 2) (fun gk v r wr => ∃ (p : Nat) (acc : List Pr) (z : Int), As (m + 2 ≤ gk + p) ∧ r = .int .i64 z ∧ As (nextF b l p = z) ∧ As (acc ++ occFrom b l p = R) ∧ As (OwnPrs wr w.heap.size v acc) ∧ As (Below w.heap.size w wr))
  case atStart => exact ⟨0, [], r0, ⟨by omega⟩, rfl, hr0, ⟨hR.out⟩, ⟨World.ownsRow_nil _ _ _ _⟩, hb1⟩
  case round =>
    obtain ⟨p, acc, z, hgk, rfl, hz, hacc, hown, hbel⟩ := hrel
    by_cases h0 : 0 ≤ z
    · obtain ⟨i, h1, h2, h3, h4⟩ := nextF_some (b := b) (l := l) (p := p) (by rw [hz.out]; exact h0)
      obtain rfl : z = (i : Int) := by rw [← hz.out, h1]
      have him := isAt_le h3
      rw [hm.out, hn.out] at him
      have hocc := occ_some h1
      rw [hn.out] at hocc
      rw [hocc] at hacc
      have haccl : As (acc.length ≤ m + 1) := ⟨by have := hRl.out; rw [← hacc.out, List.length_append] at this; omega⟩
      obtain ⟨gp, rfl⟩ : ∃ gp, gk = gp + 1 := ⟨gk - 1, by have := hgk.out; omega⟩
      have HI := H.out.below hbel.out
      have c0 := HI.c0
      rw [hn.out] at c0
      clear h1 h3 h4 hocc hz HI
      have hnn := As.mk (fun v hv => hnx.out v hv ((i : Int) + 1))
      obtain ⟨r2, hr2⟩ : ∃ r, nextF b l (i + 1) = r := ⟨_, rfl⟩
      rw [show ((i : Int) + 1).toNat = i + 1 by omega, hr2] at hnn
      replace hr2 := As.mk hr2
      go_wp2_with (first
        | (go_at_call 37; refine Calls.mono (hnn.out _ (hbel.out.trans hb4)) ?_; rintro e w5 ⟨rfl, hb5⟩)
        | (at_builtin
           refine wpList_app1 _ rfl (.tmp 17) (.tmp 27) 30 rfl w.heap.size 41 _ 2 16 Try.underlying30 info_pr rfl (by decide) _ acc.length (prCells acc) rfl hown.out [.int .i64 (i : Int), .int .i64 ((i : Int) + (n : Int))] rfl (by simp [Value.oneCell']) _ rfl (by simp) (by have := haccl.out; omega) (by decide) hbel.out.size ?_
           intro v' w4 hown4 hk4 hat4 hb4
           replace hown4 := As.mk hown4
           replace hk4 := As.mk hk4))
      go_roundg gp
      case rel => exact ⟨i + 1, acc ++ [((i : Int), (i : Int) + (n : Int))], r2, ⟨by have := hgk.out; omega⟩, rfl, hr2, ⟨by rw [List.append_assoc]; exact hacc.out⟩, ⟨own_below (ownPrs_snoc hown4.out) hb5⟩, ⟨belowNext (hbel.out.trans hb4) hb5⟩⟩
      case measure => omega
    · have hno := occ_none (b := b) (l := l) (p := p) (by rw [hz.out]; omega)
      rw [hno, List.append_nil] at hacc
      have h0' : decide (0 ≤ z) = false := by simp; omega
      clear hno hz
      go_wp2
      go_ret
      exact ⟨_, rfl, hacc.out ▸ hown.out, hbel.out⟩
end Go.Proofs.Ytbklkemfcdkihaa
end
