/- Plain facts on the pieces that are told alone: no program and no memory. -/
namespace Seine.Pick
abbrev Pr := Int × Int

/-- is p in the running, from a place on? -/
def live (from_ : Int) (p : Pr) : Bool := decide (p.1 < p.2) && decide (from_ ≤ p.1)
/-- is q told ahead of p? -/
def beats (q p : Pr) : Bool := decide (q.1 < p.1) || (decide (q.1 = p.1) && decide (p.2 < q.2))

def stepF (from_ : Int) (b : Option Pr) (p : Pr) : Option Pr :=
  if live from_ p then (match b with | none => some p | some q => if beats p q then some p else some q) else b

def first (l : List Pr) (from_ : Int) : Option Pr := l.foldl (stepF from_) none

/-- what 'first' is -/
def IsFirst (l : List Pr) (from_ : Int) (p : Pr) : Prop := p ∈ l ∧ p.1 < p.2 ∧ from_ ≤ p.1 ∧ ∀ q ∈ l, q.1 < q.2 → from_ ≤ q.1 → ¬ (q.1 < p.1 ∨ (q.1 = p.1 ∧ p.2 < q.2))

theorem live_iff {f : Int} {p : Pr} : live f p = true ↔ p.1 < p.2 ∧ f ≤ p.1 := by simp [live]
theorem beats_iff {q p : Pr} : beats q p = true ↔ q.1 < p.1 ∨ (q.1 = p.1 ∧ p.2 < q.2) := by simp [beats]

theorem first_snoc (l : List Pr) (f : Int) (p : Pr) : first (l ++ [p]) f = stepF f (first l f) p := by simp [first, List.foldl_append]

theorem first_spec (f : Int) (l : List Pr) : (∀ p, first l f = some p → IsFirst l f p) ∧ (first l f = none → ∀ q ∈ l, ¬ (q.1 < q.2 ∧ f ≤ q.1)) := by
  have H : ∀ n (l : List Pr), l.length = n → (∀ p, first l f = some p → IsFirst l f p) ∧ (first l f = none → ∀ q ∈ l, ¬ (q.1 < q.2 ∧ f ≤ q.1)) := by
    intro n
    induction n with
    | zero => intro l hl; have : l = [] := List.eq_nil_of_length_eq_zero hl; subst this; simp [first]
    | succ n ih =>
      intro l hl
      have hne : l ≠ [] := by intro h; simp [h] at hl
      obtain ⟨m, x, rfl⟩ : ∃ m x, l = m ++ [x] := ⟨l.dropLast, l.getLast hne, (List.dropLast_concat_getLast hne).symm⟩
      have hm : m.length = n := by simp at hl; omega
      obtain ⟨h1, h2⟩ := ih m hm
      rw [first_snoc]
      unfold stepF
      by_cases hv : live f x = true
      · have hv' := live_iff.1 hv
        rw [if_pos hv]
        cases hb : first m f with
        | none =>
          refine ⟨fun p hp => ?_, fun h => by simp at h⟩
          simp at hp; subst hp
          refine ⟨by simp, hv'.1, hv'.2, fun q hq h3 h4 => ?_⟩
          simp at hq
          rcases hq with hq | rfl
          · exact absurd ⟨h3, h4⟩ (h2 hb q hq)
          · omega
        | some b =>
          obtain ⟨b1, b2, b3, b4⟩ := h1 b hb
          by_cases hbt : beats x b = true
          · have hbt' := beats_iff.1 hbt
            simp only [if_pos hbt]
            refine ⟨fun p hp => ?_, fun h => by simp at h⟩
            simp at hp; subst hp
            refine ⟨by simp, hv'.1, hv'.2, fun q hq h3 h4 => ?_⟩
            simp at hq
            rcases hq with hq | rfl
            · have := b4 q hq h3 h4; omega
            · omega
          · have hbt' := fun h => hbt (beats_iff.2 h)
            simp only [if_neg hbt]
            refine ⟨fun p hp => ?_, fun h => by simp at h⟩
            simp at hp; subst hp
            refine ⟨by simp [b1], b2, b3, fun q hq h3 h4 => ?_⟩
            simp at hq
            rcases hq with hq | rfl
            · exact b4 q hq h3 h4
            · exact hbt'
      · have hv' : ¬ (x.1 < x.2 ∧ f ≤ x.1) := fun h => hv (live_iff.2 h)
        rw [if_neg hv]
        refine ⟨fun p hp => ?_, fun h q hq => ?_⟩
        · obtain ⟨b1, b2, b3, b4⟩ := h1 p hp
          refine ⟨by simp [b1], b2, b3, fun q hq h3 h4 => ?_⟩
          simp at hq
          rcases hq with hq | rfl
          · exact b4 q hq h3 h4
          · exact absurd ⟨h3, h4⟩ hv'
        · simp at hq
          rcases hq with hq | rfl
          · exact h2 h q hq
          · exact hv'
  exact H _ l rfl

theorem IsFirst.uniq {l : List Pr} {f : Int} {p q : Pr} (h : IsFirst l f p) (k : IsFirst l f q) : p = q := by
  obtain ⟨h1, h2, h3, h4⟩ := h
  obtain ⟨k1, k2, k3, k4⟩ := k
  have a := h4 q k1 k2 k3
  have b := k4 p h1 h2 h3
  exact Prod.ext (by omega) (by omega)

theorem first_eq_some {l : List Pr} {f : Int} {p : Pr} : first l f = some p ↔ IsFirst l f p := by
  constructor
  · exact (first_spec f l).1 p
  · intro h
    cases hb : first l f with
    | none => exact absurd ⟨h.2.1, h.2.2.1⟩ ((first_spec f l).2 hb p h.1)
    | some q => rw [((first_spec f l).1 q hb).uniq h]

theorem first_eq_none {l : List Pr} {f : Int} : first l f = none ↔ ∀ q ∈ l, ¬ (q.1 < q.2 ∧ f ≤ q.1) := by
  constructor
  · exact (first_spec f l).2
  · intro h
    cases hb : first l f with
    | none => rfl
    | some q => have := (first_spec f l).1 q hb; exact absurd ⟨this.2.1, this.2.2.1⟩ (h q this.1)

/-- how many are in the running -/
def left (l : List Pr) (f : Int) : Nat := (l.filter (live f)).length

theorem left_lt {l : List Pr} {f : Int} {p : Pr} (h : first l f = some p) : left l p.2 < left l f := by
  obtain ⟨h1, h2, h3, h4⟩ := first_eq_some.1 h
  clear h h4
  unfold left
  induction l with
  | nil => simp at h1
  | cons x l ih =>
    have hmono : ∀ m : List Pr, (m.filter (live p.2)).length ≤ (m.filter (live f)).length := by
      intro m
      induction m with
      | nil => simp
      | cons y m ihm =>
        simp only [List.filter_cons]
        by_cases hy : live p.2 y = true
        · have hy' := live_iff.1 hy
          have : live f y = true := live_iff.2 ⟨hy'.1, by omega⟩
          simp [hy, this]; exact ihm
        · by_cases hy2 : live f y = true
          · simp [hy, hy2]; omega
          · simp [hy, hy2]; exact ihm
    simp only [List.filter_cons]
    by_cases hx : p = x
    · subst hx
      have a : live f p = true := live_iff.2 ⟨h2, h3⟩
      have b : ¬ live p.2 p = true := by rw [live_iff]; omega
      simp [a, b]
      have := hmono l
      omega
    · have hp : p ∈ l := by simpa [hx] using h1
      have hih := ih hp
      by_cases hy : live p.2 x = true
      · have hy' := live_iff.1 hy
        have : live f x = true := live_iff.2 ⟨hy'.1, by omega⟩
        simp only [hy, this, if_true, List.length_cons]; omega
      · by_cases hy2 : live f x = true
        · simp only [hy, hy2, if_true, List.length_cons]; simp; omega
        · simp only [hy, hy2]; simpa using hih

/-- the pieces that are told alone, from a place on -/
def longest (l : List Pr) (f : Int) : List Pr :=
  match h : first l f with
  | none => []
  | some p => p :: longest l p.2
termination_by left l f
decreasing_by exact left_lt h

theorem longest_none {l : List Pr} {f : Int} (h : first l f = none) : longest l f = [] := by
  rw [longest]; split
  · rfl
  · rename_i hh; rw [h] at hh; cases hh
theorem longest_some {l : List Pr} {f : Int} {p : Pr} (h : first l f = some p) : longest l f = p :: longest l p.2 := by
  rw [longest]; split
  · rename_i hh; rw [h] at hh; cases hh
  · rename_i hh; rw [h] at hh; cases hh; rfl

theorem longest_length (l : List Pr) (f : Int) : (longest l f).length ≤ left l f := by
  have H : ∀ n f, left l f = n → (longest l f).length ≤ n := by
    intro n
    induction n using Nat.strongRecOn with
    | ind n ih =>
      intro f hf
      cases hb : first l f with
      | none => rw [longest_none hb]; simp
      | some p =>
        have := left_lt hb
        have := ih _ (by omega) p.2 rfl
        rw [longest_some hb]; simp; omega
  exact H _ f rfl
theorem left_le (l : List Pr) (f : Int) : left l f ≤ l.length := List.length_filter_le _ _

/-- what stands between -/
def gapStep (s : List Pr × Int) (p : Pr) : List Pr × Int :=
  (if s.2 < p.1 then s.1 ++ [(s.2, p.1)] else s.1, if s.2 < p.2 then p.2 else s.2)
def gapsTo (l : List Pr) : List Pr × Int := l.foldl gapStep ([], 0)
def gaps (l : List Pr) (n : Int) : List Pr := if (gapsTo l).2 < n then (gapsTo l).1 ++ [((gapsTo l).2, n)] else (gapsTo l).1
theorem gapsTo_snoc (l : List Pr) (p : Pr) : gapsTo (l ++ [p]) = gapStep (gapsTo l) p := by simp [gapsTo, List.foldl_append]
theorem gapsTo_length (l : List Pr) : (gapsTo l).1.length ≤ l.length := by
  have H : ∀ n (l : List Pr), l.length = n → (gapsTo l).1.length ≤ n := by
    intro n
    induction n with
    | zero => intro l hl; have : l = [] := List.eq_nil_of_length_eq_zero hl; subst this; simp [gapsTo]
    | succ n ih =>
      intro l hl
      have hne : l ≠ [] := by intro h; simp [h] at hl
      obtain ⟨m, x, rfl⟩ : ∃ m x, l = m ++ [x] := ⟨l.dropLast, l.getLast hne, (List.dropLast_concat_getLast hne).symm⟩
      have := ih m (by simp at hl; omega)
      rw [gapsTo_snoc]
      unfold gapStep
      split <;> simp <;> omega
  exact H _ l rfl

/-- The law's 'good': the pieces q are of l, in order; each pair of l that isn't empty begins within one; none begins where one does and ends behind it. -/
def GoodP (l q : List Pr) : Prop :=
  (∀ p ∈ q, p ∈ l ∧ p.1 < p.2 ∧ ∀ r ∈ l, r.1 = p.1 → r.2 ≤ p.2) ∧
  (∀ k, k + 1 < q.length → (q.getD k (0, 0)).2 ≤ (q.getD (k + 1) (0, 0)).1) ∧
  (∀ r ∈ l, r.1 < r.2 → ∃ p ∈ q, p.1 ≤ r.1 ∧ r.1 < p.2)

/-- the same from a place on, by recursion -/
def Chain (l : List Pr) : Int → List Pr → Prop
  | f, [] => ∀ r ∈ l, r.1 < r.2 → r.1 < f
  | f, p :: q => p ∈ l ∧ p.1 < p.2 ∧ f ≤ p.1 ∧ (∀ r ∈ l, r.1 = p.1 → r.2 ≤ p.2) ∧ (∀ r ∈ l, r.1 < r.2 → f ≤ r.1 → p.1 ≤ r.1) ∧ Chain l p.2 q

theorem chain_iff (l : List Pr) : ∀ (q : List Pr) (f : Int), Chain l f q ↔ q = longest l f := by
  intro q
  induction q with
  | nil =>
    intro f
    constructor
    · intro h
      rw [longest_none]
      rw [first_eq_none]
      intro r hr ⟨h1, h2⟩
      have := h r hr h1; omega
    · intro h r hr h1
      cases hb : first l f with
      | none => have := first_eq_none.1 hb r hr; omega
      | some p => rw [longest_some hb] at h; cases h
  | cons p q ih =>
    intro f
    constructor
    · rintro ⟨h1, h2, h3, h4, h5, h6⟩
      have hb : first l f = some p := by
        rw [first_eq_some]
        refine ⟨h1, h2, h3, fun r hr a b c => ?_⟩
        have := h5 r hr a b
        rcases c with c | ⟨c, d⟩
        · omega
        · have := h4 r hr c; omega
      rw [longest_some hb, ← (ih p.2).1 h6]
    · intro h
      cases hb : first l f with
      | none => rw [longest_none hb] at h; cases h
      | some p' =>
        rw [longest_some hb] at h
        injection h with e1 e2
        subst e1
        obtain ⟨h1, h2, h3, h4⟩ := first_eq_some.1 hb
        refine ⟨h1, h2, h3, fun r hr e => ?_, fun r hr a b => ?_, (ih _).2 e2⟩
        · by_cases hrr : r.1 < r.2
          · have := h4 r hr hrr (by omega); omega
          · omega
        · have := h4 r hr a b; omega

theorem chain_ge (l : List Pr) : ∀ (q : List Pr) (f : Int), Chain l f q → ∀ p ∈ q, f ≤ p.1 := by
  intro q
  induction q with
  | nil => intro f _ p hp; simp at hp
  | cons x q ih =>
    rintro f ⟨h1, h2, h3, h4, h5, h6⟩ p hp
    rcases List.mem_cons.1 hp with rfl | hp
    · exact h3
    · have := ih _ h6 p hp; omega

theorem chain_good (l : List Pr) : ∀ (q : List Pr) (f : Int), Chain l f q →
    (∀ p ∈ q, p ∈ l ∧ p.1 < p.2 ∧ ∀ r ∈ l, r.1 = p.1 → r.2 ≤ p.2) ∧
    (∀ k, k + 1 < q.length → (q.getD k (0, 0)).2 ≤ (q.getD (k + 1) (0, 0)).1) ∧
    (∀ r ∈ l, r.1 < r.2 → f ≤ r.1 → ∃ p ∈ q, p.1 ≤ r.1 ∧ r.1 < p.2) := by
  intro q
  induction q with
  | nil => intro f h; exact ⟨by simp, by simp, fun r hr a b => by have := h r hr a; omega⟩
  | cons x q ih =>
    rintro f ⟨h1, h2, h3, h4, h5, h6⟩
    obtain ⟨i1, i2, i3⟩ := ih _ h6
    refine ⟨fun p hp => ?_, fun k hk => ?_, fun r hr a b => ?_⟩
    · rcases List.mem_cons.1 hp with rfl | hp
      · exact ⟨h1, h2, h4⟩
      · exact i1 p hp
    · cases k with
      | zero =>
        cases q with
        | nil => simp at hk
        | cons y q => exact chain_ge l _ _ h6 y (by simp)
      | succ k => exact i2 k (by simp at hk; omega)
    · by_cases hx : r.1 < x.2
      · exact ⟨x, by simp, h5 r hr a b, hx⟩
      · obtain ⟨p, hp, c⟩ := i3 r hr a (by omega)
        exact ⟨p, by simp [hp], c⟩

theorem chain_of_good (l : List Pr) : ∀ (q : List Pr) (f : Int), 
    (∀ p ∈ q, p ∈ l ∧ p.1 < p.2 ∧ ∀ r ∈ l, r.1 = p.1 → r.2 ≤ p.2) →
    (∀ k, k + 1 < q.length → (q.getD k (0, 0)).2 ≤ (q.getD (k + 1) (0, 0)).1) →
    (∀ r ∈ l, r.1 < r.2 → f ≤ r.1 → ∃ p ∈ q, p.1 ≤ r.1 ∧ r.1 < p.2) → (∀ p ∈ q, f ≤ p.1) → Chain l f q := by
  intro q
  induction q with
  | nil =>
    intro f _ _ h3 _ r hr a
    by_cases hf : f ≤ r.1
    · obtain ⟨p, hp, _⟩ := h3 r hr a hf; simp at hp
    · omega
  | cons x q ih =>
    intro f h1 h2 h3 h4
    obtain ⟨a1, a2, a3⟩ := h1 x (by simp)
    have hge : ∀ (q : List Pr) (x : Pr), (∀ k, k + 1 < (x :: q).length → ((x :: q).getD k (0, 0)).2 ≤ ((x :: q).getD (k + 1) (0, 0)).1) → (∀ p ∈ q, p.1 < p.2) → ∀ p ∈ q, x.2 ≤ p.1 := by
      intro q
      induction q with
      | nil => intro x _ _ p hp; simp at hp
      | cons y q ihq =>
        intro x hx hlt p hp
        have h0 := hx 0 (by simp)
        simp at h0
        rcases List.mem_cons.1 hp with rfl | hp
        · exact h0
        · have := ihq y (fun k hk => hx (k + 1) (by simp at hk ⊢; omega)) (fun p hp => hlt p (by simp [hp])) p hp
          have := hlt y (by simp)
          omega
    have hq := hge q x h2 (fun p hp => (h1 p (by simp [hp])).2.1)
    refine ⟨a1, a2, h4 x (by simp), a3, fun r hr b c => ?_, ih x.2 (fun p hp => h1 p (by simp [hp])) (fun k hk => h2 (k + 1) (by simp; omega)) (fun r hr b c => ?_) hq⟩
    · obtain ⟨p, hp, d, _⟩ := h3 r hr b c
      rcases List.mem_cons.1 hp with rfl | hp
      · exact d
      · have := hq p hp; omega
    · obtain ⟨p, hp, d, e⟩ := h3 r hr b (by have := h4 x (by simp); omega)
      rcases List.mem_cons.1 hp with rfl | hp
      · omega
      · exact ⟨p, hp, d, e⟩

/-- There is just one good list, and that is it. -/
theorem good_iff (l q : List Pr) (m : Int) (hm : ∀ p ∈ l, m ≤ p.1) : GoodP l q ↔ q = longest l m := by
  rw [← chain_iff]
  constructor
  · rintro ⟨h1, h2, h3⟩
    exact chain_of_good l q m h1 h2 (fun r hr a _ => h3 r hr a) (fun p hp => hm p (h1 p hp).1)
  · intro h
    obtain ⟨h1, h2, h3⟩ := chain_good l q m h
    exact ⟨h1, h2, fun r hr a => h3 r hr a (hm r hr)⟩

/-- the reference's 'better' -/
def betterB (l : List Pr) (f : Int) (p : Pr) : Bool := live f p && l.all (fun q => !(live f q && beats q p))
theorem betterB_iff {l : List Pr} {f : Int} {p : Pr} (hp : p ∈ l) : betterB l f p = true ↔ IsFirst l f p := by
  simp only [betterB, Bool.and_eq_true, live_iff, List.all_eq_true, Bool.not_eq_true', Bool.and_eq_false_iff, IsFirst]
  constructor
  · rintro ⟨⟨h1, h2⟩, h3⟩
    refine ⟨hp, h1, h2, fun q hq a b c => ?_⟩
    rcases h3 q hq with h | h
    · rw [live_iff.2 ⟨a, b⟩] at h; cases h
    · rw [beats_iff.2 c] at h; cases h
  · rintro ⟨_, h1, h2, h3⟩
    refine ⟨⟨h1, h2⟩, fun q hq => ?_⟩
    by_cases hl : live f q = true
    · refine .inr ?_
      have := h3 q hq (live_iff.1 hl).1 (live_iff.1 hl).2
      cases hb : beats q p with
      | false => rfl
      | true => exact absurd (beats_iff.1 hb) this
    · exact .inl (by simpa using hl)
theorem find_first (l : List Pr) (f : Int) : l.find? (betterB l f) = first l f := by
  cases hf : first l f with
  | none =>
    rw [List.find?_eq_none]
    intro p hp h
    have := (betterB_iff hp).1 h
    exact first_eq_none.1 hf p hp ⟨this.2.1, this.2.2.1⟩
  | some p =>
    have hi := first_eq_some.1 hf
    cases hx : l.find? (betterB l f) with
    | none =>
      have := List.find?_eq_none.1 hx p hi.1
      exact absurd ((betterB_iff hi.1).2 hi) this
    | some q =>
      have hq := List.mem_of_find?_eq_some hx
      have := (betterB_iff hq).1 (by simpa using List.find?_some hx)
      rw [this.uniq hi]

/-- the law's 'good', as it is reckoned -/
def isB (l : List Pr) (p : Pr) : Bool := l.any (fun x => x.1 == p.1 && x.2 == p.2)
def longerB (l : List Pr) (p : Pr) : Bool := l.any (fun x => x.1 == p.1 && decide (p.2 < x.2))
def inB (q : List Pr) (x : Pr) : Bool := decide (x.2 ≤ x.1) || q.any (fun p => decide (p.1 ≤ x.1) && decide (x.1 < p.2))
def okQ (l q : List Pr) (i : Nat) : Prop :=
  isB l (q.getD i (0, 0)) = true ∧ longerB l (q.getD i (0, 0)) = false ∧ (q.getD i (0, 0)).1 < (q.getD i (0, 0)).2 ∧ (0 < i → (q.getD (i - 1) (0, 0)).2 ≤ (q.getD i (0, 0)).1)
theorem isB_iff {l : List Pr} {p : Pr} : isB l p = true ↔ p ∈ l := by
  simp only [isB, List.any_eq_true, Bool.and_eq_true, beq_iff_eq]
  constructor
  · rintro ⟨x, hx, h1, h2⟩; rw [← (Prod.ext h1 h2 : x = p)]; exact hx
  · intro h; exact ⟨p, h, rfl, rfl⟩
theorem longerB_iff {l : List Pr} {p : Pr} : longerB l p = false ↔ ∀ r ∈ l, r.1 = p.1 → r.2 ≤ p.2 := by
  rw [← Bool.not_eq_true]
  simp only [longerB, List.any_eq_true, Bool.and_eq_true, beq_iff_eq, decide_eq_true_eq, not_exists, not_and]
  constructor
  · intro h r hr e; have := h r hr e; omega
  · intro h r hr e; have := h r hr e; omega
theorem inB_iff {q : List Pr} {x : Pr} : inB q x = true ↔ (x.1 < x.2 → ∃ p ∈ q, p.1 ≤ x.1 ∧ x.1 < p.2) := by
  simp only [inB, Bool.or_eq_true, decide_eq_true_eq, List.any_eq_true, Bool.and_eq_true]
  constructor
  · rintro (h | h) hx
    · omega
    · exact h
  · intro h
    by_cases hx : x.1 < x.2
    · exact .inr (h hx)
    · exact .inl (by omega)
theorem good_of {l q : List Pr} (h1 : ∀ i, i < q.length → okQ l q i) (h2 : ∀ i, i < l.length → inB q (l.getD i (0, 0)) = true) : GoodP l q := by
  refine ⟨fun p hp => ?_, fun k hk => ?_, fun r hr hx => ?_⟩
  · obtain ⟨i, hi, rfl⟩ := List.mem_iff_getElem.1 hp
    have := h1 i hi
    simp only [okQ, List.getD_eq_getElem?_getD, List.getElem?_eq_getElem hi, Option.getD_some] at this
    exact ⟨isB_iff.1 this.1, this.2.2.1, longerB_iff.1 this.2.1⟩
  · exact (h1 (k + 1) hk).2.2.2 (by omega)
  · obtain ⟨i, hi, rfl⟩ := List.mem_iff_getElem.1 hr
    have := h2 i hi
    simp only [List.getD_eq_getElem?_getD, List.getElem?_eq_getElem hi, Option.getD_some] at this
    exact inB_iff.1 this hx
theorem okQ_of_good {l q : List Pr} (h : GoodP l q) (i : Nat) (hi : i < q.length) : okQ l q i := by
  obtain ⟨h1, h2, h3⟩ := h
  have hm : q.getD i (0, 0) ∈ q := by simp [List.getD_eq_getElem?_getD, List.getElem?_eq_getElem hi]
  obtain ⟨a, b, c⟩ := h1 _ hm
  refine ⟨isB_iff.2 a, longerB_iff.2 c, b, fun h0 => ?_⟩
  obtain ⟨j, rfl⟩ : ∃ j, i = j + 1 := ⟨i - 1, by omega⟩
  exact h2 j hi
theorem inB_of_good {l q : List Pr} (h : GoodP l q) (i : Nat) (hi : i < l.length) : inB q (l.getD i (0, 0)) = true := by
  have hm : l.getD i (0, 0) ∈ l := by simp [List.getD_eq_getElem?_getD, List.getElem?_eq_getElem hi]
  exact inB_iff.2 (fun hx => h.2.2 _ hm hx)
end Seine.Pick
