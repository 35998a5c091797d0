/- Plain facts on the pieces that are told alone, for the laws PickFirst, PickAgain, PickGaps. -/
import Derived.Test.YtooehbpgnieljaaPickPure
namespace Seine.Pick

theorem first_mono {l : List Pr} {f t : Int} (hft : f ≤ t) (h : first l f = none) : first l t = none := by
  rw [first_eq_none] at h ⊢
  intro q hq ⟨a, b⟩
  exact h q hq ⟨a, by omega⟩
theorem first_self {l : List Pr} {f : Int} {p : Pr} (h : first l f = some p) (t : Int) (hft : f ≤ t) (ht : t ≤ p.1) : first l t = some p := by
  rw [first_eq_some] at h ⊢
  obtain ⟨h1, h2, h3, h4⟩ := h
  exact ⟨h1, h2, ht, fun q hq a b => h4 q hq a (by omega)⟩

theorem chain_congr {l m : List Pr} (h1 : ∀ r ∈ m, r.1 < r.2 → r ∈ l) : ∀ (q : List Pr) (f : Int), Chain l f q → (∀ p ∈ q, p ∈ m) → Chain m f q := by
  intro q
  induction q with
  | nil => intro f h _ r hr hx; exact h r (h1 r hr hx) hx
  | cons p q ih =>
    rintro f ⟨a, b, c, d, e, g⟩ hq
    refine ⟨hq p (by simp), b, c, fun r hr hx => ?_, fun r hr hx hf => e r (h1 r hr hx) hx hf, ih _ g (fun p hp => hq p (by simp [hp]))⟩
    by_cases hlive : r.1 < r.2
    · exact d r (h1 r hr hlive) hx
    · omega
theorem chain_mem {l : List Pr} : ∀ (q : List Pr) (f : Int), Chain l f q → ∀ p ∈ q, p ∈ l ∧ p.1 < p.2 := by
  intro q
  induction q with
  | nil => intro f _ p hp; simp at hp
  | cons x q ih =>
    rintro f ⟨a, b, c, d, e, g⟩ p hp
    rcases List.mem_cons.1 hp with rfl | hp
    · exact ⟨a, b⟩
    · exact ih _ g p hp
theorem longest_chain (l : List Pr) (f : Int) : Chain l f (longest l f) := (chain_iff l _ f).2 rfl
theorem longest_idem (l : List Pr) (f : Int) : longest (longest l f) f = longest l f := by
  have hc := longest_chain l f
  exact ((chain_iff _ _ f).1 (chain_congr (fun r hr _ => (chain_mem _ _ hc r hr).1) _ _ hc (fun p hp => hp))).symm
theorem longest_same {l m : List Pr} (f : Int) (h1 : ∀ r ∈ m, r.1 < r.2 → r ∈ l) (h2 : ∀ r ∈ l, r.1 < r.2 → r ∈ m) : longest m f = longest l f := by
  have hc := longest_chain l f
  exact ((chain_iff _ _ f).1 (chain_congr h1 _ _ hc (fun p hp => h2 p (chain_mem _ _ hc p hp).1 (chain_mem _ _ hc p hp).2))).symm

/-- how many pieces hold a place -/
def holds (a : Int) (p : Pr) : Bool := decide (p.1 ≤ a) && decide (a < p.2)
def cnt (a : Int) (l : List Pr) : Nat := l.countP (holds a)
theorem holds_iff {a : Int} {p : Pr} : holds a p = true ↔ p.1 ≤ a ∧ a < p.2 := by simp [holds]
theorem cnt_snoc (a : Int) (l : List Pr) (p : Pr) : cnt a (l ++ [p]) = cnt a l + if holds a p then 1 else 0 := by
  simp [cnt, List.countP_append, List.countP_cons]
theorem cnt_cons (a : Int) (l : List Pr) (p : Pr) : cnt a (p :: l) = cnt a l + if holds a p then 1 else 0 := by
  simp [cnt, List.countP_cons]

def gapOk (n : Int) (g : List Pr) : Prop := ∀ p ∈ g, p.1 < p.2 ∧ 0 ≤ p.1 ∧ p.2 ≤ n
/-- in order from t on, up to n -/
def Ord (n : Int) : Int → List Pr → Prop
  | _, [] => True
  | t, p :: q => t ≤ p.1 ∧ p.1 < p.2 ∧ p.2 ≤ n ∧ Ord n p.2 q

theorem ord_of_chain {l : List Pr} {n : Int} (hn : ∀ p ∈ l, p.2 ≤ n) : ∀ (q : List Pr) (f : Int), Chain l f q → Ord n f q := by
  intro q
  induction q with
  | nil => intro f _; trivial
  | cons p q ih => rintro f ⟨a, b, c, d, e, g⟩; exact ⟨c, b, hn p a, ih _ g⟩

theorem gaps_count {n : Int} (a : Int) : ∀ (x : List Pr) (acc : List Pr) (t c0 : Int), 0 ≤ t → t ≤ n → gapOk n acc → Ord n t x → ((cnt a acc : Int) + c0 = if 0 ≤ a ∧ a < t then 1 else 0) →
    gapOk n (x.foldl gapStep (acc, t)).1 ∧ 0 ≤ (x.foldl gapStep (acc, t)).2 ∧ (x.foldl gapStep (acc, t)).2 ≤ n ∧
    ((cnt a (x.foldl gapStep (acc, t)).1 : Int) + (c0 + cnt a x) = if 0 ≤ a ∧ a < (x.foldl gapStep (acc, t)).2 then 1 else 0) := by
  intro x
  induction x with
  | nil =>
    intro acc t c0 h0 hn hg _ hc
    refine ⟨hg, h0, hn, ?_⟩
    have h : cnt a ([] : List Pr) = 0 := rfl
    rw [h]
    simp only [List.foldl_nil]
    rw [show ((0 : Nat) : Int) = 0 from rfl, Int.add_zero]
    exact hc
  | cons p x ih =>
    intro acc t c0 h0 hn hg ho hc
    obtain ⟨h1, h2, h3, h4⟩ := ho
    have hnew : (if t < p.2 then p.2 else t) = p.2 := by rw [if_pos (by omega)]
    have key : ∀ acc', gapOk n acc' → ((cnt a acc' : Int) + (c0 + if holds a p then 1 else 0) = if 0 ≤ a ∧ a < p.2 then 1 else 0) →
        gapStep (acc, t) p = (acc', p.2) → gapOk n ((p :: x).foldl gapStep (acc, t)).1 ∧ 0 ≤ ((p :: x).foldl gapStep (acc, t)).2 ∧ ((p :: x).foldl gapStep (acc, t)).2 ≤ n ∧
        ((cnt a ((p :: x).foldl gapStep (acc, t)).1 : Int) + (c0 + cnt a (p :: x)) = if 0 ≤ a ∧ a < ((p :: x).foldl gapStep (acc, t)).2 then 1 else 0) := by
      intro acc' hg' hc' hst
      rw [List.foldl_cons, hst]
      obtain ⟨i1, i2, i3, i4⟩ := ih acc' p.2 (c0 + if holds a p then 1 else 0) (by omega) h3 hg' h4 hc'
      refine ⟨i1, i2, i3, ?_⟩
      rw [cnt_cons]
      rw [← i4]
      split <;> simp <;> omega
    by_cases hp : t < p.1
    · refine key (acc ++ [(t, p.1)]) ?_ ?_ (by simp only [gapStep, if_pos hp, hnew])
      · intro r hr
        simp at hr
        rcases hr with hr | rfl
        · exact hg r hr
        · exact ⟨hp, h0, by show p.1 ≤ n; omega⟩
      · rw [cnt_snoc]
        by_cases c1 : holds a (t, p.1) = true
        · have c1' := holds_iff.1 c1
          have c2 : ¬ holds a p = true := by rw [holds_iff]; simp at c1'; omega
          rw [if_pos c1, if_neg c2, if_pos (by simp at c1'; omega)]
          rw [if_neg (by simp at c1'; omega)] at hc
          push_cast; omega
        · have c1' : ¬ (t ≤ a ∧ a < p.1) := fun h => c1 (holds_iff.2 h)
          rw [if_neg c1]
          by_cases c2 : holds a p = true
          · have c2' := holds_iff.1 c2
            rw [if_pos c2, if_pos (by omega)]
            rw [if_neg (by omega)] at hc
            push_cast; omega
          · have c2' : ¬ (p.1 ≤ a ∧ a < p.2) := fun h => c2 (holds_iff.2 h)
            rw [if_neg c2]
            by_cases c3 : 0 ≤ a ∧ a < t
            · rw [if_pos c3] at hc; rw [if_pos (by omega)]; push_cast; omega
            · rw [if_neg c3] at hc; rw [if_neg (by omega)]; push_cast; omega
    · refine key acc hg ?_ (by simp only [gapStep, if_neg hp, hnew])
      by_cases c2 : holds a p = true
      · have c2' := holds_iff.1 c2
        rw [if_pos c2, if_pos (by omega)]
        rw [if_neg (by omega)] at hc
        omega
      · have c2' : ¬ (p.1 ≤ a ∧ a < p.2) := fun h => c2 (holds_iff.2 h)
        rw [if_neg c2]
        by_cases c3 : 0 ≤ a ∧ a < t
        · rw [if_pos c3] at hc; rw [if_pos (by omega)]; omega
        · rw [if_neg c3] at hc; rw [if_neg (by omega)]; omega

theorem ord_from {n t : Int} : ∀ {x : List Pr}, Ord n t x → ∀ s, (∀ p ∈ x, s ≤ p.1) → Ord n s x
  | [], _, _, _ => trivial
  | p :: x, h, s, hs => ⟨hs p (by simp), h.2⟩

/-- The law PickGaps, in plain words. -/
theorem gaps_law {l : List Pr} {n f : Int} (hn : 0 ≤ n) (hl : ∀ p ∈ l, 0 ≤ p.1 ∧ p.2 ≤ n) (a : Int) :
    gapOk n (gaps (longest l f) n) ∧ ((cnt a (longest l f) : Int) + cnt a (gaps (longest l f) n) = if 0 ≤ a ∧ a < n then 1 else 0) := by
  have hc := longest_chain l f
  have ho : Ord n 0 (longest l f) := ord_from (ord_of_chain (fun p hp => (hl p hp).2) _ _ hc) 0 (fun p hp => (hl p (chain_mem _ _ hc p hp).1).1)
  obtain ⟨h1, h2, h3, h4⟩ := gaps_count a (longest l f) [] 0 0 (Int.le_refl _) hn (fun p hp => by simp at hp) ho (by simp [cnt])
  change gapOk n (gapsTo (longest l f)).1 at h1
  change 0 ≤ (gapsTo (longest l f)).2 at h2
  change (gapsTo (longest l f)).2 ≤ n at h3
  change (cnt a (gapsTo (longest l f)).1 : Int) + (0 + cnt a (longest l f)) = if 0 ≤ a ∧ a < (gapsTo (longest l f)).2 then 1 else 0 at h4
  unfold gaps
  generalize gapsTo (longest l f) = st at *
  generalize longest l f = x at *
  obtain ⟨g, t⟩ := st
  simp only at h1 h2 h3 h4 ⊢
  by_cases ht : t < n
  · rw [if_pos ht]
    refine ⟨fun r hr => ?_, ?_⟩
    · simp at hr
      rcases hr with hr | rfl
      · exact h1 r hr
      · exact ⟨ht, h2, Int.le_refl _⟩
    · rw [cnt_snoc]
      by_cases c1 : holds a (t, n) = true
      · have c1' := holds_iff.1 c1
        simp only at c1'
        rw [if_pos c1, if_pos (by omega)]
        rw [if_neg (by omega)] at h4
        push_cast; omega
      · have c1' : ¬ (t ≤ a ∧ a < n) := fun h => c1 (holds_iff.2 h)
        rw [if_neg c1]
        by_cases c3 : 0 ≤ a ∧ a < t
        · rw [if_pos c3] at h4; rw [if_pos (by omega)]; push_cast; omega
        · rw [if_neg c3] at h4; rw [if_neg (by omega)]; push_cast; omega
  · rw [if_neg ht]
    refine ⟨h1, ?_⟩
    have : t = n := by omega
    subst this
    omega
end Seine.Pick
