/- The plain law of package links: falls, and the order of the nodes. -/
import Derived.Test.YtcajccknkjljfaaTriePure
set_option linter.unusedVariables false
set_option linter.unusedSimpArgs false
namespace Seine.Links
open Seine.Trie

/-! ### the first number -/
def firstN (q : Nat → Bool) : Nat → Nat → Option Nat
  | _, 0 => none
  | a, k + 1 => if q a then some a else firstN q (a + 1) k
theorem firstN_some {q : Nat → Bool} : ∀ {k a n : Nat}, firstN q a k = some n → a ≤ n ∧ n < a + k ∧ q n = true ∧ ∀ j, a ≤ j → j < n → q j = false
  | 0, a, n, h => by simp [firstN] at h
  | k + 1, a, n, h => by
    unfold firstN at h
    by_cases hq : q a = true
    · rw [if_pos hq] at h
      injection h with h; subst h
      exact ⟨Nat.le_refl _, by omega, hq, fun j h1 h2 => by omega⟩
    · rw [if_neg hq] at h
      obtain ⟨h1, h2, h3, h4⟩ := firstN_some h
      refine ⟨by omega, by omega, h3, fun j h5 h6 => ?_⟩
      rcases Nat.eq_or_lt_of_le h5 with h7 | h7
      · subst h7; simpa using hq
      · exact h4 j h7 h6
theorem firstN_none {q : Nat → Bool} : ∀ {k a : Nat}, firstN q a k = none → ∀ j, a ≤ j → j < a + k → q j = false
  | 0, a, _, j, h1, h2 => by omega
  | k + 1, a, h, j, h1, h2 => by
    unfold firstN at h
    by_cases hq : q a = true
    · rw [if_pos hq] at h; cases h
    · rw [if_neg hq] at h
      rcases Nat.eq_or_lt_of_le h1 with h7 | h7
      · subst h7; simpa using hq
      · exact firstN_none h j h7 (by omega)
theorem firstN_eq {q : Nat → Bool} {a k n : Nat} (h1 : a ≤ n) (h2 : n < a + k) (h3 : q n = true) (h4 : ∀ j, a ≤ j → j < n → q j = false) : firstN q a k = some n := by
  cases h : firstN q a k with
  | none => have := firstN_none h n h1 h2; rw [h3] at this; cases this
  | some m =>
    obtain ⟨e1, e2, e3, e4⟩ := firstN_some h
    rcases Nat.lt_trichotomy m n with hm | hm | hm
    · have := h4 m e1 hm; rw [e3] at this; cases this
    · rw [hm]
    · have := e4 n h1 hm; rw [h3] at this; cases this
theorem firstN_no {q : Nat → Bool} {a k : Nat} (h : ∀ j, a ≤ j → j < a + k → q j = false) : firstN q a k = none := by
  cases h' : firstN q a k with
  | none => rfl
  | some m =>
    obtain ⟨e1, e2, e3, _⟩ := firstN_some h'
    rw [h m e1 e2] at e3; cases e3

/-! ### falls -/
def failN (P : List Txt) (s : Txt) : Option Nat := firstN (fun n => decide (s.drop n ∈ P)) 1 s.length
def outN (l : List Txt) (s : Txt) : Option Nat := firstN (fun n => decide (s.drop n ∈ l)) 1 (s.length - 1)
def failF (P : List Txt) (s : Txt) : Int := match failN P s with | some n => place P (s.drop n) | none => -1
def outF (P l : List Txt) (s : Txt) : Int := match outN l s with | some n => place P (s.drop n) | none => -1
def ownF (l : List Txt) (s : Txt) : Int := if s ∈ l then s.length else 0
def endsF (l : List Txt) (s : Txt) : List Int := ((List.range s.length).filter fun n => decide (s.drop n ∈ l)).map fun n => ((s.length - n : Nat) : Int)

theorem failN_some {P : List Txt} {s : Txt} {n : Nat} (h : failN P s = some n) : 1 ≤ n ∧ n ≤ s.length ∧ s.drop n ∈ P ∧ ∀ j, 1 ≤ j → j < n → s.drop j ∉ P := by
  obtain ⟨h1, h2, h3, h4⟩ := firstN_some h
  exact ⟨h1, by omega, of_decide_eq_true h3, fun j a b => of_decide_eq_false (h4 j a b)⟩
theorem failN_eq {P : List Txt} {s : Txt} {n : Nat} (h1 : 1 ≤ n) (h2 : n ≤ s.length) (h3 : s.drop n ∈ P) (h4 : ∀ j, 1 ≤ j → j < n → s.drop j ∉ P) : failN P s = some n :=
  firstN_eq h1 (by omega) (decide_eq_true h3) fun j a b => decide_eq_false (h4 j a b)
theorem failN_none {P : List Txt} {s : Txt} (h : failN P s = none) (j : Nat) (h1 : 1 ≤ j) (h2 : j ≤ s.length) : s.drop j ∉ P := of_decide_eq_false (firstN_none h j h1 (by omega))
theorem outN_some {l : List Txt} {s : Txt} {n : Nat} (h : outN l s = some n) : 1 ≤ n ∧ n < s.length ∧ s.drop n ∈ l ∧ ∀ j, 1 ≤ j → j < n → s.drop j ∉ l := by
  obtain ⟨h1, h2, h3, h4⟩ := firstN_some h
  exact ⟨h1, by omega, of_decide_eq_true h3, fun j a b => of_decide_eq_false (h4 j a b)⟩
theorem outN_eq {l : List Txt} {s : Txt} {n : Nat} (h1 : 1 ≤ n) (h2 : n < s.length) (h3 : s.drop n ∈ l) (h4 : ∀ j, 1 ≤ j → j < n → s.drop j ∉ l) : outN l s = some n :=
  firstN_eq h1 (by omega) (decide_eq_true h3) fun j a b => decide_eq_false (h4 j a b)
theorem outN_none {l : List Txt} {s : Txt} (h : outN l s = none) (j : Nat) (h1 : 1 ≤ j) (h2 : j < s.length) : s.drop j ∉ l := of_decide_eq_false (firstN_none h j h1 (by omega))
theorem outN_no {l : List Txt} {s : Txt} (h : ∀ j, 1 ≤ j → j < s.length → s.drop j ∉ l) : outN l s = none := firstN_no fun j a b => decide_eq_false (h j a (by omega))

theorem failF_nil (P : List Txt) : failF P [] = -1 := rfl
theorem outF_nil (P l : List Txt) : outF P l [] = -1 := rfl
theorem ownF_nil (l : List Txt) : ownF l [] = 0 := by unfold ownF; split <;> rfl
theorem fail_some {P : List Txt} (hT : Tree P) {s : Txt} (hs : s ≠ []) : ∃ n, failN P s = some n := by
  cases h : failN P s with
  | some n => exact ⟨n, rfl⟩
  | none =>
    have h0 : 0 < s.length := List.length_pos_iff.2 hs
    have := failN_none h s.length h0 (Nat.le_refl _)
    rw [List.drop_length] at this
    exact absurd hT.nil_mem this

theorem snoc_drop {q : Txt} {c : UInt8} {j : Nat} (h : j ≤ q.length) : (q ++ [c]).drop j = q.drop j ++ [c] := by
  rw [List.drop_append_of_le_length h]
theorem up_snoc {P : List Txt} (hT : Tree P) {r : Txt} {c : UInt8} (h : r ++ [c] ∈ P) : r ∈ P := by
  have := hT.up _ h (by simp)
  rwa [List.dropLast_concat] at this

/-- Where the search for a fall stands. -/
def Back (P : List Txt) (q : Txt) (c : UInt8) (n : Int) : Prop :=
  (∃ k, 1 ≤ k ∧ k ≤ q.length ∧ n = place P (q.drop k) ∧ q.drop k ∈ P ∧ ∀ j, 1 ≤ j → j < k → (q ++ [c]).drop j ∉ P) ∨ (n = -1 ∧ ∀ j, 1 ≤ j → j ≤ q.length → (q ++ [c]).drop j ∉ P)
theorem back_from {P : List Txt} (hT : Tree P) {q : Txt} {c : UInt8} {k : Nat} (hk : k ≤ q.length) (h : ∀ j, 1 ≤ j → j ≤ k → (q ++ [c]).drop j ∉ P) : Back P q c (failF P (q.drop k)) := by
  unfold failF
  cases hf : failN P (q.drop k) with
  | some n =>
    obtain ⟨h1, h2, h3, h4⟩ := failN_some hf
    rw [List.length_drop] at h2
    rw [List.drop_drop] at h3
    refine .inl ⟨k + n, by omega, by omega, by simp only [List.drop_drop], h3, fun j a b => ?_⟩
    by_cases hj : j ≤ k
    · exact h j a hj
    · intro hm
      rw [snoc_drop (by omega)] at hm
      have := h4 (j - k) (by omega) (by omega)
      rw [List.drop_drop, show k + (j - k) = j by omega] at this
      exact this (up_snoc hT hm)
  | none =>
    refine .inr ⟨rfl, fun j a b => ?_⟩
    by_cases hj : j ≤ k
    · exact h j a hj
    · intro hm
      rw [snoc_drop b] at hm
      have := failN_none hf (j - k) (by omega) (by rw [List.length_drop]; omega)
      rw [List.drop_drop, show k + (j - k) = j by omega] at this
      exact this (up_snoc hT hm)
theorem back_start {P : List Txt} (hT : Tree P) (q : Txt) (c : UInt8) : Back P q c (failF P q) := back_from hT (k := 0) (Nat.zero_le _) (fun j a b => by omega)
theorem back_end {P : List Txt} (hT : Tree P) {q : Txt} {c : UInt8} {n : Int} (h : Back P q c n) (hn : n < 0) : failF P (q ++ [c]) = 0 := by
  rcases h with ⟨k, _, _, h3, h4, _⟩ | ⟨_, h⟩
  · have := place_mem.2 h4; omega
  · have : failN P (q ++ [c]) = some (q.length + 1) := failN_eq (by omega) (by simp) (by rw [List.drop_of_length_le (by simp)]; exact hT.nil_mem) fun j a b => h j a (by omega)
    unfold failF
    rw [this]
    simp only
    rw [List.drop_of_length_le (by simp), place_at hT.nodup hT.root]; rfl
theorem back_step {P : List Txt} (hT : Tree P) {q : Txt} {c : UInt8} {n : Int} (h : Back P q c n) (hn : 0 ≤ n) : ∃ r, r ∈ P ∧ n = place P r ∧ r.length < q.length + 0 ∧
    ((0 ≤ place P (r ++ [c]) ∧ failF P (q ++ [c]) = place P (r ++ [c])) ∨ (place P (r ++ [c]) < 0 ∧ Back P q c (failF P r))) := by
  rcases h with ⟨k, h1, h2, h3, h4, h5⟩ | ⟨h, _⟩
  · refine ⟨q.drop k, h4, h3, by rw [List.length_drop]; omega, ?_⟩
    by_cases hm : q.drop k ++ [c] ∈ P
    · refine .inl ⟨place_mem.2 hm, ?_⟩
      have : failN P (q ++ [c]) = some k := failN_eq h1 (by simp; omega) (by rw [snoc_drop h2]; exact hm) h5
      unfold failF
      rw [this]
      simp only
      rw [snoc_drop h2]
    · refine .inr ⟨place_neg.2 hm, back_from hT h2 fun j a b => ?_⟩
      rcases Nat.eq_or_lt_of_le b with e | e
      · subst e; rw [snoc_drop h2]; exact hm
      · exact h5 j a e
  · omega
/-- A fall is shorter. -/
theorem fail_short {P : List Txt} {r : Txt} (h : 0 ≤ failF P r) : ∃ r', r' ∈ P ∧ failF P r = place P r' ∧ r'.length < r.length := by
  unfold failF at h ⊢
  cases hf : failN P r with
  | some n =>
    obtain ⟨h1, h2, h3, _⟩ := failN_some hf
    exact ⟨_, h3, rfl, by rw [List.length_drop]; omega⟩
  | none => rw [hf] at h; simp at h

theorem out_rec {P l : List Txt} (hl : ∀ x, x ∈ l → x ∈ P) {s : Txt} {n : Nat} (hf : failN P s = some n) : outF P l s = if ownF l (s.drop n) = 0 then outF P l (s.drop n) else place P (s.drop n) := by
  obtain ⟨h1, h2, h3, h4⟩ := failN_some hf
  by_cases ho : ownF l (s.drop n) = 0
  · rw [if_pos ho]
    have hno : ∀ j, 1 ≤ j → j ≤ n → j < s.length → s.drop j ∉ l := fun j a b d hm => by
      rcases Nat.eq_or_lt_of_le b with e | e
      · subst e
        unfold ownF at ho
        rw [if_pos hm, List.length_drop] at ho
        omega
      · exact h4 j a e (hl _ hm)
    unfold outF
    cases hq : outN l (s.drop n) with
    | some m =>
      obtain ⟨e1, e2, e3, e4⟩ := outN_some hq
      rw [List.length_drop] at e2
      rw [List.drop_drop] at e3
      have : outN l s = some (n + m) := outN_eq (by omega) (by omega) e3 fun j a b => by
        by_cases hj : j ≤ n
        · exact hno j a hj (by omega)
        · have := e4 (j - n) (by omega) (by omega)
          rwa [List.drop_drop, show n + (j - n) = j by omega] at this
      rw [this]
      simp only [List.drop_drop]
    | none =>
      have : outN l s = none := outN_no fun j a b => by
        by_cases hj : j ≤ n
        · exact hno j a hj b
        · have := outN_none hq (j - n) (by omega) (by rw [List.length_drop]; omega)
          rwa [List.drop_drop, show n + (j - n) = j by omega] at this
      rw [this]
  · rw [if_neg ho]
    have hm : s.drop n ∈ l := by
      unfold ownF at ho
      by_cases hm : s.drop n ∈ l
      · exact hm
      · rw [if_neg hm] at ho; exact absurd rfl ho
    have hlt : n < s.length := by
      unfold ownF at ho
      rw [if_pos hm, List.length_drop] at ho
      omega
    have : outN l s = some n := outN_eq h1 hlt hm fun j a b hj => h4 j a b (hl _ hj)
    unfold outF
    rw [this]

theorem ends_drop (l : List Txt) (s : Txt) (k : Nat) (hk : k ≤ s.length) : endsF l (s.drop k) = ((List.range' k (s.length - k)).filter fun n => decide (s.drop n ∈ l)).map fun n => ((s.length - n : Nat) : Int) := by
  unfold endsF
  rw [List.length_drop]
  have : List.range' k (s.length - k) = (List.range (s.length - k)).map (fun n => k + n) := by
    rw [List.range_eq_range', List.map_add_range']
    simp
  rw [this, List.filter_map, List.map_map]
  have e1 : ((fun n => decide (s.drop n ∈ l)) ∘ fun n => k + n) = fun n => decide ((s.drop k).drop n ∈ l) := by
    funext n; simp [List.drop_drop]
  rw [e1]
  apply List.map_congr_left
  intro n hn
  simp only [Function.comp]
  congr 1
  omega
theorem ends_skip (l : List Txt) (s : Txt) : ∀ (m k : Nat), k + m ≤ s.length → (∀ j, k ≤ j → j < k + m → s.drop j ∉ l) → endsF l (s.drop k) = endsF l (s.drop (k + m))
  | 0, k, _, _ => rfl
  | m + 1, k, h, hno => by
    rw [ends_drop l s k (by omega), show s.length - k = (s.length - (k + 1)) + 1 by omega, List.range'_succ, List.filter_cons, if_neg (by simpa using hno k (Nat.le_refl _) (by omega)), ← ends_drop l s (k + 1) (by omega),
      ends_skip l s m (k + 1) (by omega) (fun j a b => hno j (by omega) (by omega)), show k + 1 + m = k + (m + 1) by omega]
theorem ends_rec (l : List Txt) (s : Txt) : endsF l s = (if 0 < ownF l s then [ownF l s] else []) ++ (match outN l s with | some n => endsF l (s.drop n) | none => []) := by
  by_cases hs : s = []
  · subst hs
    rw [ownF_nil]; rfl
  · have h0 : 0 < s.length := List.length_pos_iff.2 hs
    have h1 : endsF l s = (if 0 < ownF l s then [ownF l s] else []) ++ endsF l (s.drop 1) := by
      have e := ends_drop l s 0 (Nat.zero_le _)
      rw [List.drop_zero] at e
      rw [e, show s.length - 0 = (s.length - 1) + 1 by omega, List.range'_succ, List.filter_cons, ends_drop l s 1 h0]
      unfold ownF
      by_cases hm : s ∈ l
      · rw [if_pos (by simpa using hm), if_pos hm, if_pos (by omega)]
        simp
      · rw [if_neg (by simpa using hm), if_neg hm]
        simp
    rw [h1]
    congr 1
    cases hq : outN l s with
    | some n =>
      obtain ⟨a, b, _, d⟩ := outN_some hq
      have := ends_skip l s (n - 1) 1 (by omega) (fun j x y => d j x (by omega))
      rw [this, show 1 + (n - 1) = n by omega]
    | none =>
      have := ends_skip l s (s.length - 1) 1 (by omega) (fun j x y => outN_none hq j x (by omega))
      rw [this, show 1 + (s.length - 1) = s.length by omega, List.drop_length]
      rfl
end Seine.Links
