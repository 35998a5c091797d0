/- Joined texts: LinksPure, LinksOrder, LinksWalk, LinksWalk2, Repeat, LinksWalk3. -/
import Derived.Test.YtdiljmhikajjiaaGreatM1
import Derived.Test.YtdiljmhikajjiaaGreatM2
import Derived.Laws.CopyOwn
import Derived.Laws.Bits64b
import Derived.Laws.MakeOwn
import Derived.Deep.RegionHeld3
import Derived.Deep.LoopGhost
section
set_option linter.unusedVariables false
set_option linter.unusedSimpArgs false
namespace Seine.Links
open Seine.Trie
def firstN (q : Nat → Bool) : Nat → Nat → Option Nat
  | _, 0 => none
  | a, k + 1 => if q a then some a else firstN q (a + 1) k
theorem firstN_some {q : Nat → Bool} : ∀ {k a n : Nat}, firstN q a k = some n → a ≤ n ∧ n < a + k ∧ q n = true ∧ ∀ j, a ≤ j → j < n → q j = false
  | 0, a, n, h => by simp [firstN] at h
  | k + 1, a, n, h => by
    unfold firstN at h
    by_cases hq : q a = true
    · rw [if_pos hq] at h
      injection h with h; subst h
      exact ⟨Nat.le_refl _, by omega, hq, fun j h1 h2 => by omega⟩
    · rw [if_neg hq] at h
      obtain ⟨h1, h2, h3, h4⟩ := firstN_some h
      refine ⟨by omega, by omega, h3, fun j h5 h6 => ?_⟩
      rcases Nat.eq_or_lt_of_le h5 with h7 | h7
      · subst h7; simpa using hq
      · exact h4 j h7 h6
theorem firstN_none {q : Nat → Bool} : ∀ {k a : Nat}, firstN q a k = none → ∀ j, a ≤ j → j < a + k → q j = false
  | 0, a, _, j, h1, h2 => by omega
  | k + 1, a, h, j, h1, h2 => by
    unfold firstN at h
    by_cases hq : q a = true
    · rw [if_pos hq] at h; cases h
    · rw [if_neg hq] at h
      rcases Nat.eq_or_lt_of_le h1 with h7 | h7
      · subst h7; simpa using hq
      · exact firstN_none h j h7 (by omega)
theorem firstN_eq {q : Nat → Bool} {a k n : Nat} (h1 : a ≤ n) (h2 : n < a + k) (h3 : q n = true) (h4 : ∀ j, a ≤ j → j < n → q j = false) : firstN q a k = some n := by
  cases h : firstN q a k with
  | none => have := firstN_none h n h1 h2; rw [h3] at this; cases this
  | some m =>
    obtain ⟨e1, e2, e3, e4⟩ := firstN_some h
    rcases Nat.lt_trichotomy m n with hm | hm | hm
    · have := h4 m e1 hm; rw [e3] at this; cases this
    · rw [hm]
    · have := e4 n h1 hm; rw [h3] at this; cases this
theorem firstN_no {q : Nat → Bool} {a k : Nat} (h : ∀ j, a ≤ j → j < a + k → q j = false) : firstN q a k = none := by
  cases h' : firstN q a k with
  | none => rfl
  | some m =>
    obtain ⟨e1, e2, e3, _⟩ := firstN_some h'
    rw [h m e1 e2] at e3; cases e3
def failN (P : List Txt) (s : Txt) : Option Nat := firstN (fun n => decide (s.drop n ∈ P)) 1 s.length
def outN (l : List Txt) (s : Txt) : Option Nat := firstN (fun n => decide (s.drop n ∈ l)) 1 (s.length - 1)
def failF (P : List Txt) (s : Txt) : Int := match failN P s with | some n => place P (s.drop n) | none => -1
def outF (P l : List Txt) (s : Txt) : Int := match outN l s with | some n => place P (s.drop n) | none => -1
def ownF (l : List Txt) (s : Txt) : Int := if s ∈ l then s.length else 0
def endsF (l : List Txt) (s : Txt) : List Int := ((List.range s.length).filter fun n => decide (s.drop n ∈ l)).map fun n => ((s.length - n : Nat) : Int)
theorem failN_some {P : List Txt} {s : Txt} {n : Nat} (h : failN P s = some n) : 1 ≤ n ∧ n ≤ s.length ∧ s.drop n ∈ P ∧ ∀ j, 1 ≤ j → j < n → s.drop j ∉ P := by
  obtain ⟨h1, h2, h3, h4⟩ := firstN_some h
  exact ⟨h1, by omega, of_decide_eq_true h3, fun j a b => of_decide_eq_false (h4 j a b)⟩
theorem failN_eq {P : List Txt} {s : Txt} {n : Nat} (h1 : 1 ≤ n) (h2 : n ≤ s.length) (h3 : s.drop n ∈ P) (h4 : ∀ j, 1 ≤ j → j < n → s.drop j ∉ P) : failN P s = some n :=
  firstN_eq h1 (by omega) (decide_eq_true h3) fun j a b => decide_eq_false (h4 j a b)
theorem failN_none {P : List Txt} {s : Txt} (h : failN P s = none) (j : Nat) (h1 : 1 ≤ j) (h2 : j ≤ s.length) : s.drop j ∉ P := of_decide_eq_false (firstN_none h j h1 (by omega))
theorem outN_some {l : List Txt} {s : Txt} {n : Nat} (h : outN l s = some n) : 1 ≤ n ∧ n < s.length ∧ s.drop n ∈ l ∧ ∀ j, 1 ≤ j → j < n → s.drop j ∉ l := by
  obtain ⟨h1, h2, h3, h4⟩ := firstN_some h
  exact ⟨h1, by omega, of_decide_eq_true h3, fun j a b => of_decide_eq_false (h4 j a b)⟩
theorem outN_eq {l : List Txt} {s : Txt} {n : Nat} (h1 : 1 ≤ n) (h2 : n < s.length) (h3 : s.drop n ∈ l) (h4 : ∀ j, 1 ≤ j → j < n → s.drop j ∉ l) : outN l s = some n :=
  firstN_eq h1 (by omega) (decide_eq_true h3) fun j a b => decide_eq_false (h4 j a b)
theorem outN_none {l : List Txt} {s : Txt} (h : outN l s = none) (j : Nat) (h1 : 1 ≤ j) (h2 : j < s.length) : s.drop j ∉ l := of_decide_eq_false (firstN_none h j h1 (by omega))
theorem outN_no {l : List Txt} {s : Txt} (h : ∀ j, 1 ≤ j → j < s.length → s.drop j ∉ l) : outN l s = none := firstN_no fun j a b => decide_eq_false (h j a (by omega))
theorem failF_nil (P : List Txt) : failF P [] = -1 := rfl
theorem outF_nil (P l : List Txt) : outF P l [] = -1 := rfl
theorem ownF_nil (l : List Txt) : ownF l [] = 0 := by unfold ownF; split <;> rfl
theorem fail_some {P : List Txt} (hT : Tree P) {s : Txt} (hs : s ≠ []) : ∃ n, failN P s = some n := by
  cases h : failN P s with
  | some n => exact ⟨n, rfl⟩
  | none =>
    have h0 : 0 < s.length := List.length_pos_iff.2 hs
    have := failN_none h s.length h0 (Nat.le_refl _)
    rw [List.drop_length] at this
    exact absurd hT.nil_mem this
theorem snoc_drop {q : Txt} {c : UInt8} {j : Nat} (h : j ≤ q.length) : (q ++ [c]).drop j = q.drop j ++ [c] := by
  rw [List.drop_append_of_le_length h]
theorem up_snoc {P : List Txt} (hT : Tree P) {r : Txt} {c : UInt8} (h : r ++ [c] ∈ P) : r ∈ P := by
  have := hT.up _ h (by simp)
  rwa [List.dropLast_concat] at this
/-- Where the search for a fall stands. -/
def Back (P : List Txt) (q : Txt) (c : UInt8) (n : Int) : Prop :=
  (∃ k, 1 ≤ k ∧ k ≤ q.length ∧ n = place P (q.drop k) ∧ q.drop k ∈ P ∧ ∀ j, 1 ≤ j → j < k → (q ++ [c]).drop j ∉ P) ∨ (n = -1 ∧ ∀ j, 1 ≤ j → j ≤ q.length → (q ++ [c]).drop j ∉ P)
theorem back_from {P : List Txt} (hT : Tree P) {q : Txt} {c : UInt8} {k : Nat} (hk : k ≤ q.length) (h : ∀ j, 1 ≤ j → j ≤ k → (q ++ [c]).drop j ∉ P) : Back P q c (failF P (q.drop k)) := by
  unfold failF
  cases hf : failN P (q.drop k) with
  | some n =>
    obtain ⟨h1, h2, h3, h4⟩ := failN_some hf
    rw [List.length_drop] at h2
    rw [List.drop_drop] at h3
    refine .inl ⟨k + n, by omega, by omega, by simp only [List.drop_drop], h3, fun j a b => ?_⟩
    by_cases hj : j ≤ k
    · exact h j a hj
    · intro hm
      rw [snoc_drop (by omega)] at hm
      have := h4 (j - k) (by omega) (by omega)
      rw [List.drop_drop, show k + (j - k) = j by omega] at this
      exact this (up_snoc hT hm)
  | none =>
    refine .inr ⟨rfl, fun j a b => ?_⟩
    by_cases hj : j ≤ k
    · exact h j a hj
    · intro hm
      rw [snoc_drop b] at hm
      have := failN_none hf (j - k) (by omega) (by rw [List.length_drop]; omega)
      rw [List.drop_drop, show k + (j - k) = j by omega] at this
      exact this (up_snoc hT hm)
theorem back_start {P : List Txt} (hT : Tree P) (q : Txt) (c : UInt8) : Back P q c (failF P q) := back_from hT (k := 0) (Nat.zero_le _) (fun j a b => by omega)
theorem back_end {P : List Txt} (hT : Tree P) {q : Txt} {c : UInt8} {n : Int} (h : Back P q c n) (hn : n < 0) : failF P (q ++ [c]) = 0 := by
  rcases h with ⟨k, _, _, h3, h4, _⟩ | ⟨_, h⟩
  · have := place_mem.2 h4; omega
  · have : failN P (q ++ [c]) = some (q.length + 1) := failN_eq (by omega) (by simp) (by rw [List.drop_of_length_le (by simp)]; exact hT.nil_mem) fun j a b => h j a (by omega)
    unfold failF
    rw [this]
    simp only
    rw [List.drop_of_length_le (by simp), place_at hT.nodup hT.root]; rfl
theorem back_step {P : List Txt} (hT : Tree P) {q : Txt} {c : UInt8} {n : Int} (h : Back P q c n) (hn : 0 ≤ n) : ∃ r, r ∈ P ∧ n = place P r ∧ r.length < q.length + 0 ∧
    ((0 ≤ place P (r ++ [c]) ∧ failF P (q ++ [c]) = place P (r ++ [c])) ∨ (place P (r ++ [c]) < 0 ∧ Back P q c (failF P r))) := by
  rcases h with ⟨k, h1, h2, h3, h4, h5⟩ | ⟨h, _⟩
  · refine ⟨q.drop k, h4, h3, by rw [List.length_drop]; omega, ?_⟩
    by_cases hm : q.drop k ++ [c] ∈ P
    · refine .inl ⟨place_mem.2 hm, ?_⟩
      have : failN P (q ++ [c]) = some k := failN_eq h1 (by simp; omega) (by rw [snoc_drop h2]; exact hm) h5
      unfold failF
      rw [this]
      simp only
      rw [snoc_drop h2]
    · refine .inr ⟨place_neg.2 hm, back_from hT h2 fun j a b => ?_⟩
      rcases Nat.eq_or_lt_of_le b with e | e
      · subst e; rw [snoc_drop h2]; exact hm
      · exact h5 j a e
  · omega
/-- A fall is shorter. -/
theorem fail_short {P : List Txt} {r : Txt} (h : 0 ≤ failF P r) : ∃ r', r' ∈ P ∧ failF P r = place P r' ∧ r'.length < r.length := by
  unfold failF at h ⊢
  cases hf : failN P r with
  | some n =>
    obtain ⟨h1, h2, h3, _⟩ := failN_some hf
    exact ⟨_, h3, rfl, by rw [List.length_drop]; omega⟩
  | none => rw [hf] at h; simp at h
theorem out_rec {P l : List Txt} (hl : ∀ x, x ∈ l → x ∈ P) {s : Txt} {n : Nat} (hf : failN P s = some n) : outF P l s = if ownF l (s.drop n) = 0 then outF P l (s.drop n) else place P (s.drop n) := by
  obtain ⟨h1, h2, h3, h4⟩ := failN_some hf
  by_cases ho : ownF l (s.drop n) = 0
  · rw [if_pos ho]
    have hno : ∀ j, 1 ≤ j → j ≤ n → j < s.length → s.drop j ∉ l := fun j a b d hm => by
      rcases Nat.eq_or_lt_of_le b with e | e
      · subst e
        unfold ownF at ho
        rw [if_pos hm, List.length_drop] at ho
        omega
      · exact h4 j a e (hl _ hm)
    unfold outF
    cases hq : outN l (s.drop n) with
    | some m =>
      obtain ⟨e1, e2, e3, e4⟩ := outN_some hq
      rw [List.length_drop] at e2
      rw [List.drop_drop] at e3
      have : outN l s = some (n + m) := outN_eq (by omega) (by omega) e3 fun j a b => by
        by_cases hj : j ≤ n
        · exact hno j a hj (by omega)
        · have := e4 (j - n) (by omega) (by omega)
          rwa [List.drop_drop, show n + (j - n) = j by omega] at this
      rw [this]
      simp only [List.drop_drop]
    | none =>
      have : outN l s = none := outN_no fun j a b => by
        by_cases hj : j ≤ n
        · exact hno j a hj b
        · have := outN_none hq (j - n) (by omega) (by rw [List.length_drop]; omega)
          rwa [List.drop_drop, show n + (j - n) = j by omega] at this
      rw [this]
  · rw [if_neg ho]
    have hm : s.drop n ∈ l := by
      unfold ownF at ho
      by_cases hm : s.drop n ∈ l
      · exact hm
      · rw [if_neg hm] at ho; exact absurd rfl ho
    have hlt : n < s.length := by
      unfold ownF at ho
      rw [if_pos hm, List.length_drop] at ho
      omega
    have : outN l s = some n := outN_eq h1 hlt hm fun j a b hj => h4 j a b (hl _ hj)
    unfold outF
    rw [this]
theorem ends_drop (l : List Txt) (s : Txt) (k : Nat) (hk : k ≤ s.length) : endsF l (s.drop k) = ((List.range' k (s.length - k)).filter fun n => decide (s.drop n ∈ l)).map fun n => ((s.length - n : Nat) : Int) := by
  unfold endsF
  rw [List.length_drop]
  have : List.range' k (s.length - k) = (List.range (s.length - k)).map (fun n => k + n) := by
    rw [List.range_eq_range', List.map_add_range']
    simp
  rw [this, List.filter_map, List.map_map]
  have e1 : ((fun n => decide (s.drop n ∈ l)) ∘ fun n => k + n) = fun n => decide ((s.drop k).drop n ∈ l) := by
    funext n; simp [List.drop_drop]
  rw [e1]
  apply List.map_congr_left
  intro n hn
  simp only [Function.comp]
  congr 1
  omega
theorem ends_skip (l : List Txt) (s : Txt) : ∀ (m k : Nat), k + m ≤ s.length → (∀ j, k ≤ j → j < k + m → s.drop j ∉ l) → endsF l (s.drop k) = endsF l (s.drop (k + m))
  | 0, k, _, _ => rfl
  | m + 1, k, h, hno => by
    rw [ends_drop l s k (by omega), show s.length - k = (s.length - (k + 1)) + 1 by omega, List.range'_succ, List.filter_cons, if_neg (by simpa using hno k (Nat.le_refl _) (by omega)), ← ends_drop l s (k + 1) (by omega),
      ends_skip l s m (k + 1) (by omega) (fun j a b => hno j (by omega) (by omega)), show k + 1 + m = k + (m + 1) by omega]
theorem ends_rec (l : List Txt) (s : Txt) : endsF l s = (if 0 < ownF l s then [ownF l s] else []) ++ (match outN l s with | some n => endsF l (s.drop n) | none => []) := by
  by_cases hs : s = []
  · subst hs
    rw [ownF_nil]; rfl
  · have h0 : 0 < s.length := List.length_pos_iff.2 hs
    have h1 : endsF l s = (if 0 < ownF l s then [ownF l s] else []) ++ endsF l (s.drop 1) := by
      have e := ends_drop l s 0 (Nat.zero_le _)
      rw [List.drop_zero] at e
      rw [e, show s.length - 0 = (s.length - 1) + 1 by omega, List.range'_succ, List.filter_cons, ends_drop l s 1 h0]
      unfold ownF
      by_cases hm : s ∈ l
      · rw [if_pos (by simpa using hm), if_pos hm, if_pos (by omega)]
        simp
      · rw [if_neg (by simpa using hm), if_neg hm]
        simp
    rw [h1]
    congr 1
    cases hq : outN l s with
    | some n =>
      obtain ⟨a, b, _, d⟩ := outN_some hq
      have := ends_skip l s (n - 1) 1 (by omega) (fun j x y => d j x (by omega))
      rw [this, show 1 + (n - 1) = n by omega]
    | none =>
      have := ends_skip l s (s.length - 1) 1 (by omega) (fun j x y => outN_none hq j x (by omega))
      rw [this, show 1 + (s.length - 1) = s.length by omega, List.drop_length]
      rfl
end Seine.Links
end
section
set_option linter.unusedVariables false
set_option linter.unusedSimpArgs false
namespace Seine.Links
open Seine.Trie
theorem nodup_len {α : Type} [DecidableEq α] : ∀ {a b : List α}, a.Nodup → (∀ x, x ∈ a → x ∈ b) → a.length ≤ b.length
  | [], b, _, _ => Nat.zero_le _
  | x :: a, b, hn, hs => by
    have hx := hs x (by simp)
    have h1 := nodup_len (a := a) (b := b.erase x) (List.nodup_cons.1 hn).2 fun y hy => by
      have hne : y ≠ x := fun e => (List.nodup_cons.1 hn).1 (e ▸ hy)
      exact (List.mem_erase_of_ne hne).2 (hs y (by simp [hy]))
    rw [List.length_erase_of_mem hx] at h1
    have := List.length_pos_of_mem hx
    simp only [List.length_cons]
    omega
def kidsT (P : List Txt) (s : Txt) : List Txt := (kids P s).map fun c => s ++ [c]
def op (P : List Txt) : Nat → List Txt
  | 0 => [[]]
  | i + 1 => op P i ++ (match (op P i)[i]? with | some s => kidsT P s | none => [])
theorem mem_kids {P : List Txt} {s : Txt} {c : UInt8} : c ∈ kids P s ↔ s ++ [c] ∈ P := by
  unfold kids
  rw [List.mem_filter, decide_eq_true_iff]
  refine ⟨fun h => h.2, fun h => ⟨?_, h⟩⟩
  rw [List.mem_map]
  exact ⟨c.toNat, List.mem_range.2 c.toNat_lt, by simp⟩
theorem mem_kidsT {P : List Txt} {s x : Txt} : x ∈ kidsT P s ↔ ∃ c, x = s ++ [c] ∧ s ++ [c] ∈ P := by
  unfold kidsT
  rw [List.mem_map]
  exact ⟨fun ⟨c, h, e⟩ => ⟨c, e.symm, mem_kids.1 h⟩, fun ⟨c, e, h⟩ => ⟨c, mem_kids.2 h, e.symm⟩⟩
theorem nodup_map' {α β : Type} {f : α → β} : ∀ {l : List α}, l.Nodup → (∀ x y, x ∈ l → y ∈ l → f x = f y → x = y) → (l.map f).Nodup
  | [], _, _ => by simp
  | a :: l, h, hf => by
    rw [List.map_cons, List.nodup_cons]
    refine ⟨fun hm => ?_, nodup_map' (List.nodup_cons.1 h).2 fun x y hx hy => hf x y (by simp [hx]) (by simp [hy])⟩
    obtain ⟨y, hy, e⟩ := List.mem_map.1 hm
    exact (List.nodup_cons.1 h).1 (hf y a (by simp [hy]) (by simp) e ▸ hy)
theorem kids_nodup (P : List Txt) (s : Txt) : (kids P s).Nodup := by
  unfold kids
  refine List.Pairwise.filter _ (nodup_map' List.nodup_range fun x y hx hy h => ?_)
  have hx := List.mem_range.1 hx
  have hy := List.mem_range.1 hy
  have := congrArg UInt8.toNat h
  simp at this
  omega
theorem kidsT_nodup (P : List Txt) (s : Txt) : (kidsT P s).Nodup := nodup_map' (kids_nodup P s) fun x y _ _ h => by simpa using h
theorem op_next {P : List Txt} {i : Nat} {s : Txt} (h : (op P i)[i]? = some s) : op P (i + 1) = op P i ++ kidsT P s := by
  show op P i ++ _ = _
  rw [h]
theorem op_same {P : List Txt} {i : Nat} (h : (op P i).length ≤ i) : op P (i + 1) = op P i := by
  show op P i ++ _ = _
  rw [List.getElem?_eq_none h, List.append_nil]
theorem op_stop {P : List Txt} {i : Nat} (h : (op P i).length ≤ i) : ∀ k, op P (i + k) = op P i
  | 0 => rfl
  | k + 1 => by
    have := op_stop h k
    rw [← Nat.add_assoc, op_same (by rw [this]; omega), this]
theorem op_mono (P : List Txt) (i : Nat) : ∀ k, ∃ m, op P (i + k) = op P i ++ m
  | 0 => ⟨[], by simp⟩
  | k + 1 => by
    obtain ⟨m, hm⟩ := op_mono P i k
    refine ⟨m ++ (match (op P (i + k))[i + k]? with | some s => kidsT P s | none => []), ?_⟩
    rw [← List.append_assoc, ← hm]
    rfl
theorem op_get {P : List Txt} {i j k : Nat} {s : Txt} (hij : i ≤ j) (h : (op P i)[k]? = some s) : (op P j)[k]? = some s := by
  obtain ⟨m, hm⟩ := op_mono P i (j - i)
  rw [show i + (j - i) = j by omega] at hm
  rw [hm, List.getElem?_append_left (List.getElem?_eq_some_iff.1 h).1, h]
theorem op_back {P : List Txt} {i j k : Nat} {s : Txt} (hij : i ≤ j) (h : (op P j)[k]? = some s) (hk : k < (op P i).length) : (op P i)[k]? = some s := by
  obtain ⟨m, hm⟩ := op_mono P i (j - i)
  rw [show i + (j - i) = j by omega] at hm
  rw [hm, List.getElem?_append_left hk] at h
  exact h
theorem op_long {P : List Txt} {i j : Nat} (hij : j ≤ i) (h : j < (op P i).length) : j < (op P j).length := by
  by_cases hc : j < (op P j).length
  · exact hc
  · have := op_stop (P := P) (i := j) (by omega) (i - j)
    rw [show j + (i - j) = i by omega] at this
    rw [this] at h
    exact h
theorem op_mem {P : List Txt} {x : Txt} : ∀ {i : Nat}, x ∈ op P i → x = [] ∨ ∃ j s c, j < i ∧ (op P j)[j]? = some s ∧ x = s ++ [c] ∧ x ∈ P
  | 0, h => .inl (by simpa [op] using h)
  | i + 1, h => by
    rcases hg : (op P i)[i]? with _ | s
    · rw [op_same (List.getElem?_eq_none_iff.1 hg)] at h
      rcases op_mem h with e | ⟨j, s, c, a, b⟩
      · exact .inl e
      · exact .inr ⟨j, s, c, by omega, b⟩
    · rw [op_next hg, List.mem_append] at h
      rcases h with h | h
      · rcases op_mem h with e | ⟨j, s, c, a, b⟩
        · exact .inl e
        · exact .inr ⟨j, s, c, by omega, b⟩
      · obtain ⟨c, e, hm⟩ := mem_kidsT.1 h
        exact .inr ⟨i, s, c, by omega, hg, e, e ▸ hm⟩
theorem nodup_get {α : Type} {l : List α} (h : l.Nodup) {i j : Nat} {x : α} (hi : l[i]? = some x) (hj : l[j]? = some x) : i = j := by
  exact (List.getElem?_inj (List.getElem?_eq_some_iff.1 hi).1 h).1 (hi.trans hj.symm)
theorem op_nodup (P : List Txt) : ∀ i, (op P i).Nodup
  | 0 => by simp [op]
  | i + 1 => by
    have ih := op_nodup P i
    rcases hg : (op P i)[i]? with _ | s
    · rw [op_same (List.getElem?_eq_none_iff.1 hg)]; exact ih
    · rw [op_next hg]
      refine List.nodup_append.2 ⟨ih, kidsT_nodup P s, fun x hx y hy e => ?_⟩
      subst e
      obtain ⟨c, e, hm⟩ := mem_kidsT.1 hy
      rcases op_mem hx with e' | ⟨j, s', c', hj, hg', e', _⟩
      · rw [e'] at e; simp at e
      · rw [e'] at e
        have hs : s' = s := (List.append_inj' e rfl).1
        subst hs
        have := nodup_get ih (op_get (Nat.le_of_lt hj) hg') hg
        omega
theorem op_sub {P : List Txt} (hT : Tree P) {i : Nat} {x : Txt} (h : x ∈ op P i) : x ∈ P := by
  rcases op_mem h with e | ⟨_, _, _, _, _, _, hm⟩
  · rw [e]; exact hT.nil_mem
  · exact hm
theorem op_len {P : List Txt} (hT : Tree P) (i : Nat) : (op P i).length ≤ P.length := nodup_len (op_nodup P i) fun _ h => op_sub hT h
theorem op_root (P : List Txt) : ∀ i, (op P i)[0]? = some []
  | i => op_get (Nat.zero_le i) (by simp [op])
/-- All that is shorter stands ahead of one that is at its turn. -/
theorem op_before {P : List Txt} (hT : Tree P) : ∀ (i : Nat) {p : Txt}, (op P i)[i]? = some p → ∀ x, x ∈ P → x.length < p.length → ∃ j, j < i ∧ (op P i)[j]? = some x := by
  intro i
  induction i using Nat.strongRecOn with
  | _ i ih =>
    intro p hp x hx hlt
    have hi : i ≠ 0 := fun e => by
      subst e
      rw [op_root] at hp
      injection hp with hp
      subst hp
      simp at hlt
    by_cases hx0 : x = []
    · subst hx0
      exact ⟨0, by omega, op_root P i⟩
    · rcases op_mem (List.mem_of_getElem? hp) with e | ⟨j, s, c, hj, hg, e, hm⟩
      · rw [e] at hlt; simp at hlt
      · have hxl : 0 < x.length := List.length_pos_iff.2 hx0
        have hup := hT.up x hx hx0
        obtain ⟨j', hj', hg'⟩ := ih j hj hg x.dropLast hup (by rw [e] at hlt; simp at hlt ⊢; omega)
        have hg'' : (op P j')[j']? = some x.dropLast := op_back (Nat.le_of_lt hj') hg' (op_long (Nat.le_of_lt hj') (List.getElem?_eq_some_iff.1 hg').1)
        have hxk : x ∈ op P (j' + 1) := by
          rw [op_next hg'']
          refine List.mem_append_right _ (mem_kidsT.2 ?_)
          have hs := List.dropLast_concat_getLast hx0
          exact ⟨x.getLast hx0, hs.symm, by rw [hs]; exact hx⟩
        have hxj : x ∈ op P j := by
          obtain ⟨m, hm⟩ := op_mono P (j' + 1) (j - (j' + 1))
          rw [show j' + 1 + (j - (j' + 1)) = j by omega] at hm
          rw [hm]
          exact List.mem_append_left _ hxk
        obtain ⟨k, hk⟩ := List.mem_iff_getElem?.1 hxj
        have hkl := (List.getElem?_eq_some_iff.1 hk).1
        refine ⟨k, ?_, op_get (Nat.le_of_lt hj) hk⟩
        have hge : ¬ i < (op P j).length := fun hlt2 => by
          have hpj := op_back (Nat.le_of_lt hj) hp hlt2
          rcases op_mem (List.mem_of_getElem? hpj) with e2 | ⟨j2, s2, c2, hj2, hg2, e2, _⟩
          · rw [e2] at e; simp at e
          · rw [e2] at e
            have hs : s2 = s := (List.append_inj' e rfl).1
            subst hs
            have := nodup_get (op_nodup P j) (op_get (Nat.le_of_lt hj2) hg2) hg
            omega
        omega
theorem op_all {P : List Txt} (hT : Tree P) : ∀ (n : Nat) (x : Txt), x.length = n → x ∈ P → x ∈ op P P.length := by
  intro n
  induction n with
  | zero => intro x hx _; rw [List.eq_nil_of_length_eq_zero hx]; exact List.mem_of_getElem? (op_root P _)
  | succ n ih =>
    intro x hx hm
    have hx0 : x ≠ [] := fun e => by rw [e] at hx; simp at hx
    have hup := ih x.dropLast (by simp; omega) (hT.up x hm hx0)
    obtain ⟨j, hj⟩ := List.mem_iff_getElem?.1 hup
    have hjl := (List.getElem?_eq_some_iff.1 hj).1
    have hle := op_len hT P.length
    have hjj : (op P j)[j]? = some x.dropLast := op_back (i := j) (j := P.length) (by omega) hj (op_long (i := P.length) (by omega) hjl)
    obtain ⟨m, hm2⟩ := op_mono P (j + 1) (P.length - (j + 1))
    rw [show j + 1 + (P.length - (j + 1)) = P.length by omega] at hm2
    rw [hm2]
    refine List.mem_append_left _ ?_
    rw [op_next hjj]
    refine List.mem_append_right _ (mem_kidsT.2 ?_)
    have hs := List.dropLast_concat_getLast hx0
    exact ⟨x.getLast hx0, hs.symm, by rw [hs]; exact hm⟩
theorem op_full {P : List Txt} (hT : Tree P) {i : Nat} (h : (op P i).length ≤ i) : op P i = op P P.length := by
  by_cases hi : i ≤ P.length
  · have := op_stop h (P.length - i)
    rw [show i + (P.length - i) = P.length by omega] at this
    exact this.symm
  · have := op_stop (P := P) (i := P.length) (op_len hT _) (i - P.length)
    rw [show P.length + (i - P.length) = i by omega] at this
    exact this
end Seine.Links
end
section
set_option linter.unusedVariables false
set_option linter.unusedSimpArgs false
namespace Go.Proofs.YtdiljmhikajjiaaGreat
open Go.RowKit Go.Maps Seine.Trie Seine.Links
def intCells (P : List Txt) (F : Txt → Int) : List Value := P.map fun p => .int .i64 (F p)
theorem intCells_at {P : List Txt} {F : Txt → Int} {i : Nat} {p : Txt} (h : P[i]? = some p) : (intCells P F)[i]? = some (.int .i64 (F p)) := by simp [intCells, h]
theorem intCells_set : ∀ {P : List Txt} {F F' : Txt → Int} {i : Nat} {p : Txt}, P.Nodup → P[i]? = some p → (∀ x, x ≠ p → F' x = F x) → intCells P F' = (intCells P F).set i (.int .i64 (F' p))
  | [], F, F', i, p, _, h, _ => by simp at h
  | y :: P, F, F', 0, p, hn, h, ho => by
    simp at h; subst h
    unfold intCells
    rw [List.map_cons, List.map_cons, List.set_cons_zero]
    congr 1
    exact List.map_congr_left fun x hx => by rw [ho x (fun e => (List.nodup_cons.1 hn).1 (e ▸ hx))]
  | y :: P, F, F', i + 1, p, hn, h, ho => by
    have hm : p ∈ P := List.mem_of_getElem? (by simpa using h)
    have ih := intCells_set (List.nodup_cons.1 hn).2 (by simpa using h : P[i]? = some p) ho
    unfold intCells at ih ⊢
    rw [List.map_cons, List.map_cons, List.set_cons_succ, ← ih, ho y (fun e => (List.nodup_cons.1 hn).1 (e ▸ hm))]
theorem intCells_congr {P : List Txt} {F F' : Txt → Int} (h : ∀ x, x ∈ P → F x = F' x) : intCells P F = intCells P F' := List.map_congr_left fun x hx => by rw [h x hx]
/-- A row of as many numbers as there are nodes, at block b, in memory from base on. -/
def IntRow (w : World) (base b c : Nat) (P : List Txt) (F : Txt → Int) : Prop := w.ownsRow base 3 1 (.slice (some ⟨b, 0, none⟩) P.length c) P.length (intCells P F)
/-- Where the falls' rows lie. -/
structure LB where
  bf : Nat
  cf : Nat
  bo : Nat
  co : Nat
  bu : Nat
  cu : Nat
  vr : Value
/-- The falls F, outs O, own lengths U, of a tree's nodes, and the order o (of paths), at block g. -/
def LinksIn (w : World) (base g : Nat) (P : List Txt) (F O U : Txt → Int) (o : List Txt) (B : LB) : Prop :=
  w.heap[g]? = some (.cells #[.slice (some ⟨B.bf, 0, none⟩) P.length B.cf, .slice (some ⟨B.bo, 0, none⟩) P.length B.co, .slice (some ⟨B.bu, 0, none⟩) P.length B.cu, B.vr] 137 (0, 0)) ∧ base ≤ g ∧
    IntRow w base B.bf B.cf P F ∧ IntRow w base B.bo B.co P O ∧ IntRow w base B.bu B.cu P U ∧ B.bf ≠ B.bo ∧ B.bf ≠ B.bu ∧ B.bo ≠ B.bu ∧ w.ownsRow base 3 1 B.vr o.length (intCells o (place P)) ∧ B.vr.ownBlock ≠ some B.bf ∧ B.vr.ownBlock ≠ some B.bo ∧ B.vr.ownBlock ≠ some B.bu
def LinksAt (w : World) (base g : Nat) (P : List Txt) (F O U : Txt → Int) (o : List Txt) : Prop := ∃ B, LinksIn w base g P F O U o B
theorem IntRow.at_ {w : World} {base b c : Nat} {P : List Txt} {F : Txt → Int} (h : IntRow w base b c P F) {i : Nat} {p : Txt} (hi : P[i]? = some p) : w.cell? ⟨b, i, none⟩ = some (.int .i64 (F p)) := by
  have hil := (List.getElem?_eq_some_iff.1 hi).1
  rw [World.ownsRow.cellAt h i (by omega)]
  exact intCells_at hi
theorem IntRow.cap {w : World} {base b c : Nat} {P : List Txt} {F : Txt → Int} (h : IntRow w base b c P F) : P.length ≤ c := by
  obtain ⟨A, c', e, hc⟩ := own_slice h
  injection e with e1 e2 e3
  omega
theorem IntRow.base {w : World} {base b c : Nat} {P : List Txt} {F : Txt → Int} (h : IntRow w base b c P F) : base ≤ b ∧ b < w.heap.size := own_blk h rfl
theorem IntRow.keep {S : Nat → Prop} {w w' : World} {base b c : Nat} {P : List Txt} {F : Txt → Int} (h : IntRow w base b c P F) (hk : Keeps S w w') (hS : ¬ S b) : IntRow w' base b c P F :=
  own_keep h hk (fun b' _ _ _ e => by injection e with e; subst e; exact hS)
theorem IntRow.set {w : World} {base b c : Nat} {P : List Txt} {F F' : Txt → Int} (h : IntRow w base b c P F) (hT : Tree P) {i : Nat} {p : Txt} (hi : P[i]? = some p) {x : Int} (hx : F' p = x) (ho : ∀ y, y ≠ p → F' y = F y) : IntRow (w.setCell ⟨b, i, none⟩ (.int .i64 x)) base b c P F' := by
  have s1 := World.ownsRow.stored h i (.int .i64 x)
  unfold IntRow
  rw [intCells_set hT.nodup hi ho, hx]
  exact s1.1
theorem IntRow.nfree {w : World} {base b c : Nat} {P : List Txt} {F : Txt → Int} (h : IntRow w base b c P F) (i : Nat) : w.frozen? ⟨b, i, none⟩ = false := World.ownsRow.frozenAt h _
/-- A block of another type is none of the row. -/
theorem IntRow.other {w : World} {base b c g t : Nat} {P : List Txt} {F : Txt → Int} {cs : Array Value} {fr : Nat × Nat} (h : IntRow w base b c P F) (hg : w.heap[g]? = some (.cells cs t fr)) (ht : 3 ≠ t) : g ≠ b := fun e => own_not_type h hg ht (by rw [e]; rfl)
theorem LinksIn.below {w w' : World} {base g : Nat} {P : List Txt} {F O U : Txt → Int} {o : List Txt} {B : LB} (h : LinksIn w base g P F O U o B) (hb : Below w.heap.size w w') : LinksIn w' base g P F O U o B := by
  obtain ⟨hg, h0, h1, h2, h3, h4, h5, h6, h7, h8⟩ := h
  exact ⟨(hb.block g (block_lt hg)).trans hg, h0, own_below h1 hb, own_below h2 hb, own_below h3 hb, h4, h5, h6, own_below h7 hb, h8⟩
theorem LinksAt.below {w w' : World} {base g : Nat} {P : List Txt} {F O U : Txt → Int} {o : List Txt} (h : LinksAt w base g P F O U o) (hb : Below w.heap.size w w') : LinksAt w' base g P F O U o := by
  obtain ⟨B, h⟩ := h
  exact ⟨B, h.below hb⟩
section
variable {w : World} {base g : Nat} {P : List Txt} {F O U : Txt → Int} {o : List Txt} {B : LB} (h : LinksIn w base g P F O U o B)
include h
theorem LinksIn.caps : P.length ≤ B.cf ∧ P.length ≤ B.co ∧ P.length ≤ B.cu := by
  obtain ⟨hg, h0, h1, h2, h3, _⟩ := h
  exact ⟨h1.cap, h2.cap, h3.cap⟩
theorem LinksIn.heads : w.cell? ⟨g, 0, none⟩ = some (.slice (some ⟨B.bf, 0, none⟩) P.length B.cf) ∧ w.cell? ⟨g, 1, none⟩ = some (.slice (some ⟨B.bo, 0, none⟩) P.length B.co) ∧ w.cell? ⟨g, 2, none⟩ = some (.slice (some ⟨B.bu, 0, none⟩) P.length B.cu) ∧ w.cell? ⟨g, 3, none⟩ = some B.vr ∧ w.frozen? ⟨g, 3, none⟩ = false := by
  obtain ⟨hg, _⟩ := h
  exact ⟨cell_of_blk hg 0, cell_of_blk hg 1, cell_of_blk hg 2, cell_of_blk hg 3, free_of_blk hg 3⟩
theorem LinksIn.rows {i : Nat} {p : Txt} (hi : P[i]? = some p) : w.cell? ⟨B.bf, i, none⟩ = some (.int .i64 (F p)) ∧ w.cell? ⟨B.bo, i, none⟩ = some (.int .i64 (O p)) ∧ w.cell? ⟨B.bu, i, none⟩ = some (.int .i64 (U p)) ∧ w.frozen? ⟨B.bf, i, none⟩ = false ∧ w.frozen? ⟨B.bo, i, none⟩ = false ∧ w.frozen? ⟨B.bu, i, none⟩ = false := by
  obtain ⟨hg, h0, h1, h2, h3, _⟩ := h
  exact ⟨h1.at_ hi, h2.at_ hi, h3.at_ hi, h1.nfree i, h2.nfree i, h3.nfree i⟩
theorem LinksIn.bases : base ≤ B.bf ∧ base ≤ B.bo ∧ base ≤ B.bu := by
  obtain ⟨hg, h0, h1, h2, h3, _⟩ := h
  exact ⟨h1.base.1, h2.base.1, h3.base.1⟩
theorem LinksIn.other {b t : Nat} {cs : Array Value} {fr : Nat × Nat} (hb : w.heap[b]? = some (.cells cs t fr)) (ht : 3 ≠ t) : b ≠ B.bf ∧ b ≠ B.bo ∧ b ≠ B.bu := by
  obtain ⟨hg, h0, h1, h2, h3, _⟩ := h
  exact ⟨h1.other hb ht, h2.other hb ht, h3.other hb ht⟩
theorem LinksIn.setF (hT : Tree P) {i : Nat} {p : Txt} (hi : P[i]? = some p) {x : Int} (F' : Txt → Int) (hx : F' p = x) (ho : ∀ y, y ≠ p → F' y = F y) : LinksIn (w.setCell ⟨B.bf, i, none⟩ (.int .i64 x)) base g P F' O U o B := by
  obtain ⟨hg, h0, h1, h2, h3, h4, h5, h6, h7, h8, h9, h10⟩ := h
  have hk := keeps_set w ⟨B.bf, i, none⟩ (.int .i64 x)
  exact ⟨(Below.heap_setCell _ _ _ _ (h1.other hg (by decide))).trans hg, h0, h1.set hT hi hx ho, h2.keep hk (fun e => h4 e.symm), h3.keep hk (fun e => h5 e.symm), h4, h5, h6, own_keep h7 hk (fun b c' _ _ e he => h8 (by rw [← e]; exact congrArg some he)), h8, h9, h10⟩
theorem LinksIn.setO (hT : Tree P) {i : Nat} {p : Txt} (hi : P[i]? = some p) {x : Int} (O' : Txt → Int) (hx : O' p = x) (ho : ∀ y, y ≠ p → O' y = O y) : LinksIn (w.setCell ⟨B.bo, i, none⟩ (.int .i64 x)) base g P F O' U o B := by
  obtain ⟨hg, h0, h1, h2, h3, h4, h5, h6, h7, h8, h9, h10⟩ := h
  have hk := keeps_set w ⟨B.bo, i, none⟩ (.int .i64 x)
  exact ⟨(Below.heap_setCell _ _ _ _ (h2.other hg (by decide))).trans hg, h0, h1.keep hk (fun e => h4 e), h2.set hT hi hx ho, h3.keep hk (fun e => h6 e.symm), h4, h5, h6, own_keep h7 hk (fun b c' _ _ e he => h9 (by rw [← e]; exact congrArg some he)), h8, h9, h10⟩
theorem LinksIn.setU (hT : Tree P) {i : Nat} {p : Txt} (hi : P[i]? = some p) {x : Int} (U' : Txt → Int) (hx : U' p = x) (ho : ∀ y, y ≠ p → U' y = U y) : LinksIn (w.setCell ⟨B.bu, i, none⟩ (.int .i64 x)) base g P F O U' o B := by
  obtain ⟨hg, h0, h1, h2, h3, h4, h5, h6, h7, h8, h9, h10⟩ := h
  have hk := keeps_set w ⟨B.bu, i, none⟩ (.int .i64 x)
  exact ⟨(Below.heap_setCell _ _ _ _ (h3.other hg (by decide))).trans hg, h0, h1.keep hk (fun e => h5 e), h2.keep hk (fun e => h6 e), h3.set hT hi hx ho, h4, h5, h6, own_keep h7 hk (fun b c' _ _ e he => h10 (by rw [← e]; exact congrArg some he)), h8, h9, h10⟩
theorem LinksIn.congr {F' O' U' : Txt → Int} (hF : ∀ x, x ∈ P → F x = F' x) (hO : ∀ x, x ∈ P → O x = O' x) (hU : ∀ x, x ∈ P → U x = U' x) : LinksIn w base g P F' O' U' o B := by
  obtain ⟨hg, h0, h1, h2, h3, h4⟩ := h
  refine ⟨hg, h0, ?_, ?_, ?_, h4⟩
  · unfold IntRow; rw [← intCells_congr hF]; exact h1
  · unfold IntRow; rw [← intCells_congr hO]; exact h2
  · unfold IntRow; rw [← intCells_congr hU]; exact h3
end
theorem stepF_at {P : List Txt} {a : Nat} {p : Txt} (h : P[a]? = some p) (c : UInt8) : stepF P (a : Int) c = place P (p ++ [c]) := by
  have hl := (List.getElem?_eq_some_iff.1 h).1
  unfold stepF
  rw [if_pos (by omega), Int.toNat_natCast, List.getD_eq_getElem?_getD, h]; rfl
def backM (P : List Txt) (v : Value) : Nat := if 0 ≤ intOf v then (P.getD (intOf v).toNat []).length + 1 else 0
theorem backM_nat (P : List Txt) (m : Nat) : backM P (.int .i64 (m : Int)) = (P.getD m []).length + 1 := by
  unfold backM intOf
  simp
set_option maxHeartbeats 1600000 in
theorem back_calls (w : World) (base g base2 tg : Nat) (P : List Txt) (W F O U : Txt → Int) (o : List Txt) (ht : TrieAt w base2 tg P W) (B : LB) (hk : LinksIn w base g P F O U o B) (hl : P.length ≤ 1000000) (b1 b2 b3 : Nat) (c : UInt8)
    (h1 : w.cell? ⟨b1, 0, none⟩ = some (.pointer (some ⟨g, 0, none⟩))) (h2 : w.cell? ⟨b2, 0, none⟩ = some (.pointer (some ⟨tg, 0, none⟩))) (h3 : w.cell? ⟨b3, 0, none⟩ = some (.int .u8 (c.toNat : Int)))
    (a : Nat) (q : Txt) (hq : P[a]? = some q) (hF : ∀ x, x ∈ P → x.length ≤ q.length → F x = failF P x) :
    Calls Tryz.prog 87 #[.int .i64 (a : Int), .pointer (some ⟨b1, 0, none⟩), .pointer (some ⟨b2, 0, none⟩), .pointer (some ⟨b3, 0, none⟩)] w fun e w' => e = .returned (.int .i64 (failF P (q ++ [c]))) ∧ w = w' := by
  have hT := As.mk ht.tree
  have hcs := As.mk (fun n x c h => step_calls w base2 tg P W ht hl n x c h)
  obtain ⟨c0, c1, c2, _⟩ := hk.heads
  obtain ⟨l1, l2, l3⟩ := hk.caps
  have hcell : As (∀ i p, P[i]? = some p → w.cell? ⟨B.bf, i, none⟩ = some (.int .i64 (F p))) := ⟨fun i p h => (hk.rows h).1⟩
  have hal := (List.getElem?_eq_some_iff.1 hq).1
  have d0 := hcell.out a q hq
  have hF := As.mk hF
  have hst := As.mk (back_start hT.out q c)
  have hstep := As.mk (fun n => back_step hT.out (q := q) (c := c) (n := n))
  have hend := As.mk (fun n => back_end hT.out (q := q) (c := c) (n := n))
  rw [← hF.out q (List.mem_of_getElem? hq) (Nat.le_refl _)] at hst
  obtain ⟨R, hR⟩ : ∃ R, failF P (q ++ [c]) = R := ⟨_, rfl⟩
  rw [hR] at hstep hend
  rw [hR]
  replace hst := As.mk hst.out
  clear hR hq c1 c2 l2 l3
  generalize F q = f0 at *
  go_enter Tryz.func87, Tryz.ntmps87
  go_wp2
  go_loop [0] (fun v => ∃ n : Int, v = .int .i64 n ∧ As (Back P q c n)) (fun v => backM P v)
  case atStart => exact ⟨f0, rfl, hst⟩
  case round =>
    obtain ⟨n, rfl, hb⟩ := hrel
    by_cases hn : 0 ≤ n
    · obtain ⟨r, hr1, hr2, hr3, hr4⟩ := hstep.out n hb.out hn
      obtain ⟨m, hm1, hm2⟩ := place_nat hr1
      have hnm : n = (m : Int) := hr2.trans hm1
      have hml := (List.getElem?_eq_some_iff.1 hm2).1
      have e0 := hcell.out m r hm2
      have hFr := hF.out r hr1 (by omega)
      have hsa := stepF_at hm2 c
      have hc2 := As.mk (hcs.out n (c.toNat : Int) c rfl)
      rw [hnm, hsa] at hc2
      have hgd : P.getD m [] = r := by rw [List.getD_eq_getElem?_getD, hm2]; rfl
      subst hnm
      rw [hFr] at e0
      have hfs : As (0 ≤ failF P r → (P.getD (failF P r).toNat []).length < r.length) := ⟨fun h => by
        obtain ⟨r', k1, k2, k3⟩ := fail_short h
        obtain ⟨m', j1, j2⟩ := place_nat k1
        rw [k2, j1, Int.toNat_natCast, List.getD_eq_getElem?_getD, j2]
        exact k3⟩
      have hgd := As.mk hgd
      replace hr4 := As.mk hr4
      clear hr2 hm1 hm2 hFr hsa hr1
      generalize hfr : failF P r = fr at *
      generalize hst2 : place P (r ++ [c]) = tv at *
      have hfr := As.mk hfr
      have hst2 := As.mk hst2
      by_cases hto : 0 ≤ tv
      · have hfin : As (tv = R) := ⟨by
          rcases hr4.out with ⟨_, h⟩ | ⟨h, _⟩
          · exact h.symm
          · omega⟩
        go_wp2_with (go_at_call 64; refine hc2.out.mono ?_; rintro e w' ⟨rfl, rfl⟩)
        go_ret
        exact ⟨ret_int hfin.out, rfl⟩
      · have hnext : As (Back P q c fr) := ⟨by
          rcases hr4.out with ⟨h, _⟩ | ⟨_, h⟩
          · exact absurd h hto
          · exact h⟩
        go_wp2_with (go_at_call 64; refine hc2.out.mono ?_; rintro e w' ⟨rfl, rfl⟩)
        go_round
        case rel => exact ⟨fr, rfl, hnext⟩
        case measure =>
          have h1 := hgd.out
          have h2 := hfs.out
          rw [backM_nat, h1]
          unfold backM
          split
          · rename_i h0
            have := h2 h0
            simp only [intOf] at *
            omega
          · omega
    · have hfin : As (0 = R) := ⟨(hend.out n hb.out (by omega)).symm⟩
      go_wp2
      go_ret
      exact ⟨ret_int hfin.out, rfl⟩
end Go.Proofs.YtdiljmhikajjiaaGreat
end
section
set_option linter.unusedVariables false
set_option linter.unusedSimpArgs false
namespace Go.Proofs.YtdiljmhikajjiaaGreat
open Go.RowKit Go.Maps Seine.Trie Seine.Links
theorem blk_drew {w : World} {b : Nat} {o : Obj} (h : w.heap[b]? = some o) : w.drew.heap[b]? = some o := h
set_option maxRecDepth 100000 in
set_option maxHeartbeats 1600000 in
theorem link_calls (w0 w : World) (base g base2 tg : Nat) (P l : List Txt) (F O U F' O' U' : Txt → Int) (o : List Txt) (hw0 : w0.heap.size = base) (ht : TrieAt w0 base2 tg P (place l)) (hb : Below base w0 w) (B : LB) (hk : LinksIn w base g P F O U o B)
    (hl : P.length ≤ 1000000) (hd : ∀ p ∈ P, p.length ≤ 100000) (hlP : ∀ x, x ∈ l → x ∈ P) (a : Nat) (p : Txt) (hp : P[a]? = some p) (hne : p ≠ [])
    (hF : ∀ x, x ∈ P → x.length < p.length → F x = failF P x ∧ O x = outF P l x ∧ U x = ownF l x) (hU0 : U p = 0)
    (hF' : F' p = failF P p ∧ ∀ y, y ≠ p → F' y = F y) (hO' : O' p = outF P l p ∧ ∀ y, y ≠ p → O' y = O y) (hU' : U' p = ownF l p ∧ ∀ y, y ≠ p → U' y = U y) :
    Calls Tryz.prog 65 #[.pointer (some ⟨g, 0, none⟩), .pointer (some ⟨tg, 0, none⟩), .int .i64 (a : Int)] w fun e w' => e = .returned (.tuple #[]) ∧ LinksIn w' base g P F' O' U' o B ∧ Below base w w' := by
  have hT := As.mk ht.tree
  have hal := (List.getElem?_eq_some_iff.1 hp).1
  have htw : ∀ {v}, Below base w0 v → TrieAt v base2 tg P (place l) := fun h => ht.below (by rw [hw0]; exact h)
  have htw := As.mk @htw
  have hbs : base ≤ w.heap.size := by have := hb.size; omega
  obtain ⟨q, c, hqc⟩ : ∃ q c, p = q ++ [c] := ⟨_, _, (last_split hne).symm⟩
  have hpa : pathF P (a : Int) = p := by
    unfold pathF
    rw [if_pos (by omega), Int.toNat_natCast, List.getD_eq_getElem?_getD, hp]; rfl
  have hup : q ∈ P := by
    have := hT.out.up p (List.mem_of_getElem? hp) hne
    rwa [hqc, List.dropLast_concat] at this
  obtain ⟨b, hb1, hb2⟩ := place_nat hup
  have hpar : askF P (parent P) (-1) (a : Int) = (b : Int) := by
    unfold askF parent
    rw [if_pos (by omega), Int.toNat_natCast, List.getD_eq_getElem?_getD, hp]
    simp only [Option.getD_some]
    rw [if_neg hne, hqc, List.dropLast_concat, hb1]
  have hw : askF P (place l) (-1) (a : Int) = place l p := by
    unfold askF
    rw [if_pos (by omega), Int.toNat_natCast, List.getD_eq_getElem?_getD, hp]; rfl
  have hpl : p.length = q.length + 1 := by rw [hqc]; simp
  have hpd := hd p (List.mem_of_getElem? hp)
  have hpaths := As.mk (fun v hv => path_calls v base2 tg P (place l) (htw.out hv) (a : Int) hd)
  have hpars := As.mk (fun v hv => parent_calls v base2 tg P (place l) (htw.out hv) (a : Int))
  have hwords := As.mk (fun v hv => word_calls v base2 tg P (place l) (htw.out hv) (a : Int))
  rw [hpa] at hpaths
  rw [hpar] at hpars
  rw [hw] at hwords
  have hb := As.mk hb
  have hk := As.mk hk
  have hmf : ∀ (fn : Fn) (first cap : Array Value) (w : World), (Instr.makeFunc fn first cap).run Tryz.prog w = .ok (.func fn first cap) w := fun _ _ _ _ => rfl
  clear hpa hpar hw ht
  go_enter Tryz.func65, Tryz.ntmps65
  go_wp2_with fail
  have x1 := blk_old (o' := .cells #[.pointer (some ⟨tg, 0, none⟩)] 90) (heap_alloc_new w (.cells #[.pointer (some ⟨g, 0, none⟩)] 92))
  have x2 := blk_new1 w (.cells #[.pointer (some ⟨g, 0, none⟩)] 92) (.cells #[.pointer (some ⟨tg, 0, none⟩)] 90)
  have hbel2 : Below w.heap.size w ((w.alloc (.cells #[.pointer (some ⟨g, 0, none⟩)] 92)).alloc (.cells #[.pointer (some ⟨tg, 0, none⟩)] 90)) := (((Below.refl _ _).alloc (Nat.le_refl _) _).alloc (by simp) _)
  replace x1 := As.mk x1
  replace x2 := As.mk x2
  replace hbel2 := As.mk hbel2
  generalize (w.alloc (.cells #[.pointer (some ⟨g, 0, none⟩)] 92)).alloc (.cells #[.pointer (some ⟨tg, 0, none⟩)] 90) = w2 at *
  have hb02 := As.mk (hb.out.trans (hbel2.out.mono hbs))
  refine (hpaths.out w2 hb02.out).mono ?_
  intro e w3 hr
  obtain ⟨A, cp, rfl, hby, hbel3⟩ := hr.row
  rw [hpl]
  obtain ⟨ad, rfl, y0⟩ := Byt.at_ hby (i := q.length) (by omega)
  have hlast : p.getD q.length 0 = c := by rw [hqc]; simp [List.getD_eq_getElem?_getD]
  rw [hlast] at y0
  clear hlast hby hr hpaths
  have hbel3' := As.mk (hbel2.out.trans (hbel3.mono hbel2.out.size))
  replace x1 := As.mk ((hbel3.block _ (block_lt x1.out)).trans x1.out)
  replace x2 := As.mk ((hbel3.block _ (block_lt x2.out)).trans x2.out)
  have hw2 := block_lt x2.out
  clear hbel3 hbel2 hb02
  generalize hqn : q.length = n at *
  have z1 := blk_old (o' := .cells #[.int .u8 (c.toNat : Int)] 5) x1.out
  have z2 := blk_old (o' := .cells #[.int .u8 (c.toNat : Int)] 5) x2.out
  have z3 := heap_alloc_new w3 (.cells #[.int .u8 (c.toNat : Int)] 5)
  have hbel4 : Below w.heap.size w (w3.alloc (.cells #[.int .u8 (c.toNat : Int)] 5)) := hbel3'.out.alloc hbel3'.out.size _
  have v1 := cell_of_blk z1 0
  have v2 := cell_of_blk z2 0
  have v3 := cell_of_blk z3 0
  go_wp2_with fail
  replace z1 := As.mk z1
  replace z2 := As.mk z2
  replace z3 := As.mk z3
  replace hbel4 := As.mk hbel4
  clear x1 x2 hbel3' y0
  generalize w3.alloc (.cells #[.int .u8 (c.toNat : Int)] 5) = w4 at *
  generalize w3.heap.size = b3 at *
  have hb04 := As.mk (hb.out.trans (hbel4.out.mono hbs))
  have hb3 := block_lt z3.out
  have hk4 := As.mk (hk.out.below hbel4.out)
  refine (hpars.out w4 hb04.out).mono ?_
  rintro e w4' ⟨rfl, rfl⟩
  go_wp2_with fail
  have hcc := back_calls w4 base g base2 tg P (place l) F O U o (htw.out hb04.out) B hk4.out hl w.heap.size (w.heap.size + 1) b3 c v1 v2 v3 b q hb2 (fun x hx hle => (hF x hx (by omega)).1)
  rw [← hqc] at hcc
  refine hcc.mono ?_
  rintro e w4' ⟨rfl, rfl⟩
  obtain ⟨nn, hnn⟩ := fail_some hT.out hne
  obtain ⟨j1, j2, j3, _⟩ := failN_some hnn
  have hor := out_rec hlP hnn
  have hfp : failF P p = place P (p.drop nn) := by unfold failF; rw [hnn]
  have hrl : (p.drop nn).length < p.length := by rw [List.length_drop]; omega
  generalize p.drop nn = r at *
  obtain ⟨fi, hf1, hf2⟩ := place_nat j3
  obtain ⟨_, g2, g3⟩ := hF r j3 hrl
  have hrp : r ≠ p := fun e => by rw [e] at hrl; omega
  rw [hfp, hf1] at hF'
  rw [hfp, hf1]
  rw [hf1] at hor
  have k5 := hk4.out.setF hT.out hp F' hF'.1 hF'.2
  have k6 := k5.setO hT.out hp (x := (fi : Int)) (fun y => if y = p then (fi : Int) else O y) (if_pos rfl) (fun y h => if_neg h)
  have n1 := hk4.out.other z1.out (by decide)
  have n2 := hk4.out.other z2.out (by decide)
  have q1 := blk_far z1.out (p := ⟨B.bf, a, none⟩) n1.1 (.int .i64 (fi : Int))
  have q2 := blk_far z2.out (p := ⟨B.bf, a, none⟩) n2.1 (.int .i64 (fi : Int))
  have r1 := blk_far q1 (p := ⟨B.bo, a, none⟩) n1.2.1 (.int .i64 (fi : Int))
  have r2 := blk_far q2 (p := ⟨B.bo, a, none⟩) n2.2.1 (.int .i64 (fi : Int))
  have bb5 := (Below.refl base w4).setCell (p := ⟨B.bf, a, none⟩) hk4.out.bases.1 (.int .i64 (fi : Int))
  have bb6 := bb5.setCell (p := ⟨B.bo, a, none⟩) hk4.out.bases.2.1 (.int .i64 (fi : Int))
  obtain ⟨t0, t1, t2, t3, _⟩ := hk4.out.heads
  obtain ⟨u0, u1, u2, u3, _⟩ := k5.heads
  obtain ⟨s0, s1, s2, s3, _⟩ := k6.heads
  obtain ⟨_, _, _, f4, _, _⟩ := hk4.out.rows hp
  obtain ⟨_, _, _, _, f5, _⟩ := k5.rows hp
  obtain ⟨_, _, _, _, f6, _⟩ := k6.rows hp
  obtain ⟨_, m2, m3, _⟩ := k6.rows hf2
  rw [g3] at m3
  simp only [if_neg hrp] at m2
  rw [g2] at m2
  have e1 := cell_of_blk q1 0
  have e2 := cell_of_blk r1 0
  have l1 := hk4.out.caps
  have hfil := (List.getElem?_eq_some_iff.1 hf2).1
  clear hcc u0 u2 s0 n1 n2 q1 q2
  have k5 := As.mk k5
  have k6 := As.mk k6
  have bb6 := As.mk bb6
  have e3 := cell_of_blk r2 0
  by_cases ho : ownF l r = 0
  · rw [if_pos ho] at hor
    rw [ho] at m3
    have k7 := k6.out.setO hT.out hp (x := outF P l r) O' (hO'.1.trans hor) (fun y h => (hO'.2 y h).trans (if_neg h).symm)
    have y1 := blk_far r1 (p := ⟨B.bo, a, none⟩) (k6.out.other r1 (by decide)).2.1 (.int .i64 (outF P l r))
    have y2 := blk_far r2 (p := ⟨B.bo, a, none⟩) (k6.out.other r2 (by decide)).2.1 (.int .i64 (outF P l r))
    have bb7 := As.mk (bb6.out.setCell (p := ⟨B.bo, a, none⟩) k6.out.bases.2.1 (.int .i64 (outF P l r)))
    have e4 := cell_of_blk y2 0
    replace k7 := As.mk k7
    generalize outF P l r = ov at *
    go_wp2_with fail
    go_region
    all_goals
      go_wp2_with fail
      replace k7 := k7.out.below (Below.drew (Below.refl _ _))
      replace bb7 := As.mk (Below.drew bb7.out)
      have hb07 := hb04.out.trans bb7.out
      have y1' := blk_drew y1
      replace hb07 := As.mk hb07
      replace k7 := As.mk k7
      refine (hwords.out _ hb07.out).mono ?_
      rintro e w8 ⟨rfl, rfl⟩
      have p1 := cell_of_blk y1 0
      obtain ⟨_, _, i2, _⟩ := k7.out.heads
      obtain ⟨_, _, _, _, _, f8⟩ := k7.out.rows hp
      by_cases hin : p ∈ l
      · have hge := place_mem.2 hin
        have hown : ownF l p = ((n : Int) + 1) := by unfold ownF; rw [if_pos hin, hpl]; push_cast; rfl
        have k8 := k7.out.setU hT.out hp U' (x := (n : Int) + 1) (hU'.1.trans hown) hU'.2
        have bb8 := bb7.out.setCell (p := ⟨B.bu, a, none⟩) k7.out.bases.2.2 (.int .i64 ((n : Int) + 1))
        replace k8 := As.mk k8
        replace bb8 := As.mk bb8
        clear hown hin
        generalize place l p = wd at *
        go_wp2
        go_end0
        exact ⟨rfl, k8.out, (hbel4.out.mono hbs).trans bb8.out⟩
      · have hno := place_none hin
        have k8 := k7.out.congr (F' := F') (O' := O') (U' := U') (fun _ _ => rfl) (fun _ _ => rfl) (fun x _ => by
          by_cases hx : x = p
          · rw [hx, hU0, hU'.1]; unfold ownF; rw [if_neg hin]
          · exact (hU'.2 x hx).symm)
        replace k8 := As.mk k8
        rw [hno]
        clear hno hin
        go_wp2
        go_end0
        exact ⟨rfl, k8.out, (hbel4.out.mono hbs).trans bb7.out⟩
  · rw [if_neg ho] at hor
    have hO1 : ∀ x, x ∈ P → (if x = p then (fi : Int) else O x) = O' x := fun x _ => by
      by_cases hx : x = p
      · rw [if_pos hx, hx, hO'.1, hor]
      · rw [if_neg hx, hO'.2 x hx]
    have k7 := k6.out.congr (F' := F') (O' := O') (U' := U) (fun _ _ => rfl) hO1 (fun _ _ => rfl)
    have y1 := r1
    have bb7 := bb6
    clear hO1 hor
    replace k7 := As.mk k7
    go_wp2_with fail
    replace k7 := k7.out
    have hb07 := hb04.out.trans bb7.out
    replace hb07 := As.mk hb07
    replace k7 := As.mk k7
    refine (hwords.out _ hb07.out).mono ?_
    rintro e w8 ⟨rfl, rfl⟩
    have p1 := cell_of_blk y1 0
    obtain ⟨_, _, i2, _⟩ := k7.out.heads
    obtain ⟨_, _, _, _, _, f8⟩ := k7.out.rows hp
    by_cases hin : p ∈ l
    · have hge := place_mem.2 hin
      have hown : ownF l p = ((n : Int) + 1) := by unfold ownF; rw [if_pos hin, hpl]; push_cast; rfl
      have k8 := k7.out.setU hT.out hp U' (x := (n : Int) + 1) (hU'.1.trans hown) hU'.2
      have bb8 := bb7.out.setCell (p := ⟨B.bu, a, none⟩) k7.out.bases.2.2 (.int .i64 ((n : Int) + 1))
      replace k8 := As.mk k8
      replace bb8 := As.mk bb8
      clear hown hin
      generalize place l p = wd at *
      go_wp2
      go_end0
      exact ⟨rfl, k8.out, (hbel4.out.mono hbs).trans bb8.out⟩
    · have hno := place_none hin
      have k8 := k7.out.congr (F' := F') (O' := O') (U' := U') (fun _ _ => rfl) (fun _ _ => rfl) (fun x _ => by
        by_cases hx : x = p
        · rw [hx, hU0, hU'.1]; unfold ownF; rw [if_neg hin]
        · exact (hU'.2 x hx).symm)
      replace k8 := As.mk k8
      rw [hno]
      clear hno hin
      go_wp2
      go_end0
      exact ⟨rfl, k8.out, (hbel4.out.mono hbs).trans bb7.out⟩
end Go.Proofs.YtdiljmhikajjiaaGreat
end
section
set_option linter.unusedVariables false
set_option linter.unusedSimpArgs false
namespace Go.Proofs.YtdiljmhikajjiaaGreat
open Go.RowKit Go.Maps
section
variable (w : World) (n : Nat) (hn : n ≤ 1000000)
include hn
theorem mul64_calls : Calls Tryz.prog 101 #[.int .u64 1, .int .u64 (n : Int)] w fun e w' => e = .returned (.tuple #[.int .u64 0, .int .u64 (n : Int)]) ∧ w = w' := by
  have h1 : bits BinOp.and IntKind.u64 1 4294967295 = 1 := by decide
  have h0 : bits BinOp.and IntKind.u64 0 4294967295 = 0 := by decide
  have h2 : bits BinOp.and IntKind.u64 (n : Int) 4294967295 = (n : Int) := by
    have h := bits_and_u64_nat n 4294967295 (by omega) (by omega)
    have e : n &&& 4294967295 = n % 4294967296 := Nat.and_two_pow_sub_one_eq_mod n 32
    rw [e, Nat.mod_eq_of_lt (by omega)] at h
    exact h
  have h3 : (n : Int) / 4294967296 = 0 := by omega
  have h4 : IntKind.u64.wrap (n : Int) = n := by rw [IntKind.wrap_u64]; omega
  have h5 : IntKind.u64.wrap 0 = 0 := by decide
  go_enter Tryz.func101, Tryz.ntmps101
  go_wp2
  go_ret2
  simp [h1, h2, h3, h4, h5, h0]
theorem mul_calls : Calls Tryz.prog 86 #[.int .u64 1, .int .u64 (n : Int)] w fun e w' => e = .returned (.tuple #[.int .u64 0, .int .u64 (n : Int)]) ∧ w = w' := by
  have hc := As.mk (mul64_calls w n hn)
  go_enter Tryz.func86, Tryz.ntmps86
  go_wp2_with (go_at_call 101; refine hc.out.mono ?_; rintro e w' ⟨rfl, rfl⟩)
  go_ret2
  exact ⟨rfl, rfl⟩
end
set_option maxRecDepth 100000 in
theorem make_ints (n : Nat) (hn : n ≤ 1000000) : ∃ Z : List Value, Z = List.replicate n (.int .i64 0) ∧ ∀ w : World, (Instr.makeSlice 105 (.int .i64 (n : Int)) (.int .i64 (n : Int))).run Tryz.prog w = .ok (.slice (some ⟨w.heap.size, 0, none⟩) n n) (w.alloc (.cells Z.toArray 3)) := by
  refine ⟨_, rfl, fun w => ?_⟩
  have hi : (Tryz.prog.info? 3).map (fun i => (i.zero, i.size, i.bytes)) = some (some (.int .i64 0), 1, 8) := by kernel_rfl
  obtain ⟨i, hi0, hz0, hz1, hz2⟩ := info_parts hi
  have h := run_make (P := Tryz.prog) w 105 3 i _ Tryz.underlying105 hi0 hz0 .i64 .i64 (n : Int) (n : Int) (by omega) (Int.le_refl _) (by rw [hz2]; omega) (by omega)
  rw [h, hz1]
  congr 3
  simp only [Int.toNat_natCast, Nat.mul_one]
  apply Array.ext
  · simp [madeCells]
  · intro j h1 h2
    simp [madeCells, Value.cells, Nat.mod_one]
def repRow (u : Value) (n k : Nat) : List Value := List.replicate k u ++ List.replicate (n - k) (.int .i64 0)
theorem repRow_splice (u : Value) (n k m : Nat) (h : k + m ≤ n) : splice (repRow u n k) k (List.replicate m u) = repRow u n (k + m) := by
  unfold splice repRow
  rw [List.take_left' (by simp), List.length_replicate, List.drop_append, List.drop_of_length_le (by simp), List.nil_append, List.length_replicate, ← List.append_assoc, List.replicate_append_replicate, List.drop_replicate]
  congr 2
  omega
theorem repRow_start (u : Value) (n : Nat) (h : 1 ≤ n) : splice (List.replicate n (.int .i64 0)) 0 [u] = repRow u n 1 := by
  have := repRow_splice u n 0 1 (by omega)
  unfold repRow at this
  simpa [repRow] using this
set_option maxRecDepth 100000 in
set_option maxHeartbeats 1600000 in
theorem repeat_calls (w : World) (ad : Addr) (c : Nat) (u : Int) (hx : w.cell? (ad.add 0) = some (.int .i64 u)) (n : Nat) (hn : 1 ≤ n) (hn2 : n ≤ 1000000) :
    Calls Tryz.prog 62 #[.slice (some ad) 1 c, .int .i64 (n : Int)] w fun e w' => ∃ b, e = .returned (.slice (some ⟨b, 0, none⟩) n n) ∧ w.heap.size ≤ b ∧ w'.heap[b]? = some (.cells (repRow (.int .i64 u) n n).toArray 3 (0, 0)) ∧ Below w.heap.size w w' := by
  have hmu := As.mk (fun w => mul_calls w n hn2)
  obtain ⟨Z, hZ, hmk⟩ := make_ints n hn2
  have hst := repRow_start (.int .i64 u) n hn
  rw [← hZ] at hst
  have hZl : Z.length = n := by rw [hZ]; simp
  have hst := As.mk hst
  have hZl := As.mk hZl
  clear hZ
  have hx := As.mk hx
  go_enter Tryz.func62, Tryz.ntmps62
  have hsz : (Tryz.prog.info? 3).map (·.size) = some 1 := by kernel_rfl
  go_wp2_with (first
    | (go_at_call 86; refine (hmu.out _).mono ?_; rintro e w' ⟨rfl, rfl⟩)
    | (refine wpList_copy_splice rfl (.tmp 31) (.tmp 32) 105 105 rfl 3 Tryz.underlying105 hsz (some ⟨w.heap.size, 0, none⟩) (some ad) n n 1 c rfl rfl w.heap.size 0 Z 3 (heap_alloc_new w _) [.int .i64 u] (by show 1 = min 1 n; omega)
         (fun _ => ⟨rfl, ad, rfl, fun j v hj => by
           have hj0 : j = 0 := by
             have := (List.getElem?_eq_some_iff.1 hj).1
             simpa using this
           subst hj0
           simp at hj
           subst hj
           exact (Below.cell ((Below.refl w.heap.size w).alloc (Nat.le_refl _) _) (World.block_lt_of_cell? w _ hx.out)).trans hx.out⟩)
         (by show 0 + 1 ≤ Z.length; have := hZl.out; omega) (by simp [Value.oneCell']) w.heap.size w ((Below.refl _ _).alloc (Nat.le_refl _) _) (Nat.le_refl _) ?_
       intro w2 hg2 hb2))
  have hg2 := As.mk (show w2.heap[w.heap.size]? = some (.cells (repRow (.int .i64 u) n 1).toArray 3 (0, 0)) by rw [← hst.out]; exact hg2.out)
  go_loopw [8] (fun i wr => ∃ k : Nat, 1 ≤ k ∧ k ≤ n ∧ i = .int .i64 k ∧ As (wr.heap[w.heap.size]? = some (.cells (repRow (.int .i64 u) n k).toArray 3 (0, 0))) ∧ As (Below w.heap.size w wr)) (fun i _ => n - (intOf i).toNat)
  case atStart => exact ⟨1, Nat.le_refl _, hn, rfl, hg2, ⟨hb2⟩⟩
  case round =>
    obtain ⟨k, hk1, hk, rfl, hrow, hbel⟩ := hrel
    by_cases hlt : k < n
    · have hnk : ¬ n = k := by omega
      obtain ⟨m, hm⟩ : ∃ m, min k (n - k) = m := ⟨_, rfl⟩
      have hm1 : m ≤ k := by omega
      have hm2 : k + m ≤ n := by omega
      have hm3 : 0 < m := by omega
      have hms : m = Nat.min k (n - k) := hm.symm
      replace hms := As.mk hms
      have hwr : IntKind.i64.wrap ((k : Int) + (m : Int)) = (k : Int) + (m : Int) := IntWalk.i64_in _ (by omega)
      have hspl := As.mk (repRow_splice (.int .i64 u) n k m hm2)
      have hkw := As.mk hk
      clear hm
      have hcs : As (∀ j v, (List.replicate m (Value.int .i64 u))[j]? = some v → wr.cell? ((⟨w.heap.size, 0, none⟩ : Addr).add j) = some v) := ⟨fun j v hj => by
        have hjm : j < m := by
          have := (List.getElem?_eq_some_iff.1 hj).1
          simpa using this
        rw [List.getElem?_replicate, if_pos hjm] at hj
        rw [← hj]
        refine World.news_of_block hrow.out j _ ?_
        unfold repRow
        rw [List.getElem?_append_left (by simp; omega), List.getElem?_replicate, if_pos (by omega)]⟩
      have hlen : As (k + m ≤ (repRow (.int .i64 u) n k).length) := ⟨by unfold repRow; simp; omega⟩
      go_wp2
      go_region_law (refine step_copy_splice rfl (.tmp 41) (.tmp 44) 105 105 rfl 3 Tryz.underlying105 hsz (some ⟨w.heap.size, k, none⟩) (some ⟨w.heap.size, 0, none⟩) (n - k) (n - k) k n (by simp [Act.eval, Act.put, hnk]) (by simp [Act.eval, Act.put, hnk]) w.heap.size k (repRow (.int .i64 u) n k) 3 hrow.out (List.replicate m (.int .i64 u)) (by rw [List.length_replicate]; exact hms.out) (fun _ => ⟨rfl, _, rfl, hcs.out⟩) (by rw [List.length_replicate]; exact hlen.out) (by intro v hv; rw [List.eq_of_mem_replicate hv]; rfl) w.heap.size w (Below.drew hbel.out) (Nat.le_refl _) ?_
                     intro w4 hg4 hb4)
      all_goals
        go_wp2
        refine ⟨?_, ?measure⟩
        · (repeat apply Exists.intro)
          refine ⟨?rel, ?eq⟩
          case eq => (simp only [Act.put]; rfl)
          case rel => exact ⟨k + m, by omega, hm2, by go_num, ⟨by rw [← hspl.out]; exact hg4.out⟩, ⟨hb4⟩⟩
        case measure => simp [intOf, Act.put, hwr]; omega
    · obtain rfl : k = n := by omega
      go_wp2
      go_ret
      exact ⟨w.heap.size, rfl, Nat.le_refl _, hrow.out, hbel.out⟩
end Go.Proofs.YtdiljmhikajjiaaGreat
end
section
set_option linter.unusedVariables false
set_option linter.unusedSimpArgs false
namespace Go.Proofs.YtdiljmhikajjiaaGreat
open Go.RowKit Go.Maps Seine.Trie Seine.Links
theorem blk_below {w w' : World} {b : Nat} {o : Obj} (hb : Below w.heap.size w w') (h : w.heap[b]? = some o) : w'.heap[b]? = some o := (hb.block b (block_lt h)).trans h
theorem ownsRow_of_block {w : World} {base b n : Nat} {cs : List Value} {t : TypeId} (h : w.heap[b]? = some (.cells cs.toArray t (0, 0))) (hl : cs.length = n) (hb : base ≤ b) (hn : n ≤ maxLen) : w.ownsRow base t 1 (.slice (some ⟨b, 0, none⟩) n n) n cs := by
  refine ⟨by omega, .inr ⟨b, n, cs.toArray, rfl, hb, h, Nat.le_refl _, hn, by simp [hl], by rw [Nat.mul_one]; exact List.take_of_length_le (by simp; omega)⟩⟩
theorem new_zero {w : World} {cs : Array Value} {t : TypeId} {b : Nat} (h : w.heap[b]? = some (.cells cs t (0, 0))) : w.cell? ((⟨b, 0, none⟩ : Addr).add 0) = cs[0]? := by
  have : (⟨b, 0, none⟩ : Addr).add 0 = ⟨b, 0, none⟩ := by unfold Addr.add; split <;> simp_all
  rw [this]; exact cell_of_blk h 0
theorem heap_new_at {w : World} {o : Obj} {b : Nat} (h : b = w.heap.size) : (w.alloc o).heap[b]? = some o := by rw [h]; exact heap_alloc_new _ _
theorem intCells_const (P : List Txt) (x : Int) : intCells P (fun _ => x) = List.replicate P.length (.int .i64 x) := by simp [intCells, List.map_const']
theorem repRow_full (u : Value) (n : Nat) : repRow u n n = List.replicate n u := by simp [repRow]
theorem linksAt_new {w : World} {base g n bf bo bu : Nat} {P : List Txt} {Z : List Value} (hn : P.length = n) (hl : n ≤ 1000000) (hZ : Z = List.replicate n (.int .i64 0))
    (h0 : w.heap[g]? = some (.cells #[.slice (some ⟨bf, 0, none⟩) n n, .slice (some ⟨bo, 0, none⟩) n n, .slice (some ⟨bu, 0, none⟩) n n, .slice none 0 0] 137 (0, 0))) (hg : base ≤ g)
    (hf : w.heap[bf]? = some (.cells (repRow (.int .i64 (-1)) n n).toArray 3 (0, 0))) (ho : w.heap[bo]? = some (.cells (repRow (.int .i64 (-1)) n n).toArray 3 (0, 0))) (hu : w.heap[bu]? = some (.cells Z.toArray 3 (0, 0)))
    (b1 : base ≤ bf) (b2 : base ≤ bo) (b3 : base ≤ bu) (n1 : bf ≠ bo) (n2 : bf ≠ bu) (n3 : bo ≠ bu) : LinksAt w base g P (fun _ => -1) (fun _ => -1) (fun _ => 0) [] := by
  subst hn
  have hm : P.length ≤ maxLen := by simp only [maxLen]; omega
  refine ⟨⟨bf, P.length, bo, P.length, bu, P.length, .slice none 0 0⟩, h0, hg, ?_, ?_, ?_, n1, n2, n3, World.ownsRow_nil _ _ _ _, by simp [Value.ownBlock], by simp [Value.ownBlock], by simp [Value.ownBlock]⟩
  · unfold IntRow; rw [intCells_const, ← repRow_full]; exact ownsRow_of_block hf (by simp [repRow]) b1 hm
  · unfold IntRow; rw [intCells_const, ← repRow_full]; exact ownsRow_of_block ho (by simp [repRow]) b2 hm
  · unfold IntRow; rw [intCells_const, ← hZ]; exact ownsRow_of_block hu (by rw [hZ]; simp) b3 hm
theorem LinksIn.order {w w2 : World} {base g : Nat} {P : List Txt} {F O U : Txt → Int} {o o' : List Txt} {B : LB} (h : LinksIn w base g P F O U o B) (hk : Keeps (fun k => some k = B.vr.ownBlock) w w2) {v' : Value}
    (hown : w2.ownsRow base 3 1 v' o'.length (intCells o' (place P))) (hv : v'.ownBlock = B.vr.ownBlock ∨ ∃ k, v'.ownBlock = some k ∧ w.heap.size ≤ k) : LinksIn (w2.setCell ⟨g, 3, none⟩ v') base g P F O U o' { B with vr := v' } := by
  obtain ⟨hg, h0, h1, h2, h3, h4, h5, h6, h7, h8, h9, h10⟩ := h
  have b1 := h1.base.2
  have b2 := h2.base.2
  have b3 := h3.base.2
  have hgv : some g ≠ B.vr.ownBlock := own_not_type h7 hg (by decide)
  have hg2 : w2.heap[g]? = _ := (hk.block g (block_lt hg) hgv).trans hg
  have hs := keeps_set w2 ⟨g, 3, none⟩ v'
  have hne : ∀ b, b < w.heap.size → B.vr.ownBlock ≠ some b → v'.ownBlock ≠ some b := fun b hb hn e => by
    rcases hv with hv | ⟨k, hv, hk⟩
    · exact hn (hv ▸ e)
    · rw [hv] at e; injection e; omega
  refine ⟨?_, h0, (h1.keep hk (fun e => h8 e.symm)).keep hs ?_, (h2.keep hk (fun e => h9 e.symm)).keep hs ?_, (h3.keep hk (fun e => h10 e.symm)).keep hs ?_, h4, h5, h6, own_keep hown hs (fun b c' _ hb e he => ?_), hne _ b1 h8, hne _ b2 h9, hne _ b3 h10⟩
  · exact blk_set hg2 3 v'
  · exact fun e => h1.other hg (by decide) e.symm
  · exact fun e => h2.other hg (by decide) e.symm
  · exact fun e => h3.other hg (by decide) e.symm
  · subst he
    rw [hg2] at hb
    injection hb with hb
    injection hb with _ hb
    exact absurd hb (by decide)
/-- What the links' rows hold of the nodes that were gone through. -/
def doneF (D : List Txt) (f : Txt → Int) (d : Int) (x : Txt) : Int := if x ∈ D then f x else d
theorem doneF_snoc_same {D : List Txt} {s : Txt} (f : Txt → Int) (d : Int) : doneF (D ++ [s]) f d s = f s := by simp [doneF]
theorem doneF_snoc_other {D : List Txt} {s y : Txt} (f : Txt → Int) (d : Int) (h : y ≠ s) : doneF (D ++ [s]) f d y = doneF D f d y := by simp [doneF, h]
/-- The links of the tree, k nodes having been gone through. -/
def LinksTo (w : World) (base g : Nat) (P l : List Txt) (D o : List Txt) : Prop := LinksAt w base g P (doneF D (failF P) (-1)) (doneF D (outF P l) (-1)) (doneF D (ownF l) 0) o
theorem take_snoc_op {P : List Txt} {k : Nat} {s : Txt} (h : (op P k)[k]? = some s) : (op P (k + 1)).take (k + 1) = (op P k).take k ++ [s] := by
  obtain ⟨hl, hs⟩ := List.getElem?_eq_some_iff.1 h
  rw [op_next h, List.take_append_of_le_length (by omega), List.take_succ_eq_append_getElem hl, hs]
theorem kidsF_eq {P : List Txt} {a : Nat} {s : Txt} (h : P[a]? = some s) : kidsF P (a : Int) 256 = kids P s := by
  unfold kidsF kids
  refine List.filter_congr fun c _ => ?_
  rw [stepF_at h, decide_eq_decide]
  exact place_mem
theorem LinksAt.order {w : World} {base g : Nat} {P : List Txt} {F O U : Txt → Int} {o : List Txt} (h : LinksAt w base g P F O U o) : ∃ v, w.cell? ⟨g, 3, none⟩ = some v ∧ w.frozen? ⟨g, 3, none⟩ = false ∧ g < w.heap.size ∧ base ≤ g ∧ w.ownsRow base 3 1 v o.length (intCells o (place P)) ∧ some g ≠ v.ownBlock ∧
    ∀ w2 v' o', Keeps (fun k => some k = v.ownBlock) w w2 → w2.ownsRow base 3 1 v' o'.length (intCells o' (place P)) → (v'.ownBlock = v.ownBlock ∨ ∃ k, v'.ownBlock = some k ∧ w.heap.size ≤ k) → LinksAt (w2.setCell ⟨g, 3, none⟩ v') base g P F O U o' := by
  obtain ⟨B, h⟩ := h
  obtain ⟨q0, q1, q2, q3, q4⟩ := h.heads
  have h2 := h
  obtain ⟨hg, h0, h1, _, h3, h4, h5, h6, h7, h8⟩ := h2
  exact ⟨B.vr, q3, q4, block_lt hg, h0, h7, own_not_type h7 hg (by decide), fun w2 v' o' a b c => ⟨_, h.order a b c⟩⟩
theorem info_int : (Tryz.prog.info? 3).map (fun i => (i.zero, i.size, i.bytes)) = some (some (.int .i64 0), 1, 8) := by kernel_rfl
theorem step_call_eq {P : Program} {ops : Array Oper} {o : Oper} {a : Act} {w : World} {K : Act → World → Prop} {Q : Exit → Act → World → Prop} {E : Prop} (hg : o.guard = none) {f : FuncId} {vals : Array Value} {v : Value}
    (ho : (execOp a.eval o).run P w = .ok (.enter f vals) w) (hc : Calls P f vals w fun e w' => e = .returned v ∧ w = w') (h : K (a.put o.dst v) w) :
    if Region.wanted o (yielded ops a.tmps) = true then Oper.wp P o a w K Q else E := by
  have hw : Region.wanted o (yielded ops a.tmps) = true := by simp [Region.wanted, hg]
  rw [if_pos hw]
  unfold Oper.wp
  rw [ho, Oper.upon_enter]
  refine hc.mono ?_
  rintro e w' ⟨rfl, rfl⟩
  exact h
theorem LinksTo.root {w : World} {base g : Nat} {P l D o : List Txt} (h : LinksTo w base g P l D o) : LinksTo w base g P l (D ++ [[]]) o := by
  obtain ⟨B, h⟩ := h
  have key : ∀ (f : Txt → Int) (d : Int), f [] = d → ∀ x, x ∈ P → doneF D f d x = doneF (D ++ [[]]) f d x := fun f d hf x _ => by
    by_cases hx : x = []
    · subst hx; simp [doneF, hf]
    · rw [doneF_snoc_other f d hx]
  exact ⟨B, h.congr (key _ _ (failF_nil P)) (key _ _ (outF_nil P l)) (key _ _ (ownF_nil l))⟩
theorem LinksTo.full {w : World} {base g : Nat} {P l D o : List Txt} (h : LinksTo w base g P l D o) (hD : ∀ x, x ∈ P → x ∈ D) : LinksAt w base g P (failF P) (outF P l) (ownF l) o := by
  obtain ⟨B, h⟩ := h
  exact ⟨B, h.congr (fun x hx => if_pos (hD x hx)) (fun x hx => if_pos (hD x hx)) (fun x hx => if_pos (hD x hx))⟩
theorem kidsT_take {P : List Txt} {s : Txt} {m : Nat} (h : m < (kids P s).length) : (kidsT P s).take (m + 1) = (kidsT P s).take m ++ [s ++ [(kids P s).getD m 0]] := by
  unfold kidsT
  rw [List.take_succ_eq_append_getElem (by simpa using h)]
  simp [h]
theorem intCells_snoc (P : List Txt) (F : Txt → Int) (x : Txt) : intCells (P ++ [x]) F = intCells P F ++ [.int .i64 (F x)] := by simp [intCells]
set_option maxRecDepth 100000 in
set_option maxHeartbeats 1600000 in
theorem lbuild_calls (w : World) (base tg : Nat) (P l : List Txt) (ht : TrieAt w base tg P (place l)) (hl : P.length ≤ 1000000) (hd : ∀ p ∈ P, p.length ≤ 100000) (hlP : ∀ x, x ∈ l → x ∈ P) :
    Calls Tryz.prog 42 #[.pointer (some ⟨tg, 0, none⟩)] w fun e w' => ∃ g, e = .returned (.pointer (some ⟨g, 0, none⟩)) ∧ LinksAt w' w.heap.size g P (failF P) (outF P l) (ownF l) (op P P.length) ∧ Below w.heap.size w w' := by
  have hT := As.mk ht.tree
  have HT := As.mk ht
  have hnod := As.mk (fun v hv => nodes_calls v base tg P (place l) (HT.out.below hv))
  have hPl := hT.out.len
  obtain ⟨n, hn⟩ : ∃ n, P.length = n := ⟨_, rfl⟩
  rw [hn] at hnod hl hPl
  obtain ⟨Z, hZ, hmk⟩ := make_ints n hl
  replace hZ := As.mk hZ
  have hrep := As.mk (fun (v : World) (ad : Addr) (c : Nat) (h : v.cell? (ad.add 0) = some (.int .i64 (-1))) => repeat_calls v ad c (-1) h n hPl hl)
  go_enter Tryz.func42, Tryz.ntmps42
  go_wp2
  go_step3
  go_upto_region 2 with (go_at_call 43; refine (hnod.out _ (Below.refl _ _)).mono ?_; rintro e w' ⟨rfl, rfl⟩)
  go_cut [4] from 11 to 20 (fun v4 wx => ∃ g, v4 = .pointer (some ⟨g, 0, none⟩) ∧ As (LinksAt wx w.heap.size g P (fun _ => -1) (fun _ => -1) (fun _ => 0) []) ∧ As (Below w.heap.size w wx))
  case first =>
    go_region_with (go_at_call 62; refine (hrep.out _ _ _ ?hc).mono ?_; (case hc => exact (new_zero (cs := #[.int .i64 (-1)]) (t := 3) (by (repeat (first | (with_reducible assumption) | (with_reducible exact heap_alloc_new _ _) | (exact heap_new_at (by (first | omega | (simp only [World.size_alloc, World.size_drew]; done) | (simp only [World.size_alloc, World.size_drew]; omega)))) | (with_reducible refine blk_drew ?_) | (with_reducible refine blk_old ?_) | (refine blk_below (by with_reducible assumption) ?_))))).trans rfl); rintro e w' ⟨b, rfl, hb, hc, hbel⟩; have hs := hbel.size; have hlt := block_lt hc; (try simp only [World.size_alloc, World.size_drew] at hs hb))
    all_goals
      go_wp2_with fail
      go_meet
      case rel =>
        refine ⟨_, rfl, ⟨?_⟩, ⟨?_⟩⟩
        · apply linksAt_new hn hl hZ.out
          all_goals (first | ((repeat (first | (with_reducible assumption) | (with_reducible exact heap_alloc_new _ _) | (exact heap_new_at (by (first | omega | (simp only [World.size_alloc, World.size_drew]; done) | (simp only [World.size_alloc, World.size_drew]; omega)))) | (with_reducible refine blk_drew ?_) | (with_reducible refine blk_old ?_) | (refine blk_below (by with_reducible assumption) ?_))); done) | (first | omega | (simp only [World.size_alloc, World.size_drew]; done) | (simp only [World.size_alloc, World.size_drew]; omega)))
        · (repeat (first | (with_reducible assumption) | (with_reducible exact Below.refl _ _) | (with_reducible refine Below.drew ?_) | (with_reducible refine Below.alloc ?_ (by (first | omega | (simp only [World.size_alloc, World.size_drew]; done) | (simp only [World.size_alloc, World.size_drew]; omega))) _) | (refine Below.trans ?_ (Below.mono (by with_reducible assumption) (by (first | omega | (simp only [World.size_alloc, World.size_drew]; done) | (simp only [World.size_alloc, World.size_drew]; omega)))))))
  case rest =>
    obtain ⟨g, rfl, hk0, hb0⟩ := hcut
    have hn0 : ((n : Int) == 0) = false := by simp; omega
    obtain ⟨v0, q3, q4, hgl, hgb, ho0, hne0, hset⟩ := hk0.out.order
    have hbs := hb0.out.size
    have hsl : ((wc.alloc (.cells #[.int .i64 0] 3)).ownsRow w.heap.size 3 1 (.slice (some ⟨wc.heap.size, 0, none⟩) 1 1) 1 [.int .i64 0]) := ownsRow_of_block (heap_alloc_new wc _) rfl hbs (by unfold maxLen; omega)
    have hp0 : place P [] = 0 := place_at hT.out.nodup hT.out.root
    have hk1 := hset (wc.alloc (.cells #[.int .i64 0] 3)) (.slice (some ⟨wc.heap.size, 0, none⟩) 1 1) [[]] (Keeps.of_below ((Below.refl _ _).alloc (Nat.le_refl _) _) _) (by simpa [intCells, hp0] using hsl) (.inr ⟨wc.heap.size, rfl, Nat.le_refl _⟩)
    have hb1 := (hb0.out.alloc (by omega) (.cells #[.int .i64 0] 3)).setCell (p := ⟨g, 3, none⟩) (by show w.heap.size ≤ g; omega) (.slice (some ⟨wc.heap.size, 0, none⟩) 1 1)
    rw [World.setCell_alloc_past _ _ _ _ hgl] at hk1 hb1
    have hdn : ∀ (f : Txt → Int) (d : Int), doneF [] f d = fun _ => d := fun f d => by funext x; simp [doneF]
    have hk1 : As (LinksTo ((wc.setCell ⟨g, 3, none⟩ (.slice (some ⟨wc.heap.size, 0, none⟩) 1 1)).alloc (.cells #[.int .i64 0] 3)) w.heap.size g P l ((op P 0).take 0) (op P 0)) := ⟨by
      unfold LinksTo
      rw [List.take_zero, hdn, hdn, hdn]
      exact hk1⟩
    have hb1 := As.mk hb1
    have hopl := As.mk (fun k => op_len hT.out k)
    clear hsl hp0 hb0 hset ho0 hne0 hdn
    go_wp2
    go_step3
    go_wp2
    go_loopg [5] (n + 1) (fun gk i wr => ∃ k : Nat, As (gk + k = n + 1) ∧ As (k ≤ (op P k).length) ∧ i = .int .i64 k ∧ As (LinksTo wr w.heap.size g P l ((op P k).take k) (op P k)) ∧ As (Below w.heap.size w wr))
    case atStart => exact ⟨0, ⟨rfl⟩, ⟨Nat.zero_le _⟩, rfl, hk1, hb1⟩
    case round =>
      obtain ⟨k, hgk, hkl, rfl, hto, hbel⟩ := hrel
      obtain ⟨v3, q3, q4, hgl, hgb, ho3, hne3, hset⟩ := hto.out.order
      obtain ⟨ln, hln⟩ : ∃ ln, (op P k).length = ln := ⟨_, rfl⟩
      have hlnn : ln ≤ n := by have := hopl.out k; omega
      have hk' := hkl.out
      rw [hln] at hk'
      by_cases hlt : k < ln
      · obtain ⟨s, hs⟩ : ∃ s, (op P k)[k]? = some s := ⟨_, List.getElem?_eq_getElem (by omega)⟩
        have hsP := op_sub hT.out (List.mem_of_getElem? hs)
        obtain ⟨a, ha1, ha2⟩ := place_nat hsP
        obtain ⟨vb, cp, hv3, hvb1, hvb2⟩ := ho3.form (by omega)
        have hcell := World.ownsRow.cellAt (hv3 ▸ ho3) k (by omega)
        rw [intCells_at hs, ha1] at hcell
        rw [hln] at hv3
        subst hv3
        obtain ⟨kl, hkl2⟩ : ∃ kl, (kids P s).length = kl := ⟨_, rfl⟩
        have hkle : kl ≤ 256 := by
          have := kidsF_length P (a : Int) 256
          rw [kidsF_eq ha2, hkl2] at this
          exact this
        have hks := As.mk hkl2
        have hPn : P.length ≤ 1000000 := by omega
        have hs' := As.mk hs
        have hsP := As.mk hsP
        have ha1' := As.mk ha1
        have ha2' := As.mk ha2
        have hkd := As.mk (kidsF_eq ha2)
        have hto2 := hto
        have halt := (List.getElem?_eq_some_iff.1 ha2).1
        clear hkl2 hs ha1 ha2 hset ho3 hne3
        have hln := As.mk hln
        have hto0 : ∀ {v}, Below wr.heap.size wr v → LinksTo v w.heap.size g P l ((op P k).take k) (op P k) := fun h => LinksAt.below hto2.out h
        have hto0 := As.mk @hto0
        go_wp2_with (go_at_call 63; refine (kids_calls _ base tg P (place l) (HT.out.below hbel.out) (by omega) (a : Int)).mono ?_; intro e w1 hr; rw [hkd.out] at hr; obtain ⟨vk, rfl, hok, hbk⟩ := hr; obtain ⟨Ak, ck, hvk, hck, hbyt⟩ := hok.row; rw [hks.out] at hvk hck; subst hvk; replace hok := As.mk hok; replace hbyt := As.mk hbyt; replace hbk := As.mk hbk)
        have hst := As.mk (fun (v : World) (h : Below w.heap.size w v) (c : UInt8) (y : Int) (hy : place P (s ++ [c]) = y) => (by
          rw [← hy, ← stepF_at ha2'.out c]; exact step_calls v base tg P (place l) (HT.out.below h) hPn (a : Int) _ c rfl : Calls Tryz.prog 64 #[.pointer (some ⟨tg, 0, none⟩), .int .i64 (a : Int), .int .u8 (c.toNat : Int)] v fun e w' => e = .returned (.int .i64 y) ∧ v = w'))
        obtain ⟨wo, rfl⟩ : ∃ wo : World, wo = wr := ⟨_, rfl⟩
        obtain ⟨go, rfl⟩ : ∃ go : Nat, go = gk := ⟨_, rfl⟩
        go_loopg [48] (kl + 1) (fun g2 j wr2 => ∃ m : Nat, As (g2 + m = kl + 1) ∧ As (m ≤ kl) ∧ j = .int .i64 m ∧ As (LinksTo wr2 w.heap.size g P l ((op P k).take k) (op P k ++ (kidsT P s).take m)) ∧ As (OwnByt wr2 wo.heap.size (.slice Ak kl ck) (kids P s)) ∧ As (Below w.heap.size w wr2))
        case atStart => exact ⟨0, ⟨rfl⟩, ⟨Nat.zero_le _⟩, rfl, ⟨by rw [List.take_zero, List.append_nil]; exact hto0.out hbk.out⟩, hok, ⟨below_next' hbel.out hbk.out⟩⟩
        case round =>
          obtain ⟨m, hgm, hml, rfl, hto3, hok2, hbel2⟩ := hrel
          have hml' := hml.out
          obtain ⟨gp, rfl⟩ : ∃ gp, gk = gp + 1 := ⟨gk - 1, by have := hgm.out; omega⟩
          by_cases hmlt : m < kl
          · obtain ⟨v3, q3, q4, hgl, hgb, ho3, hne3, hset⟩ := hto3.out.order
            have hl2 : (op P k ++ (kidsT P s).take m).length = ln + m := by
              rw [List.length_append, hln.out, List.length_take, kidsT, List.length_map, hks.out]; omega
            have hl3 : ln + kl ≤ n := by
              have := hopl.out (k + 1)
              rw [op_next hs'.out, List.length_append, hln.out, kidsT, List.length_map, hks.out] at this
              omega
            rw [hl2] at ho3
            obtain ⟨vb2, cp2, hv3, hvb3, hvb4⟩ := ho3.form (by omega)
            subst hv3
            obtain ⟨A2, c2, e2, _, hby2⟩ := OwnByt.row hok2.out
            injection e2 with e2 e3 e4
            clear e3 e4
            subst e2
            obtain ⟨ad, rfl, hcm⟩ := Byt.at_ hby2 (i := m) (by rw [hks.out]; exact hmlt)
            have htk := kidsT_take (P := P) (s := s) (m := m) (by rw [hks.out]; exact hmlt)
            obtain ⟨x, hx⟩ : ∃ x, (kids P s).getD m 0 = x := ⟨_, rfl⟩
            rw [hx] at hcm htk
            obtain ⟨y, hy⟩ : ∃ y, place P (s ++ [x]) = y := ⟨_, rfl⟩
            obtain ⟨i0, hi, hz0, hz1, hz2⟩ := info_parts info_int
            have hst2 := As.mk (hst.out _ hbel2.out.drew x y hy)
            have hy' := As.mk hy
            have htk' := As.mk htk
            have hset' := As.mk hset
            have hown' := As.mk ho3
            have hown2 := As.mk ((ho3.alloc (.cells #[.int .i64 y] 3)).drew)
            have hfar : g ≠ vb2 := fun e => hne3 (by rw [e]; rfl)
            clear hl2 hset ho3 hne3 hby2 htk hx hy
            have K2 := (Below.frozen (p := ⟨g, 3, none⟩) ((Below.alloc (Below.refl wr.heap.size wr) (Nat.le_refl _) (.cells #[.int .i64 y] 3)).drew) hgl).trans q4
            have K1 := (Below.cell (p := ⟨g, 3, none⟩) ((Below.alloc (Below.refl wr.heap.size wr) (Nat.le_refl _) (.cells #[.int .i64 y] 3)).drew) hgl).trans q3
            replace K1 := As.mk K1
            replace K2 := As.mk K2
            have hsz1 : wr.heap.size < (wr.alloc (.cells #[.int .i64 y] 3)).drew.heap.size := by simp
            replace hsz1 := As.mk hsz1
            go_wp2_with fail
            go_region_law (first
              | (refine step_append_lies _ (by rfl) _ _ _ (by rfl) w.heap.size 3 i0 _ 1 8 Tryz.underlying105 hi hz0 hz1 hz2 rfl (by omega) (.slice (some ⟨vb2, 0, none⟩) (ln + m) cp2) (ln + m) _ (by rfl) hown2.out
                     ⟨wr.heap.size, 0, none⟩ 1 1 [.int .i64 y] (by rfl) (by rfl) (World.news_of_block (cs := #[.int .i64 y]) (t := 3) (fr := (0, 0)) (heap_alloc_new wr _)) (by simp [Value.oneCell'])
                     (by omega) (by unfold maxLen; omega) (by omega) (by simp; omega) (wr.heap.size + 1) (by simp) ?_
                 intro gg cap w4 hown4 hgrow hat hlt4
                 have e0 := (hgrow.cell_far ⟨g, 3, none⟩ (by have := hsz1.out; show g < _; omega) (by show some g ≠ some vb2; simpa using hfar)).trans K1.out
                 have e1 := (hgrow.frozen_far ⟨g, 3, none⟩ (by have := hsz1.out; show g < _; omega) (by show some g ≠ some vb2; simpa using hfar)).trans K2.out
                 replace hgrow := As.mk hgrow
                 replace hown4 := As.mk hown4)
              | (refine step_call_eq (by rfl) ?ho hst2.out ?_; (case ho => go_simp)))
            all_goals
              go_wp2_with fail
              have hkp : Keeps (fun k => some k = (Value.slice (some ⟨vb2, 0, none⟩) (ln + m) cp2).ownBlock) wr w4 := (Keeps.of_below (((Below.refl _ _).alloc (Nat.le_refl _) _).drew) _).trans ((Keeps.of_grown hgrow.out).mono (fun _ _ h => h))
              have hks5 := (hkp.mono (T := fun k => some k = (Value.slice (some ⟨vb2, 0, none⟩) (ln + m) cp2).ownBlock ∨ k = g) (fun _ _ h => .inl h)).trans ((keeps_set w4 ⟨g, 3, none⟩ (.slice (some ⟨gg, 0, none⟩) (ln + m + 1) cap)).mono (fun _ _ h => .inr h))
              have hto5 : LinksTo (w4.setCell ⟨g, 3, none⟩ (.slice (some ⟨gg, 0, none⟩) (ln + m + 1) cap)) w.heap.size g P l ((op P k).take k) (op P k ++ (kidsT P s).take (m + 1)) := by
                refine hset'.out w4 (.slice (some ⟨gg, 0, none⟩) (ln + m + 1) cap) _ hkp ?_ ?_
                · have hlo : (op P k ++ (kidsT P s).take (m + 1)).length = ln + m + 1 := by
                    rw [List.length_append, hln.out, List.length_take, kidsT, List.length_map, hks.out]; omega
                  rw [hlo, htk'.out, ← List.append_assoc, intCells_snoc, hy'.out]
                  exact hown4.out
                · rcases hat with h | h
                  · exact .inl h.symm
                  · exact .inr ⟨gg, rfl, by omega⟩
              have hok5 : OwnByt (w4.setCell ⟨g, 3, none⟩ (.slice (some ⟨gg, 0, none⟩) (ln + m + 1) cap)) wo.heap.size (.slice (some ad) kl ck) (kids P s) :=
                own_keep hok2.out hks5 (fun b c' _ hb _ hS => by
                  rcases hS with hS | hS
                  · exact own_not_type hown'.out hb (by decide) hS
                  · obtain ⟨B5, hin5⟩ := hto3.out
                    have := hin5.1
                    subst hS
                    rw [this] at hb
                    injection hb with hb
                    injection hb with _ hb
                    exact absurd hb (by decide))
              have hbel5 : Below w.heap.size w (w4.setCell ⟨g, 3, none⟩ (.slice (some ⟨gg, 0, none⟩) (ln + m + 1) cap)) :=
                hbel2.out.trans (hks5.below (fun k hk hS => by
                  rcases hS with hS | hS
                  · have hS : k = vb2 := Option.some.inj hS
                    omega
                  · omega) hbel2.out.size)
              go_roundg gp
              case rel => exact ⟨m + 1, ⟨by have := hgm.out; omega⟩, ⟨by omega⟩, by go_num, ⟨hto5⟩, ⟨hok5⟩, ⟨hbel5⟩⟩
              case measure => omega
          · obtain rfl : m = kl := by omega
            have hk1 : k + 1 ≤ (op P (k + 1)).length := by rw [op_next hs'.out, List.length_append, hln.out]; omega
            have hnx : op P k ++ (kidsT P s).take m = op P (k + 1) := by
              rw [op_next hs'.out, List.take_of_length_le (by rw [kidsT, List.length_map, hks.out]; omega)]
            have hto6 := hto3.out
            rw [hnx] at hto6
            replace hto6 := As.mk hto6
            replace hk1 := As.mk hk1
            have htk6 := As.mk (take_snoc_op hs'.out)
            obtain ⟨gq, rfl⟩ : ∃ gq, go = gq + 1 := ⟨go - 1, by have := hgk.out; omega⟩
            clear hnx
            by_cases ha0 : a = 0
            · have hsn : s = [] := by
                have := ha2'.out
                rw [ha0, hT.out.root] at this
                injection this with this
                exact this.symm
              subst ha0
              go_wp2_with fail
              go_roundg gq
              case rel => exact ⟨k + 1, ⟨by have := hgk.out; omega⟩, hk1, by go_num, ⟨by rw [htk6.out, hsn]; exact hto6.out.root⟩, hbel2⟩
              case measure => omega
            · have hsn : s ≠ [] := fun e => by
                have h1 := ha1'.out
                rw [e, place_at hT.out.nodup hT.out.root] at h1
                omega
              obtain ⟨B6, hin6⟩ := hto6.out
              have hlk := link_calls w wr w.heap.size g base tg P l _ _ _ (doneF ((op P k).take k ++ [s]) (failF P) (-1)) (doneF ((op P k).take k ++ [s]) (outF P l) (-1)) (doneF ((op P k).take k ++ [s]) (ownF l) 0) (op P (k + 1)) rfl HT.out hbel2.out B6 hin6 hPn hd hlP a s ha2'.out hsn
                (fun x hx hxl => by
                  obtain ⟨j, hj, hjx⟩ := op_before hT.out k hs'.out x hx hxl
                  have hm : x ∈ (op P k).take k := List.mem_of_getElem? (i := j) (by rw [List.getElem?_take_of_lt hj]; exact hjx)
                  exact ⟨if_pos hm, if_pos hm, if_pos hm⟩)
                (by
                  have : s ∉ (op P k).take k := fun hm => by
                    obtain ⟨j, hj⟩ := List.mem_iff_getElem?.1 hm
                    have hjk : j < k := by
                      have := (List.getElem?_eq_some_iff.1 hj).1
                      rw [List.length_take] at this; omega
                    rw [List.getElem?_take_of_lt hjk] at hj
                    have := nodup_get (op_nodup P k) hj hs'.out
                    omega
                  exact if_neg this)
                ⟨doneF_snoc_same _ _, fun y hy => doneF_snoc_other _ _ hy⟩ ⟨doneF_snoc_same _ _, fun y hy => doneF_snoc_other _ _ hy⟩ ⟨doneF_snoc_same _ _, fun y hy => doneF_snoc_other _ _ hy⟩
              replace hlk := As.mk hlk
              have ha0' : ((a : Int) == 0) = false := by simpa using ha0
              clear hin6
              go_wp2_with (go_at_call 65; refine hlk.out.mono ?_; rintro e w7 ⟨rfl, hin7, hb7⟩; replace hin7 := As.mk hin7; replace hb7 := As.mk hb7)
              go_roundg gq
              case rel => exact ⟨k + 1, ⟨by have := hgk.out; omega⟩, hk1, by go_num, ⟨by rw [htk6.out]; exact ⟨_, hin7.out⟩⟩, ⟨hbel2.out.trans hb7.out⟩⟩
              case measure => omega
      · obtain rfl : k = ln := by omega
        have hfull : op P k = op P P.length := op_full hT.out (by omega)
        have hto8 := hto.out.full (fun x hx => by rw [List.take_of_length_le (by omega), hfull]; exact op_all hT.out _ x rfl hx)
        rw [hfull] at hto8
        replace hto8 := As.mk hto8
        clear hset hne3 hfull
        rw [hln] at ho3
        obtain ⟨Av, cv, rfl, hcv⟩ := own_slice ho3
        replace ho3 := As.mk ho3
        replace hln := As.mk hln
        go_wp2
        try rw [Exit.noGoto_ret]
        go_ret
        exact ⟨g, rfl, hto8.out, hbel.out⟩
end Go.Proofs.YtdiljmhikajjiaaGreat
end
