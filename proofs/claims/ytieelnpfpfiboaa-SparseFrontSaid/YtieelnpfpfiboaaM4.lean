/- Joined texts: SortPure, SparsePure, Sparse, Sparse2, Pairs. -/
import Derived.Test.YtieelnpfpfiboaaM1
import Derived.Test.YtieelnpfpfiboaaM2
import Derived.Test.YtieelnpfpfiboaaM3
import Derived.Deep.RegionLaw
import Derived.Deep.AppendLies
import Derived.ScopeJumps
import Derived.Test.YtieelnpfpfiboaaProg
import Derived.Deep.QuietTactic
import Derived.BigQuiet
import Derived.Deep.DeepCutAuto
import Derived.Laws.StructEq
import Derived.WalkMore
section
/- Plain facts on lists of pairs in order, each once: putting in, joining two, what stands in a line. No program, no memory. -/
namespace Seine.Sort
open Seine.Trie
abbrev Pr := Int × Int
def lt (a b : Pr) : Prop := a.1 < b.1 ∨ (a.1 = b.1 ∧ a.2 < b.2)
instance : DecidableRel lt := fun a b => inferInstanceAs (Decidable (_ ∨ _))
theorem lt_trans {a b c : Pr} (h : lt a b) (k : lt b c) : lt a c := by unfold lt at *; omega
theorem lt_irr (a : Pr) : ¬ lt a a := by unfold lt; omega
theorem lt_tri (a b : Pr) : lt a b ∨ a = b ∨ lt b a := by
  obtain ⟨x, y⟩ := a
  obtain ⟨u, v⟩ := b
  simp only [lt, Prod.mk.injEq]
  omega
def Rise (l : List Pr) : Prop := l.Pairwise lt
theorem Rise.nil : Rise [] := List.Pairwise.nil
theorem rise_cons {x : Pr} {l : List Pr} : Rise (x :: l) ↔ (∀ y ∈ l, lt x y) ∧ Rise l := List.pairwise_cons
theorem rise_app {a b : List Pr} : Rise (a ++ b) ↔ Rise a ∧ Rise b ∧ ∀ x ∈ a, ∀ y ∈ b, lt x y := List.pairwise_append
/-- Two lists in order of the same things are one. -/
theorem rise_ext : ∀ {a b : List Pr}, Rise a → Rise b → (∀ x, x ∈ a ↔ x ∈ b) → a = b
  | [], [], _, _, _ => rfl
  | [], y :: b, _, _, h => by have := (h y).2 (by simp); simp at this
  | x :: a, [], _, _, h => by have := (h x).1 (by simp); simp at this
  | x :: a, y :: b, ha, hb, h => by
    obtain ⟨h1, ka⟩ := rise_cons.1 ha
    obtain ⟨h2, kb⟩ := rise_cons.1 hb
    have hxy : x = y := by
      have hx := (h x).1 (by simp)
      have hy := (h y).2 (by simp)
      rcases List.mem_cons.1 hx with e | e
      · exact e
      · rcases List.mem_cons.1 hy with f | f
        · exact f.symm
        · exact absurd (lt_trans (h1 y f) (h2 x e)) (lt_irr x)
    subst hxy
    have hz : ∀ z, z ∈ a ↔ z ∈ b := by
      intro z
      constructor
      · intro hz
        rcases List.mem_cons.1 ((h z).1 (List.mem_cons_of_mem _ hz)) with e | e
        · subst e; exact absurd (h1 _ hz) (lt_irr _)
        · exact e
      · intro hz
        rcases List.mem_cons.1 ((h z).2 (List.mem_cons_of_mem _ hz)) with e | e
        · subst e; exact absurd (h2 _ hz) (lt_irr _)
        · exact e
    rw [rise_ext ka kb hz]
/-- One thing more, in order, once. -/
def put : List Pr → Pr → List Pr
  | [], p => [p]
  | x :: l, p => if lt x p then x :: put l p else if x = p then x :: l else p :: x :: l
theorem mem_put {l : List Pr} {p x : Pr} : x ∈ put l p ↔ x ∈ l ∨ x = p := by
  induction l with
  | nil => simp [put]
  | cons y l ih =>
    unfold put
    by_cases h1 : lt y p
    · rw [if_pos h1]; simp only [List.mem_cons, ih]; exact or_assoc.symm
    · rw [if_neg h1]
      by_cases h2 : y = p
      · rw [if_pos h2]; subst h2
        constructor
        · exact .inl
        · rintro (h | rfl)
          · exact h
          · simp
      · rw [if_neg h2]; simp only [List.mem_cons]
        constructor
        · rintro (h | h | h)
          · exact .inr h
          · exact .inl (.inl h)
          · exact .inl (.inr h)
        · rintro ((h | h) | h)
          · exact .inr (.inl h)
          · exact .inr (.inr h)
          · exact .inl h
theorem rise_put {l : List Pr} {p : Pr} (h : Rise l) : Rise (put l p) := by
  induction l with
  | nil => simp [put, Rise]
  | cons y l ih =>
    obtain ⟨h1, h2⟩ := rise_cons.1 h
    unfold put
    by_cases k1 : lt y p
    · rw [if_pos k1]
      refine rise_cons.2 ⟨fun z hz => ?_, ih h2⟩
      rcases mem_put.1 hz with hz | rfl
      · exact h1 z hz
      · exact k1
    · rw [if_neg k1]
      by_cases k2 : y = p
      · rw [if_pos k2]; exact h
      · rw [if_neg k2]
        have hp : lt p y := by
          rcases lt_tri y p with e | e | e
          · exact absurd e k1
          · exact absurd e k2
          · exact e
        refine rise_cons.2 ⟨fun z hz => ?_, h⟩
        rcases List.mem_cons.1 hz with rfl | hz
        · exact hp
        · exact lt_trans hp (h1 z hz)
/-- In order, each once. -/
def sortP (l : List Pr) : List Pr := l.foldl put []
theorem foldl_put (l : List Pr) : ∀ (a : List Pr), Rise a → Rise (l.foldl put a) ∧ ∀ x, x ∈ l.foldl put a ↔ x ∈ a ∨ x ∈ l := by
  induction l with
  | nil => intro a h; exact ⟨h, fun x => by simp⟩
  | cons y l ih =>
    intro a h
    obtain ⟨h1, h2⟩ := ih (put a y) (rise_put h)
    refine ⟨h1, fun x => ?_⟩
    rw [List.foldl_cons, h2, mem_put, List.mem_cons, or_assoc]
theorem rise_sortP (l : List Pr) : Rise (sortP l) := (foldl_put l [] Rise.nil).1
theorem mem_sortP {l : List Pr} {x : Pr} : x ∈ sortP l ↔ x ∈ l := by rw [sortP, (foldl_put l [] Rise.nil).2]; simp
theorem sortP_ext {a b : List Pr} (h : ∀ x, x ∈ a ↔ x ∈ b) : sortP a = sortP b := rise_ext (rise_sortP a) (rise_sortP b) fun x => by rw [mem_sortP, mem_sortP, h]
theorem sortP_rise {a : List Pr} (h : Rise a) : sortP a = a := rise_ext (rise_sortP a) h fun x => mem_sortP
theorem sortP_eq {a b : List Pr} (hb : Rise b) (h : ∀ x, x ∈ a ↔ x ∈ b) : sortP a = b := (sortP_ext h).trans (sortP_rise hb)
theorem put_len (l : List Pr) (p : Pr) : (put l p).length ≤ l.length + 1 := by
  induction l with
  | nil => simp [put]
  | cons y l ih => unfold put; split <;> (try split) <;> simp <;> omega
theorem sortP_len (l : List Pr) : (sortP l).length ≤ l.length := by
  have : ∀ (l a : List Pr), (l.foldl put a).length ≤ a.length + l.length := by
    intro l
    induction l with
    | nil => intro a; simp
    | cons y l ih => intro a; rw [List.foldl_cons]; have := ih (put a y); have := put_len a y; simp; omega
  have := this l []
  simpa [sortP] using this
theorem sortP_short {l : List Pr} (h : l.length < 2) : sortP l = l := by
  match l, h with
  | [], _ => rfl
  | [x], _ => rfl
theorem sortP_split (l : List Pr) (m : Nat) : sortP (sortP (l.take m) ++ sortP (l.drop m)) = sortP l := by
  refine sortP_ext fun x => ?_
  rw [List.mem_append, mem_sortP, mem_sortP, ← List.mem_append, List.take_append_drop]

/-! ### two rows in order as one -/
def push (out : List Pr) (x : Pr) : List Pr := if out.getLast? = some x then out else out ++ [x]
theorem push_len (out : List Pr) (x : Pr) : (push out x).length ≤ out.length + 1 := by unfold push; split <;> simp
structure Join (A B a b out : List Pr) : Prop where
  ra : Rise a
  rb : Rise b
  ro : Rise out
  mem : ∀ z, (z ∈ out ∨ z ∈ a ∨ z ∈ b) ↔ (z ∈ A ∨ z ∈ B)
  le : ∀ x ∈ out, ∀ y, y ∈ a ∨ y ∈ b → lt x y ∨ x = y
theorem Join.start {A B : List Pr} (ha : Rise A) (hb : Rise B) : Join A B A B [] := ⟨ha, hb, Rise.nil, by simp, by simp⟩
theorem mem_push {out : List Pr} {x z : Pr} : z ∈ push out x ↔ z ∈ out ∨ z = x := by
  unfold push
  split
  · rename_i h
    have := List.mem_of_getLast? h
    constructor
    · exact .inl
    · rintro (h | rfl)
      · exact h
      · exact this
  · simp
theorem rise_push {out : List Pr} {x : Pr} (h : Rise out) (hx : ∀ o ∈ out, lt o x ∨ o = x) : Rise (push out x) := by
  unfold push
  split
  · exact h
  · rename_i hl
    refine rise_app.2 ⟨h, by simp [Rise], fun o ho y hy => ?_⟩
    rw [List.mem_singleton] at hy
    subst hy
    rcases hx o ho with e | e
    · exact e
    · subst e
      exfalso
      obtain ⟨pre, z, rfl⟩ : ∃ pre z, out = pre ++ [z] := ⟨out.dropLast, out.getLast (by intro e; rw [e] at ho; simp at ho), (List.dropLast_concat_getLast _).symm⟩
      rw [List.getLast?_concat] at hl
      have hz : z ≠ o := fun e => hl (by rw [e])
      obtain ⟨_, _, h3⟩ := rise_app.1 h
      have ho2 : o ∈ pre := by
        rcases List.mem_append.1 ho with e | e
        · exact e
        · rw [List.mem_singleton] at e; exact absurd e.symm hz
      have h4 := h3 o ho2 z (by simp)
      rcases hx z (by simp) with e | e
      · exact lt_irr _ (lt_trans h4 e)
      · exact hz e
theorem Join.takeA {A B a b out : List Pr} {x : Pr} (h : Join A B (x :: a) b out) (hb : ∀ y ∈ b, lt x y ∨ x = y) : Join A B a b (push out x) := by
  obtain ⟨h1, h2⟩ := rise_cons.1 h.ra
  refine ⟨h2, h.rb, rise_push h.ro fun o ho => h.le o ho x (.inl (by simp)), fun z => ?_, fun o ho y hy => ?_⟩
  · rw [← h.mem z, mem_push, List.mem_cons]
    constructor
    · rintro ((h | h) | h | h)
      · exact .inl h
      · exact .inr (.inl (.inl h))
      · exact .inr (.inl (.inr h))
      · exact .inr (.inr h)
    · rintro (h | (h | h) | h)
      · exact .inl (.inl h)
      · exact .inl (.inr h)
      · exact .inr (.inl h)
      · exact .inr (.inr h)
  · rcases mem_push.1 ho with ho | rfl
    · exact h.le o ho y (hy.imp (List.mem_cons_of_mem _) id)
    · rcases hy with hy | hy
      · exact .inl (h1 y hy)
      · exact hb y hy
theorem Join.swap {A B a b out : List Pr} (h : Join A B a b out) : Join B A b a out := by
  refine ⟨h.rb, h.ra, h.ro, fun z => ?_, fun x hx z hz => h.le x hx z hz.symm⟩
  have := h.mem z
  constructor
  · rintro (q | q | q)
    · exact (this.1 (.inl q)).symm
    · exact (this.1 (.inr (.inr q))).symm
    · exact (this.1 (.inr (.inl q))).symm
  · intro q
    rcases this.2 q.symm with q | q | q
    · exact .inl q
    · exact .inr (.inr q)
    · exact .inr (.inl q)
theorem Join.takeB {A B a b out : List Pr} {y : Pr} (h : Join A B a (y :: b) out) (ha : ∀ x ∈ a, lt y x ∨ y = x) : Join A B a b (push out y) := (h.swap.takeA ha).swap
theorem Join.done {A B out : List Pr} (h : Join A B [] [] out) : out = sortP (A ++ B) := by
  refine (sortP_eq h.ro fun x => ?_).symm
  rw [List.mem_append, ← h.mem x]; simp
/-- What stands ahead in a row in order. -/
theorem rise_head {x y : Pr} {l : List Pr} (h : Rise (x :: l)) (hy : lt y x ∨ y = x) : ∀ z ∈ x :: l, lt y z ∨ y = z := by
  obtain ⟨h1, _⟩ := rise_cons.1 h
  intro z hz
  rcases List.mem_cons.1 hz with e | hz
  · rw [e]; exact hy
  · rcases hy with hy | hy
    · exact .inl (lt_trans hy (h1 z hz))
    · rw [hy]; exact .inl (h1 z hz)

/-! ### what stands in a line -/
/-- A pair that is a piece of a line, not empty, which is one of some texts. -/
def Occ (T : List Txt) (L : Txt) (p : Pr) : Prop := ∃ i j : Nat, p = ((i : Int), (j : Int)) ∧ i < j ∧ j ≤ L.length ∧ (L.drop i).take (j - i) ∈ T
def occRow (T : List Txt) (L : Txt) (i k : Nat) : List Pr := ((List.range' (i + 1) k).filter fun j => decide ((L.drop i).take (j - i) ∈ T)).map fun (j : Nat) => ((i : Int), (j : Int))
def occTo (T : List Txt) (L : Txt) (n : Nat) : List Pr := (List.range n).flatMap fun i => occRow T L i (L.length - i)
def occ (T : List Txt) (L : Txt) : List Pr := occTo T L L.length
theorem mem_occRow {T : List Txt} {L : Txt} {i k : Nat} {p : Pr} : p ∈ occRow T L i k ↔ ∃ j : Nat, p = ((i : Int), (j : Int)) ∧ i < j ∧ j ≤ i + k ∧ (L.drop i).take (j - i) ∈ T := by
  unfold occRow
  simp only [List.mem_map, List.mem_filter, List.mem_range'_1, decide_eq_true_eq]
  constructor
  · rintro ⟨j, ⟨⟨h1, h2⟩, h3⟩, rfl⟩
    exact ⟨j, rfl, by omega, by omega, h3⟩
  · rintro ⟨j, rfl, h1, h2, h3⟩
    exact ⟨j, ⟨⟨by omega, by omega⟩, h3⟩, rfl⟩
theorem mem_occTo {T : List Txt} {L : Txt} {n : Nat} (hn : n ≤ L.length) {p : Pr} : p ∈ occTo T L n ↔ ∃ i j : Nat, p = ((i : Int), (j : Int)) ∧ i < n ∧ i < j ∧ j ≤ L.length ∧ (L.drop i).take (j - i) ∈ T := by
  unfold occTo
  simp only [List.mem_flatMap, List.mem_range, mem_occRow]
  constructor
  · rintro ⟨i, hi, j, rfl, h1, h2, h3⟩
    exact ⟨i, j, rfl, hi, h1, by omega, h3⟩
  · rintro ⟨i, j, rfl, hi, h1, h2, h3⟩
    exact ⟨i, hi, j, rfl, h1, by omega, h3⟩
theorem mem_occ {T : List Txt} {L : Txt} {p : Pr} : p ∈ occ T L ↔ Occ T L p := by
  rw [occ, mem_occTo (Nat.le_refl _)]
  constructor
  · rintro ⟨i, j, h1, _, h2, h3, h4⟩; exact ⟨i, j, h1, h2, h3, h4⟩
  · rintro ⟨i, j, h1, h2, h3, h4⟩; exact ⟨i, j, h1, by omega, h2, h3, h4⟩
theorem rise_occRow (T : List Txt) (L : Txt) (i k : Nat) : Rise (occRow T L i k) := by
  unfold occRow Rise
  rw [List.pairwise_map]
  refine List.Pairwise.filter _ ?_
  have : (List.range' (i + 1) k).Pairwise (· < ·) := List.pairwise_lt_range'
  exact this.imp fun h => .inr ⟨rfl, by simpa using h⟩
theorem occTo_succ (T : List Txt) (L : Txt) (n : Nat) : occTo T L (n + 1) = occTo T L n ++ occRow T L n (L.length - n) := by
  unfold occTo
  rw [List.range_succ, List.flatMap_append]; simp
theorem rise_occTo (T : List Txt) (L : Txt) : ∀ n, Rise (occTo T L n)
  | 0 => Rise.nil
  | n + 1 => by
    rw [occTo_succ]
    refine rise_app.2 ⟨rise_occTo T L n, rise_occRow T L n _, fun x hx y hy => ?_⟩
    obtain ⟨i, hi, h2⟩ := List.mem_flatMap.1 hx
    obtain ⟨j, rfl, _⟩ := mem_occRow.1 h2
    obtain ⟨k, rfl, _⟩ := mem_occRow.1 hy
    have := List.mem_range.1 hi
    exact .inl (by simp; omega)
theorem rise_occ (T : List Txt) (L : Txt) : Rise (occ T L) := rise_occTo T L _
theorem occ_ext {T T' : List Txt} {L : Txt} (h : ∀ x, x ≠ [] → (x ∈ T ↔ x ∈ T')) : occ T L = occ T' L :=
  rise_ext (rise_occ T L) (rise_occ T' L) fun p => by
    rw [mem_occ, mem_occ]
    constructor
    · rintro ⟨i, j, e, h1, h2, h3⟩
      refine ⟨i, j, e, h1, h2, (h _ fun e => ?_).1 h3⟩
      have := congrArg List.length e; rw [List.length_take, List.length_drop] at this; simp at this; omega
    · rintro ⟨i, j, e, h1, h2, h3⟩
      refine ⟨i, j, e, h1, h2, (h _ fun e => ?_).2 h3⟩
      have := congrArg List.length e; rw [List.length_take, List.length_drop] at this; simp at this; omega
/-- The pieces of a line's first bytes are those that end there. -/
theorem occ_take (T : List Txt) (L : Txt) (k : Nat) (hk : k ≤ L.length) : occ T (L.take k) = (occ T L).filter fun p => decide (p.2 ≤ (k : Int)) := by
  refine rise_ext (rise_occ T _) (List.Pairwise.filter _ (rise_occ T L)) fun p => ?_
  rw [List.mem_filter, mem_occ, mem_occ, decide_eq_true_eq]
  have key : ∀ i j : Nat, j ≤ k → ((L.take k).drop i).take (j - i) = (L.drop i).take (j - i) := by
    intro i j hj
    rw [List.drop_take, List.take_take]; congr 1; omega
  constructor
  · rintro ⟨i, j, rfl, h1, h2, h3⟩
    rw [List.length_take] at h2
    exact ⟨⟨i, j, rfl, h1, by omega, by rw [← key i j (by omega)]; exact h3⟩, by simp; omega⟩
  · rintro ⟨⟨i, j, rfl, h1, h2, h3⟩, h4⟩
    have h4 : j ≤ k := by simpa using h4
    exact ⟨i, j, rfl, h1, by rw [List.length_take]; omega, by rw [key i j h4]; exact h3⟩
theorem occRow_len (T : List Txt) (L : Txt) (i k : Nat) : (occRow T L i k).length ≤ k := by
  unfold occRow
  rw [List.length_map]
  exact Nat.le_trans (List.length_filter_le _ _) (by simp)
theorem occTo_len (T : List Txt) (L : Txt) : ∀ n, (occTo T L n).length ≤ n * L.length
  | 0 => by simp [occTo]
  | n + 1 => by
    rw [occTo_succ, List.length_append]
    have h1 := occTo_len T L n
    have h2 := occRow_len T L n (L.length - n)
    rw [Nat.succ_mul]; omega
end Seine.Sort
end
section
/- The plain law of package sparse: the state behind bytes, how many look-ups it takes, what ends there. No program, no memory. -/
set_option linter.unusedVariables false
namespace Seine.Sparse
open Seine.Trie Seine.Links Seine.Sort

/-- The longest end of a text that is a node's path. -/
def lng (P : List Txt) (t : Txt) : Txt := match firstN (fun n => decide (t.drop n ∈ P)) 0 t.length with | some n => t.drop n | none => []
theorem lng_spec {P : List Txt} (hT : Tree P) (t : Txt) : ∃ n, n ≤ t.length ∧ lng P t = t.drop n ∧ t.drop n ∈ P ∧ ∀ j, j < n → t.drop j ∉ P := by
  unfold lng
  cases h : firstN (fun n => decide (t.drop n ∈ P)) 0 t.length with
  | some n =>
    obtain ⟨_, h2, h3, h4⟩ := firstN_some h
    exact ⟨n, by omega, rfl, of_decide_eq_true h3, fun j hj => of_decide_eq_false (h4 j (Nat.zero_le _) hj)⟩
  | none =>
    refine ⟨t.length, Nat.le_refl _, by simp, by simp; exact hT.nil_mem, fun j hj => of_decide_eq_false (firstN_none h j (Nat.zero_le _) (by omega))⟩
theorem lng_eq {P : List Txt} (hT : Tree P) {t : Txt} {n : Nat} (h1 : n ≤ t.length) (h2 : t.drop n ∈ P) (h3 : ∀ j, j < n → t.drop j ∉ P) : lng P t = t.drop n := by
  obtain ⟨m, a, b, c, d⟩ := lng_spec hT t
  rcases Nat.lt_trichotomy m n with e | e | e
  · exact absurd c (h3 m e)
  · rw [b, e]
  · exact absurd h2 (d n e)
theorem lng_mem {P : List Txt} (hT : Tree P) (t : Txt) : lng P t ∈ P := by obtain ⟨n, _, b, c, _⟩ := lng_spec hT t; rw [b]; exact c
theorem lng_nil (P : List Txt) : lng P [] = [] := rfl
theorem lng_self {P : List Txt} (hT : Tree P) {t : Txt} (h : t ∈ P) : lng P t = t := by
  have := lng_eq hT (n := 0) (t := t) (Nat.zero_le _) (by simpa using h) (fun j hj => by omega)
  simpa using this
/-- A path that a text ends in is an end of its longest one. -/
theorem lng_end {P : List Txt} (hT : Tree P) {t : Txt} {k : Nat} (hk : k ≤ t.length) (h : t.drop k ∈ P) : ∃ j, j ≤ (lng P t).length ∧ (lng P t).drop j = t.drop k := by
  obtain ⟨n, a, b, c, d⟩ := lng_spec hT t
  rw [b]
  have hnk : n ≤ k := by
    rcases Nat.lt_or_ge k n with e | e
    · exact absurd h (d k e)
    · exact e
  exact ⟨k - n, by rw [List.length_drop]; omega, by rw [List.drop_drop, show n + (k - n) = k by omega]⟩
/-- The state behind a byte hangs on the state alone. -/
theorem lng_step {P : List Txt} (hT : Tree P) (t : Txt) (c : UInt8) : lng P (t ++ [c]) = lng P (lng P t ++ [c]) := by
  obtain ⟨m, a, b, hm, d⟩ := lng_spec hT (t ++ [c])
  rw [b]
  obtain ⟨n, a', b', hn, d'⟩ := lng_spec hT t
  rw [b']
  symm
  by_cases hml : m ≤ t.length
  · rw [snoc_drop hml] at hm ⊢
    have hnm : n ≤ m := by
      rcases Nat.lt_or_ge m n with e | e
      · exact absurd (up_snoc hT hm) (d' m e)
      · exact e
    have := lng_eq hT (t := t.drop n ++ [c]) (n := m - n) (by simp; omega) (by rw [snoc_drop (by rw [List.length_drop]; omega), List.drop_drop, show n + (m - n) = m by omega]; exact hm) (fun j hj => by
      rw [snoc_drop (by rw [List.length_drop]; omega), List.drop_drop, ← snoc_drop (by omega)]
      exact d _ (by omega))
    rw [this, snoc_drop (by rw [List.length_drop]; omega), List.drop_drop, show n + (m - n) = m by omega]
  · have hml2 : m = t.length + 1 := by simp at a; omega
    subst hml2
    have := lng_eq hT (t := t.drop n ++ [c]) (n := (t.drop n ++ [c]).length) (Nat.le_refl _) (by rw [List.drop_length]; exact hT.nil_mem) (fun j hj => by
      rw [List.length_append, List.length_drop, List.length_singleton] at hj
      rw [snoc_drop (by rw [List.length_drop]; omega), List.drop_drop, ← snoc_drop (by omega)]
      exact d _ (by omega))
    rw [this]
    simp
theorem lng_len {P : List Txt} (hT : Tree P) (t : Txt) : (lng P t).length ≤ t.length := by
  obtain ⟨n, a, b, _, _⟩ := lng_spec hT t
  rw [b, List.length_drop]; omega

/-- How many look-ups a byte takes, from a state. -/
def lookN (P : List Txt) (c : UInt8) : Nat → Txt → Nat
  | 0, _ => 1
  | f + 1, s => if s ++ [c] ∈ P then 1 else match failN P s with | some n => 1 + lookN P c f (s.drop n) | none => 1
def looks1 (P : List Txt) (s : Txt) (c : UInt8) : Nat := lookN P c s.length s
theorem lookN_more (P : List Txt) (c : UInt8) : ∀ (f g : Nat) (s : Txt), s.length ≤ f → s.length ≤ g → lookN P c f s = lookN P c g s
  | 0, 0, _, _, _ => rfl
  | 0, g + 1, s, h, _ => by
    have : s = [] := List.eq_nil_of_length_eq_zero (by omega)
    subst this
    simp [lookN, failN, firstN]
  | f + 1, 0, s, _, h => by
    have : s = [] := List.eq_nil_of_length_eq_zero (by omega)
    subst this
    simp [lookN, failN, firstN]
  | f + 1, g + 1, s, h, k => by
    unfold lookN
    split
    · rfl
    · cases hf : failN P s with
      | none => rfl
      | some n =>
        obtain ⟨h1, h2, _, _⟩ := failN_some hf
        simp only
        rw [lookN_more P c f g (s.drop n) (by rw [List.length_drop]; omega) (by rw [List.length_drop]; omega)]
theorem looks1_hit {P : List Txt} {s : Txt} {c : UInt8} (h : s ++ [c] ∈ P) : looks1 P s c = 1 := by
  unfold looks1
  cases hs : s.length with
  | zero => rfl
  | succ k => unfold lookN; rw [if_pos h]
theorem looks1_root {P : List Txt} (c : UInt8) : looks1 P [] c = 1 := rfl
theorem looks1_fall {P : List Txt} {s : Txt} {c : UInt8} {n : Nat} (h : s ++ [c] ∉ P) (hf : failN P s = some n) : looks1 P s c = 1 + looks1 P (s.drop n) c := by
  obtain ⟨h1, h2, _, _⟩ := failN_some hf
  unfold looks1
  obtain ⟨k, hk⟩ : ∃ k, s.length = k + 1 := ⟨s.length - 1, by omega⟩
  rw [hk, lookN, if_neg h, hf]
  simp only
  rw [lookN_more P c k (s.drop n).length (s.drop n) (by rw [List.length_drop]; omega) (Nat.le_refl _)]
theorem looks1_pos (P : List Txt) (s : Txt) (c : UInt8) : 1 ≤ looks1 P s c := by
  unfold looks1
  cases s.length with
  | zero => exact Nat.le_refl _
  | succ k => unfold lookN; split
              · exact Nat.le_refl _
              · split <;> omega
/-- The state behind a byte: on, or from where the state falls to, or the root. -/
theorem step_hit {P : List Txt} (hT : Tree P) {s : Txt} {c : UInt8} (h : s ++ [c] ∈ P) : lng P (s ++ [c]) = s ++ [c] := lng_self hT h
theorem step_root {P : List Txt} (hT : Tree P) {c : UInt8} (h : [c] ∉ P) : lng P [c] = [] := by
  have := lng_eq hT (t := [c]) (n := 1) (by simp) (by simp; exact hT.nil_mem) (fun j hj => by
    have : j = 0 := by omega
    subst this; simpa using h)
  simpa using this
theorem step_fall {P : List Txt} (hT : Tree P) {s : Txt} {c : UInt8} {n : Nat} (h : s ++ [c] ∉ P) (hf : failN P s = some n) : lng P (s ++ [c]) = lng P (s.drop n ++ [c]) := by
  obtain ⟨h1, h2, h3, h4⟩ := failN_some hf
  obtain ⟨m, a, b, hm, d⟩ := lng_spec hT (s ++ [c])
  have hnm : n ≤ m := by
    rcases Nat.lt_or_ge m n with e | e
    · rcases Nat.eq_zero_or_pos m with z | z
      · subst z; simp at hm; exact absurd hm h
      · rw [snoc_drop (by omega)] at hm
        exact absurd (up_snoc hT hm) (h4 m z e)
    · exact e
  rw [b, ← snoc_drop h2]
  symm
  have := lng_eq hT (t := (s ++ [c]).drop n) (n := m - n) (by rw [List.length_drop]; omega) (by rw [List.drop_drop, show n + (m - n) = m by omega]; exact hm) (fun j hj => by
    rw [List.drop_drop]; exact d _ (by omega))
  rw [this, List.drop_drop, show n + (m - n) = m by omega]
/-- Each look-up but one costs a byte of the path. -/
theorem looks1_cost {P : List Txt} (hT : Tree P) (c : UInt8) : ∀ (k : Nat) (s : Txt), s.length = k → looks1 P s c + (lng P (s ++ [c])).length ≤ s.length + 2 := by
  intro k
  induction k using Nat.strongRecOn with
  | _ k ih =>
    intro s hk
    by_cases h : s ++ [c] ∈ P
    · rw [looks1_hit h, step_hit hT h]; simp; omega
    · by_cases hs : s = []
      · subst hs
        rw [looks1_root, List.nil_append, step_root hT (by simpa using h)]; simp
      · obtain ⟨n, hf⟩ := fail_some hT hs
        obtain ⟨h1, h2, _, _⟩ := failN_some hf
        rw [looks1_fall h hf, step_fall hT h hf]
        have := ih (s.drop n).length (by rw [List.length_drop]; omega) (s.drop n) rfl
        rw [List.length_drop] at this
        omega

/-- How many look-ups a line's first bytes take. -/
def looksTo (P : List Txt) (L : Txt) : Nat → Nat
  | 0 => 0
  | i + 1 => looksTo P L i + looks1 P (lng P (L.take i)) (L.getD i 0)
theorem take_snoc' (L : Txt) (i : Nat) (h : i < L.length) : L.take (i + 1) = L.take i ++ [L.getD i 0] := by
  rw [List.take_succ_eq_append_getElem h, List.getD_eq_getElem?_getD, List.getElem?_eq_getElem h]; rfl
theorem looksTo_cost {P : List Txt} (hT : Tree P) (L : Txt) : ∀ i, i ≤ L.length → i ≤ looksTo P L i ∧ looksTo P L i + (lng P (L.take i)).length ≤ 2 * i
  | 0, _ => ⟨Nat.le_refl _, by simp [looksTo, lng_nil]⟩
  | i + 1, h => by
    obtain ⟨h1, h2⟩ := looksTo_cost hT L i (by omega)
    have h3 := looks1_pos P (lng P (L.take i)) (L.getD i 0)
    have h4 := looks1_cost hT (L.getD i 0) _ (lng P (L.take i)) rfl
    rw [take_snoc' L i (by omega), lng_step hT, looksTo]
    omega

/-! ### what is found -/
/-- The pieces that end behind a line's first bytes, by the state there. -/
def endsP (l : List Txt) (s : Txt) (i : Nat) : List Pr := (endsF l s).map fun n => ((i : Int) - n, (i : Int))
def hitsTo (P l : List Txt) (L : Txt) : Nat → List Pr
  | 0 => []
  | i + 1 => hitsTo P l L i ++ endsP l (lng P (L.take (i + 1))) (i + 1)
theorem mem_endsF {l : List Txt} {s : Txt} {n : Int} : n ∈ endsF l s ↔ ∃ k : Nat, k < s.length ∧ s.drop k ∈ l ∧ n = ((s.length - k : Nat) : Int) := by
  unfold endsF
  simp only [List.mem_map, List.mem_filter, List.mem_range, decide_eq_true_eq]
  constructor
  · rintro ⟨k, ⟨h1, h2⟩, rfl⟩; exact ⟨k, h1, h2, rfl⟩
  · rintro ⟨k, h1, h2, rfl⟩; exact ⟨k, ⟨h1, h2⟩, rfl⟩
theorem mem_endsP {P l : List Txt} (hT : Tree P) (hlP : ∀ x, x ∈ l → x ∈ P) {L : Txt} {i : Nat} (hi : i ≤ L.length) {p : Pr} : p ∈ endsP l (lng P (L.take i)) i ↔ ∃ k : Nat, p = ((k : Int), (i : Int)) ∧ k < i ∧ (L.drop k).take (i - k) ∈ l := by
  obtain ⟨n, a, b, c, d⟩ := lng_spec hT (L.take i)
  rw [List.length_take, Nat.min_eq_left hi] at a
  have hlen : (lng P (L.take i)).length = i - n := by rw [b, List.length_drop, List.length_take]; omega
  have key : ∀ k, (L.take i).drop k = (L.drop k).take (i - k) := fun k => by rw [List.drop_take]
  unfold endsP
  rw [List.mem_map]
  constructor
  · rintro ⟨z, hz, rfl⟩
    obtain ⟨k, h1, h2, rfl⟩ := mem_endsF.1 hz
    rw [hlen] at h1 ⊢
    rw [b, List.drop_drop, key] at h2
    exact ⟨n + k, by simp; omega, by omega, h2⟩
  · rintro ⟨k, rfl, h1, h2⟩
    rw [← key] at h2
    have hP := hlP _ h2
    have hnk : n ≤ k := by
      rcases Nat.lt_or_ge k n with e | e
      · exact absurd hP (d k e)
      · exact e
    refine ⟨((i - k : Nat) : Int), mem_endsF.2 ⟨k - n, by rw [hlen]; omega, by rw [b, List.drop_drop, show n + (k - n) = k by omega]; exact h2, by rw [hlen]; omega⟩, ?_⟩
    simp; omega
theorem mem_hitsTo {P l : List Txt} (hT : Tree P) (hlP : ∀ x, x ∈ l → x ∈ P) {L : Txt} : ∀ {i : Nat}, i ≤ L.length → ∀ {p : Pr}, p ∈ hitsTo P l L i ↔ ∃ k j : Nat, p = ((k : Int), (j : Int)) ∧ k < j ∧ j ≤ i ∧ (L.drop k).take (j - k) ∈ l
  | 0, _, p => by
    simp only [hitsTo, List.not_mem_nil, false_iff]
    rintro ⟨k, j, _, h1, h2, _⟩; omega
  | i + 1, h, p => by
    rw [hitsTo, List.mem_append, mem_hitsTo hT hlP (by omega), mem_endsP hT hlP h]
    constructor
    · rintro (⟨k, j, rfl, h1, h2, h3⟩ | ⟨k, rfl, h1, h2⟩)
      · exact ⟨k, j, rfl, h1, by omega, h3⟩
      · exact ⟨k, i + 1, rfl, h1, Nat.le_refl _, h2⟩
    · rintro ⟨k, j, rfl, h1, h2, h3⟩
      by_cases e : j = i + 1
      · subst e; exact .inr ⟨k, rfl, h1, h3⟩
      · exact .inl ⟨k, j, rfl, h1, by omega, h3⟩
theorem hits_occ {P l : List Txt} (hT : Tree P) (hlP : ∀ x, x ∈ l → x ∈ P) (L : Txt) : sortP (hitsTo P l L L.length) = occ l L :=
  sortP_eq (rise_occ l L) fun p => by
    rw [mem_hitsTo hT hlP (Nat.le_refl _), mem_occ]; rfl
theorem endsF_len (l : List Txt) (s : Txt) : (endsF l s).length ≤ s.length := by
  unfold endsF
  rw [List.length_map]
  exact Nat.le_trans (List.length_filter_le _ _) (by simp)
theorem hitsTo_len {P l : List Txt} (hT : Tree P) (L : Txt) (m : Nat) (hm : ∀ p ∈ P, p.length ≤ m) : ∀ i, (hitsTo P l L i).length ≤ i * m
  | 0 => by simp [hitsTo]
  | i + 1 => by
    rw [hitsTo, List.length_append]
    have h1 := hitsTo_len (l := l) hT L m hm i
    have h2 := endsF_len l (lng P (L.take (i + 1)))
    have h3 := hm _ (lng_mem hT (L.take (i + 1)))
    unfold endsP
    rw [List.length_map, Nat.succ_mul]; omega
end Seine.Sparse
end
section
/- The walks of package sparse: an automaton, its states. -/
set_option linter.unusedVariables false
set_option linter.unusedSimpArgs false
namespace Go.Proofs.Ytieelnpfpfiboaa
open Go.RowKit Go.Maps Seine.Trie Seine.Links
theorem TrieAt.keepOf {S : Nat → Prop} {w w' : World} {base g : Nat} {P : List Txt} {W : Txt → Int} (h : TrieAt w base g P W) (hk : Keeps S w w')
    (hS : ∀ b, S b → ∃ cs t fr, w.heap[b]? = some (.cells cs t fr) ∧ t ≠ 80 ∧ t ≠ 76) : TrieAt w' base g P W := by
  obtain ⟨v, mb, hg, h1, h2, ho, hm, hT⟩ := h
  have blk : ∀ b cs t fr, w.heap[b]? = some (.cells cs t fr) → (t = 80 ∨ t = 76) → ¬ S b := fun b cs t fr hb ht hs => by
    obtain ⟨cs', t', fr', h3, h4, h5⟩ := hS b hs
    rw [hb] at h3
    injection h3 with h3
    injection h3 with _ h3
    subst h3
    rcases ht with e | e
    · exact h4 e
    · exact h5 e
  refine ⟨v, mb, blk_keep hg hk (blk _ _ _ _ hg (.inl rfl)), h1, h2, own_keep ho hk (fun b c _ hb _ => blk _ _ _ _ hb (.inr rfl)), hm.keep hk (fun hs => ?_), hT⟩
  obtain ⟨es, cl, h4⟩ := hm.is_map
  obtain ⟨cs', t', fr', h3, _⟩ := hS mb hs
  rw [h4] at h3
  injection h3 with h3
  cases h3
theorem LinksAt.keepOf {S : Nat → Prop} {w w' : World} {base g : Nat} {P : List Txt} {F O U : Txt → Int} {o : List Txt} (h : LinksAt w base g P F O U o) (hk : Keeps S w w')
    (hS : ∀ b, S b → ∃ cs t fr, w.heap[b]? = some (.cells cs t fr) ∧ t ≠ 84 ∧ t ≠ 3) : LinksAt w' base g P F O U o := by
  obtain ⟨B, hg, h0, h1, h2, h3, h4, h5, h6, h7, h8⟩ := h
  have blk : ∀ b cs t fr, w.heap[b]? = some (.cells cs t fr) → (t = 84 ∨ t = 3) → ¬ S b := fun b cs t fr hb ht hs => by
    obtain ⟨cs', t', fr', k3, k4, k5⟩ := hS b hs
    rw [hb] at k3
    injection k3 with k3
    injection k3 with _ k3
    subst k3
    rcases ht with e | e
    · exact k4 e
    · exact k5 e
  exact ⟨B, blk_keep hg hk (blk _ _ _ _ hg (.inl rfl)), h0, own_keep h1 hk (fun b c _ hb _ => blk _ _ _ _ hb (.inr rfl)), own_keep h2 hk (fun b c _ hb _ => blk _ _ _ _ hb (.inr rfl)), own_keep h3 hk (fun b c _ hb _ => blk _ _ _ _ hb (.inr rfl)), h4, h5, h6, own_keep h7 hk (fun b c _ hb _ => blk _ _ _ _ hb (.inr rfl)), h8⟩
theorem onlyM_blk {w : World} {mo : Option Nat} {c : Cn} (hm : Mo w mo c) : ∀ b, OnlyM mo b → w.heap[b]? = some (.cells (cnCells c) 56 (0, 0)) := fun b h => hm b h
theorem TrieAt.keepM {w w' : World} {base g : Nat} {P : List Txt} {W : Txt → Int} {mo : Option Nat} {c : Cn} (h : TrieAt w base g P W) (hm : Mo w mo c) (hk : Keeps (OnlyM mo) w w') : TrieAt w' base g P W :=
  h.keepOf hk (fun b hb => ⟨_, _, _, onlyM_blk hm b hb, by decide, by decide⟩)
theorem LinksAt.keepM {w w' : World} {base g : Nat} {P : List Txt} {F O U : Txt → Int} {o : List Txt} {mo : Option Nat} {c : Cn} (h : LinksAt w base g P F O U o) (hm : Mo w mo c) (hk : Keeps (OnlyM mo) w w') : LinksAt w' base g P F O U o :=
  h.keepOf hk (fun b hb => ⟨_, _, _, onlyM_blk hm b hb, by decide, by decide⟩)
theorem own_cells {w : World} {base e size n b : Nat} {v : Value} {cs : List Value} (h : w.ownsRow base e size v n cs) (hb : some b = v.ownBlock) : ∃ c, w.heap[b]? = some (.cells c e (0, 0)) := by
  rcases h.2 with ⟨rfl, _⟩ | ⟨g, cap, cur, rfl, _, hh, _⟩
  · simp [Value.ownBlock] at hb
  · simp [Value.ownBlock] at hb; subst hb; exact ⟨_, hh⟩
theorem last_get {p : Txt} (h : 0 < p.length) : p.getD (p.length - 1) 0 = lastB p := by
  unfold lastB
  rw [List.getLast?_eq_getElem?, List.getD_eq_getElem?_getD]
theorem len_tot {l : List Txt} : ∀ b ∈ l, b.length ≤ tot l := by
  induction l with
  | nil => simp
  | cons x l ih =>
    intro b hb
    have e : tot (x :: l) = x.length + tot l := by simp [tot]
    rcases List.mem_cons.1 hb with rfl | hb
    · omega
    · have := ih b hb; omega
theorem path_tot {l : List Txt} {n : Nat} (h : tot l ≤ n) : ∀ p ∈ paths l, p.length ≤ n := fun p hp => by
  rcases mem_paths.1 hp with rfl | ⟨b, hb, k, hk, rfl⟩
  · simp
  · have := len_tot b hb; rw [List.length_take]; omega
/-- Where an automaton's parts lie. -/
structure SB where
  tb : Nat
  tg : Nat
  lb : Nat
  lg : Nat
  v : Value
def AutoIn (w : World) (g : Nat) (P l : List Txt) (B : SB) : Prop :=
  w.heap[g]? = some (.cells #[.pointer (some ⟨B.tg, 0, none⟩), .pointer (some ⟨B.lg, 0, none⟩), B.v] 63 (0, 0)) ∧ TrieAt w B.tb B.tg P (place l) ∧ LinksOf w B.lb B.lg P l ∧ w.ownsRow 0 66 3 B.v (P.length - 1) (rowCells P (P.length - 1))
def AutoAt (w : World) (g : Nat) (P l : List Txt) : Prop := ∃ B, AutoIn w g P l B
theorem AutoAt.below {w w' : World} {g : Nat} {P l : List Txt} (h : AutoAt w g P l) (hb : Below w.heap.size w w') : AutoAt w' g P l := by
  obtain ⟨B, h1, h2, h3, h4⟩ := h
  exact ⟨B, blkBelow hb h1, h2.below hb, LinksAt.below h3 hb, own_below h4 hb⟩
theorem AutoIn.keepM {w w' : World} {g : Nat} {P l : List Txt} {B : SB} {mo : Option Nat} {c : Cn} (h : AutoIn w g P l B) (hm : Mo w mo c) (hk : Keeps (OnlyM mo) w w') : AutoIn w' g P l B := by
  obtain ⟨h1, h2, h3, h4⟩ := h
  exact ⟨blk_keep h1 hk (hm.far h1 (.inl (by simp))), h2.keepM hm hk, LinksAt.keepM h3 hm hk, own_keep h4 hk (fun b c _ hb _ => hm.far hb (.inr (by decide)))⟩
theorem AutoAt.keepM {w w' : World} {g : Nat} {P l : List Txt} {mo : Option Nat} {c : Cn} (h : AutoAt w g P l) (hm : Mo w mo c) (hk : Keeps (OnlyM mo) w w') : AutoAt w' g P l := by
  obtain ⟨B, h⟩ := h
  exact ⟨B, h.keepM hm hk⟩
theorem info_row : (Try.prog.info? 66).map (fun i => (i.zero, i.size, i.bytes)) = some (some (.agg #[(.int .i64 0), (.int .u8 0), (.int .i64 0)]), 3, 24) := by kernel_rfl
/-- An automaton that is being made: k rows are there. -/
def AutoTo (w0 w : World) (g tg lg : Nat) (P : List Txt) (k : Nat) (v : Value) : Prop :=
  w.heap[g]? = some (.cells #[.pointer (some ⟨tg, 0, none⟩), .pointer (some ⟨lg, 0, none⟩), v] 63 (0, 0)) ∧ w.ownsRow w0.heap.size 66 3 v k (rowCells P k)
set_option maxRecDepth 100000 in
set_option maxHeartbeats 1600000 in
theorem snew_calls (w : World) (A : Option Addr) (c : Nat) (l : List Txt) (hx : Txts w A l) (hl : tot l ≤ 100000) (hll : l.length ≤ 1000000) :
    Calls Try.prog 13 #[.slice A l.length c] w fun e w' => ∃ g, e = .returned (.pointer (some ⟨g, 0, none⟩)) ∧ AutoAt w' g (paths l) l ∧ Below w.heap.size w w' := by
  have cb := As.mk (build_calls w A c l hx (by omega) hll)
  have hTr := As.mk (paths_tree l)
  have hPl := paths_len l
  have hlP := As.mk (fun x (hx : x ∈ l) => text_mem_paths hx)
  have hd : As (∀ p ∈ paths l, p.length ≤ 100000) := ⟨fun p hp => path_tot hl p hp⟩
  obtain ⟨P, hP⟩ : ∃ P, paths l = P := ⟨_, rfl⟩
  rw [hP] at cb hTr hPl hlP hd ⊢
  obtain ⟨n, hn⟩ : ∃ n, P.length = n := ⟨_, rfl⟩
  rw [hn] at hPl
  have hn0 := hTr.out.len
  rw [hn] at hn0
  replace hn := As.mk hn
  obtain ⟨i0, hi, hz0, hz1, hz2⟩ := info_parts info_row
  clear hx hP
  go_enter Try.func13, Try.ntmps13
  go_wp2_with fail
  refine Calls.mono cb.out ?_
  rintro e w1 ⟨tg, rfl, hT, hb1⟩
  have cl := As.mk (lbuild_calls w1 _ tg P l hT (by have := hn.out; omega) hd.out hlP.out)
  replace hT := As.mk hT
  replace hb1 := As.mk hb1
  go_wp2_with fail
  refine Calls.mono cl.out ?_
  rintro e w2 ⟨lg, rfl, hL, hb2⟩
  replace hT := As.mk (hT.out.below hb2)
  replace hL := As.mk hL
  have hB2 := As.mk (belowNext hb1.out hb2)
  have s2 := hB2.out.size
  have hT3 := As.mk (hT.out.below ((Below.refl _ _).alloc (Nat.le_refl _) (.cells #[.pointer (some ⟨tg, 0, none⟩), .pointer (some ⟨lg, 0, none⟩), .slice none 0 0] 63)))
  have hL3 := As.mk (LinksAt.below hL.out ((Below.refl _ _).alloc (Nat.le_refl _) (.cells #[.pointer (some ⟨tg, 0, none⟩), .pointer (some ⟨lg, 0, none⟩), .slice none 0 0] 63)))
  have hB3 := As.mk (hB2.out.alloc s2 (.cells #[.pointer (some ⟨tg, 0, none⟩), .pointer (some ⟨lg, 0, none⟩), .slice none 0 0] 63))
  have hA3 : As (AutoTo w (w2.alloc (.cells #[.pointer (some ⟨tg, 0, none⟩), .pointer (some ⟨lg, 0, none⟩), .slice none 0 0] 63)) w2.heap.size tg lg P 0 (.slice none 0 0)) := ⟨heap_alloc_new _ _, World.ownsRow_nil _ _ _ _⟩
  obtain ⟨gg, hgg⟩ : ∃ g, w2.heap.size = g := ⟨_, rfl⟩
  have hgw : w.heap.size ≤ gg := by omega
  clear hb2 hb1 cb cl hT hL
  go_wp2_with fail
  rw [hgg] at hA3
  go_loopg [5] (n + 1) (fun gk i wr => ∃ (k : Nat) (v : Value), As (n + 1 ≤ gk + k) ∧ 1 ≤ k ∧ k ≤ n ∧ i = .int .i64 k ∧ As (AutoTo w wr gg tg lg P (k - 1) v) ∧ As (TrieAt wr w.heap.size tg P (place l)) ∧ As (LinksOf wr w1.heap.size lg P l) ∧ As (Below w.heap.size w wr))
  case atStart => exact ⟨1, _, ⟨by omega⟩, Nat.le_refl _, by omega, rfl, hA3, hT3, hL3, hB3⟩
  case round =>
    obtain ⟨k, v, hgk, hk1, hk, rfl, hA, hT, hL, hbel⟩ := hrel
    have cN := As.mk (nodes_calls wr w.heap.size tg P (place l) hT.out)
    rw [hn.out] at cN
    by_cases hlt : k < n
    · obtain ⟨gp, rfl⟩ : ∃ gp, gk = gp + 1 := ⟨gk - 1, by have := hgk.out; omega⟩
      have hkn := As.mk hn.out
      have hkP : k < P.length := by rw [hn.out]; exact hlt
      obtain ⟨a, ea, haP, hap⟩ := parent_nat hTr.out hk1 hkP
      have hpa : pathF P (k : Int) = P.getD k [] := by unfold pathF; rw [if_pos (by omega), Int.toNat_natCast]
      have cp := As.mk (path_calls wr w.heap.size tg P (place l) hT.out (k : Int) hd.out)
      rw [hpa] at cp
      have hpl : 0 < (P.getD k []).length := List.length_pos_iff.2 (node_ne hTr.out hk1 hkP)
      have hpl2 := hd.out _ (List.mem_of_getElem? (get_at hkP))
      have hlast : (P.getD k []).getD ((P.getD k []).length - 1) 0 = lastB (P.getD k []) := last_get hpl
      have hrs := rowCells_succ P (k - 1)
      rw [show k - 1 + 1 = k by omega] at hrs
      unfold rowOf at hrs
      rw [ea] at hrs
      have hpar := As.mk (fun v (hv : TrieAt v w.heap.size tg P (place l)) => (by have := parent_calls v w.heap.size tg P (place l) hv (k : Int); unfold askF at this; rw [if_pos (by omega), Int.toNat_natCast, ea] at this; exact this : Calls Try.prog 30 #[.pointer (some ⟨tg, 0, none⟩), .int .i64 (k : Int)] v fun e w' => e = .returned (.int .i64 (a : Int)) ∧ v = w'))
      generalize lastB (P.getD k []) = x at *
      generalize P.getD k [] = p at *
      obtain ⟨pl, hpl3⟩ : ∃ m, p.length = m := ⟨_, rfl⟩
      rw [hpl3] at hpl hpl2 hlast
      replace hpl3 := As.mk hpl3
      replace hrs := As.mk hrs
      clear hap hpa hkP ea
      go_wp2_with (first
        | (go_at_call 28; refine Calls.mono cN.out ?_; rintro e w' ⟨rfl, rfl⟩)
        | (go_at_call 29; refine Calls.mono cp.out ?_; intro e w3 h3; obtain ⟨A3, c3, he, hc3, hr3, hb3⟩ := h3.rowc; subst he))
      obtain ⟨ad3, rfl, hx3⟩ := Byt.at_ hr3 (i := pl - 1) (by have := hpl3.out; omega)
      rw [hlast, hpl3.out] at *
      have hA3 : AutoTo w w3 gg tg lg P (k - 1) v := ⟨blkBelow hb3 hA.out.1, own_below hA.out.2 hb3⟩
      have hT3 := hT.out.below hb3
      have hL3 := LinksAt.below hL.out hb3
      have hbel3 := As.mk (belowNext hbel.out hb3)
      have s3 := hbel3.out.size
      obtain ⟨Av, cv, rfl, hcv⟩ := own_slice hA3.2
      have cpar := As.mk (hpar.out _ (hT3.below (Below.drew (Below.refl _ _))))
      have g2 : w3.cell? ⟨gg, 2, none⟩ = some (.slice Av (k - 1) cv) := cell_of_blk hA3.1 2
      have hgl := block_lt hA3.1
      have hfar : some gg ≠ (Value.slice Av (k - 1) cv).ownBlock := own_not_type hA3.2 hA3.1 (by decide)
      have hown2 := As.mk ((hA3.2.alloc (.cells #[.int .i64 (a : Int), .int .u8 (x.toNat : Int), .int .i64 (k : Int)] 66)).drew)
      have K1 := As.mk ((Below.cell (p := ⟨gg, 2, none⟩) ((Below.alloc (Below.refl w3.heap.size w3) (Nat.le_refl _) (.cells #[.int .i64 (a : Int), .int .u8 (x.toNat : Int), .int .i64 (k : Int)] 66)).drew) hgl).trans g2)
      have K2 := As.mk ((Below.frozen (p := ⟨gg, 2, none⟩) ((Below.alloc (Below.refl w3.heap.size w3) (Nat.le_refl _) (.cells #[.int .i64 (a : Int), .int .u8 (x.toNat : Int), .int .i64 (k : Int)] 66)).drew) hgl).trans (free_of_blk hA3.1 2))
      have hi1 : IntKind.i64.wrap ((pl : Int) - 1) = ((pl - 1 : Nat) : Int) := by simp only [IntKind.wrap, IntKind.signed, IntKind.bits]; simp; omega
      have hi2 : pl - 1 < pl := by omega
      have hA3' := As.mk hA3
      have hT3' := As.mk hT3
      have hL3' := As.mk hL3
      clear hr3 h3 hA3 hT3 hL3 hpar cp
      go_wp2_with fail
      go_region_law (first
        | (refine step_append_lies _ (by rfl) _ _ _ (by rfl) w.heap.size 66 i0 _ 3 24 Try.underlying61 hi hz0 hz1 hz2 rfl (by omega) (.slice Av (k - 1) cv) (k - 1) _ (by rfl) hown2.out
                 ⟨w3.heap.size, 0, none⟩ 1 1 [.int .i64 (a : Int), .int .u8 (x.toNat : Int), .int .i64 (k : Int)] (by rfl) (by rfl) (World.news_of_block (cs := #[.int .i64 (a : Int), .int .u8 (x.toNat : Int), .int .i64 (k : Int)]) (t := 66) (fr := (0, 0)) (heap_alloc_new w3 _)) (by simp [Value.oneCell'])
                 (by omega) (by unfold maxLen; omega) (by omega) (by simp; omega) (w3.heap.size + 1) (by simp) ?_
           intro g4 cap w4 hown4 hgrow hat hlt4
           have e0 := (hgrow.cell_far ⟨gg, 2, none⟩ (by show gg < _; simp; omega) hfar).trans K1.out
           have e1 := (hgrow.frozen_far ⟨gg, 2, none⟩ (by show gg < _; simp; omega) hfar).trans K2.out
           replace hgrow := As.mk hgrow
           replace hown4 := As.mk hown4)
        | (refine step_call_eq (by rfl) ?ho cpar.out ?_; (case ho => go_simp)))
      all_goals
        go_wp2_with fail
        have hkp : Keeps (fun q => some q = (Value.slice Av (k - 1) cv).ownBlock) w3 w4 := (Keeps.of_below (((Below.refl _ _).alloc (Nat.le_refl _) _).drew) _).trans ((Keeps.of_grown hgrow.out).mono (fun _ _ h => h))
        have hks5 := (hkp.mono (T := fun q => some q = (Value.slice Av (k - 1) cv).ownBlock ∨ q = gg) (fun _ _ h => .inl h)).trans ((keepsSt w4 ⟨gg, 2, none⟩ (.slice (some ⟨g4, 0, none⟩) (k - 1 + 1) cap)).mono (fun _ _ h => .inr h))
        have hSS : ∀ q, (some q = (Value.slice Av (k - 1) cv).ownBlock ∨ q = gg) → ∃ cs t fr, w3.heap[q]? = some (.cells cs t fr) ∧ (t = 66 ∨ t = 63) := fun q hq => by
          rcases hq with hq | rfl
          · obtain ⟨cs, h⟩ := own_cells hA3'.out.2 hq
            exact ⟨cs, _, _, h, .inl rfl⟩
          · exact ⟨_, _, _, hA3'.out.1, .inr rfl⟩
        have hT5 := hT3'.out.keepOf hks5 (fun q hq => by obtain ⟨cs, t, fr, h1, h2⟩ := hSS q hq; exact ⟨cs, t, fr, h1, by rcases h2 with rfl | rfl <;> decide, by rcases h2 with rfl | rfl <;> decide⟩)
        have hL5 := LinksAt.keepOf hL3'.out hks5 (fun q hq => by obtain ⟨cs, t, fr, h1, h2⟩ := hSS q hq; exact ⟨cs, t, fr, h1, by rcases h2 with rfl | rfl <;> decide, by rcases h2 with rfl | rfl <;> decide⟩)
        have hA4 := blk_keep hA3'.out.1 hkp hfar
        have hA5 : AutoTo w (w4.setCell ⟨gg, 2, none⟩ (.slice (some ⟨g4, 0, none⟩) (k - 1 + 1) cap)) gg tg lg P k (.slice (some ⟨g4, 0, none⟩) (k - 1 + 1) cap) := by
          refine ⟨?_, ?_⟩
          · have := blk_set hA4 2 (.slice (some ⟨g4, 0, none⟩) (k - 1 + 1) cap)
            rw [this]; simp
          · have h6 := hown4.out
            rw [← hrs.out] at h6
            have h7 := own_keep h6 (keepsSt w4 ⟨gg, 2, none⟩ (.slice (some ⟨g4, 0, none⟩) (k - 1 + 1) cap)) (fun b c' _ hb _ hS => by
              have hS : b = gg := hS
              subst hS
              rw [hA4] at hb
              injection hb with hb
              injection hb with _ hb
              exact absurd hb (by decide))
            rw [show k - 1 + 1 = k by omega] at h7 ⊢
            exact h7
        have hbel5 : Below w.heap.size w (w4.setCell ⟨gg, 2, none⟩ (.slice (some ⟨g4, 0, none⟩) (k - 1 + 1) cap)) :=
          hbel3.out.trans (hks5.below (fun q hq hS => by
            rcases hS with hS | hS
            · have := (own_blk hA3'.out.2 hS).1
              omega
            · omega) s3)
        rw [show k - 1 + 1 = k by omega] at hT5 hL5 hA5 hbel5
        go_roundg gp
        case rel => exact ⟨k + 1, _, ⟨by have := hgk.out; omega⟩, by omega, by omega, (by first | rfl | go_num | (congr 1; omega)), ⟨hA5⟩, ⟨hT5⟩, ⟨hL5⟩, ⟨hbel5⟩⟩
        case measure => omega
    · obtain rfl : k = n := by omega
      go_wp2_with (go_at_call 28; refine Calls.mono cN.out ?_; rintro e w' ⟨rfl, rfl⟩)
      go_ret
      refine ⟨gg, rfl, ⟨⟨w.heap.size, tg, w1.heap.size, lg, v⟩, hA.out.1, hT.out, hL.out, ?_⟩, hbel.out⟩
      rw [hn.out]
      exact own_base hA.out.2 (Nat.zero_le _)
end Go.Proofs.Ytieelnpfpfiboaa
end
section
/- The walks of package sparse: a state's path, a step. -/
set_option linter.unusedVariables false
set_option linter.unusedSimpArgs false
namespace Go.Proofs.Ytieelnpfpfiboaa
open Go.RowKit Go.Maps Seine.Trie Seine.Links Seine.Sparse
attribute [local go_sem high] max_two' max2_i
theorem sstates_calls (w : World) (g : Nat) (P l : List Txt) (h : AutoAt w g P l) : Calls Try.prog 20 #[.pointer (some ⟨g, 0, none⟩)] w fun e w' => e = .returned (.int .i64 (P.length : Int)) ∧ w = w' := by
  obtain ⟨B, h1, h2, h3, h4⟩ := h
  have cN := As.mk (nodes_calls w B.tb B.tg P (place l) h2)
  have c0 : w.cell? ⟨g, 0, none⟩ = some (.pointer (some ⟨B.tg, 0, none⟩)) := cell_of_blk h1 0
  clear h1 h2 h3 h4
  go_enter Try.func20, Try.ntmps20
  go_wp2_with (go_at_call 28; refine Calls.mono cN.out ?_; rintro e w' ⟨rfl, rfl⟩)
  go_ret
  exact ⟨rfl, rfl⟩
theorem sstates_none (w : World) : Calls Try.prog 20 #[.pointer none] w fun e w' => e = .returned (.int .i64 0) ∧ w = w' := by
  go_enter Try.func20, Try.ntmps20
  go_wp2
  go_ret
  exact ⟨rfl, rfl⟩
theorem spath_calls (w : World) (g : Nat) (P l : List Txt) (h : AutoAt w g P l) (n : Int) (hd : ∀ p ∈ P, p.length ≤ 100000) : Calls Try.prog 22 #[.pointer (some ⟨g, 0, none⟩), .int .i64 n] w (RetByt w (pathF P n)) := by
  obtain ⟨B, h1, h2, h3, h4⟩ := h
  have cN := As.mk (path_calls w B.tb B.tg P (place l) h2 n hd)
  have c0 : w.cell? ⟨g, 0, none⟩ = some (.pointer (some ⟨B.tg, 0, none⟩)) := cell_of_blk h1 0
  clear h1 h2 h3 h4
  go_enter Try.func22, Try.ntmps22
  go_wp2_with (go_at_call 29; refine Calls.mono cN.out ?_; intro e w1 h1; obtain ⟨v, he, ho, hb⟩ := h1.open_; subst he)
  go_ret
  exact ⟨_, rfl, ho, hb⟩
theorem spath_none (w : World) (n : Int) : Calls Try.prog 22 #[.pointer none, .int .i64 n] w (RetByt w []) := by
  go_enter Try.func22, Try.ntmps22
  go_wp2
  go_ret
  exact ⟨_, rfl, World.ownsRow_nil _ _ _ _, Below.refl _ _⟩
def Cn.looked (c : Cn) (n : Nat) : Cn := { c with l := c.l + (n : Int) }
theorem Cn.looked_zero (c : Cn) : c.looked 0 = c := by unfold Cn.looked; simp
theorem Cn.looked_one (c : Cn) : { c with l := c.l + 1 } = c.looked 1 := rfl
/-- Where a step stands: a shorter state, from which it ends where the first one does. -/
def StepAt (w0 : World) (g : Nat) (P l : List Txt) (mo : Option Nat) (cn : Cn) (s : Txt) (c : UInt8) (s' : Txt) (w : World) : Prop :=
  s' ∈ P ∧ lng P (s' ++ [c]) = lng P (s ++ [c]) ∧ ∃ d, looks1 P s c = d + looks1 P s' c ∧ Mo w mo (cn.looked d) ∧ Keeps (OnlyM mo) w0 w
theorem place_getD {P : List Txt} {s : Txt} (h : s ∈ P) : P.getD (place P s).toNat [] = s := by
  rw [List.getD_eq_getElem?_getD, place_get h]; rfl
theorem Cn.looked_looked (c : Cn) (a b : Nat) : (c.looked a).looked b = c.looked (a + b) := by
  unfold Cn.looked; simp only [Cn.mk.injEq, true_and, and_true]; push_cast; omega
set_option maxRecDepth 100000 in
set_option maxHeartbeats 3200000 in
theorem sstep_calls (w : World) (g eb : Nat) (P l : List Txt) (h : AutoAt w g P l) (mo : Option Nat) (ht : TabS w eb mo P) (cn : Cn) (hm : Mo w mo cn) (hT : Tree P) (hl : P.length ≤ 1000000) (s : Txt) (hs : s ∈ P) (c : UInt8)
    (hok : (cn.looked (looks1 P s c)).ok ∧ cn.ok) :
    Calls Try.prog 34 #[.pointer (some ⟨g, 0, none⟩), .pointer (some ⟨eb, 0, none⟩), .int .i64 (place P s), .int .u8 (c.toNat : Int)] w fun e w' =>
      e = .returned (.int .i64 (place P (lng P (s ++ [c])))) ∧ Mo w' mo (cn.looked (looks1 P s c)) ∧ Keeps (OnlyM mo) w w' := by
  have HA := As.mk h
  have HTab := As.mk ht
  have HM := As.mk hm
  have hTr := As.mk hT
  have hst0 : As (StepAt w g P l mo cn s c s w) := ⟨hs, rfl, 0, by omega, by unfold Cn.looked; simpa using hm, Keeps.refl _ _⟩
  clear h ht hm hT
  go_enter Try.func34, Try.ntmps34
  go_wp2_with fail
  refine wp_scope_jumps 0 (fun a' w' => ∃ (s' : Txt) (u9 u10 u11 u12 u13 u14 u15 u16 u17 u18 u19 u20 u21 u22 u23 u24 u25 u26 u27 : Value), a' = { tmps := #[.pointer (some ⟨g, 0, none⟩), .pointer (some ⟨eb, 0, none⟩), .int .i64 (place P s'), .int .u8 (c.toNat : Int), undef, undef, undef, undef, .int .i64 0, u9, u10, u11, u12, u13, u14, u15, u16, u17, u18, u19, u20, u21, u22, u23, u24, u25, u26, u27], defers := [] } ∧ As (StepAt w g P l mo cn s c s' w')) (fun a' _ => (P.getD (intOf (a'.tmps.getD 2 undef)).toNat []).length) rfl ?_ ?_
  · go_wp2_with fail
    go_step3
    obtain ⟨sp, hspe⟩ : ∃ x, x = s := ⟨_, rfl⟩
    subst hspe
    have hst := hst0
    obtain ⟨hsP, hlng, dl, hdl, hmo, hkp⟩ := hst.out
    obtain ⟨a, ea, ha⟩ := place_nat' hsP
    have hga : P.getD a [] = sp := by rw [List.getD_eq_getElem?_getD, ha]; rfl
    have hal := (List.getElem?_eq_some_iff.1 ha).1
    have hTb' := HTab.out.keep HM.out hkp
    have hAu' := HA.out.keepM HM.out hkp
    obtain ⟨B, h1, h2, h3, h4⟩ := hAu'
    have hlk := As.mk (mlook_calls _ eb mo P hTb' (cn.looked dl) hmo (by have := hok; have := looks1_pos P sp c; unfold Cn.ok Cn.looked at *; simp only at *; omega) a hal hl c)
    rw [hga] at hlk
    rw [ea]
    have hc1 : w.cell? ⟨g, 1, none⟩ = some (.pointer (some ⟨B.lg, 0, none⟩)) := cell_of_blk h1 1
    by_cases hq : sp ++ [c] ∈ P
    · obtain ⟨r, er, _⟩ := place_nat' hq
      have hres := As.mk (show place P (lng P (sp ++ [c])) = (r : Int) by rw [← hlng, step_hit hTr.out hq, er])
      have hlo := looks1_hit hq
      rw [er] at hlk
      have hn1 : decide ((r : Int) < 0) = false := decide_eq_false (by omega)
      have hmx : max (r : Int) 0 = (r : Int) := by omega
      have hdd := As.mk (show looks1 P sp c = dl + 1 by rw [hdl, hlo])
      replace hkp := As.mk hkp
      clear hst h1 h2 h3 h4 hTb' hlng hlo hq hmo
      go_wp2_with (go_at_call 47; refine Calls.mono hlk.out ?_; rintro e w4 ⟨rfl, hm4, hk4⟩; replace hm4 := As.mk hm4; replace hk4 := As.mk hk4)
      simp only [Exit.jump]
      go_ret
      exact ⟨ret_int hres.out.symm, by have hm5 := hm4.out; rw [Cn.looked_one, Cn.looked_looked] at hm5; rw [hdd.out]; exact hm5, hkp.out.trans hk4.out⟩
    · by_cases hs0 : sp = []
      · subst hs0
        have hres := As.mk (show place P (lng P ([] ++ [c])) = 0 by rw [← hlng, List.nil_append, step_root hTr.out (by simpa using hq), place_at hTr.out.nodup hTr.out.root]; rfl)
        have ha0 : a = 0 := by rw [place_at hTr.out.nodup hTr.out.root] at ea; omega
        subst ha0
        rw [place_none hq] at hlk
        have hdd := As.mk (show looks1 P [] c = dl + 1 by rw [hdl, looks1_root])
        replace hkp := As.mk hkp
        clear hst h1 h2 h3 h4 hTb' hlng hq hmo
        go_wp2_with (go_at_call 47; refine Calls.mono hlk.out ?_; rintro e w4 ⟨rfl, hm4, hk4⟩; replace hm4 := As.mk hm4; replace hk4 := As.mk hk4)
        simp only [Exit.jump]
        go_ret
        exact ⟨ret_int hres.out.symm, by have hm5 := hm4.out; rw [Cn.looked_one, Cn.looked_looked] at hm5; rw [hdd.out]; exact hm5, hkp.out.trans hk4.out⟩
      · obtain ⟨m, hf⟩ := fail_some hTr.out hs0
        obtain ⟨f1, f2, f3, f4⟩ := failN_some hf
        have hfall := looks1_fall hq hf
        have hlf := step_fall hTr.out hq hf
        have ha0 : 0 < a := by
          rcases Nat.eq_zero_or_pos a with z | z
          · subst z; rw [hTr.out.root] at ha; injection ha with ha; exact absurd ha.symm hs0
          · exact z
        have hff : failF P sp = place P (sp.drop m) := by unfold failF; rw [hf]
        have ha1 : decide (0 < (a : Int)) = true := decide_eq_true (by omega)
        rw [place_none hq] at hlk
        have hlen := As.mk (show (sp.drop m).length < sp.length by rw [List.length_drop]; omega)
        have hnxt := As.mk (fun w4 (hm4 : Mo w4 mo { cn.looked dl with l := (cn.looked dl).l + 1 }) (hk4 : Keeps (OnlyM mo) w w4) => (⟨f3, by rw [← hlf, hlng], dl + 1, by rw [hdl, hfall]; omega, by rw [Cn.looked_one, Cn.looked_looked] at hm4; exact hm4, hkp.trans hk4⟩ : StepAt w g P l mo cn sp c (sp.drop m) w4))
        have hfc := As.mk (fun w4 (hk4 : Keeps (OnlyM mo) w w4) => (by have := lfail_calls w4 B.lb B.lg P _ _ _ _ (LinksAt.keepM h3 hmo hk4) (a : Int); unfold askF at this; rw [if_pos (by omega), Int.toNat_natCast, hga, hff] at this; exact this : Calls Try.prog 48 #[.pointer (some ⟨B.lg, 0, none⟩), .int .i64 (a : Int)] w4 fun e w' => e = .returned (.int .i64 (place P (sp.drop m))) ∧ w4 = w'))
        have hgk := As.mk (fun w4 (hk4 : Keeps (OnlyM mo) w w4) => (blk_keep h1 hk4 (hmo.far h1 (.inl (by simp)))))
        generalize sp.drop m = s2 at *
        clear hst h1 h2 h3 h4 hTb' hlng hq hmo hf f4 hfall hlf hff
        go_wp2_with (first
          | (go_at_call 47; refine Calls.mono hlk.out ?_; rintro e w4 ⟨rfl, hm4, hk4⟩; have hg4 := cell_of_blk (hgk.out w4 hk4) 1; simp only [List.getElem?_toArray, List.getElem?_cons_succ, List.getElem?_cons_zero] at hg4)
          | (go_at_call 48; refine Calls.mono (hfc.out _ hk4) ?_; rintro e w5 ⟨rfl, rfl⟩))
        go_step3
        exact ⟨rfl, s2, _, _, _, _, _, _, _, _, _, _, _, _, _, _, _, _, _, _, _, rfl, ⟨hnxt.out _ hm4 hk4⟩⟩
  · rintro a' wr ⟨sp, u9, u10, u11, u12, u13, u14, u15, u16, u17, u18, u19, u20, u21, u22, u23, u24, u25, u26, u27, rfl, hst⟩
    obtain ⟨hsP, hlng, dl, hdl, hmo, hkp⟩ := hst.out
    obtain ⟨a, ea, ha⟩ := place_nat' hsP
    have hga : P.getD a [] = sp := by rw [List.getD_eq_getElem?_getD, ha]; rfl
    have hal := (List.getElem?_eq_some_iff.1 ha).1
    have hTb' := HTab.out.keep HM.out hkp
    have hAu' := HA.out.keepM HM.out hkp
    obtain ⟨B, h1, h2, h3, h4⟩ := hAu'
    have hlk := As.mk (mlook_calls _ eb mo P hTb' (cn.looked dl) hmo (by have := hok; have := looks1_pos P sp c; unfold Cn.ok Cn.looked at *; simp only at *; omega) a hal hl c)
    rw [hga] at hlk
    rw [ea]
    have hc1 : wr.cell? ⟨g, 1, none⟩ = some (.pointer (some ⟨B.lg, 0, none⟩)) := cell_of_blk h1 1
    by_cases hq : sp ++ [c] ∈ P
    · obtain ⟨r, er, _⟩ := place_nat' hq
      have hres := As.mk (show place P (lng P (s ++ [c])) = (r : Int) by rw [← hlng, step_hit hTr.out hq, er])
      have hlo := looks1_hit hq
      rw [er] at hlk
      have hn1 : decide ((r : Int) < 0) = false := decide_eq_false (by omega)
      have hmx : max (r : Int) 0 = (r : Int) := by omega
      have hdd := As.mk (show looks1 P s c = dl + 1 by rw [hdl, hlo])
      replace hkp := As.mk hkp
      clear hst h1 h2 h3 h4 hTb' hlng hlo hq hmo
      go_wp2_with (go_at_call 47; refine Calls.mono hlk.out ?_; rintro e w4 ⟨rfl, hm4, hk4⟩; replace hm4 := As.mk hm4; replace hk4 := As.mk hk4)
      simp only [Exit.jump]
      go_ret
      exact ⟨ret_int hres.out.symm, by have hm5 := hm4.out; rw [Cn.looked_one, Cn.looked_looked] at hm5; rw [hdd.out]; exact hm5, hkp.out.trans hk4.out⟩
    · by_cases hs0 : sp = []
      · subst hs0
        have hres := As.mk (show place P (lng P (s ++ [c])) = 0 by rw [← hlng, List.nil_append, step_root hTr.out (by simpa using hq), place_at hTr.out.nodup hTr.out.root]; rfl)
        have ha0 : a = 0 := by rw [place_at hTr.out.nodup hTr.out.root] at ea; omega
        subst ha0
        rw [place_none hq] at hlk
        have hdd := As.mk (show looks1 P s c = dl + 1 by rw [hdl, looks1_root])
        replace hkp := As.mk hkp
        clear hst h1 h2 h3 h4 hTb' hlng hq hmo
        go_wp2_with (go_at_call 47; refine Calls.mono hlk.out ?_; rintro e w4 ⟨rfl, hm4, hk4⟩; replace hm4 := As.mk hm4; replace hk4 := As.mk hk4)
        simp only [Exit.jump]
        go_ret
        exact ⟨ret_int hres.out.symm, by have hm5 := hm4.out; rw [Cn.looked_one, Cn.looked_looked] at hm5; rw [hdd.out]; exact hm5, hkp.out.trans hk4.out⟩
      · obtain ⟨m, hf⟩ := fail_some hTr.out hs0
        obtain ⟨f1, f2, f3, f4⟩ := failN_some hf
        have hfall := looks1_fall hq hf
        have hlf := step_fall hTr.out hq hf
        have ha0 : 0 < a := by
          rcases Nat.eq_zero_or_pos a with z | z
          · subst z; rw [hTr.out.root] at ha; injection ha with ha; exact absurd ha.symm hs0
          · exact z
        have hff : failF P sp = place P (sp.drop m) := by unfold failF; rw [hf]
        have ha1 : decide (0 < (a : Int)) = true := decide_eq_true (by omega)
        rw [place_none hq] at hlk
        have hlen := As.mk (show (sp.drop m).length < sp.length by rw [List.length_drop]; omega)
        have hnxt := As.mk (fun w4 (hm4 : Mo w4 mo { cn.looked dl with l := (cn.looked dl).l + 1 }) (hk4 : Keeps (OnlyM mo) wr w4) => (⟨f3, by rw [← hlf, hlng], dl + 1, by rw [hdl, hfall]; omega, by rw [Cn.looked_one, Cn.looked_looked] at hm4; exact hm4, hkp.trans hk4⟩ : StepAt w g P l mo cn s c (sp.drop m) w4))
        have hfc := As.mk (fun w4 (hk4 : Keeps (OnlyM mo) wr w4) => (by have := lfail_calls w4 B.lb B.lg P _ _ _ _ (LinksAt.keepM h3 hmo hk4) (a : Int); unfold askF at this; rw [if_pos (by omega), Int.toNat_natCast, hga, hff] at this; exact this : Calls Try.prog 48 #[.pointer (some ⟨B.lg, 0, none⟩), .int .i64 (a : Int)] w4 fun e w' => e = .returned (.int .i64 (place P (sp.drop m))) ∧ w4 = w'))
        have hgk := As.mk (fun w4 (hk4 : Keeps (OnlyM mo) wr w4) => (blk_keep h1 hk4 (hmo.far h1 (.inl (by simp)))))
        generalize sp.drop m = s2 at *
        clear hst h1 h2 h3 h4 hTb' hlng hq hmo hf f4 hfall hlf hff
        go_wp2_with (first
          | (go_at_call 47; refine Calls.mono hlk.out ?_; rintro e w4 ⟨rfl, hm4, hk4⟩; have hg4 := cell_of_blk (hgk.out w4 hk4) 1; simp only [List.getElem?_toArray, List.getElem?_cons_succ, List.getElem?_cons_zero] at hg4)
          | (go_at_call 48; refine Calls.mono (hfc.out _ hk4) ?_; rintro e w5 ⟨rfl, rfl⟩))
        go_step3
        exact ⟨rfl, ⟨s2, _, _, _, _, _, _, _, _, _, _, _, _, _, _, _, _, _, _, _, rfl, ⟨hnxt.out _ hm4 hk4⟩⟩, by show (P.getD (place P s2).toNat []).length < (P.getD ((a : Int)).toNat []).length; rw [Int.toNat_natCast, hga, place_getD f3]; exact hlen.out⟩
end Go.Proofs.Ytieelnpfpfiboaa
end
section
/- Words for lists of pairs, and the walk of the reference's 'Same'. -/
set_option linter.unusedVariables false
set_option linter.unusedSimpArgs false
namespace Go.Proofs.Ytieelnpfpfiboaa
open Go.RowKit
abbrev Pr := Int × Int

theorem info_pr : (Try.prog.info? 45).map (fun i => (i.zero, i.size, i.bytes)) = some (some (.agg #[(.int .i64 0), (.int .i64 0)]), 2, 16) := by kernel_rfl
def prCells (xs : List Pr) : List Value := xs.flatMap fun p => [.int .i64 p.1, .int .i64 p.2]
theorem prCells_length (xs : List Pr) : (prCells xs).length = xs.length * 2 := by
  induction xs with
  | nil => rfl
  | cons x xs ih => exact (congrArg (· + 2) ih).trans (by show _ = (xs.length + 1) * 2; omega)
theorem prCells_snoc (xs : List Pr) (p : Pr) : prCells (xs ++ [p]) = prCells xs ++ [.int .i64 p.1, .int .i64 p.2] := by simp [prCells]
theorem prCells_at (xs : List Pr) (i : Nat) (h : i < xs.length) : (prCells xs)[i * 2]? = some (.int .i64 (xs.getD i (0, 0)).1) ∧ (prCells xs)[i * 2 + 1]? = some (.int .i64 (xs.getD i (0, 0)).2) := by
  induction xs generalizing i with
  | nil => simp at h
  | cons x xs ih =>
    cases i with
    | zero => simp [prCells]
    | succ i =>
      have := ih i (by simpa using h)
      have e1 : (i + 1) * 2 = i * 2 + 2 := by omega
      have e2 : prCells (x :: xs) = .int .i64 x.1 :: .int .i64 x.2 :: prCells xs := rfl
      rw [e1, e2]
      simpa using this
/-- A slice of pairs. -/
abbrev Prs (w : World) (A : Option Addr) (xs : List Pr) : Prop := Row w A (prCells xs)
abbrev OwnPrs (w : World) (base : Nat) (v : Value) (xs : List Pr) : Prop := w.ownsRow base 45 2 v xs.length (prCells xs)
theorem Prs.at_ {w : World} {A : Option Addr} {xs : List Pr} (h : Prs w A xs) {i : Nat} (hi : i < xs.length) : ∃ ad, A = some ad ∧
    w.cell? (ad.add (i * 2)) = some (.int .i64 (xs.getD i (0, 0)).1) ∧ w.cell? ⟨(ad.add (i * 2)).block, (ad.add (i * 2)).off + 1, none⟩ = some (.int .i64 (xs.getD i (0, 0)).2) := by
  obtain ⟨h1, h2⟩ := prCells_at xs i hi
  rcases h with h | ⟨ad, hA, _, hc⟩
  · rw [h] at h1; simp at h1
  · exact ⟨ad, hA, hc _ _ h1, by rw [← Addr.add_field _ _ _ (by omega)]; exact hc _ _ h2⟩

theorem eqPr (d : Nat) (w : World) (x0 y0 : Int) (x1 y1 : Int) :
    (Op.equalIn (d + 2) 45 (.agg #[.int .i64 x0, .int .i64 x1]) (.agg #[.int .i64 y0, .int .i64 y1])).run Try.prog w = .ok (x0 == y0 && (x1 == y1)) w := by
  have h := field_eq (P := Try.prog) (d := d + 1) (w := w) (xs := #[.int .i64 x0, .int .i64 x1]) (ys := #[.int .i64 y0, .int .i64 y1]) (f := ⟨"Start", 3, 0, false, "", "", 0⟩) (by decide) (by go_simp; rfl) (by go_simp; rfl) (by go_simp; rfl)
    (field_eq (f := ⟨"End", 3, 1, false, "", "", 8⟩) (by decide) (by go_simp; rfl) (by go_simp; rfl) (by go_simp; rfl) fields_none)
  rw [Bool.and_true] at h
  exact struct_eq Try.underlying45 (by kernel_rfl) h

attribute [local go_sem high] eqPr

set_option maxHeartbeats 400000 in
theorem same_calls (A B : Option Addr) (c d : Nat) (xs ys : List Pr) (w : World) (hx : Prs w A xs) (hy : Prs w B ys) (hl : xs.length ≤ 1000000000) (hk : ys.length ≤ 1000000000) :
    Calls Try.prog 15 #[.slice A xs.length c, .slice B ys.length d] w fun e w' => e = .returned (.bool (decide (xs = ys))) ∧ ∃ n, w' = w.drewN n := by
  have hu25 := Try.underlying45
  have HX := As.mk hx
  have HY := As.mk hy
  clear hx hy
  obtain ⟨r, hr⟩ : ∃ r, decide (xs = ys) = r := ⟨_, rfl⟩
  rw [hr]
  have HR := As.mk hr
  clear hr
  by_cases hn : xs.length = ys.length
  · have h1 : ((xs.length : Int) != (ys.length : Int)) = false := by simp [hn]
    have hf := As.mk hn
    clear hn
    go_enter Try.func15, Try.ntmps15
    go_wp2
    go_loopw [5] (fun v wr => ∃ (k : Nat) (n : Nat), k ≤ xs.length ∧ v = .int .i64 k ∧ As (xs.take k = ys.take k) ∧ wr = w.drewN n) (fun v _ => xs.length - (intOf v).toNat)
    case atStart => exact ⟨0, 0, Nat.zero_le _, rfl, ⟨rfl⟩, rfl⟩
    case round =>
      obtain ⟨k, n, hk, rfl, ht, rfl⟩ := hrel
      by_cases hlt : k < xs.length
      · obtain ⟨ad, rfl, a1, a2⟩ := Prs.at_ HX.out hlt
        have hlt2 : k < ys.length := by have := hf.out; omega
        obtain ⟨bd, rfl, b1, b2⟩ := Prs.at_ HY.out hlt2
        have hts := As.mk (show xs.take (k + 1) = xs.take k ++ [xs.getD k (0, 0)] by rw [List.take_succ_eq_append_getElem hlt]; simp [hlt])
        have hty := As.mk (show ys.take (k + 1) = ys.take k ++ [ys.getD k (0, 0)] by rw [List.take_succ_eq_append_getElem hlt2]; simp [hlt2])
        by_cases heq : xs.getD k (0, 0) = ys.getD k (0, 0)
        · have e1 : (!((xs.getD k (0, 0)).1 == (ys.getD k (0, 0)).1) || !((xs.getD k (0, 0)).2 == (ys.getD k (0, 0)).2)) = false := by rw [heq]; simp
          have he := As.mk heq
          clear heq
          generalize xs.getD k (0, 0) = p at *
          generalize ys.getD k (0, 0) = q at *
          go_wp2
          go_quiet (fail)
          go_wp2
          go_roundw
          case rel => exact ⟨k + 1, _, by omega, by go_num, ⟨by rw [hts.out, hty.out, ht.out, he.out]⟩, rfl⟩
          case measure => simp [intOf]; omega
        · have e1 : (!((xs.getD k (0, 0)).1 == (ys.getD k (0, 0)).1) || !((xs.getD k (0, 0)).2 == (ys.getD k (0, 0)).2)) = true := by
            have := heq
            rw [Prod.ext_iff] at this
            simp only [Bool.or_eq_true, Bool.not_eq_true', beq_eq_false_iff_ne]
            omega
          have hne : As (decide (xs = ys) = false) := ⟨by simp only [decide_eq_false_iff_not]; rintro rfl; exact heq rfl⟩
          clear heq hts hty ht
          generalize xs.getD k (0, 0) = p at *
          generalize ys.getD k (0, 0) = q at *
          go_wp2
          go_quiet (fail)
          go_wp2
          go_ret
          exact ⟨ret_bool (hne.out.symm.trans HR.out), _, World.drewN_drewN ..⟩
      · have hfin : As (decide (xs = ys) = true) := ⟨by
          have h1 := ht.out; have h2 := hf.out
          rw [List.take_of_length_le (by omega), List.take_of_length_le (by omega)] at h1
          simpa using h1⟩
        go_wp2
        go_ret
        exact ⟨ret_bool (hfin.out.symm.trans HR.out), _, rfl⟩
  · have h1 : ((xs.length : Int) != (ys.length : Int)) = true := by simp; omega
    have h2 : decide (xs = ys) = false := by simp; rintro rfl; exact hn rfl
    obtain rfl : r = false := by rw [← HR.out, h2]
    clear hn h2
    go_enter Try.func15, Try.ntmps15
    go_wp2
    go_ret
    exact ⟨rfl, 0, rfl⟩


theorem OwnPrs.row {w : World} {base : Nat} {v : Value} {xs : List Pr} (h : OwnPrs w base v xs) : ∃ A c, v = .slice A xs.length c ∧ xs.length ≤ c ∧ Prs w A xs := by
  obtain ⟨A, c, rfl, hc⟩ := own_slice h
  exact ⟨A, c, rfl, hc, Row.of_own h⟩
theorem ownPrs_snoc {w : World} {base : Nat} {v : Value} {xs : List Pr} {s e : Int} (h : w.ownsRow base 45 2 v (xs.length + 1) (prCells xs ++ [.int .i64 s, .int .i64 e])) : OwnPrs w base v (xs ++ [(s, e)]) := by
  unfold OwnPrs
  rw [List.length_append, prCells_snoc]
  exact h
/-- Pairs in new memory. -/
def RetPrs (w : World) (xs : List Pr) (e : Ending) (w' : World) : Prop := ∃ v, e = .returned v ∧ OwnPrs w' w.heap.size v xs ∧ Below w.heap.size w w'
theorem RetPrs.row {w w' : World} {xs : List Pr} {e : Ending} (h : RetPrs w xs e w') : ∃ A c, e = .returned (.slice A xs.length c) ∧ xs.length ≤ c ∧ Prs w' A xs ∧ Below w.heap.size w w' := by
  obtain ⟨v, rfl, ho, hb⟩ := h
  obtain ⟨A, c, rfl, hc, hr⟩ := OwnPrs.row ho
  exact ⟨A, c, rfl, hc, hr, hb⟩
end Go.Proofs.Ytieelnpfpfiboaa
end
