/- Joined texts: SortPure, OneOcc, App, Maps, Meter, TrieWalk, TrieWalk2, MeterTab. -/
import Derived.Test.YtpkapgjpnkcffaaM1
import Derived.Test.YtpkapgjpnkcffaaM2
import Derived.ArgAppend
import Derived.Maps.OwnSet
import Derived.Maps.OwnOps
import Derived.Deep.QuietTactic
import Derived.BigQuiet
import Derived.Laws.StructEq
import Derived.WalkSpells
import Derived.Test.YtpkapgjpnkcffaaProg
import Derived.Deep.DeepCutAuto
import Derived.StillTailTactics
import Derived.Deep.AppendLies
import Derived.Deep.RegionLaw
import Derived.WalkMore
import Derived.ProofKit
import Derived.Laws.EntriesVeiled
section
/- Plain facts on lists of pairs in order, each once: putting in, joining two, what stands in a line. No program, no memory. -/
namespace Seine.Sort
open Seine.Trie
abbrev Pr := Int × Int
def lt (a b : Pr) : Prop := a.1 < b.1 ∨ (a.1 = b.1 ∧ a.2 < b.2)
instance : DecidableRel lt := fun a b => inferInstanceAs (Decidable (_ ∨ _))
theorem lt_trans {a b c : Pr} (h : lt a b) (k : lt b c) : lt a c := by unfold lt at *; omega
theorem lt_irr (a : Pr) : ¬ lt a a := by unfold lt; omega
theorem lt_tri (a b : Pr) : lt a b ∨ a = b ∨ lt b a := by
  obtain ⟨x, y⟩ := a
  obtain ⟨u, v⟩ := b
  simp only [lt, Prod.mk.injEq]
  omega
def Rise (l : List Pr) : Prop := l.Pairwise lt
theorem Rise.nil : Rise [] := List.Pairwise.nil
theorem rise_cons {x : Pr} {l : List Pr} : Rise (x :: l) ↔ (∀ y ∈ l, lt x y) ∧ Rise l := List.pairwise_cons
theorem rise_app {a b : List Pr} : Rise (a ++ b) ↔ Rise a ∧ Rise b ∧ ∀ x ∈ a, ∀ y ∈ b, lt x y := List.pairwise_append
/-- Two lists in order of the same things are one. -/
theorem rise_ext : ∀ {a b : List Pr}, Rise a → Rise b → (∀ x, x ∈ a ↔ x ∈ b) → a = b
  | [], [], _, _, _ => rfl
  | [], y :: b, _, _, h => by have := (h y).2 (by simp); simp at this
  | x :: a, [], _, _, h => by have := (h x).1 (by simp); simp at this
  | x :: a, y :: b, ha, hb, h => by
    obtain ⟨h1, ka⟩ := rise_cons.1 ha
    obtain ⟨h2, kb⟩ := rise_cons.1 hb
    have hxy : x = y := by
      have hx := (h x).1 (by simp)
      have hy := (h y).2 (by simp)
      rcases List.mem_cons.1 hx with e | e
      · exact e
      · rcases List.mem_cons.1 hy with f | f
        · exact f.symm
        · exact absurd (lt_trans (h1 y f) (h2 x e)) (lt_irr x)
    subst hxy
    have hz : ∀ z, z ∈ a ↔ z ∈ b := by
      intro z
      constructor
      · intro hz
        rcases List.mem_cons.1 ((h z).1 (List.mem_cons_of_mem _ hz)) with e | e
        · subst e; exact absurd (h1 _ hz) (lt_irr _)
        · exact e
      · intro hz
        rcases List.mem_cons.1 ((h z).2 (List.mem_cons_of_mem _ hz)) with e | e
        · subst e; exact absurd (h2 _ hz) (lt_irr _)
        · exact e
    rw [rise_ext ka kb hz]
/-- One thing more, in order, once. -/
def put : List Pr → Pr → List Pr
  | [], p => [p]
  | x :: l, p => if lt x p then x :: put l p else if x = p then x :: l else p :: x :: l
theorem mem_put {l : List Pr} {p x : Pr} : x ∈ put l p ↔ x ∈ l ∨ x = p := by
  induction l with
  | nil => simp [put]
  | cons y l ih =>
    unfold put
    by_cases h1 : lt y p
    · rw [if_pos h1]; simp only [List.mem_cons, ih]; exact or_assoc.symm
    · rw [if_neg h1]
      by_cases h2 : y = p
      · rw [if_pos h2]; subst h2
        constructor
        · exact .inl
        · rintro (h | rfl)
          · exact h
          · simp
      · rw [if_neg h2]; simp only [List.mem_cons]
        constructor
        · rintro (h | h | h)
          · exact .inr h
          · exact .inl (.inl h)
          · exact .inl (.inr h)
        · rintro ((h | h) | h)
          · exact .inr (.inl h)
          · exact .inr (.inr h)
          · exact .inl h
theorem rise_put {l : List Pr} {p : Pr} (h : Rise l) : Rise (put l p) := by
  induction l with
  | nil => simp [put, Rise]
  | cons y l ih =>
    obtain ⟨h1, h2⟩ := rise_cons.1 h
    unfold put
    by_cases k1 : lt y p
    · rw [if_pos k1]
      refine rise_cons.2 ⟨fun z hz => ?_, ih h2⟩
      rcases mem_put.1 hz with hz | rfl
      · exact h1 z hz
      · exact k1
    · rw [if_neg k1]
      by_cases k2 : y = p
      · rw [if_pos k2]; exact h
      · rw [if_neg k2]
        have hp : lt p y := by
          rcases lt_tri y p with e | e | e
          · exact absurd e k1
          · exact absurd e k2
          · exact e
        refine rise_cons.2 ⟨fun z hz => ?_, h⟩
        rcases List.mem_cons.1 hz with rfl | hz
        · exact hp
        · exact lt_trans hp (h1 z hz)
/-- In order, each once. -/
def sortP (l : List Pr) : List Pr := l.foldl put []
theorem foldl_put (l : List Pr) : ∀ (a : List Pr), Rise a → Rise (l.foldl put a) ∧ ∀ x, x ∈ l.foldl put a ↔ x ∈ a ∨ x ∈ l := by
  induction l with
  | nil => intro a h; exact ⟨h, fun x => by simp⟩
  | cons y l ih =>
    intro a h
    obtain ⟨h1, h2⟩ := ih (put a y) (rise_put h)
    refine ⟨h1, fun x => ?_⟩
    rw [List.foldl_cons, h2, mem_put, List.mem_cons, or_assoc]
theorem rise_sortP (l : List Pr) : Rise (sortP l) := (foldl_put l [] Rise.nil).1
theorem mem_sortP {l : List Pr} {x : Pr} : x ∈ sortP l ↔ x ∈ l := by rw [sortP, (foldl_put l [] Rise.nil).2]; simp
theorem sortP_ext {a b : List Pr} (h : ∀ x, x ∈ a ↔ x ∈ b) : sortP a = sortP b := rise_ext (rise_sortP a) (rise_sortP b) fun x => by rw [mem_sortP, mem_sortP, h]
theorem sortP_rise {a : List Pr} (h : Rise a) : sortP a = a := rise_ext (rise_sortP a) h fun x => mem_sortP
theorem sortP_eq {a b : List Pr} (hb : Rise b) (h : ∀ x, x ∈ a ↔ x ∈ b) : sortP a = b := (sortP_ext h).trans (sortP_rise hb)
theorem put_len (l : List Pr) (p : Pr) : (put l p).length ≤ l.length + 1 := by
  induction l with
  | nil => simp [put]
  | cons y l ih => unfold put; split <;> (try split) <;> simp <;> omega
theorem sortP_len (l : List Pr) : (sortP l).length ≤ l.length := by
  have : ∀ (l a : List Pr), (l.foldl put a).length ≤ a.length + l.length := by
    intro l
    induction l with
    | nil => intro a; simp
    | cons y l ih => intro a; rw [List.foldl_cons]; have := ih (put a y); have := put_len a y; simp; omega
  have := this l []
  simpa [sortP] using this
theorem sortP_short {l : List Pr} (h : l.length < 2) : sortP l = l := by
  match l, h with
  | [], _ => rfl
  | [x], _ => rfl
theorem sortP_split (l : List Pr) (m : Nat) : sortP (sortP (l.take m) ++ sortP (l.drop m)) = sortP l := by
  refine sortP_ext fun x => ?_
  rw [List.mem_append, mem_sortP, mem_sortP, ← List.mem_append, List.take_append_drop]

/-! ### two rows in order as one -/
def push (out : List Pr) (x : Pr) : List Pr := if out.getLast? = some x then out else out ++ [x]
theorem push_len (out : List Pr) (x : Pr) : (push out x).length ≤ out.length + 1 := by unfold push; split <;> simp
structure Join (A B a b out : List Pr) : Prop where
  ra : Rise a
  rb : Rise b
  ro : Rise out
  mem : ∀ z, (z ∈ out ∨ z ∈ a ∨ z ∈ b) ↔ (z ∈ A ∨ z ∈ B)
  le : ∀ x ∈ out, ∀ y, y ∈ a ∨ y ∈ b → lt x y ∨ x = y
theorem Join.start {A B : List Pr} (ha : Rise A) (hb : Rise B) : Join A B A B [] := ⟨ha, hb, Rise.nil, by simp, by simp⟩
theorem mem_push {out : List Pr} {x z : Pr} : z ∈ push out x ↔ z ∈ out ∨ z = x := by
  unfold push
  split
  · rename_i h
    have := List.mem_of_getLast? h
    constructor
    · exact .inl
    · rintro (h | rfl)
      · exact h
      · exact this
  · simp
theorem rise_push {out : List Pr} {x : Pr} (h : Rise out) (hx : ∀ o ∈ out, lt o x ∨ o = x) : Rise (push out x) := by
  unfold push
  split
  · exact h
  · rename_i hl
    refine rise_app.2 ⟨h, by simp [Rise], fun o ho y hy => ?_⟩
    rw [List.mem_singleton] at hy
    subst hy
    rcases hx o ho with e | e
    · exact e
    · subst e
      exfalso
      obtain ⟨pre, z, rfl⟩ : ∃ pre z, out = pre ++ [z] := ⟨out.dropLast, out.getLast (by intro e; rw [e] at ho; simp at ho), (List.dropLast_concat_getLast _).symm⟩
      rw [List.getLast?_concat] at hl
      have hz : z ≠ o := fun e => hl (by rw [e])
      obtain ⟨_, _, h3⟩ := rise_app.1 h
      have ho2 : o ∈ pre := by
        rcases List.mem_append.1 ho with e | e
        · exact e
        · rw [List.mem_singleton] at e; exact absurd e.symm hz
      have h4 := h3 o ho2 z (by simp)
      rcases hx z (by simp) with e | e
      · exact lt_irr _ (lt_trans h4 e)
      · exact hz e
theorem Join.takeA {A B a b out : List Pr} {x : Pr} (h : Join A B (x :: a) b out) (hb : ∀ y ∈ b, lt x y ∨ x = y) : Join A B a b (push out x) := by
  obtain ⟨h1, h2⟩ := rise_cons.1 h.ra
  refine ⟨h2, h.rb, rise_push h.ro fun o ho => h.le o ho x (.inl (by simp)), fun z => ?_, fun o ho y hy => ?_⟩
  · rw [← h.mem z, mem_push, List.mem_cons]
    constructor
    · rintro ((h | h) | h | h)
      · exact .inl h
      · exact .inr (.inl (.inl h))
      · exact .inr (.inl (.inr h))
      · exact .inr (.inr h)
    · rintro (h | (h | h) | h)
      · exact .inl (.inl h)
      · exact .inl (.inr h)
      · exact .inr (.inl h)
      · exact .inr (.inr h)
  · rcases mem_push.1 ho with ho | rfl
    · exact h.le o ho y (hy.imp (List.mem_cons_of_mem _) id)
    · rcases hy with hy | hy
      · exact .inl (h1 y hy)
      · exact hb y hy
theorem Join.swap {A B a b out : List Pr} (h : Join A B a b out) : Join B A b a out := by
  refine ⟨h.rb, h.ra, h.ro, fun z => ?_, fun x hx z hz => h.le x hx z hz.symm⟩
  have := h.mem z
  constructor
  · rintro (q | q | q)
    · exact (this.1 (.inl q)).symm
    · exact (this.1 (.inr (.inr q))).symm
    · exact (this.1 (.inr (.inl q))).symm
  · intro q
    rcases this.2 q.symm with q | q | q
    · exact .inl q
    · exact .inr (.inr q)
    · exact .inr (.inl q)
theorem Join.takeB {A B a b out : List Pr} {y : Pr} (h : Join A B a (y :: b) out) (ha : ∀ x ∈ a, lt y x ∨ y = x) : Join A B a b (push out y) := (h.swap.takeA ha).swap
theorem Join.done {A B out : List Pr} (h : Join A B [] [] out) : out = sortP (A ++ B) := by
  refine (sortP_eq h.ro fun x => ?_).symm
  rw [List.mem_append, ← h.mem x]; simp
/-- What stands ahead in a row in order. -/
theorem rise_head {x y : Pr} {l : List Pr} (h : Rise (x :: l)) (hy : lt y x ∨ y = x) : ∀ z ∈ x :: l, lt y z ∨ y = z := by
  obtain ⟨h1, _⟩ := rise_cons.1 h
  intro z hz
  rcases List.mem_cons.1 hz with e | hz
  · rw [e]; exact hy
  · rcases hy with hy | hy
    · exact .inl (lt_trans hy (h1 z hz))
    · rw [hy]; exact .inl (h1 z hz)

/-! ### what stands in a line -/
/-- A pair that is a piece of a line, not empty, which is one of some texts. -/
def Occ (T : List Txt) (L : Txt) (p : Pr) : Prop := ∃ i j : Nat, p = ((i : Int), (j : Int)) ∧ i < j ∧ j ≤ L.length ∧ (L.drop i).take (j - i) ∈ T
def occRow (T : List Txt) (L : Txt) (i k : Nat) : List Pr := ((List.range' (i + 1) k).filter fun j => decide ((L.drop i).take (j - i) ∈ T)).map fun (j : Nat) => ((i : Int), (j : Int))
def occTo (T : List Txt) (L : Txt) (n : Nat) : List Pr := (List.range n).flatMap fun i => occRow T L i (L.length - i)
def occ (T : List Txt) (L : Txt) : List Pr := occTo T L L.length
theorem mem_occRow {T : List Txt} {L : Txt} {i k : Nat} {p : Pr} : p ∈ occRow T L i k ↔ ∃ j : Nat, p = ((i : Int), (j : Int)) ∧ i < j ∧ j ≤ i + k ∧ (L.drop i).take (j - i) ∈ T := by
  unfold occRow
  simp only [List.mem_map, List.mem_filter, List.mem_range'_1, decide_eq_true_eq]
  constructor
  · rintro ⟨j, ⟨⟨h1, h2⟩, h3⟩, rfl⟩
    exact ⟨j, rfl, by omega, by omega, h3⟩
  · rintro ⟨j, rfl, h1, h2, h3⟩
    exact ⟨j, ⟨⟨by omega, by omega⟩, h3⟩, rfl⟩
theorem mem_occTo {T : List Txt} {L : Txt} {n : Nat} (hn : n ≤ L.length) {p : Pr} : p ∈ occTo T L n ↔ ∃ i j : Nat, p = ((i : Int), (j : Int)) ∧ i < n ∧ i < j ∧ j ≤ L.length ∧ (L.drop i).take (j - i) ∈ T := by
  unfold occTo
  simp only [List.mem_flatMap, List.mem_range, mem_occRow]
  constructor
  · rintro ⟨i, hi, j, rfl, h1, h2, h3⟩
    exact ⟨i, j, rfl, hi, h1, by omega, h3⟩
  · rintro ⟨i, j, rfl, hi, h1, h2, h3⟩
    exact ⟨i, hi, j, rfl, h1, by omega, h3⟩
theorem mem_occ {T : List Txt} {L : Txt} {p : Pr} : p ∈ occ T L ↔ Occ T L p := by
  rw [occ, mem_occTo (Nat.le_refl _)]
  constructor
  · rintro ⟨i, j, h1, _, h2, h3, h4⟩; exact ⟨i, j, h1, h2, h3, h4⟩
  · rintro ⟨i, j, h1, h2, h3, h4⟩; exact ⟨i, j, h1, by omega, h2, h3, h4⟩
theorem rise_occRow (T : List Txt) (L : Txt) (i k : Nat) : Rise (occRow T L i k) := by
  unfold occRow Rise
  rw [List.pairwise_map]
  refine List.Pairwise.filter _ ?_
  have : (List.range' (i + 1) k).Pairwise (· < ·) := List.pairwise_lt_range'
  exact this.imp fun h => .inr ⟨rfl, by simpa using h⟩
theorem occTo_succ (T : List Txt) (L : Txt) (n : Nat) : occTo T L (n + 1) = occTo T L n ++ occRow T L n (L.length - n) := by
  unfold occTo
  rw [List.range_succ, List.flatMap_append]; simp
theorem rise_occTo (T : List Txt) (L : Txt) : ∀ n, Rise (occTo T L n)
  | 0 => Rise.nil
  | n + 1 => by
    rw [occTo_succ]
    refine rise_app.2 ⟨rise_occTo T L n, rise_occRow T L n _, fun x hx y hy => ?_⟩
    obtain ⟨i, hi, h2⟩ := List.mem_flatMap.1 hx
    obtain ⟨j, rfl, _⟩ := mem_occRow.1 h2
    obtain ⟨k, rfl, _⟩ := mem_occRow.1 hy
    have := List.mem_range.1 hi
    exact .inl (by simp; omega)
theorem rise_occ (T : List Txt) (L : Txt) : Rise (occ T L) := rise_occTo T L _
theorem occ_ext {T T' : List Txt} {L : Txt} (h : ∀ x, x ≠ [] → (x ∈ T ↔ x ∈ T')) : occ T L = occ T' L :=
  rise_ext (rise_occ T L) (rise_occ T' L) fun p => by
    rw [mem_occ, mem_occ]
    constructor
    · rintro ⟨i, j, e, h1, h2, h3⟩
      refine ⟨i, j, e, h1, h2, (h _ fun e => ?_).1 h3⟩
      have := congrArg List.length e; rw [List.length_take, List.length_drop] at this; simp at this; omega
    · rintro ⟨i, j, e, h1, h2, h3⟩
      refine ⟨i, j, e, h1, h2, (h _ fun e => ?_).2 h3⟩
      have := congrArg List.length e; rw [List.length_take, List.length_drop] at this; simp at this; omega
/-- The pieces of a line's first bytes are those that end there. -/
theorem occ_take (T : List Txt) (L : Txt) (k : Nat) (hk : k ≤ L.length) : occ T (L.take k) = (occ T L).filter fun p => decide (p.2 ≤ (k : Int)) := by
  refine rise_ext (rise_occ T _) (List.Pairwise.filter _ (rise_occ T L)) fun p => ?_
  rw [List.mem_filter, mem_occ, mem_occ, decide_eq_true_eq]
  have key : ∀ i j : Nat, j ≤ k → ((L.take k).drop i).take (j - i) = (L.drop i).take (j - i) := by
    intro i j hj
    rw [List.drop_take, List.take_take]; congr 1; omega
  constructor
  · rintro ⟨i, j, rfl, h1, h2, h3⟩
    rw [List.length_take] at h2
    exact ⟨⟨i, j, rfl, h1, by omega, by rw [← key i j (by omega)]; exact h3⟩, by simp; omega⟩
  · rintro ⟨⟨i, j, rfl, h1, h2, h3⟩, h4⟩
    have h4 : j ≤ k := by simpa using h4
    exact ⟨i, j, rfl, h1, by rw [List.length_take]; omega, by rw [key i j h4]; exact h3⟩
theorem occRow_len (T : List Txt) (L : Txt) (i k : Nat) : (occRow T L i k).length ≤ k := by
  unfold occRow
  rw [List.length_map]
  exact Nat.le_trans (List.length_filter_le _ _) (by simp)
theorem occTo_len (T : List Txt) (L : Txt) : ∀ n, (occTo T L n).length ≤ n * L.length
  | 0 => by simp [occTo]
  | n + 1 => by
    rw [occTo_succ, List.length_append]
    have h1 := occTo_len T L n
    have h2 := occRow_len T L n (L.length - n)
    rw [Nat.succ_mul]; omega
end Seine.Sort
end
section
/- What one text's search finds is what stands in the line. -/
set_option linter.unusedVariables false
namespace Go.Proofs.Ytpkapgjpnkcffaa
open Go.RowKit Seine.Trie Seine.Two
open Seine.Sort (occ mem_occ Occ rise_ext rise_occ Rise lt)
theorem mem_occFrom {b l : Txt} {p : Pr} : p ∈ occFrom b l 0 ↔ ∃ i : Nat, p = ((i : Int), (i : Int) + (b.length : Int)) ∧ isAt b l i = true := by
  unfold occFrom
  rw [List.mem_map]
  constructor
  · rintro ⟨i, hi, rfl⟩
    exact ⟨i, rfl, (List.mem_filter.1 hi).2⟩
  · rintro ⟨i, rfl, h⟩
    have := isAt_le h
    exact ⟨i, List.mem_filter.2 ⟨by rw [List.mem_range'_1]; omega, h⟩, rfl⟩
theorem rise_occFrom (b l : Txt) : Rise (occFrom b l 0) := by
  unfold occFrom Rise
  rw [List.pairwise_map]
  refine List.Pairwise.filter _ ?_
  have : (List.range' 0 (l.length + 1 - 0)).Pairwise (· < ·) := List.pairwise_lt_range'
  exact this.imp fun h => by unfold lt; left; simpa using h
theorem occFrom_occ {b : Txt} (hb : 0 < b.length) (l : Txt) : occFrom b l 0 = occ [b] l := by
  refine rise_ext (rise_occFrom b l) (rise_occ _ _) fun p => ?_
  rw [mem_occFrom, mem_occ]
  unfold Occ
  constructor
  · rintro ⟨i, rfl, h⟩
    obtain ⟨h1, h2⟩ := of_decide_eq_true h
    refine ⟨i, i + b.length, by rw [Prod.mk.injEq]; exact ⟨rfl, by push_cast; rfl⟩, by omega, h1, ?_⟩
    rw [show i + b.length - i = b.length by omega, h2]; simp
  · rintro ⟨i, j, rfl, h1, h2, h3⟩
    rw [List.mem_singleton] at h3
    have hl : b.length = j - i := by
      rw [← h3, List.length_take, List.length_drop]; omega
    refine ⟨i, by rw [Prod.mk.injEq]; exact ⟨rfl, by omega⟩, decide_eq_true ⟨by omega, ?_⟩⟩
    rw [hl]; exact h3
end Go.Proofs.Ytpkapgjpnkcffaa
end
section
/- append of a slice's elements, whatever row they are. -/
set_option linter.unusedVariables false
namespace Go.Proofs.Ytpkapgjpnkcffaa
open Go.RowKit
theorem wpList_app0 {P : Program} {ops : Array Oper} {rest : List Oper} {o : Oper} {a : Act} {Q : Exit → Act → World → Prop} (w : World) (hgd : o.guard = none) (s x : Operand) (t : TypeId)
    (ho : o.op = .call { callee := .builtin .append, args := #[s, x], argTypes := #[t, t] })
    (e : TypeId) (i : TypeInfo) (ht : P.underlying t = some (.slice e)) (hi : P.info? e = some i)
    (A B : Option Addr) (n c d : Nat) (hs : a.eval s = .slice A n c) (hn : n ≤ c) (hx : a.eval x = .slice B 0 d)
    (h : wpList P ops Q rest (a.put o.dst (.slice A n c)) w) :
    wpList P ops Q (o :: rest) a w := by
  refine wpList_plain hgd fun K hK => ?_
  have hr : (Builtin.append_ #[t, t] o.type #[.slice A n c, .slice B 0 d]).run P w = .ok (.slice A n c) w := by
    have hfc : (Builtin.firstCells i.size 0 (.slice B 0 d)).run P w = .ok #[] w := by
      cases B with
      | none => rfl
      | some b => exact run_firstCells_some (P := P) w i.size 0 b 0 d [] (by simp) (by simp)
    cases A <;> simp [Builtin.append_, run_underlying ht, sizeOf, typeInfo, hi, Builtin.lenOf, hn, hfc, storeCells]
  unfold Oper.wp execOp
  simp only [ho, resolve, invoke, builtin, Sem.run_bind, Sem.run_pure, Result.andThen_ok, List.map_toArray, List.map_cons, List.map_nil, hs, hx, hr]
  exact hK _ _ h
theorem wpList_apps {P : Program} {ops : Array Oper} {rest : List Oper} {o : Oper} {a : Act} {Q : Exit → Act → World → Prop} (w : World) (hgd : o.guard = none) (s x : Operand) (t : TypeId)
    (ho : o.op = .call { callee := .builtin .append, args := #[s, x], argTypes := #[t, t] })
    (base : Nat) (e : TypeId) (z : Value) (size bytes : Nat) (ht : P.underlying t = some (.slice e)) (hi : (P.info? e).map (fun i => (i.zero, i.size, i.bytes)) = some (some z, size, bytes))
    (hzs : z.cells.size = size) (hsz : 0 < size)
    (v : Value) (n : Nat) (xs : List Value) (hs : a.eval s = v) (hown : w.ownsRow base e size v n xs)
    (A : Option Addr) (m c : Nat) (cs : List Value) (hrow : Row w A cs) (hl : cs.length = m * size) (h1 : ∀ u ∈ cs, u.oneCell' = true) (hx : a.eval x = .slice A m c)
    (hlen : n + m ≤ 1000000000000) (hby : bytes ≤ 100) (hbase : base ≤ w.heap.size)
    (h : ∀ v' w', w'.ownsRow base e size v' (n + m) (xs ++ cs) → Below base w w' → wpList P ops Q rest (a.put o.dst v') w') :
    wpList P ops Q (o :: rest) a w := by
  obtain ⟨i, hi, hz, hsize, hbytes⟩ := info_parts hi
  rcases hrow with rfl | ⟨ad, rfl, hlt, hc⟩
  · obtain rfl : m = 0 := by
      have hl : 0 = m * size := by simpa using hl
      rcases Nat.mul_eq_zero.1 hl.symm with h | h
      · exact h
      · omega
    obtain ⟨A0, c0, rfl, hc0⟩ := own_slice hown
    refine wpList_app0 w hgd s x t ho e i ht hi A0 A n c0 c hs hc0 hx ?_
    exact h _ _ (by simpa using hown) (Below.refl _ _)
  · refine wpList_append_own_at w hgd s x t ho base e i z size bytes ht hi hz hsize hbytes hzs hsz v n xs hs hown ad m c cs hx hl hc h1
      (by simp only [maxLen]; omega) ?_ hbase ?_
    · have : (n + m) * bytes ≤ (n + m) * 100 := Nat.mul_le_mul_left _ hby
      omega
    · intro v' w' h2 h3 _ h5
      refine h v' w' h2 ((Below.refl base w).grown h3 hbase (fun k hk => ?_))
      rcases hown.2 with ⟨rfl, _⟩ | ⟨g, cap, cur, rfl, hg, _⟩
      · simp [Value.ownBlock] at hk
      · simp [Value.ownBlock] at hk; omega
end Go.Proofs.Ytpkapgjpnkcffaa
end
section
/- A map of the call's own with whole numbers as elements, told as a function of its keys. -/
set_option linter.unusedVariables false
namespace Go.Proofs.Ytpkapgjpnkcffaa
open Go.RowKit Go.Maps

/-- Block b of w is a map that holds just f. -/
def MapIs (P : Program) (k e : TypeId) (w : World) (b n : Nat) (f : Value → Option Int) : Prop :=
  ∃ D : DataW Unit, w.ownsMap P k (plainElem P e) b n D ∧ IsMap D ∧ (∀ key kl, keyOf P k key = some kl → Maps.has D kl = (f key).isSome ∧ ∀ c, f key = some c → D.atKey kl (.lit (.int .i64 0)) = .lit (.int .i64 c))

section
variable {P : Program} {t k e : TypeId} {w w' : World} {b n : Nat} {f : Value → Option Int}
theorem MapIs.made (w : World) (P : Program) (k e : TypeId) : MapIs P k e (w.alloc (.map #[] 0)) w.heap.size 0 (fun _ => none) :=
  ⟨.map [], World.ownsMap_made _ _ _ _, isMap_empty, fun key kl h => ⟨rfl, by simp⟩⟩
theorem MapIs.lt (h : MapIs P k e w b n f) : b < w.heap.size := by obtain ⟨D, h, _⟩ := h; exact h.lt
theorem MapIs.kept {row : Option Nat} (h : MapIs P k e w b n f) (hg : w.grownBy w' row) (hne : some b ≠ row) : MapIs P k e w' b n f := by
  obtain ⟨D, h1, h2⟩ := h; exact ⟨D, h1.kept hg hne, h2⟩
theorem MapIs.keep {S : Nat → Prop} (h : MapIs P k e w b n f) (hk : Keeps S w w') (hS : ¬ S b) : MapIs P k e w' b n f := by
  obtain ⟨D, ⟨es, clock, hb, r⟩, h2⟩ := h
  exact ⟨D, ⟨es, clock, (hk.block b (block_lt hb) hS).trans hb, r⟩, h2⟩
theorem MapIs.below (h : MapIs P k e w b n f) (hb : Below w.heap.size w w') : MapIs P k e w' b n f := h.keep (Keeps.of_below hb (fun _ => False)) (fun h => h)
theorem MapIs.is_map (h : MapIs P k e w b n f) : ∃ es clock, w.heap[b]? = some (.map es clock) := by
  obtain ⟨D, ⟨es, clock, hb, r⟩, h2⟩ := h; exact ⟨es, clock, hb⟩
theorem MapIs.mono {n' : Nat} (h : MapIs P k e w b n f) (hn : n ≤ n') : MapIs P k e w b n' f := by
  obtain ⟨D, h1, h2⟩ := h; exact ⟨D, h1.mono hn, h2⟩

/-- A look-up, with ok. -/
theorem MapIs.look (h : MapIs P k e w b n f) (K : Keyed P k) (ht : P.underlying t = some (.map k e)) (he : P.underlying e = some (.int .i64)) (hz : (zeroValue e).run P w = .ok (.int .i64 0) w) {key : Value} {kl : Lit} (hkey : keyOf P k key = some kl) :
    (Instr.lookup t (.map (some b)) key true).run P w = .ok (.tuple #[.int .i64 ((f key).getD 0), .bool (f key).isSome]) w := by
  obtain ⟨D, h1, _, h2⟩ := h
  obtain ⟨v, ps, hrun, hv⟩ := h1.look_ok K ht hz (plainElem_int (H := Unit) he (by decide)) hkey
  obtain ⟨c, rfl, hc, hwc⟩ := plainElem_int_inv he hv
  have hc : D.atKey kl (.lit (.int .i64 0)) = .lit (.int .i64 c) := congrArg Prod.fst hc
  obtain ⟨a1, a2⟩ := h2 key kl hkey
  rw [hrun, a1]
  cases hf : f key with
  | none =>
    rw [hf] at a1
    have := atKey_of_not_has a1 (.lit (.int .i64 0))
    rw [hc] at this
    injection this with this
    injection this with _ this
    subst this; rfl
  | some d =>
    have := a2 d hf
    rw [hc] at this
    injection this with this
    injection this with _ this
    subst this; rfl

/-- A store. -/
theorem MapIs.put (h : MapIs P k e w b n f) (K : Keyed P k) (ht : P.underlying t = some (.map k e)) (he : P.underlying e = some (.int .i64)) (hn : n < maxLen) {key : Value} {kl : Lit} (hkey : keyOf P k key = some kl) {v : Int} (hv : (Lit.int .i64 v).wf = true) {f' : Value → Option Int} (hf1 : f' key = some v) (hf2 : ∀ x, x ≠ key → f' x = f x) :
    ∃ w', (Instr.mapUpdate t (.map (some b)) key (.int .i64 v)).run P w = .ok () w' ∧ MapIs P k e w' b (n + 1) f' ∧ w.grownBy w' (some b) := by
  obtain ⟨D, h1, hm, h2⟩ := h
  obtain ⟨w', hrun, r1, r2⟩ := h1.update K ht hn hkey (plainElem_int (H := Unit) he hv)
  refine ⟨w', hrun, ⟨_, r1, hm.put _ _, fun key' kl' hkey' => ?_⟩, r2⟩
  by_cases hx : key' = key
  · subst hx
    rw [hkey] at hkey'
    injection hkey' with hkey'
    subst hkey'
    rw [hf1]
    refine ⟨has_put_same hm (K.key hkey) _, fun c hc => ?_⟩
    injection hc with hc
    subst hc
    exact atKey_put_same hm (K.key hkey) _ _
  · rw [hf2 _ hx]
    have hne : kl' ≠ kl := fun hh => by subst hh; exact hx (K.inj hkey' hkey)
    rw [has_put_other hne, atKey_put_other hne]
    exact h2 key' kl' hkey'
end
end Go.Proofs.Ytpkapgjpnkcffaa
end
section
/- The walks of package meter: what counts, a text that is scanned. -/
set_option linter.unusedVariables false
set_option linter.unusedSimpArgs false
namespace Go.Proofs.Ytpkapgjpnkcffaa
open Go.RowKit Seine.Trie
/-- How often what was done. -/
structure Cn where
  s : Int
  l : Int
  h : Int
  m : Int
def Cn.zero : Cn := ⟨0, 0, 0, 0⟩
def Cn.ok (c : Cn) : Prop := 0 ≤ c.s ∧ c.s ≤ 1000000000000 ∧ 0 ≤ c.l ∧ c.l ≤ 1000000000000 ∧ 0 ≤ c.h ∧ c.h ≤ 1000000000000 ∧ 0 ≤ c.m ∧ c.m ≤ 1000000000000
def cnCells (c : Cn) : Array Value := #[.int .i64 c.s, .int .i64 c.l, .int .i64 c.h, .int .i64 c.m]
/-- Block g counts c. -/
def MtAt (w : World) (g : Nat) (c : Cn) : Prop := w.heap[g]? = some (.cells (cnCells c) 112 (0, 0))
/-- The meter, if there is one, counts c. -/
def Mo (w : World) (mo : Option Nat) (c : Cn) : Prop := ∀ g, mo = some g → MtAt w g c
def madr (mo : Option Nat) : Option Addr := mo.map fun g => ⟨g, 0, none⟩
def OnlyM (mo : Option Nat) (k : Nat) : Prop := mo = some k
theorem MtAt.below {w w' : World} {g : Nat} {c : Cn} (h : MtAt w g c) (hb : Below w.heap.size w w') : MtAt w' g c := (hb.block g (block_lt h)).trans h
theorem Mo.below {w w' : World} {mo : Option Nat} {c : Cn} (h : Mo w mo c) (hb : Below w.heap.size w w') : Mo w' mo c := fun g e => (h g e).below hb
theorem Mo.none_ (w : World) (c : Cn) : Mo w none c := fun g e => by cases e
theorem Mo.some_ {w : World} {g : Nat} {c : Cn} (h : MtAt w g c) : Mo w (some g) c := fun g' e => by injection e with e; subst e; exact h
/-- A block of another make is not the meter's. -/
theorem Mo.far {w : World} {mo : Option Nat} {c : Cn} (h : Mo w mo c) {b t : Nat} {cs : Array Value} {fr : Nat × Nat} (hb : w.heap[b]? = some (.cells cs t fr)) (hs : cs.size ≠ 4 ∨ t ≠ 112) : ¬ OnlyM mo b := fun e => by
  have := h b e
  unfold MtAt at this
  rw [hb] at this
  injection this with this
  injection this with e1 e2
  rcases hs with hs | hs
  · exact hs (by rw [e1]; rfl)
  · exact hs e2
theorem Mo.farMap {w : World} {mo : Option Nat} {c : Cn} (h : Mo w mo c) {b : Nat} {es : Array MapEntry} {cl : Nat} (hb : w.heap[b]? = some (.map es cl)) : ¬ OnlyM mo b := fun e => by
  have := h b e
  unfold MtAt at this
  rw [hb] at this
  injection this with this
  cases this
abbrev zeroCounts : Obj := .cells #[.int .i64 0, .int .i64 0, .int .i64 0, .int .i64 0] 99
theorem mcount_none (w : World) : Calls Try.prog 48 #[.pointer none] w fun e w' => e = .returned (.pointer (some ⟨w.heap.size, 0, none⟩)) ∧ w.alloc (.cells #[.int .i64 0, .int .i64 0, .int .i64 0, .int .i64 0] 99) = w' := by
  go_enter Try.func48, Try.ntmps48
  go_wp2
  go_ret
  exact ⟨rfl, rfl⟩
theorem mcount_some (w : World) (g : Nat) : Calls Try.prog 48 #[.pointer (some ⟨g, 0, none⟩)] w fun e w' => e = .returned (.pointer (some ⟨g, 0, none⟩)) ∧ w = w' := by
  go_enter Try.func48, Try.ntmps48
  go_wp2
  go_ret
  exact ⟨rfl, rfl⟩
theorem RetByt.rowg {w w' : World} {b : Txt} {e : Ending} (h : RetByt w b e w') : ∃ A c, e = .returned (.slice A b.length c) ∧ b.length ≤ c ∧ Byt w' A b ∧ (∀ ad, A = some ad → w.heap.size ≤ ad.block) ∧ Below w.heap.size w w' := by
  obtain ⟨v, rfl, ho, hb⟩ := h
  obtain ⟨A, c, rfl, hc, hr⟩ := ho.row
  refine ⟨A, c, rfl, hc, hr, fun ad e => ?_, hb⟩
  rcases own_addr ho with e' | ⟨g, e', hg⟩
  · rw [e] at e'; cases e'
  · rw [e] at e'
    injection e' with e'
    subst e'
    exact hg
/-- A text that is scanned through a meter. -/
def TextAt (w : World) (tb : Nat) (mo : Option Nat) (b : Txt) : Prop :=
  ∃ A c, w.heap[tb]? = some (.cells #[.pointer (madr mo), .slice A b.length c] 90 (0, 0)) ∧ Byt w A b ∧ ∀ ad, A = some ad → ¬ OnlyM mo ad.block
theorem TextAt.below {w w' : World} {tb : Nat} {mo : Option Nat} {b : Txt} (h : TextAt w tb mo b) (hb : Below w.heap.size w w') : TextAt w' tb mo b := by
  obtain ⟨A, c, h1, h2, h3⟩ := h
  exact ⟨A, c, (hb.block tb (block_lt h1)).trans h1, Row.below h2 hb, h3⟩
theorem TextAt.keep {w w' : World} {tb : Nat} {mo : Option Nat} {b : Txt} {c : Cn} (h : TextAt w tb mo b) (hm : Mo w mo c) (hk : Keeps (OnlyM mo) w w') : TextAt w' tb mo b := by
  obtain ⟨A, d, h1, h2, h3⟩ := h
  exact ⟨A, d, blk_keep h1 hk (hm.far h1 (.inl (by simp))), Row.keep h2 hk (fun ad e _ => h3 ad e), h3⟩
theorem cloneByt2_calls (w : World) (A : Option Addr) (c : Nat) (b : Txt) (h : Byt w A b) (hl : b.length ≤ 1000000) :
    Calls Try.prog 18 #[.slice A b.length c] w (RetByt w b) := by
  obtain ⟨n, hn⟩ : ∃ n, b.length = n := ⟨_, rfl⟩
  rw [hn] at hl ⊢
  replace hn := As.mk hn
  have H := As.mk h
  clear h
  cases A with
  | none =>
    have hl0 : b = [] := by
      rcases H.out with h | ⟨ad, e, _⟩
      · have := congrArg List.length h; rw [byCells_length] at this; exact List.eq_nil_of_length_eq_zero (by rw [List.length_nil] at this; omega)
      · cases e
    subst hl0
    have hnil : ∀ (w : World) (n c : Nat), (binOp .eql 22 (.slice none n c) (.slice none 0 0)).run Try.prog w = .ok (.bool true) w := fun w n c => Lib.run_eql_slice_nil w _ _ none n c 0 0 Try.underlying22
    go_enter Try.func18, Try.ntmps18
    go_wp2
    go_ret
    exact ⟨_, rfl, World.ownsRow_nil _ _ _ _, Below.refl _ _⟩
  | some ad =>
    have hown : As ((w.alloc (.cells #[] 5)).ownsRow w.heap.size 5 1 (.slice (some ⟨w.heap.size, 0, none⟩) 0 0) 0 []) := ⟨⟨rfl, .inr ⟨_, 0, #[], rfl, Nat.le_refl _, heap_alloc_new w _, Nat.le_refl _, Nat.zero_le _, rfl, rfl⟩⟩⟩
    have hrow := As.mk (Row.alloc H.out (.cells #[] 5))
    have hnl : As ((byCells b).length = n * 1) := ⟨by rw [byCells_length, hn.out, Nat.mul_one]⟩
    have hnil : ∀ (w : World) (a : Addr) (n c : Nat), (binOp .eql 22 (.slice (some a) n c) (.slice none 0 0)).run Try.prog w = .ok (.bool false) w := fun w a n c => Lib.run_eql_slice_nil w _ _ (some a) n c 0 0 Try.underlying22
    go_enter Try.func18, Try.ntmps18
    go_wp2_with (at_builtin
                 refine wpList_apps _ rfl (.tmp 5) (.tmp 6) 22 rfl w.heap.size 5 _ 1 1 Try.underlying22 info_u8 rfl (by decide) _ 0 [] rfl hown.out (some ad) n c (byCells b) hrow.out hnl.out byt_one2 rfl (by omega) (by decide) (by simp) ?_
                 intro v' w' h2 h3)
    go_ret
    exact ⟨v', rfl, by unfold OwnByt; rw [hn.out]; simpa using h2, ((Below.refl _ _).alloc (Nat.le_refl _) _).trans h3⟩
theorem mtext_calls (w : World) (mo : Option Nat) (cn : Cn) (hm : Mo w mo cn) (A : Option Addr) (c : Nat) (b : Txt) (h : Byt w A b) (hl : b.length ≤ 1000000) :
    Calls Try.prog 27 #[.pointer (madr mo), .slice A b.length c] w fun e w' => ∃ tb, e = .returned (.pointer (some ⟨tb, 0, none⟩)) ∧ TextAt w' tb mo b ∧ Below w.heap.size w w' := by
  have cc := As.mk (cloneByt2_calls w A c b h hl)
  have hmo := As.mk hm
  clear h hm
  go_enter Try.func27, Try.ntmps27
  go_wp2_with (go_at_call 18; refine Calls.mono cc.out ?_; intro e w1 h1; obtain ⟨A1, c1, he, hc1, hr1, hg1, hb⟩ := h1.rowg; subst he)
  go_ret
  refine ⟨_, rfl, ⟨A1, c1, heap_alloc_new _ _, Row.alloc hr1 _, fun ad e hk => ?_⟩, hb.alloc hb.size _⟩
  have h1 := block_lt (hmo.out _ hk)
  have h2 := hg1 ad e
  omega
theorem mlen_calls (w : World) (tb : Nat) (mo : Option Nat) (b : Txt) (h : TextAt w tb mo b) : Calls Try.prog 29 #[.pointer (some ⟨tb, 0, none⟩)] w fun e w' => e = .returned (.int .i64 (b.length : Int)) ∧ w = w' := by
  obtain ⟨A, c, h1, _, _⟩ := h
  have c1 : w.cell? ⟨tb, 1, none⟩ = some (.slice A b.length c) := cell_of_blk h1 1
  clear h1
  go_enter Try.func29, Try.ntmps29
  go_wp2
  go_ret
  exact ⟨rfl, rfl⟩
theorem mat_calls (w : World) (tb : Nat) (mo : Option Nat) (b : Txt) (h : TextAt w tb mo b) (cn : Cn) (hm : Mo w mo cn) (hok : cn.ok) (i : Nat) (hi : i < b.length) :
    Calls Try.prog 31 #[.pointer (some ⟨tb, 0, none⟩), .int .i64 (i : Int)] w fun e w' => e = .returned (.int .i64 ((b.getD i 0).toNat : Int)) ∧ Mo w' mo { cn with s := cn.s + 1 } ∧ Keeps (OnlyM mo) w w' := by
  have hlen := As.mk (mlen_calls w tb mo b h)
  have hk := As.mk (fun (w' : World) (k : Keeps (OnlyM mo) w w') => h.keep hm k)
  have hmo := As.mk hm
  obtain ⟨A, c, h1, h2, h3⟩ := h
  have c0 : w.cell? ⟨tb, 0, none⟩ = some (.pointer (madr mo)) := cell_of_blk h1 0
  have hlt := block_lt h1
  obtain ⟨s, l, hh, m⟩ := cn
  have hs1 : IntKind.i64.wrap (s + 1) = s + 1 := by have := hok.1; have := hok.2.1; simp only [IntKind.wrap, IntKind.signed, IntKind.bits] at *; simp; omega
  cases mo with
  | none =>
    have hB : Below w.heap.size w (w.alloc (.cells #[.int .i64 1, .int .i64 0, .int .i64 0, .int .i64 0] 99)) := (Below.refl _ _).alloc (Nat.le_refl _) _
    obtain ⟨ad, rfl, hc⟩ := Byt.at_ (Row.below h2 hB) hi
    have d1 := (hB.cell (p := ⟨tb, 1, none⟩) hlt).trans (cell_of_blk h1 1)
    unfold madr at c0
    simp only [Option.map_none, Option.map_some] at c0
    simp at d1
    generalize b.getD i 0 = x at *
    have hx : wrap64 (x.toNat : Int) = (x.toNat : Int) := by have := x.toNat_lt; unfold wrap64; omega
    generalize b.length = n at *
    clear h1 h2 h3 hk hmo hok
    go_enter Try.func31, Try.ntmps31
    go_wp2_with (first
      | (go_at_call 29; refine Calls.mono hlen.out ?_; rintro e w1 ⟨rfl, rfl⟩)
      | (go_at_call 48; refine Calls.mono (mcount_none _) ?_; rintro e w1 ⟨rfl, rfl⟩))
    go_ret
    exact ⟨ret_int hx, Mo.none_ _ _, Keeps.of_below hB _⟩
  | some g =>
    have hg := hmo.out g rfl
    have g0 : w.cell? ⟨g, 0, none⟩ = some (.int .i64 s) := cell_of_blk hg 0
    have f0 : w.frozen? ⟨g, 0, none⟩ = false := free_of_blk hg 0
    have hne : tb ≠ g := fun e => hmo.out.far h1 (.inl (by simp)) (by rw [e]; rfl)
    have hK : Keeps (OnlyM (some g)) w (w.setCell ⟨g, 0, none⟩ (.int .i64 (s + 1))) := (keepsSt w ⟨g, 0, none⟩ _).mono fun k _ e => by unfold OnlyM; exact congrArg some e.symm
    have hM : MtAt (w.setCell ⟨g, 0, none⟩ (.int .i64 (s + 1))) g ⟨s + 1, l, hh, m⟩ := by
      have := blk_set hg 0 (.int .i64 (s + 1))
      unfold MtAt
      rw [this]
      simp [cnCells]
    obtain ⟨A', c', k1, k2, _⟩ := hk.out _ hK
    have d1 : (w.setCell ⟨g, 0, none⟩ (.int .i64 (s + 1))).cell? ⟨tb, 1, none⟩ = some (.slice A' b.length c') := cell_of_blk k1 1
    obtain ⟨ad, rfl, hc⟩ := Byt.at_ k2 hi
    unfold madr at c0
    simp only [Option.map_none, Option.map_some] at c0
    generalize b.getD i 0 = x at *
    have hx : wrap64 (x.toNat : Int) = (x.toNat : Int) := by have := x.toNat_lt; unfold wrap64; omega
    generalize b.length = n at *
    replace hK := As.mk hK
    replace hM := As.mk hM
    clear h1 h2 h3 hk hmo hok k1 k2 hg
    go_enter Try.func31, Try.ntmps31
    go_wp2_with (first
      | (go_at_call 29; refine Calls.mono hlen.out ?_; rintro e w1 ⟨rfl, rfl⟩)
      | (go_at_call 48; refine Calls.mono (mcount_some _ _) ?_; rintro e w1 ⟨rfl, rfl⟩))
    go_ret
    exact ⟨ret_int hx, Mo.some_ hM.out, hK.out⟩
end Go.Proofs.Ytpkapgjpnkcffaa
end
section
/- The walks of package trie: a tree in memory, and what grows it. -/
set_option linter.unusedVariables false
set_option linter.unusedSimpArgs false
namespace Go.Proofs.Ytpkapgjpnkcffaa
open Go.RowKit Go.Maps Seine.Trie

theorem laidOut' : laidOutB Try.prog = true := by kernel_rfl
theorem edge_law : Keyed Try.prog 107 := Keyed.of_law (deep_law_laid laidOut' (m := 3) (by omega) (of_decide_eq_true (by kernel_rfl)) (by kernel_rfl) (by kernel_rfl))
theorem zero_int (w : World) : (zeroValue 3).run Try.prog w = .ok (.int .i64 0) w := by kernel_rfl
theorem edge_key (a : Int) (c : UInt8) (h0 : 0 ≤ a) (h1 : a ≤ 1000000000) : ∃ kl, keyOf Try.prog 107 (.agg #[.int .i64 a, .int .u8 (c.toNat : Int)]) = some kl := by
  have hc := c.toNat_lt
  have hs : Try.prog.types.size = (Try.prog.types.size - 1) + 1 := by decide +kernel
  have w1 : (Lit.int .i64 a).wf = true := by simp [Lit.wf, IntKind.min, IntKind.max, IntKind.signed, IntKind.bits]; omega
  have w2 : (Lit.int .u8 (c.toNat : Int)).wf = true := by simp [Lit.wf, IntKind.min, IntKind.max, IntKind.signed, IntKind.bits]; omega
  have hk : Try.prog.keyType 107 = true := by kernel_rfl
  have hf : (Value.agg #[.int .i64 a, .int .u8 (c.toNat : Int)]).formed Try.prog 107 = true := by
    simp only [Value.formed, Try.underlying107]; kernel_rfl
  unfold keyOf
  simp only [Try.underlying107, hk, hf, Bool.and_self, if_true]
  have h2 : Try.prog.keyLits (Try.prog.types.size + 1) 107 [.int .i64 a, .int .u8 (c.toNat : Int)] = some [.int .i64 a, .int .u8 (c.toNat : Int)] := by
    rw [hs]
    generalize Try.prog.types.size - 1 = n
    have c3 : Try.prog.cellsOf 3 = 1 := by kernel_rfl
    have c5 : Try.prog.cellsOf 5 = 1 := by kernel_rfl
    have c67 : Try.prog.cellsOf 107 = 2 := by kernel_rfl
    have k1 : Try.prog.keyLits (n + 1) 3 [.int .i64 a] = some [.int .i64 a] := by simp only [Program.keyLits, Try.underlying3, w1, and_self, if_true]
    have k2 : Try.prog.keyLits (n + 1) 5 [.int .u8 (c.toNat : Int)] = some [.int .u8 (c.toNat : Int)] := by simp only [Program.keyLits, Try.underlying5, w2, and_self, if_true]
    unfold Program.keyLits
    rw [Try.underlying107]
    simp [c67, c3, c5, k1, k2]
  simp only [Value.cells]
  show ∃ kl, Option.map _ (Try.prog.keyLits (Try.prog.types.size + 1) 107 [.int .i64 a, .int .u8 (c.toNat : Int)]) = some kl
  rw [h2]
  exact ⟨_, rfl⟩

def tnode (P : List Txt) (W : Txt → Int) (p : Txt) : List Value := [.int .i64 (parent P p), .int .i64 p.length, .int .i64 (W p), .int .u8 ((lastB p).toNat : Int)]
def nodeCells (P : List Txt) (W : Txt → Int) : List Value := P.flatMap (tnode P W)
/-- where an edge leads -/
def edgeF (P : List Txt) : Value → Option Int
  | .agg ⟨[.int .i64 a, .int .u8 c]⟩ => if 0 ≤ a ∧ a < P.length ∧ 0 ≤ c ∧ c < 256 ∧ 0 ≤ place P (P.getD a.toNat [] ++ [UInt8.ofNat c.toNat]) then some (place P (P.getD a.toNat [] ++ [UInt8.ofNat c.toNat])) else none
  | _ => none
theorem getD_app (P m : List Txt) {i : Nat} (h : i < P.length) : (P ++ m).getD i [] = P.getD i [] := by
  rw [List.getD_eq_getElem?_getD, List.getElem?_append_left h, ← List.getD_eq_getElem?_getD]
theorem ofNat_toNat (c : UInt8) : UInt8.ofNat ((c.toNat : Int)).toNat = c := by simp
theorem edgeF_at (P : List Txt) (a : Nat) (c : UInt8) (ha : a < P.length) : edgeF P (.agg #[.int .i64 (a : Int), .int .u8 (c.toNat : Int)]) = if P.getD a [] ++ [c] ∈ P then some (place P (P.getD a [] ++ [c])) else none := by
  have hc := c.toNat_lt
  unfold edgeF
  simp only [Int.toNat_natCast, UInt8.ofNat_toNat]
  by_cases h : P.getD a [] ++ [c] ∈ P
  · rw [if_pos h, if_pos ⟨by omega, by omega, by omega, by omega, place_mem.2 h⟩]
  · rw [if_neg h, if_neg (fun hh => h (place_mem.1 hh.2.2.2.2))]
theorem edgeF_new {P : List Txt} (hT : Tree P) {a : Nat} {c : UInt8} (ha : a < P.length) (hq : P.getD a [] ++ [c] ∉ P) : edgeF (P ++ [P.getD a [] ++ [c]]) (.agg #[.int .i64 (a : Int), .int .u8 (c.toNat : Int)]) = some (P.length : Int) := by
  have e : (P ++ [P.getD a [] ++ [c]]).getD a [] = P.getD a [] := getD_app _ _ ha
  rw [edgeF_at _ a c (by simp; omega), e, if_pos (by simp), place_snoc, if_neg hq, if_pos rfl]
theorem edgeF_old {P : List Txt} (hT : Tree P) {a : Nat} {c : UInt8} (ha : a < P.length) (hq : P.getD a [] ++ [c] ∉ P) (x : Value) (hx : x ≠ .agg #[.int .i64 (a : Int), .int .u8 (c.toNat : Int)]) :
    edgeF (P ++ [P.getD a [] ++ [c]]) x = edgeF P x := by
  unfold edgeF
  split
  · rename_i b d
    by_cases hr : 0 ≤ b ∧ 0 ≤ d ∧ d < 256
    · obtain ⟨hb0, hd0, hd1⟩ := hr
      by_cases hbl : b < P.length
      · have e : (P ++ [P.getD a [] ++ [c]]).getD b.toNat [] = P.getD b.toNat [] := getD_app _ _ (by omega)
        have hpl : place (P ++ [P.getD a [] ++ [c]]) (P.getD b.toNat [] ++ [UInt8.ofNat d.toNat]) = place P (P.getD b.toNat [] ++ [UInt8.ofNat d.toNat]) := by
          rw [place_snoc]
          split
          · rfl
          · rename_i hn
            rw [if_neg, place_none hn]
            intro he
            have h1 := List.append_inj' he rfl
            have hba : b.toNat = a := by
              have p1 := place_at hT.nodup (i := a) (s := P.getD a []) (by simp [List.getD_eq_getElem?_getD, ha])
              have p2 := place_at hT.nodup (i := b.toNat) (s := P.getD b.toNat []) (by simp [List.getD_eq_getElem?_getD, show b.toNat < P.length by omega])
              rw [h1.1, p2] at p1; omega
            have hdc : c = UInt8.ofNat d.toNat := by simpa using h1.2
            apply hx
            have : (c.toNat : Int) = d := by
              rw [hdc]; simp; omega
            rw [this, ← hba, Int.toNat_of_nonneg hb0]
        rw [e, hpl]
        have : b < (P ++ [P.getD a [] ++ [c]]).length := by simp; omega
        simp only [hbl, this]
      · have hno : ∀ h : 0 ≤ b ∧ b < ((P ++ [P.getD a [] ++ [c]]).length : Int) ∧ 0 ≤ d ∧ d < 256 ∧ 0 ≤ place (P ++ [P.getD a [] ++ [c]]) ((P ++ [P.getD a [] ++ [c]]).getD b.toNat [] ++ [UInt8.ofNat d.toNat]), False := by
         intro h
         have hbeq : b.toNat = P.length := by have := h.2.1; simp at this; omega
         have e : (P ++ [P.getD a [] ++ [c]]).getD b.toNat [] = P.getD a [] ++ [c] := by rw [hbeq]; simp
         have hm := place_mem.1 h.2.2.2.2
         rw [e] at hm
         simp only [List.mem_append, List.mem_singleton] at hm
         rcases hm with hm | hm
         · have := hT.up _ hm (by simp)
           rw [List.dropLast_concat] at this
           exact hq this
         · have := congrArg List.length hm; simp at this
        rw [if_neg hno, if_neg (fun h => hbl h.2.1)]
    · rw [if_neg (fun h => hr ⟨h.1, h.2.2.1, h.2.2.2.1⟩), if_neg (fun h => hr ⟨h.1, h.2.2.1, h.2.2.2.1⟩)]
  · rfl

theorem nodeCells_length (P : List Txt) (W : Txt → Int) : (nodeCells P W).length = P.length * 4 := by
  unfold nodeCells
  have : ∀ Q : List Txt, (Q.flatMap (tnode P W)).length = Q.length * 4 := by
    intro Q
    induction Q with
    | nil => rfl
    | cons x Q ih => rw [List.flatMap_cons, List.length_append, ih]; simp only [tnode, List.length_cons, List.length_nil]; omega
  exact this P
theorem flat4_at : ∀ (Q : List Txt) (f : Txt → List Value), (∀ x, (f x).length = 4) → ∀ i x, Q[i]? = some x → ∀ j, j < 4 → (Q.flatMap f)[i * 4 + j]? = (f x)[j]?
  | [], _, _, i, x, h, _, _ => by simp at h
  | y :: Q, f, hf, i, x, h, j, hj => by
    rw [List.flatMap_cons]
    cases i with
    | zero =>
      simp at h; subst h
      rw [Nat.zero_mul, Nat.zero_add, List.getElem?_append_left (by rw [hf]; exact hj)]
    | succ i =>
      have := flat4_at Q f hf i x (by simpa using h) j hj
      rw [List.getElem?_append_right (by rw [hf]; omega), hf, show (i + 1) * 4 + j - 4 = i * 4 + j by omega]
      exact this
theorem nodeCells_at (P : List Txt) (W : Txt → Int) {i : Nat} {x : Txt} (h : P[i]? = some x) (j : Nat) (hj : j < 4) : (nodeCells P W)[i * 4 + j]? = (tnode P W x)[j]? := flat4_at P (tnode P W) (fun _ => rfl) i x h j hj
theorem fm_congr {α β : Type} {f g : α → List β} : ∀ {l : List α}, (∀ x ∈ l, f x = g x) → l.flatMap f = l.flatMap g
  | [], _ => rfl
  | x :: l, h => by rw [List.flatMap_cons, List.flatMap_cons, h x (by simp), fm_congr (fun y hy => h y (by simp [hy]))]
theorem nodeCells_put {P : List Txt} (hT : Tree P) (W : Txt → Int) (q : Txt) : nodeCells (P ++ [q]) W = nodeCells P W ++ tnode (P ++ [q]) W q := by
  unfold nodeCells
  rw [List.flatMap_append]
  congr 1
  · apply fm_congr
    intro p hp
    unfold tnode parent
    split
    · rfl
    · rename_i hne
      rw [place_append (hT.up p hp hne)]

/-- The tree of the beginnings P, whose words are W, at block g; all of it from block base on. -/
def TrieAt (w : World) (base g : Nat) (P : List Txt) (W : Txt → Int) : Prop :=
  ∃ v mb, w.heap[g]? = some (.cells #[v, .map (some mb)] 81 (0, 0)) ∧ base ≤ g ∧ base ≤ mb ∧ w.ownsRow base 77 4 v P.length (nodeCells P W) ∧
    MapIs Try.prog 107 3 w mb P.length (edgeF P) ∧ Tree P

theorem keeps_set (w : World) (p : Addr) (u : Value) : Keeps (fun k => k = p.block) w (w.setCell p u) := ⟨rfl, rfl, rfl, by simp [World.setCell], fun k _ hk => Below.heap_setCell _ _ _ _ hk⟩
/-- A block of the call's own rows is a row of cells: no map, and no block of another type. -/
theorem own_not_map {w : World} {base e size n b : Nat} {v : Value} {cs : List Value} {es : Array MapEntry} {cl : Nat} (h : w.ownsRow base e size v n cs) (hm : w.heap[b]? = some (.map es cl)) : some b ≠ v.ownBlock := fun hb => by
  rcases h.2 with ⟨rfl, _⟩ | ⟨g, cap, cur, rfl, _, hh, _⟩
  · simp [Value.ownBlock] at hb
  · simp [Value.ownBlock] at hb
    subst hb
    rw [hh] at hm; cases hm
theorem own_not_type {w : World} {base e size n b t : Nat} {v : Value} {cs : List Value} {c : Array Value} {fr : Nat × Nat} (h : w.ownsRow base e size v n cs) (hm : w.heap[b]? = some (.cells c t fr)) (hne : e ≠ t) : some b ≠ v.ownBlock := fun hb => by
  rcases h.2 with ⟨rfl, _⟩ | ⟨g, cap, cur, rfl, _, hh, _⟩
  · simp [Value.ownBlock] at hb
  · simp [Value.ownBlock] at hb
    subst hb
    rw [hh] at hm
    injection hm with hm
    injection hm with _ hm
    exact hne hm
theorem info_node : (Try.prog.info? 77).map (fun i => (i.zero, i.size, i.bytes)) = some (some (.agg #[(.int .i64 0), (.int .i64 0), (.int .i64 0), (.int .u8 0)]), 4, 32) := by kernel_rfl

set_option maxRecDepth 100000 in
set_option maxHeartbeats 1600000 in
theorem grow_calls (w : World) (base g : Nat) (P : List Txt) (W : Txt → Int) (a : Nat) (pa : Txt) (c : UInt8) (ht : TrieAt w base g P W) (hPa : P[a]? = some pa) (hl : P.length ≤ 1000000) (hd : pa.length ≤ 1000000) (hW : pa ++ [c] ∉ P → W (pa ++ [c]) = -1) :
    Calls Try.prog 38 #[.pointer (some ⟨g, 0, none⟩), .int .i64 (a : Int), .int .u8 (c.toNat : Int)] w fun e w' =>
      e = .returned (.int .i64 (place (addPath P (pa ++ [c])) (pa ++ [c]))) ∧ TrieAt w' base g (addPath P (pa ++ [c])) W ∧ Below base w w' := by
  obtain ⟨v, mb, hg, hbg, hbm, hown, hmap, hT⟩ := ht
  have ha : a < P.length := (List.getElem?_eq_some_iff.1 hPa).1
  have hgd : P.getD a [] = pa := by rw [List.getD_eq_getElem?_getD, hPa]; rfl
  have hg := As.mk hg
  have hown := As.mk hown
  have hmap := As.mk hmap
  have hT := As.mk hT
  have hlt : g < w.heap.size := block_lt hg.out
  have c0 : w.cell? ⟨g, 0, none⟩ = some v := cell_of_blk hg.out 0
  have c1 : w.cell? ⟨g, 1, none⟩ = some (.map (some mb)) := cell_of_blk hg.out 1
  obtain ⟨kl, hkey⟩ := edge_key (a : Int) c (by omega) (by omega)
  have hkey := As.mk hkey
  have hat := As.mk (edgeF_at P a c ha)
  have hfn : As (pa ++ [c] ∉ P → edgeF (P ++ [pa ++ [c]]) (.agg #[.int .i64 (a : Int), .int .u8 (c.toNat : Int)]) = some (P.length : Int)) := ⟨fun h => by have := edgeF_new (c := c) hT.out ha; rw [hgd] at this; exact this h⟩
  have hfo : As (pa ++ [c] ∉ P → ∀ x, x ≠ .agg #[.int .i64 (a : Int), .int .u8 (c.toNat : Int)] → edgeF (P ++ [pa ++ [c]]) x = edgeF P x) := ⟨fun h => by have := edgeF_old (c := c) hT.out ha; rw [hgd] at this; exact this h⟩
  rw [hgd] at hat
  clear hgd
  by_cases hq : pa ++ [c] ∈ P
  · have hadd : As (addPath P (pa ++ [c]) = P) := ⟨if_pos hq⟩
    rw [hadd.out]
    rw [if_pos hq] at hat
    have hlk : ∀ nq, (Instr.lookup 79 (.map (some mb)) (.agg #[.int .i64 (a : Int), .int .u8 (c.toNat : Int)]) true).run Try.prog ((w.alloc (.cells #[.int .i64 (a : Int), .int .u8 (c.toNat : Int)] 107)).drewN nq) =
        .ok (.tuple #[.int .i64 (place P (pa ++ [c])), .bool true]) ((w.alloc (.cells #[.int .i64 (a : Int), .int .u8 (c.toNat : Int)] 107)).drewN nq) := fun nq => by
      have := MapIs.look (w := (w.alloc (.cells #[.int .i64 (a : Int), .int .u8 (c.toNat : Int)] 107)).drewN nq) (hmap.out.below (below_drewN ((Below.refl _ _).alloc (Nat.le_refl _) _) nq)) edge_law Try.underlying79 Try.underlying3 (zero_int _) hkey.out
      rw [hat.out] at this
      exact this
    generalize place P (pa ++ [c]) = r at *
    clear hadd hq hW hfn hfo hPa
    go_enter Try.func38, Try.ntmps38
    go_wp2
    go_quiet (fail)
    go_wp2
    go_ret
    refine ⟨rfl, ⟨v, mb, blk_old hg.out, hbg, hbm, hown.out.alloc _, hmap.out.below (below_drewN ((Below.refl _ _).alloc (Nat.le_refl _) _) _), hT.out⟩, below_drewN ((Below.refl _ _).alloc (by omega) _) _⟩
  · have hW := hW hq
    have hadd : As (addPath P (pa ++ [c]) = P ++ [pa ++ [c]]) := ⟨if_neg hq⟩
    rw [hadd.out]
    rw [if_neg hq] at hat
    have hpl : As (place (P ++ [pa ++ [c]]) (pa ++ [c]) = (P.length : Int)) := ⟨by rw [place_snoc, if_neg hq, if_pos rfl]⟩
    rw [hpl.out]
    have hlk : ∀ nq, (Instr.lookup 79 (.map (some mb)) (.agg #[.int .i64 (a : Int), .int .u8 (c.toNat : Int)]) true).run Try.prog ((w.alloc (.cells #[.int .i64 (a : Int), .int .u8 (c.toNat : Int)] 107)).drewN nq) =
        .ok (.tuple #[.int .i64 0, .bool false]) ((w.alloc (.cells #[.int .i64 (a : Int), .int .u8 (c.toNat : Int)] 107)).drewN nq) := fun nq => by
      have := MapIs.look (w := (w.alloc (.cells #[.int .i64 (a : Int), .int .u8 (c.toNat : Int)] 107)).drewN nq) (hmap.out.below (below_drewN ((Below.refl _ _).alloc (Nat.le_refl _) _) nq)) edge_law Try.underlying79 Try.underlying3 (zero_int _) hkey.out
      rw [hat.out] at this
      exact this
    obtain ⟨A, cp, rfl, hcp⟩ := own_slice hown.out
    have hmq0 := As.mk hPa
    clear hPa
    go_enter Try.func38, Try.ntmps38
    go_wp2
    go_quiet (fail)
    clear hlk
    go_wp2
    have hbel1 : Below w.heap.size w ((w.alloc (.cells #[.int .i64 (a : Int), .int .u8 (c.toNat : Int)] 107)).drewN nq) := below_drewN ((Below.refl _ _).alloc (Nat.le_refl _) _) nq
    have hg1 := As.mk ((hbel1.block g hlt).trans hg.out)
    have hown1 := As.mk (own_below hown.out hbel1)
    have hmap1 := As.mk (hmap.out.below hbel1)
    have hlt1 : g < ((w.alloc (.cells #[.int .i64 (a : Int), .int .u8 (c.toNat : Int)] 107)).drewN nq).heap.size := block_lt hg1.out
    have hed1 : ((w.alloc (.cells #[.int .i64 (a : Int), .int .u8 (c.toNat : Int)] 107)).drewN nq).heap[w.heap.size]? = some (.cells #[.int .i64 (a : Int), .int .u8 (c.toNat : Int)] 107 (0, 0)) := heap_alloc_new w _
    have hed1 := As.mk hed1
    have hbb1 := As.mk (hbel1.mono (show base ≤ w.heap.size by omega))
    clear hbel1 hg hown hmap c0 c1 hlt
    generalize (w.alloc (.cells #[.int .i64 (a : Int), .int .u8 (c.toNat : Int)] 107)).drewN nq = w1 at *
    generalize w.heap.size = eb at *
    have c0 : w1.cell? ⟨g, 0, none⟩ = some (.slice A P.length cp) := cell_of_blk hg1.out 0
    have c1 : w1.cell? ⟨g, 1, none⟩ = some (.map (some mb)) := cell_of_blk hg1.out 1
    have d0 : w1.cell? ⟨eb, 0, none⟩ = some (.int .i64 (a : Int)) := cell_of_blk hed1.out 0
    have d1 : w1.cell? ⟨eb, 1, none⟩ = some (.int .u8 (c.toNat : Int)) := cell_of_blk hed1.out 1
    obtain ⟨w2, hrun, hmap2, hgr2⟩ := MapIs.put (w := w1.drew) (f' := edgeF (P ++ [pa ++ [c]])) (hmap1.out.below ((Below.refl _ _).drew)) edge_law Try.underlying79 Try.underlying3 (by simp only [maxLen]; omega) hkey.out (v := (P.length : Int)) (by simp [Lit.wf, IntKind.min, IntKind.max, IntKind.signed, IntKind.bits]; omega) (hfn.out hq) (hfo.out hq)
    have hmap2 := As.mk hmap2
    have hgr2 := As.mk hgr2
    go_region
    have hne1 : g ≠ mb := fun h => by
      subst h
      obtain ⟨es, cl, hm⟩ := hmap1.out.is_map
      have hx := hg1.out
      rw [hm] at hx
      cases hx
    have hg2 := As.mk ((hgr2.out.block g (by simpa using hlt1) (by simpa using hne1)).trans hg1.out)
    have hown2 : As (w2.ownsRow base 77 4 (.slice A P.length cp) P.length (nodeCells P W)) := ⟨own_keep (w := w1.drew) hown1.out (Keeps.of_grown hgr2.out) (fun b c' hb hh _ hS => by
      obtain ⟨es, cl, hm⟩ := hmap1.out.is_map
      injection hS with hS
      subst hS
      have hh' : w1.heap[b]? = _ := hh
      rw [hm] at hh'
      cases hh')⟩
    have hb2 : As (Below base w1 w2) := ⟨((Below.refl base w1).drew).grown hgr2.out (by have := hbg; have := hlt1; simp; omega) (fun k hk => by injection hk with hk; omega)⟩
    have hsz2 := hb2.out.size
    have hlt2 : g < w2.heap.size := block_lt hg2.out
    have c0' : w2.cell? ⟨g, 0, none⟩ = some (.slice A P.length cp) := cell_of_blk hg2.out 0
    have c1' : w2.cell? ⟨g, 1, none⟩ = some (.map (some mb)) := cell_of_blk hg2.out 1
    have f0' := free_of_blk hg2.out 0
    clear c0 c1 d0 d1 hrun
    obtain ⟨ad, rfl, hdep⟩ := Row.at_ (Row.of_own hown2.out) (j := a * 4 + 1) (by rw [nodeCells_length]; omega)
    have hdep1 : (nodeCells P W)[a * 4 + 1]'(by rw [nodeCells_length]; omega) = .int .i64 (pa.length : Int) := by
      have := nodeCells_at P W hmq0.out 1 (by omega)
      rw [List.getElem?_eq_getElem (by rw [nodeCells_length]; omega)] at this
      simpa [tnode] using this
    rw [hdep1, Addr.add_field _ _ _ (by omega)] at hdep
    clear hdep1
    go_wp2
    have hneg := own_not_type hown2.out hg2.out (by decide)
    obtain ⟨es2, cl2, hm2⟩ := hmap2.out.is_map
    have hneb := As.mk (own_not_map hown2.out hm2)
    have hm2 := As.mk hm2
    have hneg := As.mk hneg
    obtain ⟨i0, hi0, hz0, hz1, hz2⟩ := info_parts info_node
    have hmq := As.mk hmq0.out
    have hq := As.mk hq
    have hW := As.mk hW
    clear hkey hat hmap1 hg1 hown1 hed1 hgr2 hfn hfo
    have hwr : IntKind.i64.wrap ((pa.length : Int) + 1) = (pa.length : Int) + 1 := IntWalk.i64_in _ (by omega)
    have hbs2 : base ≤ w2.heap.size := by have := hbg; omega
    go_region_law (first
      | (refine step_append_lies (w2.drew.alloc (.cells #[.int .i64 (a : Int), .int .i64 ((pa.length : Int) + 1), .int .i64 (-1), .int .u8 (c.toNat : Int)] 77)) rfl (.tmp 40) (.tmp 53) 78 rfl base 77 i0 _ 4 32 Try.underlying78 hi0 hz0 hz1 hz2 rfl (by decide) (.slice (some ad) P.length cp) P.length (nodeCells P W) (by simp [Act.eval, Act.put]) (hown2.out.drew.alloc _) ⟨w2.heap.size, 0, none⟩ 1 1 [.int .i64 (a : Int), .int .i64 ((pa.length : Int) + 1), .int .i64 (-1), .int .u8 (c.toNat : Int)] (by simp [Act.eval, Act.put]) rfl (World.news_of_block (heap_alloc_new w2.drew _)) (by simp [Value.oneCell']) (by omega) (by simp only [maxLen]; omega) (by omega) (by simp; omega) (w2.heap.size + 1) (by simp) ?_
         intro g3 cap3 w3 ho3 hgr3 hloc3 hlt3
         have hbg3 := hgr3.block g (by simp; omega) hneg.out
         have hg3 := As.mk (hbg3.trans (blk_old hg2.out))
         have e0 : w3.cell? ⟨g, 0, none⟩ = some (.slice (some ad) P.length cp) := cell_of_blk hg3.out 0
         have ef0 := free_of_blk hg3.out 0))
    all_goals
      go_wp2
      go_ret
      have hk3 : Keeps (fun k => some k = (Value.slice (some ad) P.length cp).ownBlock) w2 w3 := (Keeps.of_below (((Below.refl _ _).drew).alloc (by simp) _) _).trans ((Keeps.of_grown hgr3).mono (fun _ _ h => h))
      have hmap3 := hmap2.out.keep hk3 hneb.out
      have hmb3 := hmap3.is_map
      have hmg : ¬ mb = g := fun h => by
        obtain ⟨es, cl, hm⟩ := hmb3
        have hx := hg3.out
        rw [← h, hm] at hx; cases hx
      refine ⟨rfl, ⟨_, mb, blk_set hg3.out 0 _, hbg, hbm, ?_, ?_, ?_⟩, ?_⟩
      · have hlen : (P ++ [pa ++ [c]]).length = P.length + 1 := by simp
        rw [hlen, nodeCells_put hT.out]
        have hq' : tnode (P ++ [pa ++ [c]]) W (pa ++ [c]) = [.int .i64 (a : Int), .int .i64 ((pa.length : Int) + 1), .int .i64 (-1), .int .u8 (c.toNat : Int)] := by
          have hpl : place (P ++ [pa ++ [c]]) pa = (a : Int) := by
            rw [place_append (List.mem_of_getElem? hmq.out), place_at hT.out.nodup hmq.out]
          unfold tnode parent lastB
          rw [if_neg (by simp), List.dropLast_concat, hpl, hW.out]
          simp
        rw [hq']
        exact own_keep ho3 (keeps_set w3 ⟨g, 0, none⟩ _) (fun b c' _ hh hb hS => own_not_type ho3 hg3.out (by decide) ((show b = g from hS) ▸ hb))
      · have hlen : (P ++ [pa ++ [c]]).length = P.length + 1 := by simp
        rw [hlen]
        exact hmap3.keep (keeps_set w3 ⟨g, 0, none⟩ _) hmg
      · have := hT.out.put (p := pa ++ [c]) (by simp) (by rw [List.dropLast_concat]; exact List.mem_of_getElem? hmq.out)
        unfold addPath at this
        rw [if_neg hq.out] at this
        exact this
      · refine Below.setCell ((hbb1.out.trans hb2.out).trans ?_) (by exact hbg) _
        refine (((Below.refl base w2).drew).alloc (by simpa using hbs2) _).grown hgr3 (by simp; omega) (fun k hk => ?_)
        exact (own_blk hown2.out hk.symm).1
end Go.Proofs.Ytpkapgjpnkcffaa
end
section
/- The walks of package trie: what a tree is asked. -/
set_option linter.unusedVariables false
set_option linter.unusedSimpArgs false
namespace Go.Proofs.Ytpkapgjpnkcffaa
open Go.RowKit Go.Maps Seine.Trie
attribute [local go_sem] max2_i min2_i max_two' min_two'

theorem TrieAt.below {w w' : World} {base g : Nat} {P : List Txt} {W : Txt → Int} (h : TrieAt w base g P W) (hb : Below w.heap.size w w') : TrieAt w' base g P W := by
  obtain ⟨v, mb, hg, h1, h2, ho, hm, hT⟩ := h
  exact ⟨v, mb, (hb.block g (block_lt hg)).trans hg, h1, h2, own_below ho hb, hm.below hb, hT⟩
theorem TrieAt.tree {w : World} {base g : Nat} {P : List Txt} {W : Txt → Int} (h : TrieAt w base g P W) : Tree P := by obtain ⟨v, mb, hg, h1, h2, ho, hm, hT⟩ := h; exact hT
theorem TrieAt.read {w : World} {base g : Nat} {P : List Txt} {W : Txt → Int} (h : TrieAt w base g P W) : ∃ ad cp mb, w.cell? ⟨g, 0, none⟩ = some (.slice (some ad) P.length cp) ∧ w.cell? ⟨g, 1, none⟩ = some (.map (some mb)) ∧ P.length ≤ cp ∧
    MapIs Try.prog 107 3 w mb P.length (edgeF P) ∧
    As (∀ i p, P[i]? = some p → w.cell? (ad.add (i * 4)) = some (.int .i64 (parent P p)) ∧ w.cell? ⟨(ad.add (i * 4)).block, (ad.add (i * 4)).off + 1, none⟩ = some (.int .i64 p.length) ∧
      w.cell? ⟨(ad.add (i * 4)).block, (ad.add (i * 4)).off + 2, none⟩ = some (.int .i64 (W p)) ∧ w.cell? ⟨(ad.add (i * 4)).block, (ad.add (i * 4)).off + 3, none⟩ = some (.int .u8 ((lastB p).toNat : Int))) := by
  obtain ⟨v, mb, hg, h1, h2, ho, hm, hT⟩ := h
  obtain ⟨A, cp, rfl, hcp⟩ := own_slice ho
  have hr := Row.of_own ho
  have hl := hT.len
  obtain ⟨ad, rfl, _⟩ := hr.at_ (j := 0) (by rw [nodeCells_length]; omega)
  refine ⟨ad, cp, mb, cell_of_blk hg 0, cell_of_blk hg 1, hcp, hm, ⟨fun i p hi => ?_⟩⟩
  have hil : i < P.length := (List.getElem?_eq_some_iff.1 hi).1
  have key : ∀ j, j < 4 → ∀ u, (tnode P W p)[j]? = some u → w.cell? (ad.add (i * 4 + j)) = some u := by
    intro j hj u hu
    obtain ⟨ad', e, hc⟩ := hr.at_ (j := i * 4 + j) (by rw [nodeCells_length]; omega)
    injection e with e
    subst e
    have := nodeCells_at P W hi j hj
    rw [List.getElem?_eq_getElem (by rw [nodeCells_length]; omega), hu] at this
    injection this with this
    rw [hc, this]
  exact ⟨key 0 (by omega) _ rfl, by rw [← Addr.add_field _ _ _ (by omega)]; exact key 1 (by omega) _ rfl, by rw [← Addr.add_field _ _ _ (by omega)]; exact key 2 (by omega) _ rfl, by rw [← Addr.add_field _ _ _ (by omega)]; exact key 3 (by omega) _ rfl⟩

section
variable (w : World) (base g : Nat) (P : List Txt) (W : Txt → Int)
theorem nodes_calls (ht : TrieAt w base g P W) : Calls Try.prog 24 #[.pointer (some ⟨g, 0, none⟩)] w fun e w' => e = .returned (.int .i64 (P.length : Int)) ∧ w = w' := by
  obtain ⟨ad, cp, mb, c0, c1, hcp, _, _⟩ := ht.read
  go_enter Try.func24, Try.ntmps24
  go_wp2
  go_ret
  exact ⟨rfl, rfl⟩
theorem is_calls (ht : TrieAt w base g P W) (n : Int) (b : Bool) (hb : b = true ↔ 0 ≤ n ∧ n < P.length) : Calls Try.prog 43 #[.pointer (some ⟨g, 0, none⟩), .int .i64 n] w fun e w' => e = .returned (.bool b) ∧ w = w' := by
  have hc := As.mk (nodes_calls w base g P W ht)
  by_cases h0 : 0 ≤ n
  · have h0b : decide (0 ≤ n) = true := decide_eq_true h0
    by_cases h1 : n < P.length
    · obtain rfl : b = true := hb.2 ⟨h0, h1⟩
      clear hb
      go_enter Try.func43, Try.ntmps43
      go_wp2_with (go_at_call 24; refine hc.out.mono ?_; rintro e w' ⟨rfl, rfl⟩)
      go_ret
      exact ⟨rfl, rfl⟩
    · obtain rfl : b = false := by cases b with
        | false => rfl
        | true => exact absurd (hb.1 rfl).2 h1
      clear hb
      have h1b : decide (n < (P.length : Int)) = false := decide_eq_false h1
      go_enter Try.func43, Try.ntmps43
      go_wp2_with (go_at_call 24; refine hc.out.mono ?_; rintro e w' ⟨rfl, rfl⟩)
      go_ret
      exact ⟨rfl, rfl⟩
  · obtain rfl : b = false := by cases b with
      | false => rfl
      | true => exact absurd (hb.1 rfl).1 h0
    clear hb
    have h0b : decide (0 ≤ n) = false := decide_eq_false h0
    go_enter Try.func43, Try.ntmps43
    go_wp2
    go_ret
    exact ⟨rfl, rfl⟩

/-- where a byte leads -/
def stepF (P : List Txt) (n : Int) (c : UInt8) : Int := if 0 ≤ n ∧ n < P.length then place P (P.getD n.toNat [] ++ [c]) else -1
theorem step_calls (ht : TrieAt w base g P W) (hl : P.length ≤ 1000000) (n x : Int) (c : UInt8) (hx : x = (c.toNat : Int)) : Calls Try.prog 41 #[.pointer (some ⟨g, 0, none⟩), .int .i64 n, .int .u8 x] w fun e w' => e = .returned (.int .i64 (stepF P n c)) ∧ w = w' := by
  subst hx
  by_cases hn : 0 ≤ n ∧ n < P.length
  · have hc := As.mk (is_calls w base g P W ht n true (by simp [hn]))
    obtain ⟨ad, cp, mb, c0, c1, hcp, hm, _⟩ := ht.read
    obtain ⟨a, rfl⟩ := Int.eq_ofNat_of_zero_le hn.1
    obtain ⟨kl, hkey⟩ := edge_key (a : Int) c (by omega) (by omega)
    have hlk := MapIs.look hm edge_law Try.underlying79 Try.underlying3 (zero_int _) hkey
    have hS : As (stepF P (a : Int) c = place P (P.getD a [] ++ [c])) := ⟨by unfold stepF; rw [if_pos hn, Int.toNat_natCast]⟩
    rw [hS.out]
    rw [edgeF_at P a c (by omega)] at hlk
    by_cases hq : P.getD a [] ++ [c] ∈ P
    · rw [if_pos hq] at hlk
      have hlk : (Instr.lookup 79 (.map (some mb)) (.agg #[.int .i64 (a : Int), .int .u8 (c.toNat : Int)]) true).run Try.prog w = .ok (.tuple #[.int .i64 (place P (P.getD a [] ++ [c])), .bool true]) w := hlk
      generalize place P (P.getD a [] ++ [c]) = r at *
      clear hq hn hm hkey
      go_enter Try.func41, Try.ntmps41
      go_wp2_with (go_at_call 43; refine hc.out.mono ?_; rintro e w' ⟨rfl, rfl⟩)
      go_ret
      exact ⟨rfl, rfl⟩
    · rw [if_neg hq] at hlk
      rw [place_none hq]
      have hlk : (Instr.lookup 79 (.map (some mb)) (.agg #[.int .i64 (a : Int), .int .u8 (c.toNat : Int)]) true).run Try.prog w = .ok (.tuple #[.int .i64 0, .bool false]) w := hlk
      clear hq hn hm hkey
      go_enter Try.func41, Try.ntmps41
      go_wp2_with (go_at_call 43; refine hc.out.mono ?_; rintro e w' ⟨rfl, rfl⟩)
      go_ret
      exact ⟨rfl, rfl⟩
  · have hc := As.mk (is_calls w base g P W ht n false (by simp only [Bool.false_eq_true, false_iff]; exact hn))
    have hS : stepF P n c = -1 := if_neg hn
    rw [hS]
    clear hS hn
    go_enter Try.func41, Try.ntmps41
    go_wp2_with (go_at_call 43; refine hc.out.mono ?_; rintro e w' ⟨rfl, rfl⟩)
    go_ret
    exact ⟨rfl, rfl⟩

/-- what a node tells, or a number that is none -/
def askF (P : List Txt) (f : Txt → Int) (d n : Int) : Int := if 0 ≤ n ∧ n < P.length then f (P.getD n.toNat []) else d
theorem get_at {P : List Txt} {a : Nat} (h : a < P.length) : P[a]? = some (P.getD a []) := by simp [List.getD_eq_getElem?_getD, h]
theorem word_calls (ht : TrieAt w base g P W) (n : Int) : Calls Try.prog 56 #[.pointer (some ⟨g, 0, none⟩), .int .i64 n] w fun e w' => e = .returned (.int .i64 (askF P W (-1) n)) ∧ w = w' := by
  by_cases hn : 0 ≤ n ∧ n < P.length
  · have hc := As.mk (is_calls w base g P W ht n true (by simp [hn]))
    obtain ⟨ad, cp, mb, c0, c1, hcp, _, hcell⟩ := ht.read
    obtain ⟨a, rfl⟩ := Int.eq_ofNat_of_zero_le hn.1
    have hal : a < P.length := by omega
    obtain ⟨d0, d1, d2, d3⟩ := hcell.out a _ (get_at hal)
    have hS : askF P W (-1) (a : Int) = W (P.getD a []) := by unfold askF; rw [if_pos hn, Int.toNat_natCast]
    rw [hS]
    clear hS hn
    generalize W (P.getD a []) = r at *
    go_enter Try.func56, Try.ntmps56
    go_wp2_with (go_at_call 43; refine hc.out.mono ?_; rintro e w' ⟨rfl, rfl⟩)
    go_ret
    exact ⟨rfl, rfl⟩
  · have hc := As.mk (is_calls w base g P W ht n false (by simp only [Bool.false_eq_true, false_iff]; exact hn))
    have hS : askF P W (-1) n = -1 := if_neg hn
    rw [hS]
    clear hS hn
    go_enter Try.func56, Try.ntmps56
    go_wp2_with (go_at_call 43; refine hc.out.mono ?_; rintro e w' ⟨rfl, rfl⟩)
    go_ret
    exact ⟨rfl, rfl⟩
theorem parent_calls (ht : TrieAt w base g P W) (n : Int) : Calls Try.prog 26 #[.pointer (some ⟨g, 0, none⟩), .int .i64 n] w fun e w' => e = .returned (.int .i64 (askF P (parent P) (-1) n)) ∧ w = w' := by
  by_cases hn : 0 ≤ n ∧ n < P.length
  · have hc := As.mk (is_calls w base g P W ht n true (by simp [hn]))
    obtain ⟨ad, cp, mb, c0, c1, hcp, _, hcell⟩ := ht.read
    obtain ⟨a, rfl⟩ := Int.eq_ofNat_of_zero_le hn.1
    have hal : a < P.length := by omega
    obtain ⟨d0, d1, d2, d3⟩ := hcell.out a _ (get_at hal)
    have hS : askF P (parent P) (-1) (a : Int) = parent P (P.getD a []) := by unfold askF; rw [if_pos hn, Int.toNat_natCast]
    rw [hS]
    clear hS hn
    generalize parent P (P.getD a []) = r at *
    go_enter Try.func26, Try.ntmps26
    go_wp2_with (go_at_call 43; refine hc.out.mono ?_; rintro e w' ⟨rfl, rfl⟩)
    go_ret
    exact ⟨rfl, rfl⟩
  · have hc := As.mk (is_calls w base g P W ht n false (by simp only [Bool.false_eq_true, false_iff]; exact hn))
    have hS : askF P (parent P) (-1) n = -1 := if_neg hn
    rw [hS]
    clear hS hn
    go_enter Try.func26, Try.ntmps26
    go_wp2_with (go_at_call 43; refine hc.out.mono ?_; rintro e w' ⟨rfl, rfl⟩)
    go_ret
    exact ⟨rfl, rfl⟩
end
end Go.Proofs.Ytpkapgjpnkcffaa
end
section
/- The walks of package meter: a table made of rows, a look into it. -/
set_option linter.unusedVariables false
set_option linter.unusedSimpArgs false
namespace Go.Proofs.Ytpkapgjpnkcffaa
open Go.RowKit Go.Maps Seine.Trie
theorem medge_law : Keyed Try.prog 93 := Keyed.of_law (deep_law_laid laidOut' (m := 3) (by omega) (of_decide_eq_true (by kernel_rfl)) (by kernel_rfl) (by kernel_rfl))
theorem medge_key (a : Int) (c : UInt8) (h0 : -1000000000 ≤ a) (h1 : a ≤ 1000000000) : ∃ kl, keyOf Try.prog 93 (.agg #[.int .i64 a, .int .u8 (c.toNat : Int)]) = some kl := by
  have hc := c.toNat_lt
  have hs : Try.prog.types.size = (Try.prog.types.size - 1) + 1 := by decide +kernel
  have w1 : (Lit.int .i64 a).wf = true := by simp [Lit.wf, IntKind.min, IntKind.max, IntKind.signed, IntKind.bits]; omega
  have w2 : (Lit.int .u8 (c.toNat : Int)).wf = true := by simp [Lit.wf, IntKind.min, IntKind.max, IntKind.signed, IntKind.bits]; omega
  have hk : Try.prog.keyType 93 = true := by kernel_rfl
  have hf : (Value.agg #[.int .i64 a, .int .u8 (c.toNat : Int)]).formed Try.prog 93 = true := by
    simp only [Value.formed, Try.underlying93]; kernel_rfl
  unfold keyOf
  simp only [Try.underlying93, hk, hf, Bool.and_self, if_true]
  have h2 : Try.prog.keyLits (Try.prog.types.size + 1) 93 [.int .i64 a, .int .u8 (c.toNat : Int)] = some [.int .i64 a, .int .u8 (c.toNat : Int)] := by
    rw [hs]
    generalize Try.prog.types.size - 1 = n
    have c3 : Try.prog.cellsOf 3 = 1 := by kernel_rfl
    have c5 : Try.prog.cellsOf 5 = 1 := by kernel_rfl
    have c67 : Try.prog.cellsOf 93 = 2 := by kernel_rfl
    have k1 : Try.prog.keyLits (n + 1) 3 [.int .i64 a] = some [.int .i64 a] := by simp only [Program.keyLits, Try.underlying3, w1, and_self, if_true]
    have k2 : Try.prog.keyLits (n + 1) 5 [.int .u8 (c.toNat : Int)] = some [.int .u8 (c.toNat : Int)] := by simp only [Program.keyLits, Try.underlying5, w2, and_self, if_true]
    unfold Program.keyLits
    rw [Try.underlying93]
    simp [c67, c3, c5, k1, k2]
  simp only [Value.cells]
  show ∃ kl, Option.map _ (Try.prog.keyLits (Try.prog.types.size + 1) 93 [.int .i64 a, .int .u8 (c.toNat : Int)]) = some kl
  rw [h2]
  exact ⟨_, rfl⟩
theorem place_nat' {P : List Txt} {s : Txt} (h : s ∈ P) : ∃ a : Nat, place P s = (a : Int) ∧ P[a]? = some s := by
  have := place_mem.2 h
  exact ⟨(place P s).toNat, by omega, place_get h⟩
theorem last_split' {q : Txt} (h : q ≠ []) : q.dropLast ++ [lastB q] = q := by
  obtain ⟨m, x, rfl⟩ : ∃ m x, q = m ++ [x] := ⟨q.dropLast, q.getLast h, (List.dropLast_concat_getLast h).symm⟩
  simp [lastB]
/-- The edge by which a node is come to. -/
def rowKey (P : List Txt) (n : Nat) : Value := .agg #[.int .i64 (parent P (P.getD n [])), .int .u8 ((lastB (P.getD n [])).toNat : Int)]
def rowOf (P : List Txt) (n : Nat) : List Value := [.int .i64 (parent P (P.getD n [])), .int .u8 ((lastB (P.getD n [])).toNat : Int), .int .i64 (n : Int)]
def rowCells (P : List Txt) (k : Nat) : List Value := (List.range k).flatMap fun i => rowOf P (i + 1)
theorem rowCells_succ (P : List Txt) (k : Nat) : rowCells P (k + 1) = rowCells P k ++ rowOf P (k + 1) := by unfold rowCells; rw [List.range_succ, List.flatMap_append]; simp
theorem rowCells_length (P : List Txt) : ∀ k, (rowCells P k).length = k * 3
  | 0 => rfl
  | k + 1 => by rw [rowCells_succ, List.length_append, rowCells_length P k]; simp [rowOf]; omega
theorem rowCells_at (P : List Txt) : ∀ {k i : Nat}, i < k → ∀ j, j < 3 → (rowCells P k)[i * 3 + j]? = (rowOf P (i + 1))[j]?
  | 0, i, h, _, _ => by omega
  | k + 1, i, h, j, hj => by
    rw [rowCells_succ]
    rcases Nat.lt_or_ge i k with e | e
    · rw [List.getElem?_append_left (by rw [rowCells_length]; omega), rowCells_at P e j hj]
    · obtain rfl : i = k := by omega
      rw [List.getElem?_append_right (by rw [rowCells_length]; omega), rowCells_length, Nat.add_sub_cancel_left]
/-- What a map of the first k edges holds. -/
def EdgesTo (P : List Txt) (k : Nat) (f : Value → Option Int) : Prop := ∀ x v, f x = some v ↔ ∃ n, 1 ≤ n ∧ n ≤ k ∧ x = rowKey P n ∧ v = (n : Int)
theorem node_ne {P : List Txt} (hT : Tree P) {n : Nat} (h1 : 1 ≤ n) (h2 : n < P.length) : P.getD n [] ≠ [] := fun e => by
  have h3 := get_at h2
  rw [e] at h3
  have h4 := place_at hT.nodup h3
  rw [place_at hT.nodup hT.root] at h4
  omega
theorem parent_nat {P : List Txt} (hT : Tree P) {n : Nat} (h1 : 1 ≤ n) (h2 : n < P.length) : ∃ a : Nat, parent P (P.getD n []) = (a : Int) ∧ a < P.length ∧ P.getD a [] ++ [lastB (P.getD n [])] = P.getD n [] := by
  have hne := node_ne hT h1 h2
  have hm := hT.up _ (List.mem_of_getElem? (get_at h2)) hne
  obtain ⟨a, e, ha⟩ := place_nat' hm
  refine ⟨a, by unfold parent; rw [if_neg hne]; exact e, (List.getElem?_eq_some_iff.1 ha).1, ?_⟩
  have : P.getD a [] = (P.getD n []).dropLast := by rw [List.getD_eq_getElem?_getD, ha]; rfl
  rw [this, last_split' hne]
theorem edges_all {P : List Txt} (hT : Tree P) {f : Value → Option Int} (h : EdgesTo P (P.length - 1) f) : f = edgeF P := by
  funext x
  have key : ∀ v, f x = some v ↔ edgeF P x = some v := by
    intro v
    rw [h x v]
    constructor
    · rintro ⟨n, h1, h2, rfl, rfl⟩
      obtain ⟨a, e, ha, hq⟩ := parent_nat hT h1 (by omega)
      unfold rowKey
      rw [e, edgeF_at P a _ ha, hq, if_pos (List.mem_of_getElem? (get_at (by omega))), place_at hT.nodup (get_at (by omega))]
    · intro he
      unfold edgeF at he
      split at he
      · rename_i a c
        split at he
        · rename_i hc
          obtain ⟨h1, h2, h3, h4, h5⟩ := hc
          injection he with he
          obtain ⟨a, rfl⟩ := Int.eq_ofNat_of_zero_le h1
          obtain ⟨c, rfl⟩ := Int.eq_ofNat_of_zero_le h3
          simp only [Int.toNat_natCast] at he h5
          have hm := place_mem.1 h5
          obtain ⟨n, e1, e2⟩ := place_nat' hm
          have hg : P.getD n [] = P.getD a [] ++ [UInt8.ofNat c] := by rw [List.getD_eq_getElem?_getD, e2]; rfl
          have hn := (List.getElem?_eq_some_iff.1 e2).1
          refine ⟨n, ?_, by omega, ?_, by rw [← he, e1]⟩
          · rcases Nat.eq_zero_or_pos n with z | z
            · subst z
              rw [hT.root] at e2
              injection e2 with e2
              have := congrArg List.length e2
              simp at this
            · exact z
          · unfold rowKey parent lastB
            rw [hg, if_neg (by simp), List.dropLast_concat, List.getLast?_concat, place_at hT.nodup (get_at (by omega))]
            have : (UInt8.ofNat c).toNat = c := by simp; omega
            simp only [Option.getD_some, this]
        · cases he
      · cases he
  cases hf : f x with
  | none =>
    cases hg : edgeF P x with
    | none => rfl
    | some v => rw [(key v).2 hg] at hf; cases hf
  | some v => exact ((key v).1 hf).symm
theorem rowKey_inj {P : List Txt} (hT : Tree P) {n m : Nat} (h1 : 1 ≤ n) (h2 : n < P.length) (h3 : 1 ≤ m) (h4 : m < P.length) (h : rowKey P n = rowKey P m) : n = m := by
  unfold rowKey at h
  obtain ⟨a, ea, ha, hqa⟩ := parent_nat hT h1 h2
  obtain ⟨b, eb, hb, hqb⟩ := parent_nat hT h3 h4
  rw [ea, eb] at h
  simp only [Value.agg.injEq, Array.mk.injEq, List.cons.injEq, Value.int.injEq, and_true, true_and] at h
  obtain ⟨e1, e2⟩ := h
  have e1 : a = b := by omega
  have e2 : lastB (P.getD n []) = lastB (P.getD m []) := UInt8.toNat_inj.1 (by omega)
  subst e1
  have hnm : P.getD n [] = P.getD m [] := hqa.symm.trans (by rw [e2]; exact hqb)
  have p1 := place_at hT.nodup (get_at h2)
  have p2 := place_at hT.nodup (get_at h4)
  rw [hnm, p2] at p1
  omega
theorem EdgesTo.next {P : List Txt} (hT : Tree P) {k : Nat} (hk : k + 1 < P.length) {f f' : Value → Option Int} (h : EdgesTo P k f) (h1 : f' (rowKey P (k + 1)) = some ((k + 1 : Nat) : Int)) (h2 : ∀ x, x ≠ rowKey P (k + 1) → f' x = f x) : EdgesTo P (k + 1) f' := fun x v => by
  by_cases hx : x = rowKey P (k + 1)
  · subst hx
    rw [h1]
    constructor
    · intro e; injection e with e; exact ⟨k + 1, by omega, Nat.le_refl _, rfl, e.symm⟩
    · rintro ⟨n, a, b, e, rfl⟩
      rw [rowKey_inj hT (by omega) hk a (by omega) e]
  · rw [h2 x hx, h x v]
    constructor
    · rintro ⟨n, a, b, e, e'⟩; exact ⟨n, a, by omega, e, e'⟩
    · rintro ⟨n, a, b, e, e'⟩
      refine ⟨n, a, ?_, e, e'⟩
      rcases Nat.lt_or_ge k n with c | c
      · obtain rfl : n = k + 1 := by omega
        exact absurd e hx
      · exact c
/-- A table of a tree's edges. -/
def TabS (w : World) (eb : Nat) (mo : Option Nat) (P : List Txt) : Prop :=
  ∃ cb mb n, w.heap[eb]? = some (.cells #[.pointer (madr mo), .func (.func 45) #[] #[.pointer (some ⟨cb, 0, none⟩)]] 97 (0, 0)) ∧ w.heap[cb]? = some (.cells #[.map (some mb)] 91 (0, 0)) ∧ MapIs Try.prog 93 3 w mb n (edgeF P)
theorem TabS.below {w w' : World} {eb : Nat} {mo : Option Nat} {P : List Txt} (h : TabS w eb mo P) (hb : Below w.heap.size w w') : TabS w' eb mo P := by
  obtain ⟨cb, mb, n, h1, h2, h3⟩ := h
  exact ⟨cb, mb, n, blkBelow hb h1, blkBelow hb h2, h3.below hb⟩
theorem TabS.keep {w w' : World} {eb : Nat} {mo : Option Nat} {P : List Txt} {c : Cn} (h : TabS w eb mo P) (hm : Mo w mo c) (hk : Keeps (OnlyM mo) w w') : TabS w' eb mo P := by
  obtain ⟨cb, mb, n, h1, h2, h3⟩ := h
  obtain ⟨es, cl, h4⟩ := h3.is_map
  exact ⟨cb, mb, n, blk_keep h1 hk (hm.far h1 (.inl (by simp))), blk_keep h2 hk (hm.far h2 (.inl (by simp))), h3.keep hk (hm.farMap h4)⟩
set_option maxRecDepth 100000 in
set_option maxHeartbeats 1600000 in
theorem msparse_calls (w : World) (mo : Option Nat) (A : Option Addr) (c m : Nat) (P : List Txt) (hT : Tree P) (hl : P.length ≤ 1000000) (hr : Row w A (rowCells P m)) (hm : m = P.length - 1) :
    Calls Try.prog 28 #[.pointer (madr mo), .slice A m c] w fun e w' => ∃ eb, e = .returned (.pointer (some ⟨eb, 0, none⟩)) ∧ TabS w' eb mo P ∧ Below w.heap.size w w' := by
  have HX := As.mk hr
  have hTT := As.mk hT
  have hz : As (EdgesTo P 0 (fun _ => none)) := ⟨fun x v => by constructor; (· intro h; cases h); (· rintro ⟨n, a, b, _⟩; omega)⟩
  have hmm := @run_makeMap Try.prog
  have hmP := As.mk hm
  have hPm : m + 1 ≤ P.length ∨ P.length = 0 := by omega
  have hP0 := hT.len
  clear hr hm
  go_enter Try.func28, Try.ntmps28
  go_wp2
  go_loopg [11] (m + 1) (fun gk i wr => ∃ (k : Nat) (f : Value → Option Int), As (m + 1 ≤ gk + k) ∧ k ≤ m ∧ i = .int .i64 k ∧ As (MapIs Try.prog 93 3 wr w.heap.size k f) ∧ As (EdgesTo P k f) ∧ As (wr.heap[w.heap.size + 1]? = some (.cells #[.map (some w.heap.size)] 91 (0, 0))) ∧ As (Below w.heap.size w wr))
  case atStart =>
    refine ⟨0, fun _ => none, ⟨by omega⟩, Nat.zero_le _, rfl, ⟨(MapIs.made w _ _ _).below ((Below.refl _ _).alloc (Nat.le_refl _) _)⟩, hz, ⟨blk_new1 _ _ _⟩, ⟨((Below.refl _ _).alloc (Nat.le_refl _) _).alloc (by simp) _⟩⟩
  case round =>
    obtain ⟨k, f, hgk, hk, rfl, hmap, hed, hcb, hbel⟩ := hrel
    by_cases hlt : k < m
    · obtain ⟨gp, rfl⟩ : ∃ gp, gk = gp + 1 := ⟨gk - 1, by have := hgk.out; omega⟩
      have hkP : k + 1 < P.length := by have := hmP.out; omega
      obtain ⟨pa, e1, hpa, hpq⟩ := parent_nat hTT.out (n := k + 1) (by omega) hkP
      have hl3 : k * 3 + 2 < (rowCells P m).length := by rw [rowCells_length]; omega
      obtain ⟨ad, rfl, r0⟩ := Row.at_ (Row.below HX.out hbel.out) (j := k * 3) (by omega)
      obtain ⟨ad2, e2, r1⟩ := Row.at_ (Row.below HX.out hbel.out) (j := k * 3 + 1) (by omega)
      injection e2 with e2
      subst e2
      obtain ⟨ad3, e3, r2⟩ := Row.at_ (Row.below HX.out hbel.out) (j := k * 3 + 2) (by omega)
      injection e3 with e3
      subst e3
      rw [Addr.add_field _ _ _ (by omega)] at r1 r2
      have q0 := rowCells_at P hlt 0 (by omega)
      have q1 := rowCells_at P hlt 1 (by omega)
      have q2 := rowCells_at P hlt 2 (by omega)
      rw [Nat.add_zero] at q0
      rw [List.getElem?_eq_getElem (by omega)] at q0 q1 q2
      simp only [rowOf, List.getElem?_cons_zero, List.getElem?_cons_succ, Option.some.injEq] at q0 q1 q2
      rw [q0, e1] at r0
      rw [q1] at r1
      rw [q2] at r2
      have hkey : rowKey P (k + 1) = .agg #[.int .i64 (pa : Int), .int .u8 ((lastB (P.getD (k + 1) [])).toNat : Int)] := by unfold rowKey; rw [e1]
      generalize lastB (P.getD (k + 1) []) = x at *
      obtain ⟨kl, hkl⟩ := medge_key (pa : Int) x (by omega) (by omega)
      have hsz := hbel.out.size
      classical
      obtain ⟨w4, hrun, hm4, hg4⟩ := MapIs.put (w := wr.alloc (.cells #[.int .i64 (pa : Int), .int .u8 (x.toNat : Int), .int .i64 ((k : Int) + 1)] 62)) (hmap.out.below ((Below.refl _ _).alloc (Nat.le_refl _) _)) medge_law Try.underlying91 Try.underlying3 (by unfold maxLen; omega) hkl (v := (k : Int) + 1) (by simp [Lit.wf, IntKind.min, IntKind.max, IntKind.signed, IntKind.bits]; omega)
        (f' := fun y => if y = .agg #[.int .i64 (pa : Int), .int .u8 (x.toNat : Int)] then some ((k : Int) + 1) else f y) (if_pos rfl) (fun y hy => if_neg hy)
      have c5 : (wr.alloc (.cells #[.int .i64 (pa : Int), .int .u8 (x.toNat : Int), .int .i64 ((k : Int) + 1)] 62)).cell? ⟨w.heap.size + 1, 0, none⟩ = some (.map (some w.heap.size)) := cell_of_blk (blk_old hcb.out) 0
      have hne : w.heap.size + 1 ≠ w.heap.size := by omega
      have hed2 := As.mk (hed.out.next hTT.out hkP (f' := fun y => if y = .agg #[.int .i64 (pa : Int), .int .u8 (x.toNat : Int)] then some ((k : Int) + 1) else f y) (by rw [hkey]; exact if_pos rfl) (fun y hy => if_neg (by rw [hkey] at hy; exact hy)))
      have hcb4 : As (w4.heap[w.heap.size + 1]? = some (.cells #[.map (some w.heap.size)] 91 (0, 0))) := ⟨blk_keep (blk_old hcb.out) (Keeps.of_grown hg4) (fun e => by injection e with e; omega)⟩
      have hbel4 := As.mk ((hbel.out.alloc hbel.out.size (.cells #[.int .i64 (pa : Int), .int .u8 (x.toNat : Int), .int .i64 ((k : Int) + 1)] 62)).grown hg4 (by simp; omega) (fun q hq => by injection hq with hq; omega))
      replace hm4 := As.mk hm4
      replace hg4 := As.mk hg4
      clear q0 q1 q2 e1 hpq hkey
      go_wp2
      go_roundg gp
      case rel => exact ⟨k + 1, _, ⟨by have := hgk.out; omega⟩, by omega, (by first | rfl | go_num | (congr 1; omega)), hm4, hed2, hcb4, hbel4⟩
      case measure => omega
    · obtain rfl : m = k := by omega
      have he := As.mk (edges_all hTT.out (by rw [← hmP.out]; exact hed.out))
      rw [he.out] at hmap
      have hsz := hbel.out.size
      go_wp2
      go_ret
      exact ⟨_, rfl, ⟨_, _, _, heap_alloc_new _ _, blk_old hcb.out, hmap.out.below ((Below.refl _ _).alloc (Nat.le_refl _) _)⟩, hbel.out.alloc hbel.out.size _⟩
theorem mlookup_calls (w : World) (cb mb n : Nat) (P : List Txt) (hcb : w.heap[cb]? = some (.cells #[.map (some mb)] 91 (0, 0))) (hm : MapIs Try.prog 93 3 w mb n (edgeF P)) (a : Nat) (ha : a < P.length) (hl : P.length ≤ 1000000) (c : UInt8) :
    Calls Try.prog 45 #[.agg #[.int .i64 (a : Int), .int .u8 (c.toNat : Int)], .pointer (some ⟨cb, 0, none⟩)] w fun e w' => e = .returned (.int .i64 (place P (P.getD a [] ++ [c]))) ∧ Below w.heap.size w w' := by
  obtain ⟨kl, hkey⟩ := medge_key (a : Int) c (by omega) (by omega)
  have hB : Below w.heap.size w (w.alloc (.cells #[.int .i64 (a : Int), .int .u8 (c.toNat : Int)] 93)) := (Below.refl _ _).alloc (Nat.le_refl _) _
  have hlk := MapIs.look (hm.below hB) medge_law Try.underlying91 Try.underlying3 (zero_int _) hkey
  have c0 : (w.alloc (.cells #[.int .i64 (a : Int), .int .u8 (c.toNat : Int)] 93)).cell? ⟨cb, 0, none⟩ = some (.map (some mb)) := cell_of_blk (blk_old hcb) 0
  rw [edgeF_at P a c ha] at hlk
  replace hB := As.mk hB
  by_cases hq : P.getD a [] ++ [c] ∈ P
  · rw [if_pos hq] at hlk
    have hlk : (Instr.lookup 91 (.map (some mb)) (.agg #[.int .i64 (a : Int), .int .u8 (c.toNat : Int)]) true).run Try.prog (w.alloc (.cells #[.int .i64 (a : Int), .int .u8 (c.toNat : Int)] 93)) = .ok (.tuple #[.int .i64 (place P (P.getD a [] ++ [c])), .bool true]) (w.alloc (.cells #[.int .i64 (a : Int), .int .u8 (c.toNat : Int)] 93)) := hlk
    generalize place P (P.getD a [] ++ [c]) = r at *
    clear hq hm hkey hcb
    go_enter Try.func45, Try.ntmps45
    go_wp2
    go_ret
    exact ⟨rfl, hB.out⟩
  · rw [if_neg hq] at hlk
    rw [place_none hq]
    have hlk : (Instr.lookup 91 (.map (some mb)) (.agg #[.int .i64 (a : Int), .int .u8 (c.toNat : Int)]) true).run Try.prog (w.alloc (.cells #[.int .i64 (a : Int), .int .u8 (c.toNat : Int)] 93)) = .ok (.tuple #[.int .i64 0, .bool false]) (w.alloc (.cells #[.int .i64 (a : Int), .int .u8 (c.toNat : Int)] 93)) := hlk
    clear hq hm hkey hcb
    go_enter Try.func45, Try.ntmps45
    go_wp2
    go_ret
    exact ⟨rfl, hB.out⟩
theorem mlook_calls (w : World) (eb : Nat) (mo : Option Nat) (P : List Txt) (ht : TabS w eb mo P) (cn : Cn) (hm : Mo w mo cn) (hok : cn.ok) (a : Nat) (ha : a < P.length) (hl : P.length ≤ 1000000) (c : UInt8) :
    Calls Try.prog 46 #[.pointer (some ⟨eb, 0, none⟩), .int .i64 (a : Int), .int .u8 (c.toNat : Int)] w fun e w' => e = .returned (.int .i64 (place P (P.getD a [] ++ [c]))) ∧ Mo w' mo { cn with l := cn.l + 1 } ∧ Keeps (OnlyM mo) w w' := by
  have hk := As.mk (fun (w' : World) (k : Keeps (OnlyM mo) w w') => ht.keep hm k)
  have hmo := As.mk hm
  obtain ⟨cb, mb, n, h1, h2, h3⟩ := ht
  have c0 : w.cell? ⟨eb, 0, none⟩ = some (.pointer (madr mo)) := cell_of_blk h1 0
  have hlt := block_lt h1
  obtain ⟨s, l, hh, m⟩ := cn
  have hs1 : IntKind.i64.wrap (l + 1) = l + 1 := by have := hok.2.2.1; have := hok.2.2.2.1; simp only [IntKind.wrap, IntKind.signed, IntKind.bits] at *; simp; omega
  cases mo with
  | none =>
    have hB : Below w.heap.size w (w.alloc (.cells #[.int .i64 0, .int .i64 1, .int .i64 0, .int .i64 0] 99)) := (Below.refl _ _).alloc (Nat.le_refl _) _
    have d1 := (hB.cell (p := ⟨eb, 1, none⟩) hlt).trans (cell_of_blk h1 1)
    have cl := As.mk (mlookup_calls _ cb mb n P (blkBelow hB h2) (h3.below hB) a ha hl c)
    unfold madr at c0
    simp only [Option.map_none, Option.map_some] at c0
    simp at d1
    generalize place P (P.getD a [] ++ [c]) = r at *
    clear h1 h2 h3 hk hmo hok hm
    go_enter Try.func46, Try.ntmps46
    go_wp2_with (first
      | (go_at_call 45; refine Calls.mono cl.out ?_; rintro e w1 ⟨rfl, hb⟩)
      | (go_at_call 48; refine Calls.mono (mcount_none _) ?_; rintro e w1 ⟨rfl, rfl⟩))
    go_ret
    exact ⟨rfl, Mo.none_ _ _, (Keeps.of_below hB _).trans (Keeps.of_below hb _)⟩
  | some g =>
    have hg := hmo.out g rfl
    have g0 : w.cell? ⟨g, 1, none⟩ = some (.int .i64 l) := cell_of_blk hg 1
    have f0 : w.frozen? ⟨g, 1, none⟩ = false := free_of_blk hg 1
    have hK : Keeps (OnlyM (some g)) w (w.setCell ⟨g, 1, none⟩ (.int .i64 (l + 1))) := (keepsSt w ⟨g, 1, none⟩ _).mono fun k _ e => by unfold OnlyM; exact congrArg some e.symm
    have hM : MtAt (w.setCell ⟨g, 1, none⟩ (.int .i64 (l + 1))) g ⟨s, l + 1, hh, m⟩ := by
      have := blk_set hg 1 (.int .i64 (l + 1))
      unfold MtAt
      rw [this]
      simp [cnCells]
    obtain ⟨cb', mb', n', k1, k2, k3⟩ := hk.out _ hK
    have d1 : (w.setCell ⟨g, 1, none⟩ (.int .i64 (l + 1))).cell? ⟨eb, 1, none⟩ = some (.func (.func 45) #[] #[.pointer (some ⟨cb', 0, none⟩)]) := cell_of_blk k1 1
    have cl := As.mk (mlookup_calls _ cb' mb' n' P k2 k3 a ha hl c)
    unfold madr at c0
    simp only [Option.map_none, Option.map_some] at c0
    generalize place P (P.getD a [] ++ [c]) = r at *
    replace hK := As.mk hK
    replace hM := As.mk hM
    clear h1 h2 h3 hk hmo hok k1 k2 k3 hg hm
    go_enter Try.func46, Try.ntmps46
    go_wp2_with (first
      | (go_at_call 45; refine Calls.mono cl.out ?_; rintro e w1 ⟨rfl, hb⟩)
      | (go_at_call 48; refine Calls.mono (mcount_some _ _) ?_; rintro e w1 ⟨rfl, rfl⟩))
    go_ret
    exact ⟨rfl, Mo.some_ (hM.out.below hb), hK.out.trans (Keeps.of_below hb _)⟩
end Go.Proofs.Ytpkapgjpnkcffaa
end
