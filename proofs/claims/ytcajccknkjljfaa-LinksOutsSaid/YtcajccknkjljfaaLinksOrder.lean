/- The plain law of package links: the nodes by their depth. -/
import Derived.Test.YtcajccknkjljfaaLinksPure
set_option linter.unusedVariables false
set_option linter.unusedSimpArgs false
namespace Seine.Links
open Seine.Trie

theorem nodup_len {α : Type} [DecidableEq α] : ∀ {a b : List α}, a.Nodup → (∀ x, x ∈ a → x ∈ b) → a.length ≤ b.length
  | [], b, _, _ => Nat.zero_le _
  | x :: a, b, hn, hs => by
    have hx := hs x (by simp)
    have h1 := nodup_len (a := a) (b := b.erase x) (List.nodup_cons.1 hn).2 fun y hy => by
      have hne : y ≠ x := fun e => (List.nodup_cons.1 hn).1 (e ▸ hy)
      exact (List.mem_erase_of_ne hne).2 (hs y (by simp [hy]))
    rw [List.length_erase_of_mem hx] at h1
    have := List.length_pos_of_mem hx
    simp only [List.length_cons]
    omega

def kidsT (P : List Txt) (s : Txt) : List Txt := (kids P s).map fun c => s ++ [c]
def op (P : List Txt) : Nat → List Txt
  | 0 => [[]]
  | i + 1 => op P i ++ (match (op P i)[i]? with | some s => kidsT P s | none => [])
theorem mem_kids {P : List Txt} {s : Txt} {c : UInt8} : c ∈ kids P s ↔ s ++ [c] ∈ P := by
  unfold kids
  rw [List.mem_filter, decide_eq_true_iff]
  refine ⟨fun h => h.2, fun h => ⟨?_, h⟩⟩
  rw [List.mem_map]
  exact ⟨c.toNat, List.mem_range.2 c.toNat_lt, by simp⟩
theorem mem_kidsT {P : List Txt} {s x : Txt} : x ∈ kidsT P s ↔ ∃ c, x = s ++ [c] ∧ s ++ [c] ∈ P := by
  unfold kidsT
  rw [List.mem_map]
  exact ⟨fun ⟨c, h, e⟩ => ⟨c, e.symm, mem_kids.1 h⟩, fun ⟨c, e, h⟩ => ⟨c, mem_kids.2 h, e.symm⟩⟩
theorem nodup_map' {α β : Type} {f : α → β} : ∀ {l : List α}, l.Nodup → (∀ x y, x ∈ l → y ∈ l → f x = f y → x = y) → (l.map f).Nodup
  | [], _, _ => by simp
  | a :: l, h, hf => by
    rw [List.map_cons, List.nodup_cons]
    refine ⟨fun hm => ?_, nodup_map' (List.nodup_cons.1 h).2 fun x y hx hy => hf x y (by simp [hx]) (by simp [hy])⟩
    obtain ⟨y, hy, e⟩ := List.mem_map.1 hm
    exact (List.nodup_cons.1 h).1 (hf y a (by simp [hy]) (by simp) e ▸ hy)
theorem kids_nodup (P : List Txt) (s : Txt) : (kids P s).Nodup := by
  unfold kids
  refine List.Pairwise.filter _ (nodup_map' List.nodup_range fun x y hx hy h => ?_)
  have hx := List.mem_range.1 hx
  have hy := List.mem_range.1 hy
  have := congrArg UInt8.toNat h
  simp at this
  omega
theorem kidsT_nodup (P : List Txt) (s : Txt) : (kidsT P s).Nodup := nodup_map' (kids_nodup P s) fun x y _ _ h => by simpa using h

theorem op_next {P : List Txt} {i : Nat} {s : Txt} (h : (op P i)[i]? = some s) : op P (i + 1) = op P i ++ kidsT P s := by
  show op P i ++ _ = _
  rw [h]
theorem op_same {P : List Txt} {i : Nat} (h : (op P i).length ≤ i) : op P (i + 1) = op P i := by
  show op P i ++ _ = _
  rw [List.getElem?_eq_none h, List.append_nil]
theorem op_stop {P : List Txt} {i : Nat} (h : (op P i).length ≤ i) : ∀ k, op P (i + k) = op P i
  | 0 => rfl
  | k + 1 => by
    have := op_stop h k
    rw [← Nat.add_assoc, op_same (by rw [this]; omega), this]
theorem op_mono (P : List Txt) (i : Nat) : ∀ k, ∃ m, op P (i + k) = op P i ++ m
  | 0 => ⟨[], by simp⟩
  | k + 1 => by
    obtain ⟨m, hm⟩ := op_mono P i k
    refine ⟨m ++ (match (op P (i + k))[i + k]? with | some s => kidsT P s | none => []), ?_⟩
    rw [← List.append_assoc, ← hm]
    rfl
theorem op_get {P : List Txt} {i j k : Nat} {s : Txt} (hij : i ≤ j) (h : (op P i)[k]? = some s) : (op P j)[k]? = some s := by
  obtain ⟨m, hm⟩ := op_mono P i (j - i)
  rw [show i + (j - i) = j by omega] at hm
  rw [hm, List.getElem?_append_left (List.getElem?_eq_some_iff.1 h).1, h]
theorem op_back {P : List Txt} {i j k : Nat} {s : Txt} (hij : i ≤ j) (h : (op P j)[k]? = some s) (hk : k < (op P i).length) : (op P i)[k]? = some s := by
  obtain ⟨m, hm⟩ := op_mono P i (j - i)
  rw [show i + (j - i) = j by omega] at hm
  rw [hm, List.getElem?_append_left hk] at h
  exact h
theorem op_long {P : List Txt} {i j : Nat} (hij : j ≤ i) (h : j < (op P i).length) : j < (op P j).length := by
  by_cases hc : j < (op P j).length
  · exact hc
  · have := op_stop (P := P) (i := j) (by omega) (i - j)
    rw [show j + (i - j) = i by omega] at this
    rw [this] at h
    exact h
theorem op_mem {P : List Txt} {x : Txt} : ∀ {i : Nat}, x ∈ op P i → x = [] ∨ ∃ j s c, j < i ∧ (op P j)[j]? = some s ∧ x = s ++ [c] ∧ x ∈ P
  | 0, h => .inl (by simpa [op] using h)
  | i + 1, h => by
    rcases hg : (op P i)[i]? with _ | s
    · rw [op_same (List.getElem?_eq_none_iff.1 hg)] at h
      rcases op_mem h with e | ⟨j, s, c, a, b⟩
      · exact .inl e
      · exact .inr ⟨j, s, c, by omega, b⟩
    · rw [op_next hg, List.mem_append] at h
      rcases h with h | h
      · rcases op_mem h with e | ⟨j, s, c, a, b⟩
        · exact .inl e
        · exact .inr ⟨j, s, c, by omega, b⟩
      · obtain ⟨c, e, hm⟩ := mem_kidsT.1 h
        exact .inr ⟨i, s, c, by omega, hg, e, e ▸ hm⟩
theorem nodup_get {α : Type} {l : List α} (h : l.Nodup) {i j : Nat} {x : α} (hi : l[i]? = some x) (hj : l[j]? = some x) : i = j := by
  exact (List.getElem?_inj (List.getElem?_eq_some_iff.1 hi).1 h).1 (hi.trans hj.symm)
theorem op_nodup (P : List Txt) : ∀ i, (op P i).Nodup
  | 0 => by simp [op]
  | i + 1 => by
    have ih := op_nodup P i
    rcases hg : (op P i)[i]? with _ | s
    · rw [op_same (List.getElem?_eq_none_iff.1 hg)]; exact ih
    · rw [op_next hg]
      refine List.nodup_append.2 ⟨ih, kidsT_nodup P s, fun x hx y hy e => ?_⟩
      subst e
      obtain ⟨c, e, hm⟩ := mem_kidsT.1 hy
      rcases op_mem hx with e' | ⟨j, s', c', hj, hg', e', _⟩
      · rw [e'] at e; simp at e
      · rw [e'] at e
        have hs : s' = s := (List.append_inj' e rfl).1
        subst hs
        have := nodup_get ih (op_get (Nat.le_of_lt hj) hg') hg
        omega
theorem op_sub {P : List Txt} (hT : Tree P) {i : Nat} {x : Txt} (h : x ∈ op P i) : x ∈ P := by
  rcases op_mem h with e | ⟨_, _, _, _, _, _, hm⟩
  · rw [e]; exact hT.nil_mem
  · exact hm
theorem op_len {P : List Txt} (hT : Tree P) (i : Nat) : (op P i).length ≤ P.length := nodup_len (op_nodup P i) fun _ h => op_sub hT h
theorem op_root (P : List Txt) : ∀ i, (op P i)[0]? = some []
  | i => op_get (Nat.zero_le i) (by simp [op])
/-- All that is shorter stands ahead of one that is at its turn. -/
theorem op_before {P : List Txt} (hT : Tree P) : ∀ (i : Nat) {p : Txt}, (op P i)[i]? = some p → ∀ x, x ∈ P → x.length < p.length → ∃ j, j < i ∧ (op P i)[j]? = some x := by
  intro i
  induction i using Nat.strongRecOn with
  | _ i ih =>
    intro p hp x hx hlt
    have hi : i ≠ 0 := fun e => by
      subst e
      rw [op_root] at hp
      injection hp with hp
      subst hp
      simp at hlt
    by_cases hx0 : x = []
    · subst hx0
      exact ⟨0, by omega, op_root P i⟩
    · rcases op_mem (List.mem_of_getElem? hp) with e | ⟨j, s, c, hj, hg, e, hm⟩
      · rw [e] at hlt; simp at hlt
      · have hxl : 0 < x.length := List.length_pos_iff.2 hx0
        have hup := hT.up x hx hx0
        obtain ⟨j', hj', hg'⟩ := ih j hj hg x.dropLast hup (by rw [e] at hlt; simp at hlt ⊢; omega)
        have hg'' : (op P j')[j']? = some x.dropLast := op_back (Nat.le_of_lt hj') hg' (op_long (Nat.le_of_lt hj') (List.getElem?_eq_some_iff.1 hg').1)
        have hxk : x ∈ op P (j' + 1) := by
          rw [op_next hg'']
          refine List.mem_append_right _ (mem_kidsT.2 ?_)
          have hs := List.dropLast_concat_getLast hx0
          exact ⟨x.getLast hx0, hs.symm, by rw [hs]; exact hx⟩
        have hxj : x ∈ op P j := by
          obtain ⟨m, hm⟩ := op_mono P (j' + 1) (j - (j' + 1))
          rw [show j' + 1 + (j - (j' + 1)) = j by omega] at hm
          rw [hm]
          exact List.mem_append_left _ hxk
        obtain ⟨k, hk⟩ := List.mem_iff_getElem?.1 hxj
        have hkl := (List.getElem?_eq_some_iff.1 hk).1
        refine ⟨k, ?_, op_get (Nat.le_of_lt hj) hk⟩
        have hge : ¬ i < (op P j).length := fun hlt2 => by
          have hpj := op_back (Nat.le_of_lt hj) hp hlt2
          rcases op_mem (List.mem_of_getElem? hpj) with e2 | ⟨j2, s2, c2, hj2, hg2, e2, _⟩
          · rw [e2] at e; simp at e
          · rw [e2] at e
            have hs : s2 = s := (List.append_inj' e rfl).1
            subst hs
            have := nodup_get (op_nodup P j) (op_get (Nat.le_of_lt hj2) hg2) hg
            omega
        omega
theorem op_all {P : List Txt} (hT : Tree P) : ∀ (n : Nat) (x : Txt), x.length = n → x ∈ P → x ∈ op P P.length := by
  intro n
  induction n with
  | zero => intro x hx _; rw [List.eq_nil_of_length_eq_zero hx]; exact List.mem_of_getElem? (op_root P _)
  | succ n ih =>
    intro x hx hm
    have hx0 : x ≠ [] := fun e => by rw [e] at hx; simp at hx
    have hup := ih x.dropLast (by simp; omega) (hT.up x hm hx0)
    obtain ⟨j, hj⟩ := List.mem_iff_getElem?.1 hup
    have hjl := (List.getElem?_eq_some_iff.1 hj).1
    have hle := op_len hT P.length
    have hjj : (op P j)[j]? = some x.dropLast := op_back (i := j) (j := P.length) (by omega) hj (op_long (i := P.length) (by omega) hjl)
    obtain ⟨m, hm2⟩ := op_mono P (j + 1) (P.length - (j + 1))
    rw [show j + 1 + (P.length - (j + 1)) = P.length by omega] at hm2
    rw [hm2]
    refine List.mem_append_left _ ?_
    rw [op_next hjj]
    refine List.mem_append_right _ (mem_kidsT.2 ?_)
    have hs := List.dropLast_concat_getLast hx0
    exact ⟨x.getLast hx0, hs.symm, by rw [hs]; exact hm⟩
theorem op_full {P : List Txt} (hT : Tree P) {i : Nat} (h : (op P i).length ≤ i) : op P i = op P P.length := by
  by_cases hi : i ≤ P.length
  · have := op_stop h (P.length - i)
    rw [show i + (P.length - i) = P.length by omega] at this
    exact this.symm
  · have := op_stop (P := P) (i := P.length) (op_len hT _) (i - P.length)
    rw [show P.length + (i - P.length) = i by omega] at this
    exact this
end Seine.Links
