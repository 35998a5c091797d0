/- Plain facts on trees of texts: beginnings, their places, words: no program and no memory. -/
namespace Seine.Trie
abbrev Txt := List UInt8

/-- where a text stands among some; -1: nowhere -/
def place : List Txt → Txt → Int
  | [], _ => -1
  | x :: l, s => if x = s then 0 else if place l s < 0 then -1 else place l s + 1

theorem place_range (l : List Txt) (s : Txt) : -1 ≤ place l s ∧ place l s < l.length := by
  induction l with
  | nil => simp [place]
  | cons x l ih =>
    simp only [place, List.length_cons]
    refine ⟨?_, ?_⟩ <;> split <;> (try split) <;> omega
theorem place_mem {l : List Txt} {s : Txt} : 0 ≤ place l s ↔ s ∈ l := by
  induction l with
  | nil => simp [place]
  | cons x l ih =>
    simp only [place, List.mem_cons]
    by_cases h : x = s
    · simp [h]
    · rw [if_neg h]
      by_cases h2 : place l s < 0
      · rw [if_pos h2]
        have : s ∉ l := fun hm => by have := ih.2 hm; omega
        constructor
        · intro h3; omega
        · rintro (h3 | h3)
          · exact absurd h3.symm h
          · exact absurd h3 this
      · rw [if_neg h2]
        have : s ∈ l := ih.1 (by omega)
        simp [this]; omega
theorem place_neg {l : List Txt} {s : Txt} : place l s < 0 ↔ s ∉ l := by rw [← place_mem]; omega
theorem place_none {l : List Txt} {s : Txt} (h : s ∉ l) : place l s = -1 := by
  have := place_neg.2 h; have := (place_range l s).1; omega
theorem place_get {l : List Txt} {s : Txt} (h : s ∈ l) : l[(place l s).toNat]? = some s := by
  induction l with
  | nil => simp at h
  | cons x l ih =>
    simp only [place]
    by_cases hx : x = s
    · simp [hx]
    · rw [if_neg hx]
      have hm : s ∈ l := by simpa [Ne.symm hx] using h
      have h0 := place_mem.2 hm
      rw [if_neg (by omega), show (place l s + 1).toNat = (place l s).toNat + 1 by omega]
      simpa using ih hm
theorem place_at {l : List Txt} (hn : l.Nodup) {i : Nat} {s : Txt} (h : l[i]? = some s) : place l s = i := by
  induction l generalizing i with
  | nil => simp at h
  | cons x l ih =>
    simp only [place]
    cases i with
    | zero => simp at h; simp [h]
    | succ i =>
      have hs : l[i]? = some s := by simpa using h
      have hx : x ≠ s := by
        rintro rfl
        exact (List.nodup_cons.1 hn).1 (List.mem_of_getElem? hs)
      rw [if_neg hx, ih (List.nodup_cons.1 hn).2 hs, if_neg (by omega)]
      push_cast; rfl
theorem place_append {l m : List Txt} {s : Txt} (h : s ∈ l) : place (l ++ m) s = place l s := by
  induction l with
  | nil => simp at h
  | cons x l ih =>
    simp only [List.cons_append, place]
    by_cases hx : x = s
    · simp [hx]
    · rw [if_neg hx, if_neg hx, ih (by simpa [Ne.symm hx] using h)]
theorem place_append_not {l m : List Txt} {s : Txt} (h : s ∉ l) : place (l ++ m) s = if place m s < 0 then -1 else l.length + place m s := by
  induction l with
  | nil => simp only [List.nil_append, List.length_nil]; split
           · have := (place_range m s).1; omega
           · push_cast; omega
  | cons x l ih =>
    simp only [List.mem_cons, not_or] at h
    simp only [List.cons_append, place]
    rw [if_neg (Ne.symm h.1), ih h.2]
    by_cases hm : place m s < 0
    · simp [hm]
    · rw [if_neg hm, if_neg (by omega), if_neg (by omega)]; simp only [List.length_cons]; push_cast; omega
theorem place_snoc (l : List Txt) (t s : Txt) : place (l ++ [t]) s = if s ∈ l then place l s else if t = s then (l.length : Int) else -1 := by
  by_cases h : s ∈ l
  · rw [if_pos h, place_append h]
  · rw [if_neg h, place_append_not h]
    by_cases ht : t = s
    · simp [place, ht]
    · simp [place, ht]

/-! ### beginnings -/
def addPath (P : List Txt) (p : Txt) : List Txt := if p ∈ P then P else P ++ [p]
/-- the beginnings of a text, of its first n bytes -/
def addTo (P : List Txt) (b : Txt) : Nat → List Txt
  | 0 => P
  | n + 1 => addPath (addTo P b n) (b.take (n + 1))
def addText (P : List Txt) (b : Txt) : List Txt := addTo P b b.length
def paths (l : List Txt) : List Txt := l.foldl addText [[]]

theorem mem_addPath {P : List Txt} {p q : Txt} : q ∈ addPath P p ↔ q ∈ P ∨ q = p := by
  unfold addPath; split
  · constructor
    · exact .inl
    · rintro (h | rfl) <;> assumption
  · simp
theorem addPath_nodup {P : List Txt} {p : Txt} (h : P.Nodup) : (addPath P p).Nodup := by
  unfold addPath; split
  · exact h
  · rename_i hp
    rw [List.nodup_append]; refine ⟨h, by simp, ?_⟩
    rintro a ha b hb rfl; simp at hb; subst hb; exact hp ha
theorem addPath_prefix (P : List Txt) (p : Txt) : ∃ m, addPath P p = P ++ m := by
  unfold addPath; split
  · exact ⟨[], by simp⟩
  · exact ⟨[p], rfl⟩

/-- A list of beginnings: the empty one first, none twice, with each the one of a byte less. -/
structure Tree (P : List Txt) : Prop where
  root : P[0]? = some []
  nodup : P.Nodup
  up : ∀ p ∈ P, p ≠ [] → p.dropLast ∈ P

theorem Tree.nil_mem {P : List Txt} (h : Tree P) : [] ∈ P := List.mem_of_getElem? h.root
theorem Tree.start : Tree [[]] := ⟨rfl, by simp, by simp⟩
theorem Tree.len {P : List Txt} (h : Tree P) : 0 < P.length := by
  rcases Nat.eq_zero_or_pos P.length with h0 | h0
  · have := h.root; rw [List.eq_nil_of_length_eq_zero h0] at this; simp at this
  · exact h0
theorem Tree.put {P : List Txt} (h : Tree P) {p : Txt} (hp : p ≠ []) (hd : p.dropLast ∈ P) : Tree (addPath P p) := by
  refine ⟨?_, addPath_nodup h.nodup, fun q hq hne => ?_⟩
  · obtain ⟨m, e⟩ := addPath_prefix P p
    rw [e, List.getElem?_append_left h.len]; exact h.root
  · rw [mem_addPath] at hq ⊢
    rcases hq with hq | rfl
    · exact .inl (h.up q hq hne)
    · exact .inl hd
theorem take_dropLast {b : Txt} {n : Nat} (h : n < b.length) : (b.take (n + 1)).dropLast = b.take n := by
  rw [List.dropLast_eq_take, List.take_take, List.length_take]
  congr 1; omega
theorem addTo_spec {P : List Txt} (h : Tree P) (b : Txt) : ∀ n, n ≤ b.length → Tree (addTo P b n) ∧ b.take n ∈ addTo P b n ∧ ∀ q, q ∈ addTo P b n ↔ q ∈ P ∨ ∃ k, k ≤ n ∧ 0 < k ∧ q = b.take k := by
  intro n
  induction n with
  | zero => intro _; exact ⟨h, by rw [List.take_zero]; exact h.nil_mem, fun q => ⟨.inl, by rintro (h | ⟨k, h1, h2, _⟩); exact h; omega⟩⟩
  | succ n ih =>
    intro hn
    obtain ⟨h1, h2, h3⟩ := ih (by omega)
    have hne : b.take (n + 1) ≠ [] := by
      intro e; have := congrArg List.length e; rw [List.length_take, List.length_nil] at this; omega
    refine ⟨h1.put hne (by rw [take_dropLast (by omega)]; exact h2), by simp only [addTo]; rw [mem_addPath]; exact .inr rfl, fun q => ?_⟩
    simp only [addTo]
    rw [mem_addPath, h3]
    constructor
    · rintro ((h | ⟨k, a, b', c⟩) | rfl)
      · exact .inl h
      · exact .inr ⟨k, by omega, b', c⟩
      · exact .inr ⟨n + 1, Nat.le_refl _, by omega, rfl⟩
    · rintro (h | ⟨k, a, b', c⟩)
      · exact .inl (.inl h)
      · by_cases e : k = n + 1
        · subst e; exact .inr c
        · exact .inl (.inr ⟨k, by omega, b', c⟩)
theorem paths_snoc (l : List Txt) (b : Txt) : paths (l ++ [b]) = addText (paths l) b := by simp [paths, List.foldl_append]
theorem paths_spec (l : List Txt) : Tree (paths l) ∧ ∀ q, q ∈ paths l ↔ q = [] ∨ ∃ b ∈ l, ∃ k, k ≤ b.length ∧ q = b.take k := by
  have H : ∀ n (l : List Txt), l.length = n → Tree (paths l) ∧ ∀ q, q ∈ paths l ↔ q = [] ∨ ∃ b ∈ l, ∃ k, k ≤ b.length ∧ q = b.take k := by
    intro n
    induction n with
    | zero => intro l hl; rw [List.eq_nil_of_length_eq_zero hl]; exact ⟨Tree.start, by simp [paths]⟩
    | succ n ih =>
      intro l hl
      have hne : l ≠ [] := by intro h; simp [h] at hl
      obtain ⟨m, x, rfl⟩ : ∃ m x, l = m ++ [x] := ⟨l.dropLast, l.getLast hne, (List.dropLast_concat_getLast hne).symm⟩
      obtain ⟨h1, h2⟩ := ih m (by simp at hl; omega)
      rw [paths_snoc]
      obtain ⟨a1, a2, a3⟩ := addTo_spec h1 x x.length (Nat.le_refl _)
      refine ⟨a1, fun q => ?_⟩
      unfold addText
      rw [a3, h2]
      constructor
      · rintro ((rfl | ⟨b, hb, k, hk, e⟩) | ⟨k, hk, _, e⟩)
        · exact .inl rfl
        · exact .inr ⟨b, by simp [hb], k, hk, e⟩
        · exact .inr ⟨x, by simp, k, hk, e⟩
      · rintro (rfl | ⟨b, hb, k, hk, e⟩)
        · exact .inl (.inl rfl)
        · simp at hb
          rcases hb with hb | rfl
          · exact .inl (.inr ⟨b, hb, k, hk, e⟩)
          · rcases Nat.eq_zero_or_pos k with h0 | h0
            · subst h0; simp at e; exact .inl (.inl e)
            · exact .inr ⟨k, hk, h0, e⟩
  exact H _ l rfl
theorem paths_tree (l : List Txt) : Tree (paths l) := (paths_spec l).1
theorem mem_paths {l : List Txt} {q : Txt} : q ∈ paths l ↔ q = [] ∨ ∃ b ∈ l, ∃ k, k ≤ b.length ∧ q = b.take k := (paths_spec l).2 q
theorem text_mem_paths {l : List Txt} {b : Txt} (h : b ∈ l) : b ∈ paths l := mem_paths.2 (.inr ⟨b, h, b.length, Nat.le_refl _, by simp⟩)

theorem addTo_mono (P : List Txt) (b : Txt) : ∀ n, ∃ m, addTo P b n = P ++ m
  | 0 => ⟨[], by simp [addTo]⟩
  | n + 1 => by
    obtain ⟨m, e⟩ := addTo_mono P b n
    obtain ⟨m2, e2⟩ := addPath_prefix (addTo P b n) (b.take (n + 1))
    exact ⟨m ++ m2, by simp only [addTo]; rw [e2, e, List.append_assoc]⟩
theorem addTo_len (P : List Txt) (b : Txt) : ∀ n, (addTo P b n).length ≤ P.length + n
  | 0 => Nat.le_refl _
  | n + 1 => by
    have := addTo_len P b n
    simp only [addTo]; unfold addPath; split <;> simp <;> omega

/-! ### what a node knows -/
/-- the node of a byte less -/
def parent (P : List Txt) (p : Txt) : Int := if p = [] then -1 else place P p.dropLast
def lastB (p : Txt) : UInt8 := p.getLast?.getD 0
/-- the bytes that lead on, rising -/
def kids (P : List Txt) (p : Txt) : List UInt8 := ((List.range 256).map UInt8.ofNat).filter fun c => decide (p ++ [c] ∈ P)
end Seine.Trie
