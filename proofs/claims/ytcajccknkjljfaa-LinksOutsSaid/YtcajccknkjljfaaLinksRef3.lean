/- The references on links by their contracts, in this work's own words. -/
import Derived.Test.YtcajccknkjljfaaLinksRef2
set_option linter.unusedVariables false
set_option linter.unusedSimpArgs false
namespace Go.Proofs.Ytcajccknkjljfaa
open Go.RowKit Seine.Trie Seine.Links Go.Proofs.YtcajccknkjljfaaW.PrintWords Go.Proofs.Ytcajccknkjljfaa.Ref

theorem retInts_of {w w' : World} {xs : List Int} {e : Ending} {ok : Nat → Prop} (h : ∃ v0_ : Value, e = .returned v0_ ∧ Kd.R (Kd.int .i64) 3 w' w.heap.size ok v0_ xs ∧ Below w.heap.size w w') : RetInts w xs e w' := by
  obtain ⟨v, he, hR, hb⟩ := h
  exact ⟨v, he, Kd.own_of_R hR, hb⟩
section
variable (w : World) (A B : Option Addr) (c d : Nat) (P l : List Txt)
theorem rpaths_calls (h : KdS w A l) (hc : l.length ≤ c) (hl : l.length ≤ 1000000) (ht : tot l ≤ 1000000) :
    Calls Try.prog 11 #[.slice A l.length c] w fun e w' => ∃ A' c', e = .returned (.slice A' (paths l).length c') ∧ (paths l).length ≤ c' ∧ KdS w' A' (paths l) ∧ Below w.heap.size w w' := by
  obtain ⟨k, hk⟩ := (refPaths l hl ht).get
  have := seineref06_Paths.calls k A c (l.map bb) ((paths l).map bb) w h.row (by rw [List.length_map]; exact hc) hk
  rw [List.length_map] at this
  refine this.mono ?_
  rintro e w' ⟨v, rfl, hR, hb⟩
  obtain ⟨A', c', rfl, hc', hS⟩ := KdS.of_R hR
  exact ⟨A', c', rfl, hc', hS, hb⟩
theorem rends_calls (h : KdS w A l) (hc : l.length ≤ c) (hl : l.length ≤ 1000000000) (s : Txt) (hs : s.length ≤ 1000000000) : Calls Try.prog 12 #[.slice A l.length c, .string (bb s)] w (RetInts w (endsF l s)) := by
  obtain ⟨k, hk⟩ := (refEnds l s hl hs).get
  have := seineref07_Ends.calls k A c (l.map bb) (bb s) _ w h.row (by rw [List.length_map]; exact hc) hk
  rw [List.length_map] at this
  exact this.mono fun e w' h => retInts_of h
theorem rfail_calls (h : KdS w A P) (hc : P.length ≤ c) (hl : P.length ≤ 1000000000) (s : Txt) (hs : s.length ≤ 1000000000) : Calls Try.prog 14 #[.slice A P.length c, .string (bb s)] w fun e w' => e = .returned (.int .i64 (failF P s)) ∧ Below w.heap.size w w' := by
  obtain ⟨k, hk⟩ := (refFail P s hl hs).get
  have := seineref07_Fail.calls k A c (P.map bb) (bb s) _ w h.row (by rw [List.length_map]; exact hc) hk
  rw [List.length_map] at this
  exact this.mono fun e w' h => ⟨h.1, h.2.below⟩
theorem rout_calls (h : KdS w A P) (hc : P.length ≤ c) (hl : P.length ≤ 1000000000) (h' : KdS w B l) (hd : l.length ≤ d) (hl' : l.length ≤ 1000000000) (s : Txt) (hs : s.length ≤ 1000000000) : Calls Try.prog 16 #[.slice A P.length c, .slice B l.length d, .string (bb s)] w fun e w' => e = .returned (.int .i64 (outF P l s)) ∧ Below w.heap.size w w' := by
  obtain ⟨k, hk⟩ := (refOut P l s hl hl' hs).get
  have := seineref07_Out.calls k A c (P.map bb) B d (l.map bb) (bb s) _ w h.row (by rw [List.length_map]; exact hc) h'.row (by rw [List.length_map]; exact hd) hk
  rw [List.length_map, List.length_map] at this
  exact this.mono fun e w' h => ⟨h.1, h.2.below⟩
theorem rorder_calls (h : KdS w A P) (hc : P.length ≤ c) (hT : Tree P) (hl : P.length ≤ 1000000) (hd : ∀ p ∈ P, p.length ≤ 100000) : Calls Try.prog 21 #[.slice A P.length c] w (RetInts w (orderF P)) := by
  obtain ⟨k, hk⟩ := (refOrder P hT hl hd).get
  have := seineref07_Order.calls k A c (P.map bb) _ w h.row (by rw [List.length_map]; exact hc) hk
  rw [List.length_map] at this
  exact this.mono fun e w' h => retInts_of h
theorem rsame_calls (xs ys : List Int) (h : Ints w A xs) (hc : xs.length ≤ c) (h' : Ints w B ys) (hd : ys.length ≤ d) (hl : xs.length ≤ 1000000000) (hl' : ys.length ≤ 1000000000) : Calls Try.prog 17 #[.slice A xs.length c, .slice B ys.length d] w fun e w' => e = .returned (.bool (decide (xs = ys))) ∧ Below w.heap.size w w' := by
  obtain ⟨k, hk⟩ := (refSame xs ys hl).get
  exact (seineref07_Same.calls k A c xs B d ys _ w (kdInts h (by omega)) hc (kdInts h' (by omega)) hd hk).mono fun e w' h => ⟨h.1, h.2.below⟩
end
/-- Of few short texts. -/
structure Few (l : List Txt) : Prop where
  len : l.length ≤ 12
  short : ∀ x ∈ l, x.length ≤ 40
theorem Few.tot {l : List Txt} (h : Few l) : tot l ≤ 480 := by
  have : ∀ l : List Txt, (∀ x ∈ l, x.length ≤ 40) → Go.Proofs.Ytcajccknkjljfaa.tot l ≤ 40 * l.length := by
    intro l
    induction l with
    | nil => intro _; simp [Go.Proofs.Ytcajccknkjljfaa.tot]
    | cons x l ih =>
      intro h
      have h1 := h x (by simp)
      have h2 := ih fun y hy => h y (by simp [hy])
      simp only [Go.Proofs.Ytcajccknkjljfaa.tot, List.map_cons, List.sum_cons, List.length_cons] at h2 ⊢
      omega
  have h1 := this l h.short
  have h2 := h.len
  omega
theorem Few.paths_len {l : List Txt} (h : Few l) : (paths l).length ≤ 481 := by have := Go.Proofs.Ytcajccknkjljfaa.paths_len l; have := h.tot; omega
theorem Few.path_short {l : List Txt} (h : Few l) : ∀ p ∈ paths l, p.length ≤ 40 := fun p hp => by
  rcases ((paths_spec l).2 p).1 hp with rfl | ⟨b, hb, k, hk, rfl⟩
  · simp
  · have := h.short b hb; rw [List.length_take]; omega
theorem text_path {l : List Txt} : ∀ x, x ∈ l → x ∈ paths l := fun x hx => ((paths_spec l).2 x).2 (.inr ⟨x, hx, x.length, Nat.le_refl _, by simp⟩)
end Go.Proofs.Ytcajccknkjljfaa
