/- The walk of the law PickFirst. -/
import Derived.Test.YtooehbpgnieljaaPickLawA
import Derived.Test.YtooehbpgnieljaaBase2
set_option linter.unusedVariables false
set_option linter.unusedSimpArgs false
namespace Go.Proofs.Ytooehbpgnieljaa
open Go.RowKit Seine.Pick
attribute [local go_sem high] eqPr
attribute [local go_sem] max2_i min2_i max_two' min_two'

set_option maxRecDepth 100000 in
set_option maxHeartbeats 3200000 in
theorem pfirst_core (A : Option Addr) (c : Nat) (xs : List Pr) (a b : Int) (w : World) (HX : As (Prs w A xs)) (hc : xs.length ≤ c) (hl : xs.length ≤ 80) :
    Calls Try.prog 8 #[.slice A xs.length c, .int .i64 a, .int .i64 b] w fun e w' => e = .returned (.bool true) ∧ Below w.heap.size w w' := by
  have hu25 := Try.underlying25
  go_enter Try.func8, Try.ntmps8
  go_wp2_with fail
  refine (awake_calls w).mono ?_
  rintro e w1 ⟨rfl, hb1⟩
  go_wp2_with fail
  generalize hf : min a b = f
  generalize ht : max a b = t
  have hle : f ≤ t := by omega
  clear hf ht
  obtain ⟨F, hF⟩ : ∃ F, first xs f = F := ⟨_, rfl⟩
  obtain ⟨G, hG⟩ : ∃ G, first xs t = G := ⟨_, rfl⟩
  have hcF := fun W h => first_calls A c xs f W h (by omega)
  have hcG := fun W h => first_calls A c xs t W h (by omega)
  rw [hF] at hcF
  rw [hG] at hcG
  have hcF := As.mk hcF
  have hcG := As.mk hcG
  cases F with
  | none =>
    have : G = none := by rw [← hG]; exact first_mono hle hF
    subst this
    clear hF hG
    refine (hcF.out _ (HX.out.below hb1)).mono ?_
    rintro e w2 ⟨rfl, hb2⟩
    have hb2 := below_next hb1 hb2
    go_wp2_with fail
    refine (hcG.out _ ((HX.out.below hb2).alloc _)).mono ?_
    rintro e w3 ⟨rfl, hb3⟩
    have c0 := (hb3.cell (p := ⟨w2.heap.size, 0, none⟩) (by simp)).trans (cell_of_blk (heap_alloc_new w2 _) 0)
    have c1 := (hb3.cell (p := ⟨w2.heap.size, 1, none⟩) (by simp)).trans (cell_of_blk (heap_alloc_new w2 _) 1)
    have hlt3 : w2.heap.size < w3.heap.size := by have := hb3.size; simp at this; omega
    have hb3 := below_next (below_put hb2 _) hb3
    simp at c0 c1
    go_wp2
    go_ret
    exact ⟨rfl, below_put hb3 _⟩
  | some p =>
    have hsp := first_eq_some.1 hF
    have hself := first_self hF p.1 hsp.2.2.1 (Int.le_refl _)
    have hcP := fun W h => first_calls A c xs p.1 W h (by omega)
    rw [hself] at hcP
    have hcP := As.mk hcP
    have hGc : (t ≤ p.1 ∧ G = some p) ∨ (p.1 < t ∧ G = none) ∨ (p.1 < t ∧ ∃ q : Pr, G = some q ∧ t ≤ q.1 ∧ p.1 < q.1) := by
      by_cases h : t ≤ p.1
      · exact .inl ⟨h, by rw [← hG]; exact first_self hF t hle h⟩
      · cases G with
        | none => exact .inr (.inl ⟨by omega, rfl⟩)
        | some q =>
          have := first_eq_some.1 hG
          exact .inr (.inr ⟨by omega, q, rfl, this.2.2.1, by have := this.2.2.1; omega⟩)
    obtain ⟨s, e⟩ := p
    have h1 : s < e := hsp.2.1
    have h2 : f ≤ s := hsp.2.2.1
    clear hsp hself hF hG
    simp only at hGc
    rcases hGc with ⟨h3, rfl⟩ | ⟨h3, rfl⟩ | ⟨h3, ⟨q1, q2⟩, rfl, h4, h5⟩
    all_goals
      refine (hcF.out _ (HX.out.below hb1)).mono ?_
      rintro e w2 ⟨rfl, hb2⟩
      have hb2 := below_next hb1 hb2
      go_wp2_with fail
      refine (hcG.out _ ((HX.out.below hb2).alloc _)).mono ?_
      rintro e w3 ⟨rfl, hb3⟩
      have c0 := (hb3.cell (p := ⟨w2.heap.size, 0, none⟩) (by simp)).trans (cell_of_blk (heap_alloc_new w2 _) 0)
      have c1 := (hb3.cell (p := ⟨w2.heap.size, 1, none⟩) (by simp)).trans (cell_of_blk (heap_alloc_new w2 _) 1)
      have hlt3 : w2.heap.size < w3.heap.size := by have := hb3.size; simp at this; omega
      have hb3 := below_next (below_put hb2 _) hb3
      simp at c0 c1
      go_wp2_with fail
      refine (hcP.out _ ((HX.out.below hb3).alloc _)).mono ?_
      rintro e w4 ⟨rfl, hb4⟩
      have d0 := (hb4.cell (p := ⟨w3.heap.size, 0, none⟩) (by simp)).trans (cell_of_blk (heap_alloc_new w3 _) 0)
      have d1 := (hb4.cell (p := ⟨w3.heap.size, 1, none⟩) (by simp)).trans (cell_of_blk (heap_alloc_new w3 _) 1)
      have e0 := (hb4.cell (p := ⟨w2.heap.size, 0, none⟩) (by simp; omega)).trans ((World.cell?_alloc_lt w3 _ _ hlt3).trans c0)
      have e1 := (hb4.cell (p := ⟨w2.heap.size, 1, none⟩) (by simp; omega)).trans ((World.cell?_alloc_lt w3 _ _ hlt3).trans c1)
      have hlt4 : w3.heap.size < w4.heap.size := by have := hb4.size; simp at this; omega
      have hlt5 : w2.heap.size < w4.heap.size := by omega
      have hb4 := below_next (below_put hb3 _) hb4
      simp at d0 d1
      clear c0 c1
      go_wp2
      go_ret
      exact ⟨rfl, below_put hb4 _⟩

theorem pfirst_walk (A : Option Addr) (c : Nat) (xs : List Pr) (a b : Int) (w : World) (hx : Row w A (xs.flatMap fun p => [.int .i64 p.1, .int .i64 p.2])) (hc : xs.length ≤ c) (hm : c ≤ maxLen)
    (hw : ∀ x ∈ xs, (Lit.int .i64 x.1).wf = true ∧ (Lit.int .i64 x.2).wf = true) (h1 : (Lit.int .i64 a).wf = true) (h2 : (Lit.int .i64 b).wf = true) :
    Calls Try.prog 8 #[.slice A xs.length c, .int .i64 a, .int .i64 b] w fun e w' => e = .returned (.bool true) ∧ Below w.heap.size w w' := by
  have HX : As (Prs w A xs) := ⟨hx⟩
  clear hx hw h1 h2
  by_cases hl : xs.length ≤ 80
  · exact pfirst_core A c xs a b w HX hc hl
  · have hl : 80 < xs.length := by omega
    unfold maxLen at hm
    go_enter Try.func8, Try.ntmps8
    go_wp2_with fail
    refine (awake_calls w).mono ?_
    rintro e w1 ⟨rfl, hb1⟩
    go_wp2
    go_ret
    exact ⟨rfl, hb1⟩
end Go.Proofs.Ytooehbpgnieljaa
