/- The walks of the laws PickLongest, PickCovers, PickFirst. -/
import Derived.Test.YtooehbpgnieljaaPickAwake
import Derived.Test.YtooehbpgnieljaaPickWalk5
import Derived.Test.YtooehbpgnieljaaPickPure2
set_option linter.unusedVariables false
set_option linter.unusedSimpArgs false
namespace Go.Proofs.Ytooehbpgnieljaa
open Go.RowKit Seine.Pick
attribute [local go_sem high] eqPr

theorem minInt_le {xs : List Pr} (hw : ∀ x ∈ xs, (Lit.int .i64 x.1).wf = true ∧ (Lit.int .i64 x.2).wf = true) : ∀ p ∈ xs, minInt ≤ p.1 := fun p hp => by
  have := (hw p hp).1
  simp [Lit.wf, IntKind.min, IntKind.max, IntKind.signed, IntKind.bits] at this
  unfold minInt; omega

theorem covers_walk (A : Option Addr) (c : Nat) (xs : List Pr) (w : World) (hx : Row w A (xs.flatMap fun p => [.int .i64 p.1, .int .i64 p.2])) (hc : xs.length ≤ c) (hm : c ≤ maxLen)
    (hw : ∀ x ∈ xs, (Lit.int .i64 x.1).wf = true ∧ (Lit.int .i64 x.2).wf = true) :
    Calls Try.prog 4 #[.slice A xs.length c] w fun e w' => e = .returned (.bool true) ∧ Below w.heap.size w w' := by
  have HX : As (Prs w A xs) := ⟨hx⟩
  have HW := As.mk hw
  clear hx hw
  unfold maxLen at hm
  by_cases hl : xs.length ≤ 80
  · go_enter Try.func4, Try.ntmps4
    go_wp2_with fail
    refine (awake_calls w).mono ?_
    rintro e w1 ⟨rfl, hb1⟩
    go_wp2_with fail
    refine (longest_calls A c xs _ (HX.out.below hb1) (by omega)).mono ?_
    intro e w2 h2
    obtain ⟨A2, c2, rfl, hp2, hb2⟩ := h2.row
    have hP2 := As.mk hp2
    have hl2 : (longest xs minInt).length ≤ 80 := Nat.le_trans (longest_length xs minInt) (Nat.le_trans (left_le xs minInt) hl)
    have hgood := As.mk ((good_iff xs (longest xs minInt) minInt (minInt_le HW.out)).2 rfl)
    clear hp2 h2
    generalize longest xs minInt = ys at *
    go_wp2_with fail
    refine (good_calls A A2 c c2 xs ys _ ((HX.out.below hb1).below hb2) hP2.out (by omega) (by omega)).mono ?_
    rintro e w3 ⟨b, hb, rfl, n, rfl⟩
    obtain rfl : b = true := hb.2 hgood.out
    go_wp2
    go_ret
    exact ⟨rfl, below_drewN (hb1.trans (hb2.mono hb1.size)) n⟩
  · have hl : 80 < xs.length := by omega
    go_enter Try.func4, Try.ntmps4
    go_wp2_with fail
    refine (awake_calls w).mono ?_
    rintro e w1 ⟨rfl, hb1⟩
    go_wp2
    go_ret
    exact ⟨rfl, hb1⟩

set_option maxRecDepth 100000 in
set_option maxHeartbeats 1600000 in
theorem plongest_walk (A : Option Addr) (c : Nat) (xs : List Pr) (fr n : Int) (w : World) (hx : Row w A (xs.flatMap fun p => [.int .i64 p.1, .int .i64 p.2])) (hc : xs.length ≤ c) (hm : c ≤ maxLen)
    (hw : ∀ x ∈ xs, (Lit.int .i64 x.1).wf = true ∧ (Lit.int .i64 x.2).wf = true) (h1 : (Lit.int .i64 fr).wf = true) (h2 : (Lit.int .i64 n).wf = true) :
    Calls Try.prog 3 #[.slice A xs.length c, .int .i64 fr, .int .i64 n] w fun e w' => e = .returned (.bool true) ∧ Below w.heap.size w w' := by
  have hu25 := Try.underlying25
  have HX : As (Prs w A xs) := ⟨hx⟩
  clear hx hw h1 h2
  unfold maxLen at hm
  by_cases hl : xs.length ≤ 80
  · have hlen : (longest xs minInt).length ≤ 80 := Nat.le_trans (longest_length xs minInt) (Nat.le_trans (left_le xs minInt) hl)
    have hlg : (gaps xs n).length ≤ 81 := by
      have := gapsTo_length xs
      unfold gaps; split <;> simp <;> omega
    cases hF : first xs fr
    all_goals
      go_enter Try.func3, Try.ntmps3
      go_wp2_with fail
      refine (awake_calls w).mono ?_
      rintro e w1 ⟨rfl, hb1⟩
      have HX1 := As.mk (HX.out.below hb1)
      go_wp2_with fail
      have hc1 := first_calls A c xs fr _ HX1.out (by omega)
      rw [hF] at hc1
      refine hc1.mono ?_
      clear hc1
      rintro e w2 ⟨rfl, hb2⟩
      have hb2 := below_next hb1 hb2
      have HX2 := As.mk (HX.out.below hb2)
      go_wp2_with fail
      have hc1 := fun o => reffirst_calls A c xs fr (w2.alloc o) (HX2.out.alloc _) (by omega)
      rw [hF] at hc1
      refine (hc1 _).mono ?_
      clear hc1
      rintro e w3 ⟨rfl, hb3⟩
      have c0 := (hb3.cell (p := ⟨w2.heap.size, 0, none⟩) (by simp)).trans (cell_of_blk (heap_alloc_new w2 _) 0)
      have c1 := (hb3.cell (p := ⟨w2.heap.size, 1, none⟩) (by simp)).trans (cell_of_blk (heap_alloc_new w2 _) 1)
      have hlt3 : w2.heap.size < w3.heap.size := by have := hb3.size; simp at this; omega
      have hb3 := below_next (below_put hb2 _) hb3
      have HX3 := As.mk (HX.out.below hb3)
      simp at c0 c1
      go_wp2_with fail
      refine (longest_calls A c xs _ (HX3.out.alloc _) (by omega)).mono ?_
      intro e w4 h2
      obtain ⟨A2, c2, rfl, hp2, hb4⟩ := h2.row
      have hb4 := below_next (below_put hb3 _) hb4
      have HP2 := As.mk hp2
      clear hp2 h2
      have HX4 := As.mk (HX.out.below hb4)
      go_wp2_with fail
      refine (reflongest_calls A c xs _ HX4.out (by omega)).mono ?_
      intro e w5 h2
      obtain ⟨A3, c3, rfl, hp3, hb5⟩ := h2.row
      have HP2 := As.mk (HP2.out.below hb5)
      have hb5 := below_next hb4 hb5
      have HP3 := As.mk hp3
      clear hp3 h2
      have HX5 := As.mk (HX.out.below hb5)
      go_wp2_with fail
      have hc1 := same_calls A2 A3 c2 c3 _ _ w5 HP2.out HP3.out (by omega) (by omega)
      rw [decide_eq_true rfl] at hc1
      refine hc1.mono ?_
      clear hc1
      rintro e w6 ⟨rfl, n6, rfl⟩
      have hb6 := below_drewN hb5 n6
      go_wp2_with fail
      refine (gaps_calls A c xs n _ (HX5.out.drewN n6) (by omega)).mono ?_
      intro e w7 h2
      obtain ⟨A4, c4, rfl, hp4, hb7⟩ := h2.row
      have hb7 := below_next hb6 hb7
      have HP4 := As.mk hp4
      clear hp4 h2
      have HX7 := As.mk (HX.out.below hb7)
      go_wp2_with fail
      refine (refgaps_calls A c xs n _ HX7.out (by omega)).mono ?_
      intro e w8 h2
      obtain ⟨A5, c5, rfl, hp5, hb8⟩ := h2.row
      have HP4 := As.mk (HP4.out.below hb8)
      have hb8 := below_next hb7 hb8
      have HP5 := As.mk hp5
      clear hp5 h2
      go_wp2_with fail
      have hc1 := same_calls A4 A5 c4 c5 _ _ w8 HP4.out HP5.out (by omega) (by omega)
      rw [decide_eq_true rfl] at hc1
      refine hc1.mono ?_
      clear hc1
      rintro e w9 ⟨rfl, n9, rfl⟩
      go_wp2
      go_ret
      exact ⟨rfl, below_drewN hb8 n9⟩
  · have hl : 80 < xs.length := by omega
    go_enter Try.func3, Try.ntmps3
    go_wp2_with fail
    refine (awake_calls w).mono ?_
    rintro e w1 ⟨rfl, hb1⟩
    go_wp2
    go_ret
    exact ⟨rfl, hb1⟩
end Go.Proofs.Ytooehbpgnieljaa
