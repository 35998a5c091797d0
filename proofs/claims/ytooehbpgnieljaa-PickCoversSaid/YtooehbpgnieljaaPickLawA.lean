/- The walks of the laws PickLongest, PickCovers, PickFirst. -/
import Derived.Test.YtooehbpgnieljaaPickAwake
import Derived.Test.YtooehbpgnieljaaPickWalk5
set_option linter.unusedVariables false
set_option linter.unusedSimpArgs false
namespace Go.Proofs.Ytooehbpgnieljaa
open Go.RowKit Seine.Pick
attribute [local go_sem high] eqPr

theorem minInt_le {xs : List Pr} (hw : ∀ x ∈ xs, (Lit.int .i64 x.1).wf = true ∧ (Lit.int .i64 x.2).wf = true) : ∀ p ∈ xs, minInt ≤ p.1 := fun p hp => by
  have := (hw p hp).1
  simp [Lit.wf, IntKind.min, IntKind.max, IntKind.signed, IntKind.bits] at this
  unfold minInt; omega

theorem covers_walk (A : Option Addr) (c : Nat) (xs : List Pr) (w : World) (hx : Row w A (xs.flatMap fun p => [.int .i64 p.1, .int .i64 p.2])) (hc : xs.length ≤ c) (hm : c ≤ maxLen)
    (hw : ∀ x ∈ xs, (Lit.int .i64 x.1).wf = true ∧ (Lit.int .i64 x.2).wf = true) :
    Calls Try.prog 4 #[.slice A xs.length c] w fun e w' => e = .returned (.bool true) ∧ Below w.heap.size w w' := by
  have HX : As (Prs w A xs) := ⟨hx⟩
  have HW := As.mk hw
  clear hx hw
  unfold maxLen at hm
  by_cases hl : xs.length ≤ 80
  · go_enter Try.func4, Try.ntmps4
    go_wp2_with fail
    refine (awake_calls w).mono ?_
    rintro e w1 ⟨rfl, hb1⟩
    go_wp2_with fail
    refine (longest_calls A c xs _ (HX.out.below hb1) (by omega)).mono ?_
    intro e w2 h2
    obtain ⟨A2, c2, rfl, hp2, hb2⟩ := h2.row
    have hP2 := As.mk hp2
    have hl2 : (longest xs minInt).length ≤ 80 := Nat.le_trans (longest_length xs minInt) (Nat.le_trans (left_le xs minInt) hl)
    have hgood := As.mk ((good_iff xs (longest xs minInt) minInt (minInt_le HW.out)).2 rfl)
    clear hp2 h2
    generalize longest xs minInt = ys at *
    go_wp2_with fail
    refine (good_calls A A2 c c2 xs ys _ ((HX.out.below hb1).below hb2) hP2.out (by omega) (by omega)).mono ?_
    rintro e w3 ⟨b, hb, rfl, n, rfl⟩
    obtain rfl : b = true := hb.2 hgood.out
    go_wp2
    go_ret
    exact ⟨rfl, below_drewN (hb1.trans (hb2.mono hb1.size)) n⟩
  · have hl : 80 < xs.length := by omega
    go_enter Try.func4, Try.ntmps4
    go_wp2_with fail
    refine (awake_calls w).mono ?_
    rintro e w1 ⟨rfl, hb1⟩
    go_wp2
    go_ret
    exact ⟨rfl, hb1⟩
end Go.Proofs.Ytooehbpgnieljaa
