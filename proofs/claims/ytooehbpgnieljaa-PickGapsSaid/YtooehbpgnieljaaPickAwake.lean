/- The walk of the laws' 'awake'. -/
import Derived.Test.YtooehbpgnieljaaPickWalk3
import Derived.Test.YtooehbpgnieljaaPickWalk4
set_option linter.unusedVariables false
set_option linter.unusedSimpArgs false
namespace Go.Proofs.Ytooehbpgnieljaa
open Go.RowKit Seine.Pick
attribute [local go_sem high] eqPr

def exL : List Pr := [(0, 2), (0, 4), (3, 9), (4, 4), (5, 6)]
theorem exLongest : longest exL minInt = [(0, 4), (5, 6)] := by
  symm; rw [← chain_iff]
  simp [Chain, exL, minInt]
theorem exGaps : gaps [(0, 4), (5, 6)] 8 = [(4, 5), (6, 8)] := by decide
theorem exFirst : first exL 1 = some (3, 9) := by decide

set_option maxRecDepth 100000 in
set_option maxHeartbeats 1600000 in
theorem awake_calls (w : World) : Calls Try.prog 9 #[] w fun e w' => e = .returned (.bool true) ∧ Below w.heap.size w w' := by
  have hu25 := Try.underlying25
  go_enter Try.func9, Try.ntmps9
  go_wp2_with fail
  have HX := As.mk (Row.new w 25 (prCells exL))
  refine (longest_calls _ 5 exL _ HX.out (by decide)).mono ?_
  rw [exLongest]
  intro e1 w1 h1
  obtain ⟨A1, c1, rfl, hp1, hb1⟩ := h1.row
  have HX1 := As.mk (HX.out.below hb1)
  have HP1 := As.mk hp1
  clear hp1 h1
  go_wp2_with fail
  refine (gaps_calls _ c1 [(0, 4), (5, 6)] 8 _ HP1.out (by decide)).mono ?_
  rw [exGaps]
  intro e1 w2 h1
  obtain ⟨A2, c2, rfl, hp2, hb2⟩ := h1.row
  have HX2 := As.mk (HX1.out.below hb2)
  have HP2 := As.mk hp2
  have HP1 := As.mk (HP1.out.below hb2)
  clear hp2 h1
  go_wp2_with fail
  refine (first_calls _ 5 exL 1 _ HX2.out (by decide)).mono ?_
  rw [exFirst]
  rintro e1 w3 ⟨rfl, hb3⟩
  have HP2 := As.mk (HP2.out.below hb3)
  have HP1 := As.mk (HP1.out.below hb3)
  go_wp2_with fail
  have h5 : Prs ((w3.alloc (.cells #[.int .i64 3, .int .i64 9] 25)).alloc (.cells #[.int .i64 0, .int .i64 4, .int .i64 5, .int .i64 6] 25)) (some ⟨w3.heap.size + 1, 0, none⟩) [(0, 4), (5, 6)] := Row.new' _ 25 (prCells [(0, 4), (5, 6)]) (by simp)
  have hs := same_calls _ _ c1 2 [(0, 4), (5, 6)] [(0, 4), (5, 6)] _ ((HP1.out.alloc (.cells #[.int .i64 3, .int .i64 9] 25)).alloc (.cells #[.int .i64 0, .int .i64 4, .int .i64 5, .int .i64 6] 25)) h5 (by decide) (by decide)
  rw [show decide ([((0 : Int), (4 : Int)), (5, 6)] = [(0, 4), (5, 6)]) = true from rfl] at hs
  refine hs.mono ?_
  rintro e1 w4 ⟨rfl, n, rfl⟩
  clear hs h5
  go_wp2_with fail
  have h5 : Prs ((((w3.alloc (.cells #[.int .i64 3, .int .i64 9] 25)).alloc (.cells #[.int .i64 0, .int .i64 4, .int .i64 5, .int .i64 6] 25)).drewN n).alloc (.cells #[.int .i64 4, .int .i64 5, .int .i64 6, .int .i64 8] 25)) (some ⟨w3.heap.size + 1 + 1, 0, none⟩) [(4, 5), (6, 8)] := Row.new' _ 25 (prCells [(4, 5), (6, 8)]) (by simp)
  have h6 : Prs ((((w3.alloc (.cells #[.int .i64 3, .int .i64 9] 25)).alloc (.cells #[.int .i64 0, .int .i64 4, .int .i64 5, .int .i64 6] 25)).drewN n).alloc (.cells #[.int .i64 4, .int .i64 5, .int .i64 6, .int .i64 8] 25)) A2 [(4, 5), (6, 8)] := (((HP2.out.alloc _).alloc _).drewN n).alloc _
  have hs := same_calls _ _ c2 2 [(4, 5), (6, 8)] [(4, 5), (6, 8)] _ h6 h5 (by decide) (by decide)
  rw [show decide ([((4 : Int), (5 : Int)), (6, 8)] = [(4, 5), (6, 8)]) = true from rfl] at hs
  refine hs.mono ?_
  rintro e1 w4 ⟨rfl, n2, rfl⟩
  clear hs h5 h6
  go_wp2
  go_ret
  exact ⟨rfl, below_drewN (((below_drewN ((((((((Below.refl _ _).alloc (Nat.le_refl _) _)).trans (hb1.mono (by simp))).trans (hb2.mono (by have := hb1.size; simp at this; omega))).trans (hb3.mono (by have := hb1.size; have := hb2.size; simp at *; omega))).alloc (by have := hb1.size; have := hb2.size; have := hb3.size; simp at *; omega) _).alloc (by have := hb1.size; have := hb2.size; have := hb3.size; simp at *; omega) _) n)).alloc (by have := hb1.size; have := hb2.size; have := hb3.size; simp at *; omega) _) _⟩
end Go.Proofs.Ytooehbpgnieljaa
