/- The walk of the law PrintNumbers. -/
import Derived.Test.YtcapmihfhioafaaDoorPrintAwake
import Derived.Test.YtcapmihfhioafaaDoorPrintRef
set_option linter.unusedVariables false
set_option linter.unusedSimpArgs false
namespace Go.Proofs.YtcapmihfhioafaaDoor
open Go.RowKit Seine.Trie Go.Shelf Go.Proofs.YtcapmihfhioafaaDoorW.PrintWords

set_option maxRecDepth 100000 in
set_option maxHeartbeats 1600000 in
theorem numbers_walk (n : Int) (w : World) (h : (Lit.int .i64 n).wf = true) (ht : Tab w) : Calls Tryd.prog 3 #[.int .i64 n] w fun e w' => e = .returned (.bool true) ∧ Below w.heap.size w w' := by
  have hB := As.mk (Below.refl w.heap.size w)
  have HT := As.mk ht
  have hdl := dig_length h
  have c1 := As.mk (fun v => rnumber_calls n h v)
  have c2 := As.mk (fun v hv => number_calls n h v hv)
  have c3 := As.mk (fun v hv => count_calls n h v hv)
  generalize dig n = d at *
  have e3 : As (bb d ++ (⟨#[10]⟩ : ByteArray) = bb (d ++ [10])) := ⟨bb_append d [10]⟩
  have hs : (bb d).size ≤ 21 := by rw [bb_size]; exact hdl
  obtain ⟨m, hm⟩ : ∃ m, d.length = m := ⟨_, rfl⟩
  obtain ⟨m1, hm1⟩ : ∃ m, (d ++ [(10 : UInt8)]).length = m := ⟨_, rfl⟩
  have hm1' := hm1
  rw [List.length_append, hm, List.length_singleton] at hm1'
  rw [hm] at hdl
  replace hm := As.mk hm
  replace hm1 := As.mk hm1
  clear ht h
  go_enter Tryd.func3, Tryd.ntmps3
  go_wp2_with fail
  refine Calls.mono (awake_calls _ HT.out) ?_
  rintro e w1 ⟨rfl, hb⟩
  have hs := hb.size
  (try simp only [World.size_alloc, World.size_drew] at hs)
  replace hB := As.mk (belowNext hB.out (by (repeat (first | (with_reducible assumption) | (with_reducible exact Below.refl _ _) | (with_reducible refine Below.drew ?_) | (with_reducible refine below_drewN ?_ _) | (with_reducible refine Below.alloc ?_ (by (first | omega | (simp only [World.size_alloc, World.size_drew]; done) | (simp only [World.size_alloc, World.size_drew]; omega))) _) | (refine Below.trans ?_ (Below.mono (by with_reducible assumption) (by (first | omega | (simp only [World.size_alloc, World.size_drew]; done) | (simp only [World.size_alloc, World.size_drew]; omega))))))) : Below _ _ w1))
  replace HT := As.mk (HT.out.below (by (repeat (first | (with_reducible assumption) | (with_reducible exact Below.refl _ _) | (with_reducible refine Below.drew ?_) | (with_reducible refine below_drewN ?_ _) | (with_reducible refine Below.alloc ?_ (by (first | omega | (simp only [World.size_alloc, World.size_drew]; done) | (simp only [World.size_alloc, World.size_drew]; omega))) _) | (refine Below.trans ?_ (Below.mono (by with_reducible assumption) (by (first | omega | (simp only [World.size_alloc, World.size_drew]; done) | (simp only [World.size_alloc, World.size_drew]; omega))))))) : Below _ _ w1))
  replace hb := As.mk hb
  go_wp2_with fail
  refine Calls.mono (c1.out _) ?_
  rintro e w2 ⟨rfl, hb⟩
  have hs := hb.size
  (try simp only [World.size_alloc, World.size_drew] at hs)
  replace hB := As.mk (belowNext hB.out (by (repeat (first | (with_reducible assumption) | (with_reducible exact Below.refl _ _) | (with_reducible refine Below.drew ?_) | (with_reducible refine below_drewN ?_ _) | (with_reducible refine Below.alloc ?_ (by (first | omega | (simp only [World.size_alloc, World.size_drew]; done) | (simp only [World.size_alloc, World.size_drew]; omega))) _) | (refine Below.trans ?_ (Below.mono (by with_reducible assumption) (by (first | omega | (simp only [World.size_alloc, World.size_drew]; done) | (simp only [World.size_alloc, World.size_drew]; omega))))))) : Below _ _ w2))
  replace HT := As.mk (HT.out.below (by (repeat (first | (with_reducible assumption) | (with_reducible exact Below.refl _ _) | (with_reducible refine Below.drew ?_) | (with_reducible refine below_drewN ?_ _) | (with_reducible refine Below.alloc ?_ (by (first | omega | (simp only [World.size_alloc, World.size_drew]; done) | (simp only [World.size_alloc, World.size_drew]; omega))) _) | (refine Below.trans ?_ (Below.mono (by with_reducible assumption) (by (first | omega | (simp only [World.size_alloc, World.size_drew]; done) | (simp only [World.size_alloc, World.size_drew]; omega))))))) : Below _ _ w2))
  replace hb := As.mk hb
  go_wp2_with fail
  refine Calls.mono (c2.out _ HT.out) ?_
  intro e w3 h3; obtain ⟨A3, q3, he, hc3, hr3, hb⟩ := h3.row; have k3 := strOf (c := q3) hr3 (by rw [hm.out]; omega) rfl; rw [hm.out] at he k3; subst he; clear h3 hr3 hc3
  have hs := hb.size
  (try simp only [World.size_alloc, World.size_drew] at hs)
  replace hB := As.mk (belowNext hB.out (by (repeat (first | (with_reducible assumption) | (with_reducible exact Below.refl _ _) | (with_reducible refine Below.drew ?_) | (with_reducible refine below_drewN ?_ _) | (with_reducible refine Below.alloc ?_ (by (first | omega | (simp only [World.size_alloc, World.size_drew]; done) | (simp only [World.size_alloc, World.size_drew]; omega))) _) | (refine Below.trans ?_ (Below.mono (by with_reducible assumption) (by (first | omega | (simp only [World.size_alloc, World.size_drew]; done) | (simp only [World.size_alloc, World.size_drew]; omega))))))) : Below _ _ w3))
  replace HT := As.mk (HT.out.below (by (repeat (first | (with_reducible assumption) | (with_reducible exact Below.refl _ _) | (with_reducible refine Below.drew ?_) | (with_reducible refine below_drewN ?_ _) | (with_reducible refine Below.alloc ?_ (by (first | omega | (simp only [World.size_alloc, World.size_drew]; done) | (simp only [World.size_alloc, World.size_drew]; omega))) _) | (refine Below.trans ?_ (Below.mono (by with_reducible assumption) (by (first | omega | (simp only [World.size_alloc, World.size_drew]; done) | (simp only [World.size_alloc, World.size_drew]; omega))))))) : Below _ _ w3))
  replace hb := As.mk hb
  go_wp2_with fail
  refine Calls.mono (c3.out _ HT.out) ?_
  intro e w4 h4; obtain ⟨A4, q4, he, hc4, hr4, hb⟩ := h4.row; have k4 := strOf (c := q4) hr4 (by rw [hm1.out]; omega) e3.out.symm; rw [hm1.out] at he k4; subst he; clear h4 hr4 hc4
  have hs := hb.size
  (try simp only [World.size_alloc, World.size_drew] at hs)
  replace hB := As.mk (belowNext hB.out (by (repeat (first | (with_reducible assumption) | (with_reducible exact Below.refl _ _) | (with_reducible refine Below.drew ?_) | (with_reducible refine below_drewN ?_ _) | (with_reducible refine Below.alloc ?_ (by (first | omega | (simp only [World.size_alloc, World.size_drew]; done) | (simp only [World.size_alloc, World.size_drew]; omega))) _) | (refine Below.trans ?_ (Below.mono (by with_reducible assumption) (by (first | omega | (simp only [World.size_alloc, World.size_drew]; done) | (simp only [World.size_alloc, World.size_drew]; omega))))))) : Below _ _ w4))
  replace HT := As.mk (HT.out.below (by (repeat (first | (with_reducible assumption) | (with_reducible exact Below.refl _ _) | (with_reducible refine Below.drew ?_) | (with_reducible refine below_drewN ?_ _) | (with_reducible refine Below.alloc ?_ (by (first | omega | (simp only [World.size_alloc, World.size_drew]; done) | (simp only [World.size_alloc, World.size_drew]; omega))) _) | (refine Below.trans ?_ (Below.mono (by with_reducible assumption) (by (first | omega | (simp only [World.size_alloc, World.size_drew]; done) | (simp only [World.size_alloc, World.size_drew]; omega))))))) : Below _ _ w4))
  replace hb := As.mk hb
  go_wp2
  go_ret
  exact ⟨rfl, hB.out⟩
end Go.Proofs.YtcapmihfhioafaaDoor
