/- The walk of the laws' 'awake' on what is printed. -/
import Derived.Test.YtcapmihfhioafaaDoorPrintWalk3
import Derived.Lib.SlBytesConst
set_option linter.unusedVariables false
set_option linter.unusedSimpArgs false
namespace Go.Proofs.YtcapmihfhioafaaDoor
open Go.RowKit Seine.Trie Go.Shelf Go.Proofs.YtcapmihfhioafaaDoorW.PrintWords

theorem ex1 : lineF 12 [97, 98] true = [49, 50, 58, 97, 98, 10] := by decide +kernel
theorem ex2 : piecesF 12 [97, 98, 99] [(1, 2), (0, 3)] true = [49, 51, 58, 98, 10, 49, 50, 58, 97, 98, 99, 10] := by decide +kernel
theorem ex3 : dig 7 ++ [10] = [55, 10] := by decide +kernel
theorem ex4 : dig (-40) = [45, 52, 48] := by decide +kernel
theorem ex5 : lineF 1 [] false = [10] := by decide +kernel
set_option maxRecDepth 100000 in
set_option maxHeartbeats 1600000 in
theorem awake_calls (w : World) (ht : Tab w) : Calls Tryd.prog 8 #[] w fun e w' => e = .returned (.bool true) ∧ Below w.heap.size w w' := by
  have hB := As.mk (Below.refl w.heap.size w)
  have HT := As.mk ht
  have kc : ∀ (W : World) (C : Array Value) (n c b : Nat), b = W.heap.size → (convert 24 24 (.slice (some ⟨b, 0, none⟩) n c)).run Tryd.prog (W.alloc (.cells C 5)) = .ok (.slice (some ⟨b, 0, none⟩) n c) (W.alloc (.cells C 5 (C.size, C.size + 1))) := fun W C n c b h => by
    subst h; exact Lib.run_convert_bytes_const (P := Tryd.prog) W 24 5 C n c Tryd.underlying24 Tryd.underlying5
  clear ht
  go_enter Tryd.func8, Tryd.ntmps8
  go_wp2_with fail
  refine Calls.mono (line_calls 12 (by decide) _ 2 [97, 98] true _ ?_ (by decide) ?_) ?_
  · exact litByt [97, 98] [.int .u8 97, .int .u8 98] rfl (by (repeat (first | (with_reducible assumption) | (with_reducible exact heap_alloc_new _ _) | (exact heapNewAt (by (first | omega | (simp only [World.size_alloc, World.size_drew]; done) | (simp only [World.size_alloc, World.size_drew]; omega)))) | (with_reducible refine blkDrew ?_) | (with_reducible refine blk_old ?_) | (refine blkBelow (by with_reducible assumption) ?_))))
  · exact HT.out.below (by (repeat (first | (with_reducible assumption) | (with_reducible exact Below.refl _ _) | (with_reducible refine Below.drew ?_) | (with_reducible refine below_drewN ?_ _) | (with_reducible refine Below.alloc ?_ (by (first | omega | (simp only [World.size_alloc, World.size_drew]; done) | (simp only [World.size_alloc, World.size_drew]; omega))) _) | (refine Below.trans ?_ (Below.mono (by with_reducible assumption) (by (first | omega | (simp only [World.size_alloc, World.size_drew]; done) | (simp only [World.size_alloc, World.size_drew]; omega))))))))
  intro e w1 h1; rw [ex1] at h1; obtain ⟨A1, c1, he, hc1, hr1, hb⟩ := h1.rowc; have k1 := strOf (c := c1) hr1 (by decide) (s := ⟨#[49, 50, 58, 97, 98, 10]⟩) (by decide); rw [show List.length [(49 : UInt8), 50, 58, 97, 98, 10] = 6 from rfl] at he k1; subst he; clear h1 hr1 hc1
  have hs := hb.size
  (try simp only [World.size_alloc, World.size_drew] at hs)
  replace hB := As.mk (belowNext hB.out (by (repeat (first | (with_reducible assumption) | (with_reducible exact Below.refl _ _) | (with_reducible refine Below.drew ?_) | (with_reducible refine below_drewN ?_ _) | (with_reducible refine Below.alloc ?_ (by (first | omega | (simp only [World.size_alloc, World.size_drew]; done) | (simp only [World.size_alloc, World.size_drew]; omega))) _) | (refine Below.trans ?_ (Below.mono (by with_reducible assumption) (by (first | omega | (simp only [World.size_alloc, World.size_drew]; done) | (simp only [World.size_alloc, World.size_drew]; omega))))))) : Below _ _ w1))
  replace HT := As.mk (HT.out.below (by (repeat (first | (with_reducible assumption) | (with_reducible exact Below.refl _ _) | (with_reducible refine Below.drew ?_) | (with_reducible refine below_drewN ?_ _) | (with_reducible refine Below.alloc ?_ (by (first | omega | (simp only [World.size_alloc, World.size_drew]; done) | (simp only [World.size_alloc, World.size_drew]; omega))) _) | (refine Below.trans ?_ (Below.mono (by with_reducible assumption) (by (first | omega | (simp only [World.size_alloc, World.size_drew]; done) | (simp only [World.size_alloc, World.size_drew]; omega))))))) : Below _ _ w1))
  replace hb := As.mk hb
  go_wp2_with fail
  refine Calls.mono (pieces_calls 12 (by decide) _ 3 [97, 98, 99] _ 2 [(1, 2), (0, 3)] true _ ?_ (by decide) (by decide) ?_ (by decide) ?_) ?_
  · exact litByt [97, 98, 99] [.int .u8 97, .int .u8 98, .int .u8 99] rfl (by (repeat (first | (with_reducible assumption) | (with_reducible exact heap_alloc_new _ _) | (exact heapNewAt (by (first | omega | (simp only [World.size_alloc, World.size_drew]; done) | (simp only [World.size_alloc, World.size_drew]; omega)))) | (with_reducible refine blkDrew ?_) | (with_reducible refine blk_old ?_) | (refine blkBelow (by with_reducible assumption) ?_))))
  · exact rowOfBlk (by (repeat (first | (with_reducible assumption) | (with_reducible exact heap_alloc_new _ _) | (exact heapNewAt (by (first | omega | (simp only [World.size_alloc, World.size_drew]; done) | (simp only [World.size_alloc, World.size_drew]; omega)))) | (with_reducible refine blkDrew ?_) | (with_reducible refine blk_old ?_) | (refine blkBelow (by with_reducible assumption) ?_))))
  · exact HT.out.below (by (repeat (first | (with_reducible assumption) | (with_reducible exact Below.refl _ _) | (with_reducible refine Below.drew ?_) | (with_reducible refine below_drewN ?_ _) | (with_reducible refine Below.alloc ?_ (by (first | omega | (simp only [World.size_alloc, World.size_drew]; done) | (simp only [World.size_alloc, World.size_drew]; omega))) _) | (refine Below.trans ?_ (Below.mono (by with_reducible assumption) (by (first | omega | (simp only [World.size_alloc, World.size_drew]; done) | (simp only [World.size_alloc, World.size_drew]; omega))))))))
  intro e w2 h2; rw [ex2] at h2; obtain ⟨A2, c2, he, hc2, hr2, hb⟩ := h2.rowc; have k2 := strOf (c := c2) hr2 (by decide) (s := ⟨#[49, 51, 58, 98, 10, 49, 50, 58, 97, 98, 99, 10]⟩) (by decide); rw [show List.length [(49 : UInt8), 51, 58, 98, 10, 49, 50, 58, 97, 98, 99, 10] = 12 from rfl] at he k2; subst he; clear h2 hr2 hc2
  have hs := hb.size
  (try simp only [World.size_alloc, World.size_drew] at hs)
  replace hB := As.mk (belowNext hB.out (by (repeat (first | (with_reducible assumption) | (with_reducible exact Below.refl _ _) | (with_reducible refine Below.drew ?_) | (with_reducible refine below_drewN ?_ _) | (with_reducible refine Below.alloc ?_ (by (first | omega | (simp only [World.size_alloc, World.size_drew]; done) | (simp only [World.size_alloc, World.size_drew]; omega))) _) | (refine Below.trans ?_ (Below.mono (by with_reducible assumption) (by (first | omega | (simp only [World.size_alloc, World.size_drew]; done) | (simp only [World.size_alloc, World.size_drew]; omega))))))) : Below _ _ w2))
  replace HT := As.mk (HT.out.below (by (repeat (first | (with_reducible assumption) | (with_reducible exact Below.refl _ _) | (with_reducible refine Below.drew ?_) | (with_reducible refine below_drewN ?_ _) | (with_reducible refine Below.alloc ?_ (by (first | omega | (simp only [World.size_alloc, World.size_drew]; done) | (simp only [World.size_alloc, World.size_drew]; omega))) _) | (refine Below.trans ?_ (Below.mono (by with_reducible assumption) (by (first | omega | (simp only [World.size_alloc, World.size_drew]; done) | (simp only [World.size_alloc, World.size_drew]; omega))))))) : Below _ _ w2))
  replace hb := As.mk hb
  go_wp2_with fail
  refine Calls.mono (count_calls 7 (by decide) _ ?_) ?_
  · exact HT.out.below (by (repeat (first | (with_reducible assumption) | (with_reducible exact Below.refl _ _) | (with_reducible refine Below.drew ?_) | (with_reducible refine below_drewN ?_ _) | (with_reducible refine Below.alloc ?_ (by (first | omega | (simp only [World.size_alloc, World.size_drew]; done) | (simp only [World.size_alloc, World.size_drew]; omega))) _) | (refine Below.trans ?_ (Below.mono (by with_reducible assumption) (by (first | omega | (simp only [World.size_alloc, World.size_drew]; done) | (simp only [World.size_alloc, World.size_drew]; omega))))))))
  intro e w3 h3; rw [ex3] at h3; obtain ⟨A3, c3, he, hc3, hr3, hb⟩ := h3.rowc; have k3 := strOf (c := c3) hr3 (by decide) (s := ⟨#[55, 10]⟩) (by decide); rw [show List.length [(55 : UInt8), 10] = 2 from rfl] at he k3; subst he; clear h3 hr3 hc3
  have hs := hb.size
  (try simp only [World.size_alloc, World.size_drew] at hs)
  replace hB := As.mk (belowNext hB.out (by (repeat (first | (with_reducible assumption) | (with_reducible exact Below.refl _ _) | (with_reducible refine Below.drew ?_) | (with_reducible refine below_drewN ?_ _) | (with_reducible refine Below.alloc ?_ (by (first | omega | (simp only [World.size_alloc, World.size_drew]; done) | (simp only [World.size_alloc, World.size_drew]; omega))) _) | (refine Below.trans ?_ (Below.mono (by with_reducible assumption) (by (first | omega | (simp only [World.size_alloc, World.size_drew]; done) | (simp only [World.size_alloc, World.size_drew]; omega))))))) : Below _ _ w3))
  replace HT := As.mk (HT.out.below (by (repeat (first | (with_reducible assumption) | (with_reducible exact Below.refl _ _) | (with_reducible refine Below.drew ?_) | (with_reducible refine below_drewN ?_ _) | (with_reducible refine Below.alloc ?_ (by (first | omega | (simp only [World.size_alloc, World.size_drew]; done) | (simp only [World.size_alloc, World.size_drew]; omega))) _) | (refine Below.trans ?_ (Below.mono (by with_reducible assumption) (by (first | omega | (simp only [World.size_alloc, World.size_drew]; done) | (simp only [World.size_alloc, World.size_drew]; omega))))))) : Below _ _ w3))
  replace hb := As.mk hb
  go_wp2_with fail
  refine Calls.mono (number_calls (-40) (by decide) _ ?_) ?_
  · exact HT.out.below (by (repeat (first | (with_reducible assumption) | (with_reducible exact Below.refl _ _) | (with_reducible refine Below.drew ?_) | (with_reducible refine below_drewN ?_ _) | (with_reducible refine Below.alloc ?_ (by (first | omega | (simp only [World.size_alloc, World.size_drew]; done) | (simp only [World.size_alloc, World.size_drew]; omega))) _) | (refine Below.trans ?_ (Below.mono (by with_reducible assumption) (by (first | omega | (simp only [World.size_alloc, World.size_drew]; done) | (simp only [World.size_alloc, World.size_drew]; omega))))))))
  intro e w4 h4; rw [ex4] at h4; obtain ⟨A4, c4, he, hc4, hr4, hb⟩ := h4.rowc; have k4 := strOf (c := c4) hr4 (by decide) (s := ⟨#[45, 52, 48]⟩) (by decide); rw [show List.length [(45 : UInt8), 52, 48] = 3 from rfl] at he k4; subst he; clear h4 hr4 hc4
  have hs := hb.size
  (try simp only [World.size_alloc, World.size_drew] at hs)
  replace hB := As.mk (belowNext hB.out (by (repeat (first | (with_reducible assumption) | (with_reducible exact Below.refl _ _) | (with_reducible refine Below.drew ?_) | (with_reducible refine below_drewN ?_ _) | (with_reducible refine Below.alloc ?_ (by (first | omega | (simp only [World.size_alloc, World.size_drew]; done) | (simp only [World.size_alloc, World.size_drew]; omega))) _) | (refine Below.trans ?_ (Below.mono (by with_reducible assumption) (by (first | omega | (simp only [World.size_alloc, World.size_drew]; done) | (simp only [World.size_alloc, World.size_drew]; omega))))))) : Below _ _ w4))
  replace HT := As.mk (HT.out.below (by (repeat (first | (with_reducible assumption) | (with_reducible exact Below.refl _ _) | (with_reducible refine Below.drew ?_) | (with_reducible refine below_drewN ?_ _) | (with_reducible refine Below.alloc ?_ (by (first | omega | (simp only [World.size_alloc, World.size_drew]; done) | (simp only [World.size_alloc, World.size_drew]; omega))) _) | (refine Below.trans ?_ (Below.mono (by with_reducible assumption) (by (first | omega | (simp only [World.size_alloc, World.size_drew]; done) | (simp only [World.size_alloc, World.size_drew]; omega))))))) : Below _ _ w4))
  replace hb := As.mk hb
  go_wp2_with fail
  refine Calls.mono (line_calls 1 (by decide) none 0 [] false _ (Byt.none0 _) (by decide) ?_) ?_
  · exact HT.out.below (by (repeat (first | (with_reducible assumption) | (with_reducible exact Below.refl _ _) | (with_reducible refine Below.drew ?_) | (with_reducible refine below_drewN ?_ _) | (with_reducible refine Below.alloc ?_ (by (first | omega | (simp only [World.size_alloc, World.size_drew]; done) | (simp only [World.size_alloc, World.size_drew]; omega))) _) | (refine Below.trans ?_ (Below.mono (by with_reducible assumption) (by (first | omega | (simp only [World.size_alloc, World.size_drew]; done) | (simp only [World.size_alloc, World.size_drew]; omega))))))))
  intro e w5 h5; rw [ex5] at h5; obtain ⟨A5, c5, he, hc5, hr5, hb⟩ := h5.rowc; have k5 := strOf (c := c5) hr5 (by decide) (s := ⟨#[10]⟩) (by decide); rw [show List.length [(10 : UInt8)] = 1 from rfl] at he k5; subst he; clear h5 hr5 hc5
  have hs := hb.size
  (try simp only [World.size_alloc, World.size_drew] at hs)
  replace hB := As.mk (belowNext hB.out (by (repeat (first | (with_reducible assumption) | (with_reducible exact Below.refl _ _) | (with_reducible refine Below.drew ?_) | (with_reducible refine below_drewN ?_ _) | (with_reducible refine Below.alloc ?_ (by (first | omega | (simp only [World.size_alloc, World.size_drew]; done) | (simp only [World.size_alloc, World.size_drew]; omega))) _) | (refine Below.trans ?_ (Below.mono (by with_reducible assumption) (by (first | omega | (simp only [World.size_alloc, World.size_drew]; done) | (simp only [World.size_alloc, World.size_drew]; omega))))))) : Below _ _ w5))
  replace HT := As.mk (HT.out.below (by (repeat (first | (with_reducible assumption) | (with_reducible exact Below.refl _ _) | (with_reducible refine Below.drew ?_) | (with_reducible refine below_drewN ?_ _) | (with_reducible refine Below.alloc ?_ (by (first | omega | (simp only [World.size_alloc, World.size_drew]; done) | (simp only [World.size_alloc, World.size_drew]; omega))) _) | (refine Below.trans ?_ (Below.mono (by with_reducible assumption) (by (first | omega | (simp only [World.size_alloc, World.size_drew]; done) | (simp only [World.size_alloc, World.size_drew]; omega))))))) : Below _ _ w5))
  replace hb := As.mk hb
  go_wp2
  go_ret
  exact ⟨rfl, hB.out⟩
end Go.Proofs.YtcapmihfhioafaaDoor
