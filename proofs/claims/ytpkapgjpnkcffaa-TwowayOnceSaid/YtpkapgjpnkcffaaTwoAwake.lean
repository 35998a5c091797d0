/- The walk of the laws' 'awake' on one text. -/
import Derived.Test.YtpkapgjpnkcffaaTwoRef
import Derived.Lib.SlBytesConst
set_option linter.unusedVariables false
set_option linter.unusedSimpArgs false
namespace Go.Proofs.Ytpkapgjpnkcffaa
open Go.RowKit Seine.Trie Seine.Two Go.Proofs.YtpkapgjpnkcffaaW.PrintWords Go.Proofs.Ytpkapgjpnkcffaa.Ref


theorem heapNewAt {w : World} {o : Obj} {b : Nat} (h : b = w.heap.size) : (w.alloc o).heap[b]? = some o := by rw [h]; exact heap_alloc_new _ _
theorem blkDrew {w : World} {b : Nat} {o : Obj} (h : w.heap[b]? = some o) : w.drew.heap[b]? = some o := h
theorem rowOfBlk {w : World} {b t : Nat} {cs : List Value} {fr : Nat × Nat} (h : w.heap[b]? = some (.cells cs.toArray t fr)) : Row w (some ⟨b, 0, none⟩) cs :=
  .inr ⟨_, rfl, block_lt h, fun j u hu => by
    have : (⟨b, 0, none⟩ : Addr).add j = ⟨b, j, none⟩ := by unfold Addr.add; split <;> simp_all
    rw [this, cell_of_blk h]
    simpa using hu⟩
theorem litByt {w : World} {b : Nat} (l : Txt) (cs : List Value) (hcs : cs = byCells l) {t : Nat} {fr : Nat × Nat} (h : w.heap[b]? = some (.cells cs.toArray t fr)) : Byt w (some ⟨b, 0, none⟩) l := by
  subst hcs; exact rowOfBlk h

set_option maxRecDepth 100000 in
set_option maxHeartbeats 1600000 in
theorem awake_calls (w : World) : Calls Try.prog 9 #[] w fun e w' => e = .returned (.bool true) ∧ Below w.heap.size w w' := by
  have hB := As.mk (Below.refl w.heap.size w)
  have kc : ∀ (W : World) (C : Array Value) (n c b : Nat), b = W.heap.size → (convert 22 22 (.slice (some ⟨b, 0, none⟩) n c)).run Try.prog (W.alloc (.cells C 5)) = .ok (.slice (some ⟨b, 0, none⟩) n c) (W.alloc (.cells C 5 (C.size, C.size + 1))) := fun W C n c b h => by
    subst h; exact Lib.run_convert_bytes_const (P := Try.prog) W 22 5 C n c Try.underlying22 Try.underlying5
  go_enter Try.func9, Try.ntmps9
  go_wp2_with fail
  refine Calls.mono (new_calls _ ⟨w.heap.size, 0, none⟩ 2 [97, 97] ?_ (by decide) (by decide) (by decide)) ?_
  · exact litByt [97, 97] [.int .u8 97, .int .u8 97] rfl (by (repeat (first | (with_reducible assumption) | (with_reducible exact heap_alloc_new _ _) | (exact heapNewAt (by (first | omega | (simp only [World.size_alloc, World.size_drew]; done) | (simp only [World.size_alloc, World.size_drew]; omega)))) | (with_reducible refine blkDrew ?_) | (with_reducible refine blk_old ?_) | (refine blkBelow (by with_reducible assumption) ?_))))
  rintro e w1 ⟨g, ad, cb, a, s, sm, rfl, hT, hb⟩; replace hT := As.mk hT
  have hs := hb.size
  (try simp only [World.size_alloc, World.size_drew] at hs)
  replace hB := As.mk (belowNext hB.out (by (repeat (first | (with_reducible assumption) | (with_reducible exact Below.refl _ _) | (with_reducible refine Below.drew ?_) | (with_reducible refine below_drewN ?_ _) | (with_reducible refine Below.alloc ?_ (by (first | omega | (simp only [World.size_alloc, World.size_drew]; done) | (simp only [World.size_alloc, World.size_drew]; omega))) _) | (refine Below.trans ?_ (Below.mono (by with_reducible assumption) (by (first | omega | (simp only [World.size_alloc, World.size_drew]; done) | (simp only [World.size_alloc, World.size_drew]; omega))))))) : Below _ _ w1))
  replace hb := As.mk hb
  go_wp2_with fail
  refine Calls.mono (new_empty_calls _ none 0) ?_
  rintro e w' ⟨rfl, rfl⟩
  go_wp2_with fail
  refine Calls.mono (scan_calls _ g [97, 97] ad cb a s sm ?_ (by decide) _ 3 [97, 97, 97] ?_ (by decide)) ?_
  · exact hT.out.below (by (repeat (first | (with_reducible assumption) | (with_reducible exact Below.refl _ _) | (with_reducible refine Below.drew ?_) | (with_reducible refine below_drewN ?_ _) | (with_reducible refine Below.alloc ?_ (by (first | omega | (simp only [World.size_alloc, World.size_drew]; done) | (simp only [World.size_alloc, World.size_drew]; omega))) _) | (refine Below.trans ?_ (Below.mono (by with_reducible assumption) (by (first | omega | (simp only [World.size_alloc, World.size_drew]; done) | (simp only [World.size_alloc, World.size_drew]; omega))))))))
  · exact litByt [97, 97, 97] [.int .u8 97, .int .u8 97, .int .u8 97] rfl (by (repeat (first | (with_reducible assumption) | (with_reducible exact heap_alloc_new _ _) | (exact heapNewAt (by (first | omega | (simp only [World.size_alloc, World.size_drew]; done) | (simp only [World.size_alloc, World.size_drew]; omega)))) | (with_reducible refine blkDrew ?_) | (with_reducible refine blk_old ?_) | (refine blkBelow (by with_reducible assumption) ?_))))
  intro e w2 h2; rw [show occFrom [97, 97] [97, 97, 97] 0 = [(0, 2), (1, 3)] by decide] at h2; obtain ⟨A2, c2, he, hc2, hr2, hb⟩ := h2.row; rw [show ([((0 : Int), (2 : Int)), (1, 3)] : List Pr).length = 2 from rfl] at he hc2; subst he; obtain ⟨ad2, rfl, y0, y1⟩ := Prs.at_ hr2 (i := 1) (by decide); replace hr2 := As.mk hr2; clear h2
  have hs := hb.size
  (try simp only [World.size_alloc, World.size_drew] at hs)
  replace hB := As.mk (belowNext hB.out (by (repeat (first | (with_reducible assumption) | (with_reducible exact Below.refl _ _) | (with_reducible refine Below.drew ?_) | (with_reducible refine below_drewN ?_ _) | (with_reducible refine Below.alloc ?_ (by (first | omega | (simp only [World.size_alloc, World.size_drew]; done) | (simp only [World.size_alloc, World.size_drew]; omega))) _) | (refine Below.trans ?_ (Below.mono (by with_reducible assumption) (by (first | omega | (simp only [World.size_alloc, World.size_drew]; done) | (simp only [World.size_alloc, World.size_drew]; omega))))))) : Below _ _ w2))
  replace hT := As.mk (hT.out.below (by (repeat (first | (with_reducible assumption) | (with_reducible exact Below.refl _ _) | (with_reducible refine Below.drew ?_) | (with_reducible refine below_drewN ?_ _) | (with_reducible refine Below.alloc ?_ (by (first | omega | (simp only [World.size_alloc, World.size_drew]; done) | (simp only [World.size_alloc, World.size_drew]; omega))) _) | (refine Below.trans ?_ (Below.mono (by with_reducible assumption) (by (first | omega | (simp only [World.size_alloc, World.size_drew]; done) | (simp only [World.size_alloc, World.size_drew]; omega))))))) : Below _ _ w2))
  replace hb := As.mk hb
  replace y0 : w2.cell? ⟨ad2.block, ad2.off + 2, none⟩ = some (.int .i64 1) := y0
  replace y1 : w2.cell? ⟨ad2.block, ad2.off + 2 + 1, none⟩ = some (.int .i64 3) := y1
  go_wp2_with fail
  refine Calls.mono (next_calls _ g [97, 97] ad cb a s sm ?_ (by decide) _ 3 [97, 97, 97] ?_ (by decide) 1) ?_
  · exact hT.out.below (by (repeat (first | (with_reducible assumption) | (with_reducible exact Below.refl _ _) | (with_reducible refine Below.drew ?_) | (with_reducible refine below_drewN ?_ _) | (with_reducible refine Below.alloc ?_ (by (first | omega | (simp only [World.size_alloc, World.size_drew]; done) | (simp only [World.size_alloc, World.size_drew]; omega))) _) | (refine Below.trans ?_ (Below.mono (by with_reducible assumption) (by (first | omega | (simp only [World.size_alloc, World.size_drew]; done) | (simp only [World.size_alloc, World.size_drew]; omega))))))))
  · exact litByt [97, 97, 97] [.int .u8 97, .int .u8 97, .int .u8 97] rfl (by (repeat (first | (with_reducible assumption) | (with_reducible exact heap_alloc_new _ _) | (exact heapNewAt (by (first | omega | (simp only [World.size_alloc, World.size_drew]; done) | (simp only [World.size_alloc, World.size_drew]; omega)))) | (with_reducible refine blkDrew ?_) | (with_reducible refine blk_old ?_) | (refine blkBelow (by with_reducible assumption) ?_))))
  rintro e w3 ⟨he, hb⟩; rw [show nextF [97, 97] [97, 97, 97] (1 : Int).toNat = 1 by decide] at he; subst he
  have hs := hb.size
  (try simp only [World.size_alloc, World.size_drew] at hs)
  replace hB := As.mk (belowNext hB.out (by (repeat (first | (with_reducible assumption) | (with_reducible exact Below.refl _ _) | (with_reducible refine Below.drew ?_) | (with_reducible refine below_drewN ?_ _) | (with_reducible refine Below.alloc ?_ (by (first | omega | (simp only [World.size_alloc, World.size_drew]; done) | (simp only [World.size_alloc, World.size_drew]; omega))) _) | (refine Below.trans ?_ (Below.mono (by with_reducible assumption) (by (first | omega | (simp only [World.size_alloc, World.size_drew]; done) | (simp only [World.size_alloc, World.size_drew]; omega))))))) : Below _ _ w3))
  replace hT := As.mk (hT.out.below (by (repeat (first | (with_reducible assumption) | (with_reducible exact Below.refl _ _) | (with_reducible refine Below.drew ?_) | (with_reducible refine below_drewN ?_ _) | (with_reducible refine Below.alloc ?_ (by (first | omega | (simp only [World.size_alloc, World.size_drew]; done) | (simp only [World.size_alloc, World.size_drew]; omega))) _) | (refine Below.trans ?_ (Below.mono (by with_reducible assumption) (by (first | omega | (simp only [World.size_alloc, World.size_drew]; done) | (simp only [World.size_alloc, World.size_drew]; omega))))))) : Below _ _ w3))
  replace hr2 := As.mk (hr2.out.below (by (repeat (first | (with_reducible assumption) | (with_reducible exact Below.refl _ _) | (with_reducible refine Below.drew ?_) | (with_reducible refine below_drewN ?_ _) | (with_reducible refine Below.alloc ?_ (by (first | omega | (simp only [World.size_alloc, World.size_drew]; done) | (simp only [World.size_alloc, World.size_drew]; omega))) _) | (refine Below.trans ?_ (Below.mono (by with_reducible assumption) (by (first | omega | (simp only [World.size_alloc, World.size_drew]; done) | (simp only [World.size_alloc, World.size_drew]; omega))))))) : Below _ _ w3))
  replace hb := As.mk hb
  go_wp2_with fail
  refine Calls.mono (next_calls _ g [97, 97] ad cb a s sm ?_ (by decide) _ 3 [97, 97, 97] ?_ (by decide) 2) ?_
  · exact hT.out.below (by (repeat (first | (with_reducible assumption) | (with_reducible exact Below.refl _ _) | (with_reducible refine Below.drew ?_) | (with_reducible refine below_drewN ?_ _) | (with_reducible refine Below.alloc ?_ (by (first | omega | (simp only [World.size_alloc, World.size_drew]; done) | (simp only [World.size_alloc, World.size_drew]; omega))) _) | (refine Below.trans ?_ (Below.mono (by with_reducible assumption) (by (first | omega | (simp only [World.size_alloc, World.size_drew]; done) | (simp only [World.size_alloc, World.size_drew]; omega))))))))
  · exact litByt [97, 97, 97] [.int .u8 97, .int .u8 97, .int .u8 97] rfl (by (repeat (first | (with_reducible assumption) | (with_reducible exact heap_alloc_new _ _) | (exact heapNewAt (by (first | omega | (simp only [World.size_alloc, World.size_drew]; done) | (simp only [World.size_alloc, World.size_drew]; omega)))) | (with_reducible refine blkDrew ?_) | (with_reducible refine blk_old ?_) | (refine blkBelow (by with_reducible assumption) ?_))))
  rintro e w4 ⟨he, hb⟩; rw [show nextF [97, 97] [97, 97, 97] (2 : Int).toNat = -1 by decide] at he; subst he
  have hs := hb.size
  (try simp only [World.size_alloc, World.size_drew] at hs)
  replace hB := As.mk (belowNext hB.out (by (repeat (first | (with_reducible assumption) | (with_reducible exact Below.refl _ _) | (with_reducible refine Below.drew ?_) | (with_reducible refine below_drewN ?_ _) | (with_reducible refine Below.alloc ?_ (by (first | omega | (simp only [World.size_alloc, World.size_drew]; done) | (simp only [World.size_alloc, World.size_drew]; omega))) _) | (refine Below.trans ?_ (Below.mono (by with_reducible assumption) (by (first | omega | (simp only [World.size_alloc, World.size_drew]; done) | (simp only [World.size_alloc, World.size_drew]; omega))))))) : Below _ _ w4))
  replace hT := As.mk (hT.out.below (by (repeat (first | (with_reducible assumption) | (with_reducible exact Below.refl _ _) | (with_reducible refine Below.drew ?_) | (with_reducible refine below_drewN ?_ _) | (with_reducible refine Below.alloc ?_ (by (first | omega | (simp only [World.size_alloc, World.size_drew]; done) | (simp only [World.size_alloc, World.size_drew]; omega))) _) | (refine Below.trans ?_ (Below.mono (by with_reducible assumption) (by (first | omega | (simp only [World.size_alloc, World.size_drew]; done) | (simp only [World.size_alloc, World.size_drew]; omega))))))) : Below _ _ w4))
  replace hr2 := As.mk (hr2.out.below (by (repeat (first | (with_reducible assumption) | (with_reducible exact Below.refl _ _) | (with_reducible refine Below.drew ?_) | (with_reducible refine below_drewN ?_ _) | (with_reducible refine Below.alloc ?_ (by (first | omega | (simp only [World.size_alloc, World.size_drew]; done) | (simp only [World.size_alloc, World.size_drew]; omega))) _) | (refine Below.trans ?_ (Below.mono (by with_reducible assumption) (by (first | omega | (simp only [World.size_alloc, World.size_drew]; done) | (simp only [World.size_alloc, World.size_drew]; omega))))))) : Below _ _ w4))
  replace hb := As.mk hb
  go_wp2
  go_ret
  exact ⟨rfl, hB.out⟩
end Go.Proofs.Ytpkapgjpnkcffaa
