/- The walk of the laws' 'awake' on links. -/
import Derived.Test.YtcajccknkjljfaaLinksRef2
import Derived.Lib.SlBytesConst
set_option linter.unusedVariables false
set_option linter.unusedSimpArgs false
namespace Go.Proofs.Ytcajccknkjljfaa
open Go.RowKit Go.Maps Seine.Trie Seine.Links Go.Proofs.YtcajccknkjljfaaW.PrintWords Go.Proofs.Ytcajccknkjljfaa.Ref

theorem Row.of_blk {w : World} {b t : Nat} {cs : List Value} {fr : Nat × Nat} (h : w.heap[b]? = some (.cells cs.toArray t fr)) : Row w (some ⟨b, 0, none⟩) cs :=
  .inr ⟨_, rfl, block_lt h, fun j u hu => by
    have : (⟨b, 0, none⟩ : Addr).add j = ⟨b, j, none⟩ := by unfold Addr.add; split <;> simp_all
    rw [this, cell_of_blk h]
    simpa using hu⟩
theorem LinksOf.below {w w' : World} {base g : Nat} {P l : List Txt} (h : LinksOf w base g P l) (hb : Below w.heap.size w w') : LinksOf w' base g P l := LinksAt.below h hb
theorem lit_byt {w : World} {b : Nat} (l : Txt) (cs : List Value) (hcs : cs = byCells l) {t : Nat} {fr : Nat × Nat} (h : w.heap[b]? = some (.cells cs.toArray t fr)) : Byt w (some ⟨b, 0, none⟩) l := by
  subst hcs; exact Row.of_blk h
theorem txts3 {w : World} {b b0 b1 b2 t : Nat} {fr f0 f1 f2 : Nat × Nat} (h : w.heap[b]? = some (.cells #[.slice (some ⟨b0, 0, none⟩) 2 2, .slice (some ⟨b1, 0, none⟩) 3 3, .slice (some ⟨b2, 0, none⟩) 4 4] t fr))
    (h0 : w.heap[b0]? = some (.cells #[.int .u8 104, .int .u8 101] 5 f0)) (h1 : w.heap[b1]? = some (.cells #[.int .u8 115, .int .u8 104, .int .u8 101] 5 f1)) (h2 : w.heap[b2]? = some (.cells #[.int .u8 104, .int .u8 101, .int .u8 114, .int .u8 115] 5 f2)) :
    Txts w (some ⟨b, 0, none⟩) [[104, 101], [115, 104, 101], [104, 101, 114, 115]] := by
  refine ⟨[.slice (some ⟨b0, 0, none⟩) 2 2, .slice (some ⟨b1, 0, none⟩) 3 3, .slice (some ⟨b2, 0, none⟩) 4 4], rfl, Row.of_blk h, fun i hi => ?_⟩
  match i, hi with
  | 0, _ => exact ⟨_, _, rfl, by decide, lit_byt [104, 101] [.int .u8 104, .int .u8 101] rfl h0⟩
  | 1, _ => exact ⟨_, _, rfl, by decide, lit_byt [115, 104, 101] [.int .u8 115, .int .u8 104, .int .u8 101] rfl h1⟩
  | 2, _ => exact ⟨_, _, rfl, by decide, lit_byt [104, 101, 114, 115] [.int .u8 104, .int .u8 101, .int .u8 114, .int .u8 115] rfl h2⟩
def exT : List Txt := [[104, 101], [115, 104, 101], [104, 101, 114, 115]]
def exP : List Txt := [[], [104], [104, 101], [115], [115, 104], [115, 104, 101], [104, 101, 114], [104, 101, 114, 115]]
theorem ex_paths : paths exT = exP := by decide

set_option maxRecDepth 100000 in
set_option maxHeartbeats 1600000 in
theorem awake_calls (w : World) : Calls Try.prog 7 #[] w fun e w' => e = .returned (.bool true) ∧ Below w.heap.size w w' := by
  have hB := As.mk (Below.refl w.heap.size w)
  have hTr : As (Tree exP) := ⟨by rw [← ex_paths]; exact paths_tree _⟩
  obtain ⟨Same_k, Same_h⟩ := (refSame [3, 2] [3, 2] (by decide)).get
  rw [decide_eq_true rfl] at Same_h
  replace Same_h := As.mk Same_h
  have hlP : As (∀ x, x ∈ exT → x ∈ exP) := ⟨by decide⟩
  have hd : As (∀ p ∈ exP, p.length ≤ 100000) := ⟨by decide⟩
  have kc : ∀ (W : World) (C : Array Value) (n c b : Nat), b = W.heap.size → (convert 44 44 (.slice (some ⟨b, 0, none⟩) n c)).run Try.prog (W.alloc (.cells C 5)) = .ok (.slice (some ⟨b, 0, none⟩) n c) (W.alloc (.cells C 5 (C.size, C.size + 1))) := fun W C n c b h => by
    subst h; exact Lib.run_convert_bytes_const (P := Try.prog) W 44 5 C n c Try.underlying44 Try.underlying5
  go_enter Try.func7, Try.ntmps7
  go_wp2_with fail
  refine Calls.mono (build_calls _ (some ⟨w.heap.size + 3, 0, none⟩) 3 exT ?_ (by decide) (by decide)) ?_
  · exact txts3 (by (repeat (first | (with_reducible assumption) | (with_reducible exact heap_alloc_new _ _) | (exact heap_new_at (by (first | omega | (simp only [World.size_alloc, World.size_drew]; done) | (simp only [World.size_alloc, World.size_drew]; omega)))) | (with_reducible refine blk_drew ?_) | (with_reducible refine blk_old ?_) | (refine blk_below (by with_reducible assumption) ?_)))) (by (repeat (first | (with_reducible assumption) | (with_reducible exact heap_alloc_new _ _) | (exact heap_new_at (by (first | omega | (simp only [World.size_alloc, World.size_drew]; done) | (simp only [World.size_alloc, World.size_drew]; omega)))) | (with_reducible refine blk_drew ?_) | (with_reducible refine blk_old ?_) | (refine blk_below (by with_reducible assumption) ?_)))) (by (repeat (first | (with_reducible assumption) | (with_reducible exact heap_alloc_new _ _) | (exact heap_new_at (by (first | omega | (simp only [World.size_alloc, World.size_drew]; done) | (simp only [World.size_alloc, World.size_drew]; omega)))) | (with_reducible refine blk_drew ?_) | (with_reducible refine blk_old ?_) | (refine blk_below (by with_reducible assumption) ?_)))) (by (repeat (first | (with_reducible assumption) | (with_reducible exact heap_alloc_new _ _) | (exact heap_new_at (by (first | omega | (simp only [World.size_alloc, World.size_drew]; done) | (simp only [World.size_alloc, World.size_drew]; omega)))) | (with_reducible refine blk_drew ?_) | (with_reducible refine blk_old ?_) | (refine blk_below (by with_reducible assumption) ?_))))
  rintro e w1 ⟨g, rfl, hT, hb⟩; rw [ex_paths] at hT; obtain ⟨tb, hT⟩ : ∃ tb, TrieAt w1 tb g exP (place exT) := ⟨_, hT⟩; replace hT := As.mk hT
  have hs := hb.size
  (try simp only [World.size_alloc, World.size_drew] at hs)
  replace hB := As.mk (below_next' hB.out (by (repeat (first | (with_reducible assumption) | (with_reducible exact Below.refl _ _) | (with_reducible refine Below.drew ?_) | (with_reducible refine Below.alloc ?_ (by (first | omega | (simp only [World.size_alloc, World.size_drew]; done) | (simp only [World.size_alloc, World.size_drew]; omega))) _) | (refine Below.trans ?_ (Below.mono (by with_reducible assumption) (by (first | omega | (simp only [World.size_alloc, World.size_drew]; done) | (simp only [World.size_alloc, World.size_drew]; omega))))))) : Below _ _ w1))
  replace hb := As.mk hb
  go_wp2_with fail
  refine Calls.mono (lbuild_calls _ tb g exP exT hT.out (by decide) hd.out hlP.out) ?_
  rintro e w2 ⟨gl, rfl, hL, hb⟩; obtain ⟨lb, hL⟩ : ∃ lb, LinksOf w2 lb gl exP exT := ⟨_, hL⟩; replace hL := As.mk hL
  have hs := hb.size
  (try simp only [World.size_alloc, World.size_drew] at hs)
  replace hB := As.mk (below_next' hB.out (by (repeat (first | (with_reducible assumption) | (with_reducible exact Below.refl _ _) | (with_reducible refine Below.drew ?_) | (with_reducible refine Below.alloc ?_ (by (first | omega | (simp only [World.size_alloc, World.size_drew]; done) | (simp only [World.size_alloc, World.size_drew]; omega))) _) | (refine Below.trans ?_ (Below.mono (by with_reducible assumption) (by (first | omega | (simp only [World.size_alloc, World.size_drew]; done) | (simp only [World.size_alloc, World.size_drew]; omega))))))) : Below _ _ w2))
  replace hT := As.mk (hT.out.below (by (repeat (first | (with_reducible assumption) | (with_reducible exact Below.refl _ _) | (with_reducible refine Below.drew ?_) | (with_reducible refine Below.alloc ?_ (by (first | omega | (simp only [World.size_alloc, World.size_drew]; done) | (simp only [World.size_alloc, World.size_drew]; omega))) _) | (refine Below.trans ?_ (Below.mono (by with_reducible assumption) (by (first | omega | (simp only [World.size_alloc, World.size_drew]; done) | (simp only [World.size_alloc, World.size_drew]; omega))))))) : Below _ _ w2))
  replace hb := As.mk hb
  go_wp2_with fail
  refine Calls.mono (find_calls _ tb g exP (place exT) ?_ (by decide) _ 3 [115, 104, 101] ?_ (by decide)) ?_
  · exact hT.out.below (by (repeat (first | (with_reducible assumption) | (with_reducible exact Below.refl _ _) | (with_reducible refine Below.drew ?_) | (with_reducible refine Below.alloc ?_ (by (first | omega | (simp only [World.size_alloc, World.size_drew]; done) | (simp only [World.size_alloc, World.size_drew]; omega))) _) | (refine Below.trans ?_ (Below.mono (by with_reducible assumption) (by (first | omega | (simp only [World.size_alloc, World.size_drew]; done) | (simp only [World.size_alloc, World.size_drew]; omega))))))))
  · exact lit_byt [115, 104, 101] [.int .u8 115, .int .u8 104, .int .u8 101] rfl (by (repeat (first | (with_reducible assumption) | (with_reducible exact heap_alloc_new _ _) | (exact heap_new_at (by (first | omega | (simp only [World.size_alloc, World.size_drew]; done) | (simp only [World.size_alloc, World.size_drew]; omega)))) | (with_reducible refine blk_drew ?_) | (with_reducible refine blk_old ?_) | (refine blk_below (by with_reducible assumption) ?_))))
  rintro e w' ⟨he, rfl⟩; rw [show place exP [115, 104, 101] = 5 by decide] at he; subst he
  go_wp2_with fail
  refine Calls.mono (find_calls _ tb g exP (place exT) ?_ (by decide) _ 4 [104, 101, 114, 115] ?_ (by decide)) ?_
  · exact hT.out.below (by (repeat (first | (with_reducible assumption) | (with_reducible exact Below.refl _ _) | (with_reducible refine Below.drew ?_) | (with_reducible refine Below.alloc ?_ (by (first | omega | (simp only [World.size_alloc, World.size_drew]; done) | (simp only [World.size_alloc, World.size_drew]; omega))) _) | (refine Below.trans ?_ (Below.mono (by with_reducible assumption) (by (first | omega | (simp only [World.size_alloc, World.size_drew]; done) | (simp only [World.size_alloc, World.size_drew]; omega))))))))
  · exact lit_byt [104, 101, 114, 115] [.int .u8 104, .int .u8 101, .int .u8 114, .int .u8 115] rfl (by (repeat (first | (with_reducible assumption) | (with_reducible exact heap_alloc_new _ _) | (exact heap_new_at (by (first | omega | (simp only [World.size_alloc, World.size_drew]; done) | (simp only [World.size_alloc, World.size_drew]; omega)))) | (with_reducible refine blk_drew ?_) | (with_reducible refine blk_old ?_) | (refine blk_below (by with_reducible assumption) ?_))))
  rintro e w' ⟨he, rfl⟩; rw [show place exP [104, 101, 114, 115] = 7 by decide] at he; subst he
  go_wp2_with fail
  refine Calls.mono (lfail_calls _ lb gl exP (failF exP) (outF exP exT) (ownF exT) (op exP exP.length) ?_ 5) ?_
  · exact hL.out.below (by (repeat (first | (with_reducible assumption) | (with_reducible exact Below.refl _ _) | (with_reducible refine Below.drew ?_) | (with_reducible refine Below.alloc ?_ (by (first | omega | (simp only [World.size_alloc, World.size_drew]; done) | (simp only [World.size_alloc, World.size_drew]; omega))) _) | (refine Below.trans ?_ (Below.mono (by with_reducible assumption) (by (first | omega | (simp only [World.size_alloc, World.size_drew]; done) | (simp only [World.size_alloc, World.size_drew]; omega))))))))
  rintro e w' ⟨he, rfl⟩; rw [show askF exP (failF exP) (-1) 5 = 2 by decide] at he; subst he
  go_wp2_with fail
  refine Calls.mono (find_calls _ tb g exP (place exT) ?_ (by decide) _ 2 [104, 101] ?_ (by decide)) ?_
  · exact hT.out.below (by (repeat (first | (with_reducible assumption) | (with_reducible exact Below.refl _ _) | (with_reducible refine Below.drew ?_) | (with_reducible refine Below.alloc ?_ (by (first | omega | (simp only [World.size_alloc, World.size_drew]; done) | (simp only [World.size_alloc, World.size_drew]; omega))) _) | (refine Below.trans ?_ (Below.mono (by with_reducible assumption) (by (first | omega | (simp only [World.size_alloc, World.size_drew]; done) | (simp only [World.size_alloc, World.size_drew]; omega))))))))
  · exact lit_byt [104, 101] [.int .u8 104, .int .u8 101] rfl (by (repeat (first | (with_reducible assumption) | (with_reducible exact heap_alloc_new _ _) | (exact heap_new_at (by (first | omega | (simp only [World.size_alloc, World.size_drew]; done) | (simp only [World.size_alloc, World.size_drew]; omega)))) | (with_reducible refine blk_drew ?_) | (with_reducible refine blk_old ?_) | (refine blk_below (by with_reducible assumption) ?_))))
  rintro e w' ⟨he, rfl⟩; rw [show place exP [104, 101] = 2 by decide] at he; subst he
  go_wp2_with fail
  refine Calls.mono (lout_calls _ lb gl exP (failF exP) (outF exP exT) (ownF exT) (op exP exP.length) ?_ 5) ?_
  · exact hL.out.below (by (repeat (first | (with_reducible assumption) | (with_reducible exact Below.refl _ _) | (with_reducible refine Below.drew ?_) | (with_reducible refine Below.alloc ?_ (by (first | omega | (simp only [World.size_alloc, World.size_drew]; done) | (simp only [World.size_alloc, World.size_drew]; omega))) _) | (refine Below.trans ?_ (Below.mono (by with_reducible assumption) (by (first | omega | (simp only [World.size_alloc, World.size_drew]; done) | (simp only [World.size_alloc, World.size_drew]; omega))))))))
  rintro e w' ⟨he, rfl⟩; rw [show askF exP (outF exP exT) (-1) 5 = 2 by decide] at he; subst he
  go_wp2_with fail
  refine Calls.mono (lfail_calls _ lb gl exP (failF exP) (outF exP exT) (ownF exT) (op exP exP.length) ?_ 5) ?_
  · exact hL.out.below (by (repeat (first | (with_reducible assumption) | (with_reducible exact Below.refl _ _) | (with_reducible refine Below.drew ?_) | (with_reducible refine Below.alloc ?_ (by (first | omega | (simp only [World.size_alloc, World.size_drew]; done) | (simp only [World.size_alloc, World.size_drew]; omega))) _) | (refine Below.trans ?_ (Below.mono (by with_reducible assumption) (by (first | omega | (simp only [World.size_alloc, World.size_drew]; done) | (simp only [World.size_alloc, World.size_drew]; omega))))))))
  rintro e w' ⟨he, rfl⟩; rw [show askF exP (failF exP) (-1) 5 = 2 by decide] at he; subst he
  go_wp2_with fail
  refine Calls.mono (lends_calls _ lb gl exP exT hTr.out hlP.out hd.out ?_ 5) ?_
  · exact hL.out.below (by (repeat (first | (with_reducible assumption) | (with_reducible exact Below.refl _ _) | (with_reducible refine Below.drew ?_) | (with_reducible refine Below.alloc ?_ (by (first | omega | (simp only [World.size_alloc, World.size_drew]; done) | (simp only [World.size_alloc, World.size_drew]; omega))) _) | (refine Below.trans ?_ (Below.mono (by with_reducible assumption) (by (first | omega | (simp only [World.size_alloc, World.size_drew]; done) | (simp only [World.size_alloc, World.size_drew]; omega))))))))
  intro e w3 h3; rw [show endsAt exP exT 5 = [3, 2] by decide] at h3; obtain ⟨A3, c3, rfl, hc3, hr3, hb⟩ := h3.row; replace hr3 := As.mk hr3; clear h3
  have hs := hb.size
  (try simp only [World.size_alloc, World.size_drew] at hs)
  replace hB := As.mk (below_next' hB.out (by (repeat (first | (with_reducible assumption) | (with_reducible exact Below.refl _ _) | (with_reducible refine Below.drew ?_) | (with_reducible refine Below.alloc ?_ (by (first | omega | (simp only [World.size_alloc, World.size_drew]; done) | (simp only [World.size_alloc, World.size_drew]; omega))) _) | (refine Below.trans ?_ (Below.mono (by with_reducible assumption) (by (first | omega | (simp only [World.size_alloc, World.size_drew]; done) | (simp only [World.size_alloc, World.size_drew]; omega))))))) : Below _ _ w3))
  replace hT := As.mk (hT.out.below (by (repeat (first | (with_reducible assumption) | (with_reducible exact Below.refl _ _) | (with_reducible refine Below.drew ?_) | (with_reducible refine Below.alloc ?_ (by (first | omega | (simp only [World.size_alloc, World.size_drew]; done) | (simp only [World.size_alloc, World.size_drew]; omega))) _) | (refine Below.trans ?_ (Below.mono (by with_reducible assumption) (by (first | omega | (simp only [World.size_alloc, World.size_drew]; done) | (simp only [World.size_alloc, World.size_drew]; omega))))))) : Below _ _ w3))
  replace hL := As.mk (hL.out.below (by (repeat (first | (with_reducible assumption) | (with_reducible exact Below.refl _ _) | (with_reducible refine Below.drew ?_) | (with_reducible refine Below.alloc ?_ (by (first | omega | (simp only [World.size_alloc, World.size_drew]; done) | (simp only [World.size_alloc, World.size_drew]; omega))) _) | (refine Below.trans ?_ (Below.mono (by with_reducible assumption) (by (first | omega | (simp only [World.size_alloc, World.size_drew]; done) | (simp only [World.size_alloc, World.size_drew]; omega))))))) : Below _ _ w3))
  replace hb := As.mk hb
  go_wp2_with fail
  refine Calls.mono (seineref07_Same.calls Same_k A3 c3 [3, 2] _ 2 [3, 2] true _ ?_ hc3 ?_ (by decide) Same_h.out) ?_
  · exact kdInts (hr3.out.below (by (repeat (first | (with_reducible assumption) | (with_reducible exact Below.refl _ _) | (with_reducible refine Below.drew ?_) | (with_reducible refine Below.alloc ?_ (by (first | omega | (simp only [World.size_alloc, World.size_drew]; done) | (simp only [World.size_alloc, World.size_drew]; omega))) _) | (refine Below.trans ?_ (Below.mono (by with_reducible assumption) (by (first | omega | (simp only [World.size_alloc, World.size_drew]; done) | (simp only [World.size_alloc, World.size_drew]; omega))))))))) (by decide)
  · exact kdInts (Row.of_blk (cs := intVals [3, 2]) (by (repeat (first | (with_reducible assumption) | (with_reducible exact heap_alloc_new _ _) | (exact heap_new_at (by (first | omega | (simp only [World.size_alloc, World.size_drew]; done) | (simp only [World.size_alloc, World.size_drew]; omega)))) | (with_reducible refine blk_drew ?_) | (with_reducible refine blk_old ?_) | (refine blk_below (by with_reducible assumption) ?_))))) (by decide)
  rintro e w4 ⟨rfl, hb⟩; replace hb := hb.below
  have hs := hb.size
  (try simp only [World.size_alloc, World.size_drew] at hs)
  replace hB := As.mk (below_next' hB.out (by (repeat (first | (with_reducible assumption) | (with_reducible exact Below.refl _ _) | (with_reducible refine Below.drew ?_) | (with_reducible refine Below.alloc ?_ (by (first | omega | (simp only [World.size_alloc, World.size_drew]; done) | (simp only [World.size_alloc, World.size_drew]; omega))) _) | (refine Below.trans ?_ (Below.mono (by with_reducible assumption) (by (first | omega | (simp only [World.size_alloc, World.size_drew]; done) | (simp only [World.size_alloc, World.size_drew]; omega))))))) : Below _ _ w4))
  replace hT := As.mk (hT.out.below (by (repeat (first | (with_reducible assumption) | (with_reducible exact Below.refl _ _) | (with_reducible refine Below.drew ?_) | (with_reducible refine Below.alloc ?_ (by (first | omega | (simp only [World.size_alloc, World.size_drew]; done) | (simp only [World.size_alloc, World.size_drew]; omega))) _) | (refine Below.trans ?_ (Below.mono (by with_reducible assumption) (by (first | omega | (simp only [World.size_alloc, World.size_drew]; done) | (simp only [World.size_alloc, World.size_drew]; omega))))))) : Below _ _ w4))
  replace hL := As.mk (hL.out.below (by (repeat (first | (with_reducible assumption) | (with_reducible exact Below.refl _ _) | (with_reducible refine Below.drew ?_) | (with_reducible refine Below.alloc ?_ (by (first | omega | (simp only [World.size_alloc, World.size_drew]; done) | (simp only [World.size_alloc, World.size_drew]; omega))) _) | (refine Below.trans ?_ (Below.mono (by with_reducible assumption) (by (first | omega | (simp only [World.size_alloc, World.size_drew]; done) | (simp only [World.size_alloc, World.size_drew]; omega))))))) : Below _ _ w4))
  replace hr3 := As.mk (hr3.out.below (by (repeat (first | (with_reducible assumption) | (with_reducible exact Below.refl _ _) | (with_reducible refine Below.drew ?_) | (with_reducible refine Below.alloc ?_ (by (first | omega | (simp only [World.size_alloc, World.size_drew]; done) | (simp only [World.size_alloc, World.size_drew]; omega))) _) | (refine Below.trans ?_ (Below.mono (by with_reducible assumption) (by (first | omega | (simp only [World.size_alloc, World.size_drew]; done) | (simp only [World.size_alloc, World.size_drew]; omega))))))) : Below _ _ w4))
  replace hb := As.mk hb
  go_wp2_with fail
  refine Calls.mono (llongest_calls _ lb gl exP exT hTr.out hlP.out hd.out ?_ 5) ?_
  · exact hL.out.below (by (repeat (first | (with_reducible assumption) | (with_reducible exact Below.refl _ _) | (with_reducible refine Below.drew ?_) | (with_reducible refine Below.alloc ?_ (by (first | omega | (simp only [World.size_alloc, World.size_drew]; done) | (simp only [World.size_alloc, World.size_drew]; omega))) _) | (refine Below.trans ?_ (Below.mono (by with_reducible assumption) (by (first | omega | (simp only [World.size_alloc, World.size_drew]; done) | (simp only [World.size_alloc, World.size_drew]; omega))))))))
  rintro e w5 ⟨he, hb⟩; rw [show (endsAt exP exT 5).headD 0 = 3 by decide] at he; subst he
  have hs := hb.size
  (try simp only [World.size_alloc, World.size_drew] at hs)
  replace hB := As.mk (below_next' hB.out (by (repeat (first | (with_reducible assumption) | (with_reducible exact Below.refl _ _) | (with_reducible refine Below.drew ?_) | (with_reducible refine Below.alloc ?_ (by (first | omega | (simp only [World.size_alloc, World.size_drew]; done) | (simp only [World.size_alloc, World.size_drew]; omega))) _) | (refine Below.trans ?_ (Below.mono (by with_reducible assumption) (by (first | omega | (simp only [World.size_alloc, World.size_drew]; done) | (simp only [World.size_alloc, World.size_drew]; omega))))))) : Below _ _ w5))
  replace hT := As.mk (hT.out.below (by (repeat (first | (with_reducible assumption) | (with_reducible exact Below.refl _ _) | (with_reducible refine Below.drew ?_) | (with_reducible refine Below.alloc ?_ (by (first | omega | (simp only [World.size_alloc, World.size_drew]; done) | (simp only [World.size_alloc, World.size_drew]; omega))) _) | (refine Below.trans ?_ (Below.mono (by with_reducible assumption) (by (first | omega | (simp only [World.size_alloc, World.size_drew]; done) | (simp only [World.size_alloc, World.size_drew]; omega))))))) : Below _ _ w5))
  replace hL := As.mk (hL.out.below (by (repeat (first | (with_reducible assumption) | (with_reducible exact Below.refl _ _) | (with_reducible refine Below.drew ?_) | (with_reducible refine Below.alloc ?_ (by (first | omega | (simp only [World.size_alloc, World.size_drew]; done) | (simp only [World.size_alloc, World.size_drew]; omega))) _) | (refine Below.trans ?_ (Below.mono (by with_reducible assumption) (by (first | omega | (simp only [World.size_alloc, World.size_drew]; done) | (simp only [World.size_alloc, World.size_drew]; omega))))))) : Below _ _ w5))
  replace hb := As.mk hb
  go_wp2_with fail
  refine Calls.mono (lfail_calls _ lb gl exP (failF exP) (outF exP exT) (ownF exT) (op exP exP.length) ?_ 7) ?_
  · exact hL.out.below (by (repeat (first | (with_reducible assumption) | (with_reducible exact Below.refl _ _) | (with_reducible refine Below.drew ?_) | (with_reducible refine Below.alloc ?_ (by (first | omega | (simp only [World.size_alloc, World.size_drew]; done) | (simp only [World.size_alloc, World.size_drew]; omega))) _) | (refine Below.trans ?_ (Below.mono (by with_reducible assumption) (by (first | omega | (simp only [World.size_alloc, World.size_drew]; done) | (simp only [World.size_alloc, World.size_drew]; omega))))))))
  rintro e w' ⟨he, rfl⟩; rw [show askF exP (failF exP) (-1) 7 = 3 by decide] at he; subst he
  go_wp2_with fail
  refine Calls.mono (find_calls _ tb g exP (place exT) ?_ (by decide) _ 1 [115] ?_ (by decide)) ?_
  · exact hT.out.below (by (repeat (first | (with_reducible assumption) | (with_reducible exact Below.refl _ _) | (with_reducible refine Below.drew ?_) | (with_reducible refine Below.alloc ?_ (by (first | omega | (simp only [World.size_alloc, World.size_drew]; done) | (simp only [World.size_alloc, World.size_drew]; omega))) _) | (refine Below.trans ?_ (Below.mono (by with_reducible assumption) (by (first | omega | (simp only [World.size_alloc, World.size_drew]; done) | (simp only [World.size_alloc, World.size_drew]; omega))))))))
  · exact lit_byt [115] [.int .u8 115] rfl (by (repeat (first | (with_reducible assumption) | (with_reducible exact heap_alloc_new _ _) | (exact heap_new_at (by (first | omega | (simp only [World.size_alloc, World.size_drew]; done) | (simp only [World.size_alloc, World.size_drew]; omega)))) | (with_reducible refine blk_drew ?_) | (with_reducible refine blk_old ?_) | (refine blk_below (by with_reducible assumption) ?_))))
  rintro e w' ⟨he, rfl⟩; rw [show place exP [115] = 3 by decide] at he; subst he
  go_wp2_with fail
  refine Calls.mono (lfail_calls _ lb gl exP (failF exP) (outF exP exT) (ownF exT) (op exP exP.length) ?_ 0) ?_
  · exact hL.out.below (by (repeat (first | (with_reducible assumption) | (with_reducible exact Below.refl _ _) | (with_reducible refine Below.drew ?_) | (with_reducible refine Below.alloc ?_ (by (first | omega | (simp only [World.size_alloc, World.size_drew]; done) | (simp only [World.size_alloc, World.size_drew]; omega))) _) | (refine Below.trans ?_ (Below.mono (by with_reducible assumption) (by (first | omega | (simp only [World.size_alloc, World.size_drew]; done) | (simp only [World.size_alloc, World.size_drew]; omega))))))))
  rintro e w' ⟨he, rfl⟩; rw [show askF exP (failF exP) (-1) 0 = -1 by decide] at he; subst he
  go_wp2_with fail
  refine Calls.mono (lorder_calls _ lb gl exP exT hTr.out (by decide) ?_) ?_
  · exact hL.out.below (by (repeat (first | (with_reducible assumption) | (with_reducible exact Below.refl _ _) | (with_reducible refine Below.drew ?_) | (with_reducible refine Below.alloc ?_ (by (first | omega | (simp only [World.size_alloc, World.size_drew]; done) | (simp only [World.size_alloc, World.size_drew]; omega))) _) | (refine Below.trans ?_ (Below.mono (by with_reducible assumption) (by (first | omega | (simp only [World.size_alloc, World.size_drew]; done) | (simp only [World.size_alloc, World.size_drew]; omega))))))))
  intro e w6 h6; obtain ⟨A6, c6, he, hc6, hr6, hb⟩ := h6.row; rw [orderF_length hTr.out, show exP.length = 8 from rfl] at he; subst he; clear h6 hr6 hc6
  have hs := hb.size
  (try simp only [World.size_alloc, World.size_drew] at hs)
  replace hB := As.mk (below_next' hB.out (by (repeat (first | (with_reducible assumption) | (with_reducible exact Below.refl _ _) | (with_reducible refine Below.drew ?_) | (with_reducible refine Below.alloc ?_ (by (first | omega | (simp only [World.size_alloc, World.size_drew]; done) | (simp only [World.size_alloc, World.size_drew]; omega))) _) | (refine Below.trans ?_ (Below.mono (by with_reducible assumption) (by (first | omega | (simp only [World.size_alloc, World.size_drew]; done) | (simp only [World.size_alloc, World.size_drew]; omega))))))) : Below _ _ w6))
  replace hT := As.mk (hT.out.below (by (repeat (first | (with_reducible assumption) | (with_reducible exact Below.refl _ _) | (with_reducible refine Below.drew ?_) | (with_reducible refine Below.alloc ?_ (by (first | omega | (simp only [World.size_alloc, World.size_drew]; done) | (simp only [World.size_alloc, World.size_drew]; omega))) _) | (refine Below.trans ?_ (Below.mono (by with_reducible assumption) (by (first | omega | (simp only [World.size_alloc, World.size_drew]; done) | (simp only [World.size_alloc, World.size_drew]; omega))))))) : Below _ _ w6))
  replace hL := As.mk (hL.out.below (by (repeat (first | (with_reducible assumption) | (with_reducible exact Below.refl _ _) | (with_reducible refine Below.drew ?_) | (with_reducible refine Below.alloc ?_ (by (first | omega | (simp only [World.size_alloc, World.size_drew]; done) | (simp only [World.size_alloc, World.size_drew]; omega))) _) | (refine Below.trans ?_ (Below.mono (by with_reducible assumption) (by (first | omega | (simp only [World.size_alloc, World.size_drew]; done) | (simp only [World.size_alloc, World.size_drew]; omega))))))) : Below _ _ w6))
  replace hb := As.mk hb
  go_wp2_with fail
  refine Calls.mono (nodes_calls _ tb g exP (place exT) ?_) ?_
  · exact hT.out.below (by (repeat (first | (with_reducible assumption) | (with_reducible exact Below.refl _ _) | (with_reducible refine Below.drew ?_) | (with_reducible refine Below.alloc ?_ (by (first | omega | (simp only [World.size_alloc, World.size_drew]; done) | (simp only [World.size_alloc, World.size_drew]; omega))) _) | (refine Below.trans ?_ (Below.mono (by with_reducible assumption) (by (first | omega | (simp only [World.size_alloc, World.size_drew]; done) | (simp only [World.size_alloc, World.size_drew]; omega))))))))
  rintro e w' ⟨he, rfl⟩; rw [show exP.length = 8 from rfl] at he; subst he
  go_wp2
  go_ret
  exact ⟨rfl, hB.out⟩
end Go.Proofs.Ytcajccknkjljfaa
