/- The walk of the law SparseNone. -/
import Derived.Test.YtieelnpfpfiboaaM6
set_option linter.unusedVariables false
set_option linter.unusedSimpArgs false
namespace Go.Proofs.Ytieelnpfpfiboaa
open Go.RowKit Go.Maps Seine.Trie Seine.Links Seine.Sparse

set_option maxRecDepth 100000 in
set_option maxHeartbeats 1600000 in
theorem none_walk (A : Option Addr) (d : Nat) (L : Txt) (b : Bool) (a : Int) (w : World) (hl : Byt w A L) (hd : L.length ≤ d) (hdm : d ≤ maxLen) (ha : (Lit.int .u8 a).wf = true) :
    Calls Try.prog 8 #[.slice A L.length d, .bool b, .int .u8 a] w fun e w' => e = .returned (.bool true) ∧ Below w.heap.size w w' := by
  obtain ⟨ch, rfl⟩ := u8_byte ha
  clear ha
  have hB := As.mk (Below.refl w.heap.size w)
  have HL := As.mk hl
  clear hl
  go_enter Try.func8, Try.ntmps8
  go_wp2_with fail
  refine Calls.mono (awake_calls _) ?_
  rintro e w1 ⟨rfl, hb⟩
  have hs := hb.size
  (try simp only [World.size_alloc, World.size_drew] at hs)
  replace hB := As.mk (belowNext hB.out (by (repeat (first | (with_reducible assumption) | (with_reducible exact Below.refl _ _) | (with_reducible refine Below.drew ?_) | (with_reducible refine below_drewN ?_ _) | (with_reducible refine Below.alloc ?_ (by (first | omega | (simp only [World.size_alloc, World.size_drew]; done) | (simp only [World.size_alloc, World.size_drew]; omega))) _) | (refine Below.trans ?_ (Below.mono (by with_reducible assumption) (by (first | omega | (simp only [World.size_alloc, World.size_drew]; done) | (simp only [World.size_alloc, World.size_drew]; omega))))))) : Below _ _ w1))
  replace HL := As.mk (HL.out.below (by (repeat (first | (with_reducible assumption) | (with_reducible exact Below.refl _ _) | (with_reducible refine Below.drew ?_) | (with_reducible refine below_drewN ?_ _) | (with_reducible refine Below.alloc ?_ (by (first | omega | (simp only [World.size_alloc, World.size_drew]; done) | (simp only [World.size_alloc, World.size_drew]; omega))) _) | (refine Below.trans ?_ (Below.mono (by with_reducible assumption) (by (first | omega | (simp only [World.size_alloc, World.size_drew]; done) | (simp only [World.size_alloc, World.size_drew]; omega))))))) : Below _ _ w1))
  replace hb := As.mk hb
  by_cases hf : L.length ≤ 400
  · have hg1 : decide ((400 : Int) < (L.length : Int)) = false := decide_eq_false (by omega)
    go_wp2_with fail
    refine Calls.mono (snew_calls _ none 0 [] (txts_none _) (by decide) (by decide)) ?_
    rintro e w2 ⟨g, rfl, hA, hb⟩
    replace HL := As.mk (Row.below HL.out hb)
    replace hB := As.mk (belowNext hB.out hb)
    clear hb
    cases b with
    | false =>
      have hV : Void [] := .inl rfl
      have hg := hV.few
      have hP := hV.paths
      have hO := hV.occ L
      have hPl : ([[]] : List Txt).length = 1 := rfl
      rw [hP] at hA
      replace hA := As.mk hA
      obtain ⟨n, hn⟩ : ∃ n, L.length = n := ⟨_, rfl⟩
      have hn' := As.mk hn
      go_wp2_with fail
      refine Calls.mono (mnew_calls _) ?_
      rintro e w3 ⟨rfl, hmt, hb⟩
      have hmo := Mo.some_ hmt
      have hbB := belowNext hB.out hb
      have hA3 := hA.out.below hb
      have HL3 := Row.below HL.out hb
      have hmb := block_lt hmt
      obtain ⟨gm, hgm⟩ : ∃ g, w2.heap.size = g := ⟨_, rfl⟩
      rw [hgm] at hmo hmb hmt ⊢
      go_wp2_with fail
      have csc := fscan_calls w3 g [] hg (by rw [hP]; exact hA3) (some gm) Cn.zero hmo Cn.zero_room A d L HL3 (by omega)
      rw [hO, hP, Void.looks, hn] at csc
      refine Calls.mono csc ?_
      intro e w4 h4
      obtain ⟨A4, c4, he, _, _, _, hm4, hk4, _⟩ := h4.out
      have hb24 := h4.young hb (by omega)
      rw [List.length_nil] at he
      subst he
      have hA4 := As.mk (hA.out.below hb24)
      replace hB := As.mk (belowNext hB.out hb24)
      have hm4 := As.mk (hm4 gm rfl)
      clear csc hk4 h4 hA hA3 HL3 HL hmo hmt hbB hb hb24 hmb hgm hg hP hO hn
      go_wp2_with fail
      refine Calls.mono (sscan_none _ _ _) ?_
      rintro e w5 ⟨rfl, rfl⟩
      go_wp2_with fail
      refine Calls.mono (mcounts_calls _ gm _ hm4.out) ?_
      rintro e w6 ⟨rfl, hb⟩
      unfold cnCells Cn.more Cn.zero
      replace hA4 := As.mk (hA4.out.below hb)
      replace hB := As.mk (belowNext hB.out hb)
      have hm6 := As.mk (hm4.out.below hb)
      clear hm4
      simp only [Int.zero_add]
      go_wp2_with fail
      refine Calls.mono (sstates_calls _ g _ _ hA4.out) ?_
      rintro e w7 ⟨rfl, rfl⟩
      rw [hPl]
      go_wp2_with fail
      refine Calls.mono (sstates_none _) ?_
      rintro e w7 ⟨rfl, rfl⟩
      go_wp2_with fail
      refine Calls.mono (sStep_none _ _ _ _) ?_
      rintro e w7 ⟨rfl, rfl⟩
      go_wp2_with fail
      refine Calls.mono (spath_none _ _) ?_
      intro e w7 h7
      obtain ⟨A7, c7, he, _, _, hb⟩ := h7.rowc
      rw [List.length_nil] at he
      subst he
      replace hA4 := As.mk (hA4.out.below (by (repeat (first | (with_reducible assumption) | (with_reducible exact Below.refl _ _) | (with_reducible refine Below.drew ?_) | (with_reducible refine below_drewN ?_ _) | (with_reducible refine Below.alloc ?_ (by (first | omega | (simp only [World.size_alloc, World.size_drew]; done) | (simp only [World.size_alloc, World.size_drew]; omega))) _) | (refine Below.trans ?_ (Below.mono (by with_reducible assumption) (by (first | omega | (simp only [World.size_alloc, World.size_drew]; done) | (simp only [World.size_alloc, World.size_drew]; omega)))))))))
      replace hB := As.mk (belowNext hB.out (by (repeat (first | (with_reducible assumption) | (with_reducible exact Below.refl _ _) | (with_reducible refine Below.drew ?_) | (with_reducible refine below_drewN ?_ _) | (with_reducible refine Below.alloc ?_ (by (first | omega | (simp only [World.size_alloc, World.size_drew]; done) | (simp only [World.size_alloc, World.size_drew]; omega))) _) | (refine Below.trans ?_ (Below.mono (by with_reducible assumption) (by (first | omega | (simp only [World.size_alloc, World.size_drew]; done) | (simp only [World.size_alloc, World.size_drew]; omega))))))) : Below _ _ w7))
      go_wp2_with fail
      refine Calls.mono (sStep_calls _ g _ _ hA4.out none Cn.zero (Mo.none_ _ _) (paths_tree []) (by decide) 0 ch (Void.ok ch)) ?_
      rintro e w8 ⟨he, _, hk⟩
      rw [Void.step] at he
      subst he
      have hB8 := belowNext hB.out (hk.below (fun k _ hS => by cases hS) (Nat.le_refl _))
      go_wp2
      go_ret
      exact ⟨rfl, hB8⟩
    | true =>
      clear hA
      go_wp2_with fail
      refine Calls.mono (snew_calls _ _ 1 [[]] ?tx (by decide) (by decide)) ?_
      case tx =>
        refine txtsOf (vs := [.slice (some ⟨w2.heap.size, 0, none⟩) 0 0]) (by (repeat (first | (with_reducible assumption) | (with_reducible exact heap_alloc_new _ _) | (exact heapNewAt (by (first | omega | (simp only [World.size_alloc, World.size_drew]; done) | (simp only [World.size_alloc, World.size_drew]; omega)))) | (with_reducible refine blkDrew ?_) | (with_reducible refine blk_old ?_) | (refine blkBelow (by with_reducible assumption) ?_)))) rfl (fun i hi => ?_)
        match i, hi with
        | 0, _ => exact ⟨_, 0, rfl, by decide, .inl rfl⟩
      rintro e w12 ⟨g, rfl, hA, hb⟩
      have hb2 : Below w2.heap.size w2 w12 := by (repeat (first | (with_reducible assumption) | (with_reducible exact Below.refl _ _) | (with_reducible refine Below.drew ?_) | (with_reducible refine below_drewN ?_ _) | (with_reducible refine Below.alloc ?_ (by (first | omega | (simp only [World.size_alloc, World.size_drew]; done) | (simp only [World.size_alloc, World.size_drew]; omega))) _) | (refine Below.trans ?_ (Below.mono (by with_reducible assumption) (by (first | omega | (simp only [World.size_alloc, World.size_drew]; done) | (simp only [World.size_alloc, World.size_drew]; omega)))))))
      replace HL := As.mk (Row.below HL.out hb2)
      replace hB := As.mk (belowNext hB.out hb2)
      clear hb hb2
      revert hA HL hB; generalize w12 = w2; intro hA HL hB
      have hV : Void [[]] := .inr rfl
      have hg := hV.few
      have hP := hV.paths
      have hO := hV.occ L
      have hPl : ([[]] : List Txt).length = 1 := rfl
      rw [hP] at hA
      replace hA := As.mk hA
      obtain ⟨n, hn⟩ : ∃ n, L.length = n := ⟨_, rfl⟩
      have hn' := As.mk hn
      go_wp2_with fail
      refine Calls.mono (mnew_calls _) ?_
      rintro e w3 ⟨rfl, hmt, hb⟩
      have hmo := Mo.some_ hmt
      have hbB := belowNext hB.out hb
      have hA3 := hA.out.below hb
      have HL3 := Row.below HL.out hb
      have hmb := block_lt hmt
      obtain ⟨gm, hgm⟩ : ∃ g, w2.heap.size = g := ⟨_, rfl⟩
      rw [hgm] at hmo hmb hmt ⊢
      go_wp2_with fail
      have csc := fscan_calls w3 g [[]] hg (by rw [hP]; exact hA3) (some gm) Cn.zero hmo Cn.zero_room A d L HL3 (by omega)
      rw [hO, hP, Void.looks, hn] at csc
      refine Calls.mono csc ?_
      intro e w4 h4
      obtain ⟨A4, c4, he, _, _, _, hm4, hk4, _⟩ := h4.out
      have hb24 := h4.young hb (by omega)
      rw [List.length_nil] at he
      subst he
      have hA4 := As.mk (hA.out.below hb24)
      replace hB := As.mk (belowNext hB.out hb24)
      have hm4 := As.mk (hm4 gm rfl)
      clear csc hk4 h4 hA hA3 HL3 HL hmo hmt hbB hb hb24 hmb hgm hg hP hO hn
      go_wp2_with fail
      refine Calls.mono (sscan_none _ _ _) ?_
      rintro e w5 ⟨rfl, rfl⟩
      go_wp2_with fail
      refine Calls.mono (mcounts_calls _ gm _ hm4.out) ?_
      rintro e w6 ⟨rfl, hb⟩
      unfold cnCells Cn.more Cn.zero
      replace hA4 := As.mk (hA4.out.below hb)
      replace hB := As.mk (belowNext hB.out hb)
      have hm6 := As.mk (hm4.out.below hb)
      clear hm4
      simp only [Int.zero_add]
      go_wp2_with fail
      refine Calls.mono (sstates_calls _ g _ _ hA4.out) ?_
      rintro e w7 ⟨rfl, rfl⟩
      rw [hPl]
      go_wp2_with fail
      refine Calls.mono (sstates_none _) ?_
      rintro e w7 ⟨rfl, rfl⟩
      go_wp2_with fail
      refine Calls.mono (sStep_none _ _ _ _) ?_
      rintro e w7 ⟨rfl, rfl⟩
      go_wp2_with fail
      refine Calls.mono (spath_none _ _) ?_
      intro e w7 h7
      obtain ⟨A7, c7, he, _, _, hb⟩ := h7.rowc
      rw [List.length_nil] at he
      subst he
      replace hA4 := As.mk (hA4.out.below (by (repeat (first | (with_reducible assumption) | (with_reducible exact Below.refl _ _) | (with_reducible refine Below.drew ?_) | (with_reducible refine below_drewN ?_ _) | (with_reducible refine Below.alloc ?_ (by (first | omega | (simp only [World.size_alloc, World.size_drew]; done) | (simp only [World.size_alloc, World.size_drew]; omega))) _) | (refine Below.trans ?_ (Below.mono (by with_reducible assumption) (by (first | omega | (simp only [World.size_alloc, World.size_drew]; done) | (simp only [World.size_alloc, World.size_drew]; omega)))))))))
      replace hB := As.mk (belowNext hB.out (by (repeat (first | (with_reducible assumption) | (with_reducible exact Below.refl _ _) | (with_reducible refine Below.drew ?_) | (with_reducible refine below_drewN ?_ _) | (with_reducible refine Below.alloc ?_ (by (first | omega | (simp only [World.size_alloc, World.size_drew]; done) | (simp only [World.size_alloc, World.size_drew]; omega))) _) | (refine Below.trans ?_ (Below.mono (by with_reducible assumption) (by (first | omega | (simp only [World.size_alloc, World.size_drew]; done) | (simp only [World.size_alloc, World.size_drew]; omega))))))) : Below _ _ w7))
      go_wp2_with fail
      refine Calls.mono (sStep_calls _ g _ _ hA4.out none Cn.zero (Mo.none_ _ _) (paths_tree []) (by decide) 0 ch (Void.ok ch)) ?_
      rintro e w8 ⟨he, _, hk⟩
      rw [Void.step] at he
      subst he
      have hB8 := belowNext hB.out (hk.below (fun k _ hS => by cases hS) (Nat.le_refl _))
      go_wp2
      go_ret
      exact ⟨rfl, hB8⟩
  · have hg1 : decide ((400 : Int) < (L.length : Int)) = true := decide_eq_true (by omega)
    go_wp2
    go_ret
    exact ⟨rfl, hB.out⟩
end Go.Proofs.Ytieelnpfpfiboaa
