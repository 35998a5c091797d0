/- The walk of the law EngineEmpty. -/
import Derived.Test.YtdiljmhikajjiaaGreatM19
set_option linter.unusedVariables false
set_option linter.unusedSimpArgs false
namespace Go.Proofs.YtdiljmhikajjiaaGreat
open Go.RowKit Go.Maps Seine.Trie Seine.Eng Seine.Links Seine.Sparse
open Seine.Sort (occ Pr)
attribute [local go_sem high] eqCn


theorem wrongF_tag {tag : Int} (l : List Txt) (h0 : 0 ≤ tag) (h3 : tag ≤ 3) (h2 : tag ≠ 2) : wrongF tag l = if tag = 1 ∧ ¬ (paths (pset l)).length ≤ 160 then 14 else 0 := by
  unfold wrongF
  rw [if_neg (by omega), if_neg (by omega)]
theorem wrongF_pset {tag : Int} {l l' : List Txt} (h0 : 0 ≤ tag) (h3 : tag ≤ 3) (h2 : tag ≠ 2) (h : pset l' = pset l) : wrongF tag l' = wrongF tag l := by
  rw [wrongF_tag l' h0 h3 h2, wrongF_tag l h0 h3 h2, h]
theorem wrongF_none {tag : Int} (h0 : 0 ≤ tag) (h3 : tag ≤ 3) (h2 : tag ≠ 2) : wrongF tag [[], []] = 0 := by
  rw [wrongF_tag _ h0 h3 h2, pset_none, if_neg]
  rintro ⟨-, h⟩
  exact h (by decide)
set_option maxRecDepth 100000 in
set_option maxHeartbeats 12800000 in
theorem empty_walk (A : Option Addr) (c : Nat) (l : List Txt) (B : Option Addr) (d : Nat) (L : Txt) (a : Int) (w : World) (hx : Txts w A l) (hc : l.length ≤ c) (hr : c * 24 ≤ 140737488351232) (hm : ∀ x ∈ l, x.length ≤ maxLen)
    (h1 : Byt w B L) (hd : L.length ≤ d) (hdm : d ≤ maxLen) (ha : (Lit.int .u8 a).wf = true) :
    Calls Tryz.prog 5 #[.slice A l.length c, .slice B L.length d, .int .u8 a] w fun e w' => e = .returned (.bool true) ∧ Below w.heap.size w w' := by
  have HL := As.mk h1
  obtain ⟨x, rfl⟩ := u8_byte ha
  have hx4 : IntKind.i64.wrap ((x.toNat : Int) % 4) = (x.toNat : Int) % 4 := by rw [IntKind.wrap_i64]; omega
  clear h1 ha
  unfold maxLen at hdm
  by_cases hf : Few l
  · --
    have hB := As.mk (Below.refl w.heap.size w)
    have HX := As.mk hx
    have HM := As.mk hm
    clear hx hm
    go_enter Tryz.func5, Tryz.ntmps5
    go_wp2_with fail
    refine Calls.mono (awake_calls _) ?_
    rintro e w1 ⟨rfl, hb⟩
    have hs := hb.size
    (try simp only [World.size_alloc, World.size_drew] at hs)
    replace hB := As.mk (belowNext hB.out (by (repeat (first | (with_reducible assumption) | (with_reducible exact Below.refl _ _) | (with_reducible refine Below.drew ?_) | (with_reducible refine below_drewN ?_ _) | (with_reducible refine Below.alloc ?_ (by (first | omega | (simp only [World.size_alloc, World.size_drew]; done) | (simp only [World.size_alloc, World.size_drew]; omega))) _) | (refine Below.trans ?_ (Below.mono (by with_reducible assumption) (by (first | omega | (simp only [World.size_alloc, World.size_drew]; done) | (simp only [World.size_alloc, World.size_drew]; omega))))))) : Below _ _ w1))
    replace HX := As.mk (HX.out.below (by (repeat (first | (with_reducible assumption) | (with_reducible exact Below.refl _ _) | (with_reducible refine Below.drew ?_) | (with_reducible refine below_drewN ?_ _) | (with_reducible refine Below.alloc ?_ (by (first | omega | (simp only [World.size_alloc, World.size_drew]; done) | (simp only [World.size_alloc, World.size_drew]; omega))) _) | (refine Below.trans ?_ (Below.mono (by with_reducible assumption) (by (first | omega | (simp only [World.size_alloc, World.size_drew]; done) | (simp only [World.size_alloc, World.size_drew]; omega))))))) : Below _ _ w1))
    replace HL := As.mk (HL.out.below (by (repeat (first | (with_reducible assumption) | (with_reducible exact Below.refl _ _) | (with_reducible refine Below.drew ?_) | (with_reducible refine below_drewN ?_ _) | (with_reducible refine Below.alloc ?_ (by (first | omega | (simp only [World.size_alloc, World.size_drew]; done) | (simp only [World.size_alloc, World.size_drew]; omega))) _) | (refine Below.trans ?_ (Below.mono (by with_reducible assumption) (by (first | omega | (simp only [World.size_alloc, World.size_drew]; done) | (simp only [World.size_alloc, World.size_drew]; omega))))))) : Below _ _ w1))
    replace hb := As.mk hb
    go_wp2_with fail
    refine Calls.mono (texts_calls _ A c l HX.out hc hr HM.out) ?_
    rintro e w2 ⟨⟨A2, c2, b, he, hb0, hS⟩, hb⟩; clear hr
    have hs := hb.size
    (try simp only [World.size_alloc, World.size_drew] at hs)
    replace hB := As.mk (belowNext hB.out (by (repeat (first | (with_reducible assumption) | (with_reducible exact Below.refl _ _) | (with_reducible refine Below.drew ?_) | (with_reducible refine below_drewN ?_ _) | (with_reducible refine Below.alloc ?_ (by (first | omega | (simp only [World.size_alloc, World.size_drew]; done) | (simp only [World.size_alloc, World.size_drew]; omega))) _) | (refine Below.trans ?_ (Below.mono (by with_reducible assumption) (by (first | omega | (simp only [World.size_alloc, World.size_drew]; done) | (simp only [World.size_alloc, World.size_drew]; omega))))))) : Below _ _ w2))
    replace HX := As.mk (HX.out.below (by (repeat (first | (with_reducible assumption) | (with_reducible exact Below.refl _ _) | (with_reducible refine Below.drew ?_) | (with_reducible refine below_drewN ?_ _) | (with_reducible refine Below.alloc ?_ (by (first | omega | (simp only [World.size_alloc, World.size_drew]; done) | (simp only [World.size_alloc, World.size_drew]; omega))) _) | (refine Below.trans ?_ (Below.mono (by with_reducible assumption) (by (first | omega | (simp only [World.size_alloc, World.size_drew]; done) | (simp only [World.size_alloc, World.size_drew]; omega))))))) : Below _ _ w2))
    replace HL := As.mk (HL.out.below (by (repeat (first | (with_reducible assumption) | (with_reducible exact Below.refl _ _) | (with_reducible refine Below.drew ?_) | (with_reducible refine below_drewN ?_ _) | (with_reducible refine Below.alloc ?_ (by (first | omega | (simp only [World.size_alloc, World.size_drew]; done) | (simp only [World.size_alloc, World.size_drew]; omega))) _) | (refine Below.trans ?_ (Below.mono (by with_reducible assumption) (by (first | omega | (simp only [World.size_alloc, World.size_drew]; done) | (simp only [World.size_alloc, World.size_drew]; omega))))))) : Below _ _ w2))
    replace hb := As.mk hb
    obtain rfl : b = true := by rw [hb0]; exact decide_eq_true hf.short
    have hd12 : decide (l.length ≤ 12) = true := decide_eq_true hf.len
    rw [Bool.true_and, hd12, if_pos rfl] at he
    subst he
    obtain ⟨hc2, hS2⟩ := hS rfl
    clear hS
    have hS := As.mk hS2
    clear hS2 hb0 hd12
    have htot := As.mk hf.tot
    have hl12 := hf.len
    have hF := As.mk hf
    clear hf
    by_cases hg : L.length ≤ 300
    · have hg1 : decide ((300 : Int) < (L.length : Int)) = false := decide_eq_false (by omega)
      by_cases ht2 : (x.toNat : Int) % 4 = 2
      · have hg2 : ((x.toNat : Int) % 4 == 2) = true := by rw [ht2]; rfl
        replace ht2 := As.mk ht2
        go_wp2
        go_ret
        exact ⟨rfl, hB.out⟩
      · have hg2 : ((x.toNat : Int) % 4 == 2) = false := by simp; exact ht2
        have hs60 : ∀ t ∈ l, t.length ≤ 60 := fun t ht => by have := hF.out.short t ht; omega
        have hll : l.length ≤ 1000 := by omega
        have ht0 : 0 ≤ (x.toNat : Int) % 4 := by omega
        have ht3 : (x.toNat : Int) % 4 ≤ 3 := by omega
        have hwp := As.mk (fun (l' : List Txt) (h : pset l' = pset l) => wrongF_pset ht0 ht3 ht2 h)
        have hwn := As.mk (wrongF_none ht0 ht3 ht2)
        have hwt := As.mk (wrongF_tag l ht0 ht3 ht2)
        replace ht2 := As.mk ht2
        clear ht0 ht3
        obtain ⟨vs, hvl, hro, hvb⟩ := HX.out
        have hone : ∀ u ∈ vs, u.oneCell' = true := fun u hu => by
          obtain ⟨i, hi, rfl⟩ := List.getElem_of_mem hu
          obtain ⟨A', c', h, _⟩ := hvb i (by omega)
          rw [List.getElem?_eq_getElem hi] at h
          injection h with h
          rw [h]; rfl
        have hvb' := As.mk hvb
        have hro' := As.mk hro
        have hone' := As.mk hone
        clear hvb hro hone
        generalize wr0 : w2 = wo at *
        go_wp2_with (first
          | (at_builtin
             refine wpList_apps _ rfl (.tmp 48) (.tmp 49) 22 rfl wo.heap.size 23 _ 1 24 Tryz.underlying22 info_bs rfl (by decide) _ 0 [] rfl (World.ownsRow_nil _ _ _ _) A l.length c vs hro'.out (by omega) hone'.out rfl (by omega) (by decide) (Nat.le_refl _) ?_
             intro v6 w6 hown6 hb6
             rw [Nat.zero_add, List.nil_append] at hown6
             replace hown6 := As.mk hown6
             replace hb6 := As.mk hb6)
          | (at_builtin
             refine wpList_app1 _ rfl (.tmp 51) (.tmp 52) 22 rfl wo.heap.size 23 _ 1 24 Tryz.underlying22 info_bs rfl (by decide) _ l.length vs rfl hown6.out [.slice none 0 0] rfl (by simp [Value.oneCell']) _ rfl (by simp) (by omega) (by decide) hb6.out.size ?_
             intro v7 w7 hown7 hk7 hat7 hb7
             replace hown7 := As.mk hown7
             replace hk7 := As.mk hk7
             replace hb7 := As.mk hb7))
        have hb07 := As.mk (hb6.out.trans hb7.out)
        have hOm : OwnTx wo wo.heap.size w7 v7 (l ++ [[]]) := OwnTx.snoc (vs := vs) (A := none) (c := 0) hvl hvb'.out (Nat.le_refl _) (Byt.none0 _) hown7.out
        obtain ⟨A8, c8, rfl, hc8, hx8⟩ := hOm.txts hb07.out
        clear hOm hown7 hk7 hat7 hb7 hown6 hb6 hS
        have hm60 : ∀ t ∈ l ++ [[]], t.length ≤ 60 := fun t ht => by
          rcases List.mem_append.1 ht with h | h
          · exact hs60 t h
          · rw [List.mem_singleton.1 h]; simp
        have hml : (l ++ [[]]).length ≤ 1000 := by rw [List.length_append]; simp; omega
        refine Calls.mono (pof_calls w7 A8 c8 (l ++ [[]]) hx8 (fun t ht => by have := hm60 t ht; omega) (by omega)) ?_
        rintro e w8 ⟨V8, rfl, hP8, hb8⟩
        have hb08 := As.mk (belowNext hb07.out hb8)
        clear hb07 hb8 hx8
        have hP8' := As.mk hP8
        clear hP8
        have hm60' := As.mk hm60
        have hs60' := As.mk hs60
        have cx := As.mk (enew_calls w8 ((x.toNat : Int) % 4) V8 _ (l ++ [[]]) hP8'.out hm60 hml)
        rw [hwp.out _ (pset_more l)] at cx
        clear hm60 hs60
        go_wp2_with fail
        refine Calls.mono cx.out ?_
        rintro e w9 ⟨h9, hb9⟩
        have hb09 := As.mk (belowNext hb08.out hb9)
        clear hb08 cx hP8'
        have cn := As.mk (fun (v : World) (b : Nat) (V : Value) (h : PsAt v b V [[], []]) => enew_yes v ((x.toNat : Int) % 4) V b [[], []] h (by decide) (by decide) hwn.out)
        obtain ⟨p, q, he, hpq⟩ : ∃ p q, e = .returned (.tuple #[.pointer p, .int .i64 q]) ∧ ((wrongF ((x.toNat : Int) % 4) l = 0 ∧ q = 0 ∧ ∃ g, p = some ⟨g, 0, none⟩ ∧ EngAt w9 g ((x.toNat : Int) % 4) (l ++ [[]])) ∨ (wrongF ((x.toNat : Int) % 4) l ≠ 0 ∧ q = wrongF ((x.toNat : Int) % 4) l ∧ p = none)) := by
          by_cases h0 : wrongF ((x.toNat : Int) % 4) l = 0
          · rw [if_pos h0] at h9
            obtain ⟨g, h1, h2⟩ := h9
            exact ⟨_, _, h1, .inl ⟨h0, rfl, g, rfl, h2⟩⟩
          · rw [if_neg h0] at h9
            exact ⟨_, _, h9, .inr ⟨h0, rfl, rfl⟩⟩
        subst he
        replace hpq := As.mk hpq
        clear h9
        go_wp2_with fail
        have hba : Below w9.heap.size w9 ((w9.alloc (.cells #[] 5)).alloc (.cells #[.slice none 0 0, .slice (some ⟨w9.heap.size, 0, none⟩) 0 0] 23)) := by (repeat (first | (with_reducible assumption) | (with_reducible exact Below.refl _ _) | (with_reducible refine Below.drew ?_) | (with_reducible refine below_drewN ?_ _) | (with_reducible refine Below.alloc ?_ (by (first | omega | (simp only [World.size_alloc, World.size_drew]; done) | (simp only [World.size_alloc, World.size_drew]; omega))) _) | (refine Below.trans ?_ (Below.mono (by with_reducible assumption) (by (first | omega | (simp only [World.size_alloc, World.size_drew]; done) | (simp only [World.size_alloc, World.size_drew]; omega)))))))
        trace_state
        refine Calls.mono (pof_calls _ _ 2 [[], []] ?tx (by decide) (by decide)) ?_
        case tx =>
          refine txtsOf (vs := [.slice none 0 0, .slice (some ⟨w9.heap.size, 0, none⟩) 0 0]) (by (repeat (first | (with_reducible assumption) | (with_reducible exact heap_alloc_new _ _) | (exact heapNewAt (by (first | omega | (simp only [World.size_alloc, World.size_drew]; done) | (simp only [World.size_alloc, World.size_drew]; omega)))) | (with_reducible refine blkDrew ?_) | (with_reducible refine blk_old ?_) | (refine blkBelow (by with_reducible assumption) ?_)))) rfl (fun i hi => ?_)
          match i, hi with
          | 0, _ => exact ⟨_, 0, rfl, by decide, .inl rfl⟩
          | 1, _ => exact ⟨_, 0, rfl, by decide, litByt [] [] rfl (by (repeat (first | (with_reducible assumption) | (with_reducible exact heap_alloc_new _ _) | (exact heapNewAt (by (first | omega | (simp only [World.size_alloc, World.size_drew]; done) | (simp only [World.size_alloc, World.size_drew]; omega)))) | (with_reducible refine blkDrew ?_) | (with_reducible refine blk_old ?_) | (refine blkBelow (by with_reducible assumption) ?_))))⟩
        rintro e w10 ⟨V10, rfl, hP10, hb10⟩
        have hb910 : Below w9.heap.size w9 w10 := by (repeat (first | (with_reducible assumption) | (with_reducible exact Below.refl _ _) | (with_reducible refine Below.drew ?_) | (with_reducible refine below_drewN ?_ _) | (with_reducible refine Below.alloc ?_ (by (first | omega | (simp only [World.size_alloc, World.size_drew]; done) | (simp only [World.size_alloc, World.size_drew]; omega))) _) | (refine Below.trans ?_ (Below.mono (by with_reducible assumption) (by (first | omega | (simp only [World.size_alloc, World.size_drew]; done) | (simp only [World.size_alloc, World.size_drew]; omega)))))))
        have hb010 := As.mk (belowNext hb09.out hb910)
        go_wp2_with fail
        refine Calls.mono (cn.out w10 _ V10 hP10) ?_
        rintro e w11 ⟨gn, rfl, hEn, hb11⟩
        have hb911 := As.mk (belowNext hb910 hb11)
        have hb011 := As.mk (belowNext hb010.out hb11)
        clear hb010 hb910 hb10 hP10 hba hb09 hb11 cn hb9
        replace hEn := As.mk hEn
        rcases hpq.out with ⟨h0, rfl, g, rfl, hE9⟩ | ⟨h0, hq, rfl⟩
        rotate_left
        · --
          have ht1 : (x.toNat : Int) % 4 = 1 := by
            have := hwt.out
            by_cases h : (x.toNat : Int) % 4 = 1 ∧ ¬ (paths (pset l)).length ≤ 160
            · exact h.1
            · rw [if_neg h] at this; exact absurd this h0
          have hq14 : q = 14 := by
            have := hwt.out
            by_cases h : (x.toNat : Int) % 4 = 1 ∧ ¬ (paths (pset l)).length ≤ 160
            · rw [if_pos h] at this; exact hq.trans this
            · rw [if_neg h] at this; exact absurd this h0
          subst hq14
          have gt1 : ((x.toNat : Int) % 4 == 1) = true := by rw [ht1]; rfl
          replace ht1 := As.mk ht1
          clear h0 hq
          go_wp2_with fail
          go_ret
          exact ⟨rfl, belowNext hB.out hb011.out⟩
        have hE11 := As.mk (hE9.below hb911.out)
        clear hE9 hb911
        replace h0 := As.mk h0
        go_wp2_with fail
        refine Calls.mono (mnew_calls _) ?_
        rintro e w12 ⟨rfl, hmt, hb12⟩
        have hmo := As.mk (Mo.some_ hmt)
        have hb1112 := As.mk hb12
        replace hEn := As.mk (hEn.out.below hb12)
        obtain ⟨gm, hgm⟩ : ∃ g, w11.heap.size = g := ⟨_, rfl⟩
        rw [hgm] at hmo ⊢
        have hzz : w11.heap.size ≤ gm := by omega
        clear hmt hb12
        have HLo := As.mk (fun (v : World) (hv : Below wo.heap.size wo v) => Row.below HL.out hv)
        have hsc0 : scanN ((x.toNat : Int) % 4) [[], []] L = 0 := by unfold scanN; rw [if_pos (.inl pset_none)]
        have hlk0 : lookN ((x.toNat : Int) % 4) [[], []] L = 0 := by unfold lookN; rw [if_pos (.inl pset_none)]
        have cf1 := As.mk (efind_calls w12 gn _ [[], []] hEn.out (by decide) (by decide) (some gm) Cn.zero hmo.out Cn.zero_room B d L (HLo.out _ (belowNext hb011.out hb1112.out)) (by omega))
        rw [hsc0, hlk0, Cn.more_zero, findF_none] at cf1
        have cf2 := As.mk (fun (v : World) (hv : Below wo.heap.size wo v) (he : EngAt v g ((x.toNat : Int) % 4) (l ++ [[]])) => efind0_calls v g _ (l ++ [[]]) he hm60'.out hml B d L (HLo.out v hv) (by omega))
        rw [findF_more] at cf2
        have cf3 := As.mk (fun (v : World) (g : Nat) (hv : Below wo.heap.size wo v) (he : EngAt v g ((x.toNat : Int) % 4) (plainT l)) => efind0_calls v g _ (plainT l) he (fun t ht => hs60'.out t (mem_plainT.1 ht).1) (Nat.le_trans (List.length_filter_le _ _) hll) B d L (HLo.out v hv) (by omega))
        rw [findF_plain] at cf3
        have hGat := As.mk (fun i (h : i < (allF l L).length) => allF_at l L h)
        have hGn := As.mk (nE_all l L)
        have hGr := As.mk (rE_all l L)
        have hGk := As.mk (nE_room l L)
        have hGl : (allF l L).length ≤ L.length * L.length + (L.length + 1) := by
          have h1 := Seine.Sort.sortP_len (occ l L ++ empties (L.length + 1))
          have h2 : (occ l L).length ≤ L.length * L.length := Seine.Sort.occTo_len l L L.length
          rw [List.length_append, empties_length] at h1
          exact Nat.le_trans h1 (by omega)
        have hLL : L.length * L.length ≤ 300 * 300 := Nat.mul_le_mul hg hg
        have hOl : (occ l L).length ≤ L.length * L.length := Seine.Sort.occTo_len l L L.length
        obtain ⟨nL, hnL⟩ : ∃ k, L.length = k := ⟨_, rfl⟩
        rw [hnL] at cf1 cf2 cf3 hGn hGk hGl hLL hg hg1 hd hOl ⊢
        obtain ⟨G, hG⟩ : ∃ G, allF l L = G := ⟨_, rfl⟩
        rw [hG] at cf2 hGat hGn hGr hGk hGl
        obtain ⟨O, hO⟩ : ∃ O, occ l L = O := ⟨_, rfl⟩
        rw [hO] at cf3 hGr hOl
        replace hG := As.mk hG
        replace hO := As.mk hO
        replace hnL := As.mk hnL
        clear hsc0 hlk0 hgm hpq HLo HL
        go_wp2_with fail
        refine Calls.mono cf1.out ?_
        rintro e w13 ⟨h13, -⟩
        have hb1113 := As.mk (h13.young hb1112.out hzz)
        obtain ⟨A13, c13, he13, _, _, _, hm13, _, _⟩ := h13.out
        rw [empties_length] at he13
        subst he13
        replace hm13 := As.mk hm13
        clear h13 cf1 hb1112 hmo hEn
        have cMc := As.mk (mcounts_calls w13 gm _ (hm13.out gm rfl))
        go_wp2_with (go_at_call 19; refine Calls.mono cMc.out ?_; rintro e w14 ⟨rfl, hb14⟩; unfold cnCells Cn.zero; simp only; have hb1114 := As.mk (belowNext hb1113.out hb14); clear hb14)
        have hb014 := belowNext hb011.out hb1114.out
        have cx14 := As.mk (cf2.out w14 hb014 (hE11.out.below hb1114.out))
        clear cf2 cMc hm13 hb1113 hE11 hb1114 hb011
        refine Calls.mono cx14.out ?_
        intro e w15 h15
        obtain ⟨A15, c15, rfl, hc15, hr15, hb15⟩ := h15.row
        have hb015 := As.mk (belowNext hb014 hb15)
        obtain ⟨ng, hng⟩ : ∃ n, G.length = n := ⟨_, rfl⟩
        rw [hng] at hc15 hGat hGn hGr hGl ⊢
        have hng' := As.mk hng
        replace hr15 := As.mk hr15
        clear h15 hb15 hb014 cx14 hng
        have hu25 := Tryz.underlying57
        go_wp2_with fail
        go_loopg [19, 20, 21] (ng + 1) (fun gk v k i wr => ∃ j : Nat, As (ng + 1 ≤ gk + j) ∧ k = .int .i64 (nE G j) ∧ i = .int .i64 j ∧ j ≤ ng ∧ As (OwnPrs wr w15.heap.size v (rE G j)) ∧ As (Below w15.heap.size w15 wr))
        case atStart => exact ⟨0, ⟨by omega⟩, rfl, rfl, by omega, ⟨World.ownsRow_nil _ _ _ _⟩, ⟨Below.refl _ _⟩⟩
        case round =>
          obtain ⟨j, hgk, rfl, rfl, hj, hown, hbel⟩ := hrel
          have hrr := As.mk (Row.below hr15.out hbel.out)
          by_cases hlt : j < ng
          · obtain ⟨gp, rfl⟩ : ∃ gp, gk = gp + 1 := ⟨gk - 1, by have := hgk.out; omega⟩
            obtain ⟨ad4, rfl, a1, a2⟩ := Prs.at_ hrr.out (i := j) (by rw [hng'.out]; exact hlt)
            have hyes := As.mk (nE_yes (G := G) (i := j) (by rw [hng'.out]; exact hlt))
            have hno := As.mk (nE_no (G := G) (i := j) (by rw [hng'.out]; exact hlt))
            have hat := As.mk (hGat.out j hlt)
            have hnj := nE_le G j
            have hrl := rE_len G j
            generalize G.getD j (0, 0) = p at *
            obtain ⟨s0, e0⟩ := p
            obtain ⟨k0, hk0⟩ : ∃ k, nE G j = k := ⟨_, rfl⟩
            obtain ⟨R0, hR0⟩ : ∃ k, rE G j = k := ⟨_, rfl⟩
            rw [hk0] at hyes hno hat hnj ⊢
            rw [hR0] at hyes hno hown hrl
            replace hk0 := As.mk hk0
            replace hR0 := As.mk hR0
            by_cases he : s0 = e0
            · have hie : isE (s0, e0) = true := by simp [isE, he]
              have h1 := hat.out hie
              rw [Prod.mk.injEq] at h1
              obtain ⟨rfl, rfl⟩ := h1
              have hy := As.mk (hyes.out hie)
              clear he hie hat hyes hno
              go_wp2
              go_quiet (fail)
              go_wp2
              go_roundg gp
              case rel => exact ⟨j + 1, ⟨by have := hgk.out; omega⟩, (by rw [hy.out.1]; first | rfl | go_num | (congr 1; omega)), (by first | rfl | go_num | (congr 1; omega)), by omega, ⟨by rw [hy.out.2]; exact own_below hown.out (below_drewN (Below.refl _ _) _)⟩, ⟨below_drewN hbel.out _⟩⟩
              case measure => omega
            · have hie : isE (s0, e0) = false := by simp [isE, he]
              have gse : (s0 == e0) = false := by simp [he]
              have hy := As.mk (hno.out hie)
              clear he hie hat hyes hno
              go_wp2
              go_quiet (fail)
              go_wp2_with (at_builtin
                           refine wpList_app1 _ rfl (.tmp 131) (.tmp 136) 37 rfl w15.heap.size 57 _ 2 16 Tryz.underlying37 info_pr rfl (by decide) _ R0.length (prCells R0) rfl (own_below hown.out (below_drewN (Below.refl _ _) _)) [.int .i64 s0, .int .i64 e0] rfl (by simp [Value.oneCell']) _ rfl (by simp) (by omega) (by decide) (below_drewN hbel.out _).size ?_
                           intro v' w6 hown6 hk6 hat6 hb6
                           replace hown6 := As.mk hown6
                           replace hk6 := As.mk hk6
                           replace hb6 := As.mk hb6)
              go_roundg gp
              case rel => exact ⟨j + 1, ⟨by have := hgk.out; omega⟩, (by rw [hy.out.1]), (by first | rfl | go_num | (congr 1; omega)), by omega, ⟨by rw [hy.out.2]; exact ownPrs_snoc hown6.out⟩, ⟨(below_drewN hbel.out _).trans hb6.out⟩⟩
              case measure => omega
          · obtain rfl : j = ng := by omega
            rw [hGn.out]
            rw [hGr.out] at hown
            have hb0p := As.mk (belowNext hb015.out hbel.out)
            obtain ⟨A19, c19, rfl, hc19, hr19⟩ := OwnPrs.row hown.out
            replace hr19 := As.mk hr19
            clear hown hrr hr15 hbel hb015 hGat hGn hGr hGk hGl
            generalize wr = wp at *
            go_wp2_with fail
            go_loopg [22, 23] (l.length + 1) (fun gk v i wq => ∃ m : Nat, As (l.length + 1 ≤ gk + m) ∧ i = .int .i64 m ∧ m ≤ l.length ∧ As (OwnTx wo wp.heap.size wq v (plainT (l.take m))) ∧ As (Below wp.heap.size wp wq))
            case atStart => exact ⟨0, ⟨by omega⟩, rfl, by omega, ⟨OwnTx.nil _ _ _⟩, ⟨Below.refl _ _⟩⟩
            case round =>
              obtain ⟨m, hgm, rfl, hm, hot, hbq⟩ := hrel
              have hb0q := As.mk (belowNext hb0p.out hbq.out)
              by_cases hlm : m < l.length
              · obtain ⟨gp, rfl⟩ : ∃ gp, gk = gp + 1 := ⟨gk - 1, by have := hgm.out; omega⟩
                obtain ⟨us, hul, hou, hub⟩ := hot.out
                obtain ⟨Ax, cx, hvx, hxc, hxb⟩ := hvb'.out m hlm
                obtain ⟨ad, rfl, hcl⟩ : ∃ ad, A = some ad ∧ wr.cell? (ad.add m) = some (.slice Ax (l.getD m []).length cx) := by
                  have hrw := Row.below hro'.out hb0q.out
                  rcases hrw with h | ⟨ad, hA, _, hcc⟩
                  · rw [h] at hvx; simp at hvx
                  · exact ⟨ad, hA, hcc m _ hvx⟩
                have hsuc : l.take (m + 1) = l.take m ++ [l.getD m []] := by
                  rw [List.take_succ_eq_append_getElem hlm]; simp [List.getD_eq_getElem?_getD, hlm]
                have hpl : (plainT (l.take m)).length ≤ m := by
                  have := List.length_filter_le (fun t : Txt => decide (0 < t.length)) (l.take m)
                  rw [List.length_take] at this
                  unfold plainT
                  omega
                generalize l.getD m [] = t at *
                obtain ⟨tl, htl⟩ : ∃ k, t.length = k := ⟨_, rfl⟩
                obtain ⟨P, hP⟩ : ∃ P, plainT (l.take m) = P := ⟨_, rfl⟩
                obtain ⟨pn, hpn⟩ : ∃ k, P.length = k := ⟨_, rfl⟩
                rw [hP] at hul hou hub hpl hot
                rw [htl] at hcl
                have hsu2 : plainT (l.take (m + 1)) = if 0 < tl then P ++ [t] else P := by
                  rw [hsuc]
                  unfold plainT at hP ⊢
                  rw [List.filter_append, hP]
                  by_cases h : 0 < tl
                  · rw [if_pos h, List.filter_cons, if_pos (decide_eq_true (by omega))]; rfl
                  · rw [if_neg h, List.filter_cons, if_neg (by rw [decide_eq_true_eq]; omega)]; simp
                replace hsu2 := As.mk hsu2
                replace hub := As.mk hub
                replace htl := As.mk htl
                rw [hpn] at hul hou hpl
                replace hpn := As.mk hpn
                replace hxb := As.mk hxb
                replace hou := As.mk hou
                replace hul := As.mk hul
                clear hsuc hP hvx
                by_cases h0t : 0 < tl
                · have gt0 : decide ((0 : Int) < (tl : Int)) = true := decide_eq_true (by omega)
                  have hs2 := hsu2.out
                  rw [if_pos h0t] at hs2
                  replace hs2 := As.mk hs2
                  go_wp2_with (at_builtin
                               refine wpList_app1 _ rfl (.tmp 150) (.tmp 155) 22 rfl wp.heap.size 23 _ 1 24 Tryz.underlying22 info_bs rfl (by decide) _ pn us rfl hou.out [.slice Ax tl cx] rfl (by simp [Value.oneCell']) _ rfl (by simp) (by omega) (by decide) hbq.out.size ?_
                               intro v' w6 hown6 hk6 hat6 hb6
                               replace hown6 := As.mk hown6
                               replace hk6 := As.mk hk6
                               replace hb6 := As.mk hb6)
                  go_roundg gp
                  case rel => exact ⟨m + 1, ⟨by have := hgm.out; omega⟩, (by first | rfl | go_num | (congr 1; omega)), by omega, ⟨by rw [hs2.out]; exact OwnTx.snoc (by rw [hul.out, hpn.out]) hub.out hxc hxb.out (by rw [hpn.out, htl.out]; exact hown6.out)⟩, ⟨hbq.out.trans hb6.out⟩⟩
                  case measure => omega
                · have gt0 : decide ((0 : Int) < (tl : Int)) = false := decide_eq_false (by omega)
                  have hs2 := hsu2.out
                  rw [if_neg h0t] at hs2
                  replace hs2 := As.mk hs2
                  go_wp2
                  go_roundg gp
                  case rel => exact ⟨m + 1, ⟨by have := hgm.out; omega⟩, (by first | rfl | go_num | (congr 1; omega)), by omega, ⟨by rw [hs2.out]; exact hot.out⟩, hbq⟩
                  case measure => omega
              · obtain rfl : m = l.length := by omega
                rw [List.take_length] at hot
                obtain ⟨A22, c22, rfl, hc22, hx22⟩ := hot.out.txts hb0q.out
                have hr19q := As.mk (Row.below hr19.out hbq.out)
                have hp60 : ∀ t ∈ plainT l, t.length ≤ 60 := fun t ht => hs60'.out t (mem_plainT.1 ht).1
                have hpll : (plainT l).length ≤ 1000 := Nat.le_trans (List.length_filter_le _ _) hll
                have hBr := As.mk (belowNext hB.out hb0q.out)
                clear hot hr19 hbq hb0p
                generalize wr = wq at *
                go_wp2_with fail
                refine Calls.mono (pof_calls wq A22 c22 (plainT l) hx22 (fun t ht => by have := hp60 t ht; omega) (by omega)) ?_
                rintro e w30 ⟨V30, rfl, hP30, hb30⟩
                have hb030 := belowNext hb0q.out hb30
                have cn2 := As.mk (enew_yes w30 ((x.toNat : Int) % 4) V30 _ (plainT l) hP30 hp60 hpll ((hwp.out _ (pset_plain l)).trans h0.out))
                have hr30 := As.mk (Row.below hr19q.out hb30)
                clear hP30 hx22
                go_wp2_with fail
                refine Calls.mono cn2.out ?_
                rintro e w31 ⟨gy, rfl, hE31, hb31⟩
                have hb031 := belowNext hb030 hb31
                have hr31 := As.mk (Row.below hr30.out hb31)
                have cy := As.mk (cf3.out w31 gy hb031 hE31)
                have hB31 := As.mk (belowNext hB.out hb031)
                have gk1 : ((((nL + 1 : Nat) : Int)) == (nL : Int) + 1) = true := by simp
                have hOl2 : O.length ≤ 1000000000 := by omega
                clear hb030 hb30 hb31 hE31 cn2 cf3 hr30 hr19q hb0q hBr
                go_wp2_with (first
                  | (go_at_call 13; refine Calls.mono cy.out ?_; intro e w32 h32; obtain ⟨A32, c32, he32, hc32, hr32, hb32⟩ := h32.row; subst he32; have hB32 := As.mk (belowNext hB31.out hb32); have cS := As.mk (same_calls A19 A32 c19 c32 O O w32 (Row.below hr31.out hb32) hr32 hOl2 hOl2); rw [decide_eq_true rfl] at cS; clear hr32 hb32 h32 hb031)
                  | (go_at_call 12; refine Calls.mono cS.out ?_; rintro e w33 ⟨rfl, nq, rfl⟩))
                go_ret
                exact ⟨rfl, below_drewN hB32.out _⟩
    · have hg1 : decide ((300 : Int) < (L.length : Int)) = true := decide_eq_true (by omega)
      go_wp2
      go_ret
      exact ⟨rfl, hB.out⟩
  · --
    have hB := As.mk (Below.refl w.heap.size w)
    have HX := As.mk hx
    have HM := As.mk hm
    clear hx hm
    go_enter Tryz.func5, Tryz.ntmps5
    go_wp2_with fail
    refine Calls.mono (awake_calls _) ?_
    rintro e w1 ⟨rfl, hb⟩
    have hs := hb.size
    (try simp only [World.size_alloc, World.size_drew] at hs)
    replace hB := As.mk (belowNext hB.out (by (repeat (first | (with_reducible assumption) | (with_reducible exact Below.refl _ _) | (with_reducible refine Below.drew ?_) | (with_reducible refine below_drewN ?_ _) | (with_reducible refine Below.alloc ?_ (by (first | omega | (simp only [World.size_alloc, World.size_drew]; done) | (simp only [World.size_alloc, World.size_drew]; omega))) _) | (refine Below.trans ?_ (Below.mono (by with_reducible assumption) (by (first | omega | (simp only [World.size_alloc, World.size_drew]; done) | (simp only [World.size_alloc, World.size_drew]; omega))))))) : Below _ _ w1))
    replace HX := As.mk (HX.out.below (by (repeat (first | (with_reducible assumption) | (with_reducible exact Below.refl _ _) | (with_reducible refine Below.drew ?_) | (with_reducible refine below_drewN ?_ _) | (with_reducible refine Below.alloc ?_ (by (first | omega | (simp only [World.size_alloc, World.size_drew]; done) | (simp only [World.size_alloc, World.size_drew]; omega))) _) | (refine Below.trans ?_ (Below.mono (by with_reducible assumption) (by (first | omega | (simp only [World.size_alloc, World.size_drew]; done) | (simp only [World.size_alloc, World.size_drew]; omega))))))) : Below _ _ w1))
    replace HL := As.mk (HL.out.below (by (repeat (first | (with_reducible assumption) | (with_reducible exact Below.refl _ _) | (with_reducible refine Below.drew ?_) | (with_reducible refine below_drewN ?_ _) | (with_reducible refine Below.alloc ?_ (by (first | omega | (simp only [World.size_alloc, World.size_drew]; done) | (simp only [World.size_alloc, World.size_drew]; omega))) _) | (refine Below.trans ?_ (Below.mono (by with_reducible assumption) (by (first | omega | (simp only [World.size_alloc, World.size_drew]; done) | (simp only [World.size_alloc, World.size_drew]; omega))))))) : Below _ _ w1))
    replace hb := As.mk hb
    go_wp2_with fail
    refine Calls.mono (texts_calls _ A c l HX.out hc hr HM.out) ?_
    rintro e w2 ⟨⟨A2, c2, b, he, hb0, hS⟩, hb⟩; clear hr
    have hs := hb.size
    (try simp only [World.size_alloc, World.size_drew] at hs)
    replace hB := As.mk (belowNext hB.out (by (repeat (first | (with_reducible assumption) | (with_reducible exact Below.refl _ _) | (with_reducible refine Below.drew ?_) | (with_reducible refine below_drewN ?_ _) | (with_reducible refine Below.alloc ?_ (by (first | omega | (simp only [World.size_alloc, World.size_drew]; done) | (simp only [World.size_alloc, World.size_drew]; omega))) _) | (refine Below.trans ?_ (Below.mono (by with_reducible assumption) (by (first | omega | (simp only [World.size_alloc, World.size_drew]; done) | (simp only [World.size_alloc, World.size_drew]; omega))))))) : Below _ _ w2))
    replace HX := As.mk (HX.out.below (by (repeat (first | (with_reducible assumption) | (with_reducible exact Below.refl _ _) | (with_reducible refine Below.drew ?_) | (with_reducible refine below_drewN ?_ _) | (with_reducible refine Below.alloc ?_ (by (first | omega | (simp only [World.size_alloc, World.size_drew]; done) | (simp only [World.size_alloc, World.size_drew]; omega))) _) | (refine Below.trans ?_ (Below.mono (by with_reducible assumption) (by (first | omega | (simp only [World.size_alloc, World.size_drew]; done) | (simp only [World.size_alloc, World.size_drew]; omega))))))) : Below _ _ w2))
    replace HL := As.mk (HL.out.below (by (repeat (first | (with_reducible assumption) | (with_reducible exact Below.refl _ _) | (with_reducible refine Below.drew ?_) | (with_reducible refine below_drewN ?_ _) | (with_reducible refine Below.alloc ?_ (by (first | omega | (simp only [World.size_alloc, World.size_drew]; done) | (simp only [World.size_alloc, World.size_drew]; omega))) _) | (refine Below.trans ?_ (Below.mono (by with_reducible assumption) (by (first | omega | (simp only [World.size_alloc, World.size_drew]; done) | (simp only [World.size_alloc, World.size_drew]; omega))))))) : Below _ _ w2))
    replace hb := As.mk hb
    have hbf : (b && decide (l.length ≤ 12)) = false := by
      cases b with
      | false => rfl
      | true =>
        have h40 := of_decide_eq_true hb0.symm
        simp only [Bool.true_and, decide_eq_false_iff_not]
        exact fun h12 => hf ⟨h12, h40⟩
    obtain ⟨m, hm2⟩ : ∃ m, (if b = true then l.length else 0) = m := ⟨_, rfl⟩
    rw [hbf, hm2] at he
    subst he
    clear hS hb0 hbf hm2
    go_wp2
    go_ret
    exact ⟨rfl, hB.out⟩
end Go.Proofs.YtdiljmhikajjiaaGreat
