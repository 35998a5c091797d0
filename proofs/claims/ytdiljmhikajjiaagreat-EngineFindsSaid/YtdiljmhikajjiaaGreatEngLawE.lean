/- The walk of the law EngineFinds. -/
import Derived.Test.YtdiljmhikajjiaaGreatM19
set_option linter.unusedVariables false
set_option linter.unusedSimpArgs false
namespace Go.Proofs.YtdiljmhikajjiaaGreat
open Go.RowKit Go.Maps Seine.Trie Seine.Eng Seine.Links Seine.Sparse
attribute [local go_sem high] eqCn


theorem wrongF_zero {tag : Int} {l : List Txt} (h : wrongF tag l = 0) : 0 ≤ tag ∧ tag ≤ 3 := by
  unfold wrongF at h
  by_cases h0 : tag < 0 ∨ 3 < tag
  · rw [if_pos h0] at h; exact absurd h (by decide)
  · omega
set_option maxRecDepth 100000 in
set_option maxHeartbeats 12800000 in
theorem finds_walk (tag : Int) (A : Option Addr) (c : Nat) (l : List Txt) (B : Option Addr) (d : Nat) (L : Txt) (w : World) (ht : (Lit.int .i64 tag).wf = true) (hx : Txts w A l) (hc : l.length ≤ c) (hr : c * 24 ≤ 140737488351232) (hm : ∀ x ∈ l, x.length ≤ maxLen)
    (h1 : Byt w B L) (hd : L.length ≤ d) (hdm : d ≤ maxLen) :
    Calls Tryz.prog 4 #[.int .i64 tag, .slice A l.length c, .slice B L.length d] w fun e w' => e = .returned (.bool true) ∧ Below w.heap.size w w' := by
  have HL := As.mk h1
  clear h1 ht
  unfold maxLen at hdm
  by_cases hf : Few l
  · --
    have hB := As.mk (Below.refl w.heap.size w)
    have HX := As.mk hx
    have HM := As.mk hm
    clear hx hm
    go_enter Tryz.func4, Tryz.ntmps4
    go_wp2_with fail
    refine Calls.mono (awake_calls _) ?_
    rintro e w1 ⟨rfl, hb⟩
    have hs := hb.size
    (try simp only [World.size_alloc, World.size_drew] at hs)
    replace hB := As.mk (belowNext hB.out (by (repeat (first | (with_reducible assumption) | (with_reducible exact Below.refl _ _) | (with_reducible refine Below.drew ?_) | (with_reducible refine below_drewN ?_ _) | (with_reducible refine Below.alloc ?_ (by (first | omega | (simp only [World.size_alloc, World.size_drew]; done) | (simp only [World.size_alloc, World.size_drew]; omega))) _) | (refine Below.trans ?_ (Below.mono (by with_reducible assumption) (by (first | omega | (simp only [World.size_alloc, World.size_drew]; done) | (simp only [World.size_alloc, World.size_drew]; omega))))))) : Below _ _ w1))
    replace HX := As.mk (HX.out.below (by (repeat (first | (with_reducible assumption) | (with_reducible exact Below.refl _ _) | (with_reducible refine Below.drew ?_) | (with_reducible refine below_drewN ?_ _) | (with_reducible refine Below.alloc ?_ (by (first | omega | (simp only [World.size_alloc, World.size_drew]; done) | (simp only [World.size_alloc, World.size_drew]; omega))) _) | (refine Below.trans ?_ (Below.mono (by with_reducible assumption) (by (first | omega | (simp only [World.size_alloc, World.size_drew]; done) | (simp only [World.size_alloc, World.size_drew]; omega))))))) : Below _ _ w1))
    replace HL := As.mk (HL.out.below (by (repeat (first | (with_reducible assumption) | (with_reducible exact Below.refl _ _) | (with_reducible refine Below.drew ?_) | (with_reducible refine below_drewN ?_ _) | (with_reducible refine Below.alloc ?_ (by (first | omega | (simp only [World.size_alloc, World.size_drew]; done) | (simp only [World.size_alloc, World.size_drew]; omega))) _) | (refine Below.trans ?_ (Below.mono (by with_reducible assumption) (by (first | omega | (simp only [World.size_alloc, World.size_drew]; done) | (simp only [World.size_alloc, World.size_drew]; omega))))))) : Below _ _ w1))
    replace hb := As.mk hb
    go_wp2_with fail
    refine Calls.mono (texts_calls _ A c l HX.out hc hr HM.out) ?_
    rintro e w2 ⟨⟨A2, c2, b, he, hb0, hS⟩, hb⟩; clear hr
    have hs := hb.size
    (try simp only [World.size_alloc, World.size_drew] at hs)
    replace hB := As.mk (belowNext hB.out (by (repeat (first | (with_reducible assumption) | (with_reducible exact Below.refl _ _) | (with_reducible refine Below.drew ?_) | (with_reducible refine below_drewN ?_ _) | (with_reducible refine Below.alloc ?_ (by (first | omega | (simp only [World.size_alloc, World.size_drew]; done) | (simp only [World.size_alloc, World.size_drew]; omega))) _) | (refine Below.trans ?_ (Below.mono (by with_reducible assumption) (by (first | omega | (simp only [World.size_alloc, World.size_drew]; done) | (simp only [World.size_alloc, World.size_drew]; omega))))))) : Below _ _ w2))
    replace HX := As.mk (HX.out.below (by (repeat (first | (with_reducible assumption) | (with_reducible exact Below.refl _ _) | (with_reducible refine Below.drew ?_) | (with_reducible refine below_drewN ?_ _) | (with_reducible refine Below.alloc ?_ (by (first | omega | (simp only [World.size_alloc, World.size_drew]; done) | (simp only [World.size_alloc, World.size_drew]; omega))) _) | (refine Below.trans ?_ (Below.mono (by with_reducible assumption) (by (first | omega | (simp only [World.size_alloc, World.size_drew]; done) | (simp only [World.size_alloc, World.size_drew]; omega))))))) : Below _ _ w2))
    replace HL := As.mk (HL.out.below (by (repeat (first | (with_reducible assumption) | (with_reducible exact Below.refl _ _) | (with_reducible refine Below.drew ?_) | (with_reducible refine below_drewN ?_ _) | (with_reducible refine Below.alloc ?_ (by (first | omega | (simp only [World.size_alloc, World.size_drew]; done) | (simp only [World.size_alloc, World.size_drew]; omega))) _) | (refine Below.trans ?_ (Below.mono (by with_reducible assumption) (by (first | omega | (simp only [World.size_alloc, World.size_drew]; done) | (simp only [World.size_alloc, World.size_drew]; omega))))))) : Below _ _ w2))
    replace hb := As.mk hb
    obtain rfl : b = true := by rw [hb0]; exact decide_eq_true hf.short
    have hd12 : decide (l.length ≤ 12) = true := decide_eq_true hf.len
    rw [Bool.true_and, hd12, if_pos rfl] at he
    subst he
    obtain ⟨hc2, hS2⟩ := hS rfl
    clear hS
    have hS := As.mk hS2
    clear hS2 hb0 hd12
    have htot := As.mk hf.tot
    have hl12 := hf.len
    have hF := As.mk hf
    clear hf
    go_wp2_with fail
    refine Calls.mono (lfew_calls _ B d L HL.out hd (by omega)) ?_
    rintro e w3 ⟨he, hb⟩; subst he
    have hs := hb.size
    (try simp only [World.size_alloc, World.size_drew] at hs)
    replace hB := As.mk (belowNext hB.out (by (repeat (first | (with_reducible assumption) | (with_reducible exact Below.refl _ _) | (with_reducible refine Below.drew ?_) | (with_reducible refine below_drewN ?_ _) | (with_reducible refine Below.alloc ?_ (by (first | omega | (simp only [World.size_alloc, World.size_drew]; done) | (simp only [World.size_alloc, World.size_drew]; omega))) _) | (refine Below.trans ?_ (Below.mono (by with_reducible assumption) (by (first | omega | (simp only [World.size_alloc, World.size_drew]; done) | (simp only [World.size_alloc, World.size_drew]; omega))))))) : Below _ _ w3))
    replace HX := As.mk (HX.out.below (by (repeat (first | (with_reducible assumption) | (with_reducible exact Below.refl _ _) | (with_reducible refine Below.drew ?_) | (with_reducible refine below_drewN ?_ _) | (with_reducible refine Below.alloc ?_ (by (first | omega | (simp only [World.size_alloc, World.size_drew]; done) | (simp only [World.size_alloc, World.size_drew]; omega))) _) | (refine Below.trans ?_ (Below.mono (by with_reducible assumption) (by (first | omega | (simp only [World.size_alloc, World.size_drew]; done) | (simp only [World.size_alloc, World.size_drew]; omega))))))) : Below _ _ w3))
    replace HL := As.mk (HL.out.below (by (repeat (first | (with_reducible assumption) | (with_reducible exact Below.refl _ _) | (with_reducible refine Below.drew ?_) | (with_reducible refine below_drewN ?_ _) | (with_reducible refine Below.alloc ?_ (by (first | omega | (simp only [World.size_alloc, World.size_drew]; done) | (simp only [World.size_alloc, World.size_drew]; omega))) _) | (refine Below.trans ?_ (Below.mono (by with_reducible assumption) (by (first | omega | (simp only [World.size_alloc, World.size_drew]; done) | (simp only [World.size_alloc, World.size_drew]; omega))))))) : Below _ _ w3))
    replace hS := As.mk (hS.out.below (by (repeat (first | (with_reducible assumption) | (with_reducible exact Below.refl _ _) | (with_reducible refine Below.drew ?_) | (with_reducible refine below_drewN ?_ _) | (with_reducible refine Below.alloc ?_ (by (first | omega | (simp only [World.size_alloc, World.size_drew]; done) | (simp only [World.size_alloc, World.size_drew]; omega))) _) | (refine Below.trans ?_ (Below.mono (by with_reducible assumption) (by (first | omega | (simp only [World.size_alloc, World.size_drew]; done) | (simp only [World.size_alloc, World.size_drew]; omega))))))) : Below _ _ w3))
    replace hb := As.mk hb
    by_cases hg : L.length ≤ 120
    · rw [decide_eq_true hg]
      have hs60 : ∀ t ∈ l, t.length ≤ 60 := fun t ht => by have := hF.out.short t ht; omega
      have hll : l.length ≤ 1000 := by omega
      go_wp2_with fail
      refine Calls.mono (rof_calls _ A2 c2 l hS.out hc2 (by omega)) ?_
      rintro e w4 ⟨Ar, cr, rfl, hcr, hSr, hb⟩
      have hs := hb.size
      (try simp only [World.size_alloc, World.size_drew] at hs)
      replace hB := As.mk (belowNext hB.out (by (repeat (first | (with_reducible assumption) | (with_reducible exact Below.refl _ _) | (with_reducible refine Below.drew ?_) | (with_reducible refine below_drewN ?_ _) | (with_reducible refine Below.alloc ?_ (by (first | omega | (simp only [World.size_alloc, World.size_drew]; done) | (simp only [World.size_alloc, World.size_drew]; omega))) _) | (refine Below.trans ?_ (Below.mono (by with_reducible assumption) (by (first | omega | (simp only [World.size_alloc, World.size_drew]; done) | (simp only [World.size_alloc, World.size_drew]; omega))))))) : Below _ _ w4))
      replace HX := As.mk (HX.out.below (by (repeat (first | (with_reducible assumption) | (with_reducible exact Below.refl _ _) | (with_reducible refine Below.drew ?_) | (with_reducible refine below_drewN ?_ _) | (with_reducible refine Below.alloc ?_ (by (first | omega | (simp only [World.size_alloc, World.size_drew]; done) | (simp only [World.size_alloc, World.size_drew]; omega))) _) | (refine Below.trans ?_ (Below.mono (by with_reducible assumption) (by (first | omega | (simp only [World.size_alloc, World.size_drew]; done) | (simp only [World.size_alloc, World.size_drew]; omega))))))) : Below _ _ w4))
      replace HL := As.mk (HL.out.below (by (repeat (first | (with_reducible assumption) | (with_reducible exact Below.refl _ _) | (with_reducible refine Below.drew ?_) | (with_reducible refine below_drewN ?_ _) | (with_reducible refine Below.alloc ?_ (by (first | omega | (simp only [World.size_alloc, World.size_drew]; done) | (simp only [World.size_alloc, World.size_drew]; omega))) _) | (refine Below.trans ?_ (Below.mono (by with_reducible assumption) (by (first | omega | (simp only [World.size_alloc, World.size_drew]; done) | (simp only [World.size_alloc, World.size_drew]; omega))))))) : Below _ _ w4))
      replace hb := As.mk hb
      obtain ⟨pn, hpn⟩ : ∃ k, (pset l).length = k := ⟨_, rfl⟩
      obtain ⟨e0, he0⟩ : ∃ e, decide (([] : Txt) ∈ l) = e := ⟨_, rfl⟩
      have cWr := As.mk (fun (v : World) (hv : Below w4.heap.size w4 v) => rwrong_calls v tag Ar cr l (hSr.below hv) hcr hll hs60)
      have cCo := As.mk (fun (v : World) (hv : Below w4.heap.size w4 v) (h0 : 0 ≤ tag) => rcounts_calls v tag Ar cr l (hSr.below hv) hcr hll hs60 h0 L (by omega))
      have cFi := As.mk (fun (v : World) (hv : Below w4.heap.size w4 v) => rfind_calls v Ar cr l (hSr.below hv) hcr hll L (by omega))
      rw [hpn, he0] at cWr cCo cFi
      rw [hpn, he0]
      have hHX := As.mk (fun (v : World) (hv : Below w4.heap.size w4 v) => HX.out.below hv)
      have hHL := As.mk (fun (v : World) (hv : Below w4.heap.size w4 v) => Row.below HL.out hv)
      have hz1 := heap_alloc_new w4 (.cells #[.slice Ar pn cr, .bool e0] 42)
      have hBs : Below w4.heap.size w4 (w4.alloc (.cells #[.slice Ar pn cr, .bool e0] 42)) := (Below.refl _ _).alloc (Nat.le_refl _) _
      obtain ⟨b1, hb1e⟩ : ∃ g, w4.heap.size = g := ⟨_, rfl⟩
      obtain ⟨W1, hW1⟩ : ∃ W, w4.alloc (.cells #[.slice Ar pn cr, .bool e0] 42) = W := ⟨_, rfl⟩
      rw [hW1] at hz1 hBs
      rw [hb1e] at hz1
      have q0 : ∀ v, Below W1.heap.size W1 v → v.cell? ⟨b1, 0, none⟩ = some (.slice Ar pn cr) := fun v hv => cell_of_blk (blkBelow hv hz1) 0
      have q1 : ∀ v, Below W1.heap.size W1 v → v.cell? ⟨b1, 1, none⟩ = some (.bool e0) := fun v hv => cell_of_blk (blkBelow hv hz1) 1
      replace hz1 := As.mk hz1
      replace hW1 := As.mk hW1
      replace hb1e := As.mk hb1e
      replace hpn := As.mk hpn
      replace he0 := As.mk he0
      replace hs60 := As.mk hs60
      clear hS hSr hcr
      go_wp2_with fail
      rw [hW1.out]
      refine Calls.mono (pof_calls W1 A c l (hHX.out _ hBs) (fun t ht => by have := hs60.out t ht; omega) (by omega)) ?_
      rintro e w5 ⟨V, rfl, hP, hb5⟩
      have hb15 : Below W1.heap.size W1 w5 := hb5
      have cN := As.mk (enew_calls w5 tag V _ l hP hs60.out hll)
      clear hP hb5
      go_wp2_with fail
      refine Calls.mono cN.out ?_
      rintro e w6 ⟨h6, hb6⟩
      have hb16 := belowNext hb15 hb6
      obtain ⟨p, q, he, hpq⟩ : ∃ p q, e = .returned (.tuple #[.pointer p, .int .i64 q]) ∧ ((wrongF tag l = 0 ∧ q = 0 ∧ ∃ g, p = some ⟨g, 0, none⟩ ∧ EngAt w6 g tag l) ∨ (wrongF tag l ≠ 0 ∧ q = wrongF tag l ∧ p = none)) := by
        by_cases h0 : wrongF tag l = 0
        · rw [if_pos h0] at h6
          obtain ⟨g, h1, h2⟩ := h6
          exact ⟨_, _, h1, .inl ⟨h0, rfl, g, rfl, h2⟩⟩
        · rw [if_neg h0] at h6
          exact ⟨_, _, h6, .inr ⟨h0, rfl, rfl⟩⟩
      subst he
      replace hpq := As.mk hpq
      have z0 := q0 w6 hb16
      have z1 := q1 w6 hb16
      have hb46 := belowNext hBs hb16
      have cWr6 := As.mk (cWr.out w6 hb46)
      clear h6 cN cWr hb15 hb6
      rw [hb1e.out]
      go_wp2_with fail
      refine Calls.mono cWr6.out ?_
      rintro e w7 ⟨rfl, hb7⟩
      have hb17 := As.mk (belowNext hb16 hb7)
      have hb47 := As.mk (belowNext hb46 hb7)
      replace hb7 := As.mk hb7
      clear cWr6 hb16 hb46 z0 z1
      rcases hpq.out with ⟨h0, rfl, g, rfl, hE6⟩ | ⟨h0, hq, rfl⟩
      · rw [h0]
        have hE7 := As.mk (hE6.below hb7.out)
        obtain ⟨ht0, ht3⟩ := wrongF_zero h0
        have hisT : decide (0 ≤ tag ∧ tag ≤ 3) = true := decide_eq_true ⟨ht0, ht3⟩
        have g0 : decide (0 ≤ tag) = true := decide_eq_true ht0
        have g3 : decide (tag ≤ 3) = true := decide_eq_true ht3
        replace h0 := As.mk h0
        clear hE6
        go_wp2_with (first
          | (go_at_call 17; with_reducible refine Calls.mono (eis_calls _ tag) ?_; rintro e w' ⟨rfl, rfl⟩; rw [hisT]))
        refine Calls.mono (mnew_calls _) ?_
        rintro e w8 ⟨rfl, hmt, hb8⟩
        have hmo := As.mk (Mo.some_ hmt)
        have hb78 := As.mk hb8
        obtain ⟨gm, hgm⟩ : ∃ g, w7.heap.size = g := ⟨_, rfl⟩
        rw [hgm] at hmo ⊢
        have hzz : w7.heap.size ≤ gm := by omega
        have cf := As.mk (efind_calls w8 g tag l (hE7.out.below hb8) hs60.out hll (some gm) Cn.zero hmo.out Cn.zero_room B d L (hHL.out _ (belowNext hb47.out hb8)) (by omega))
        have hfl : (findF l L).length ≤ 1000000 := by
          have h1 := findF_len l L
          have h2 : L.length * L.length ≤ 120 * 120 := Nat.mul_le_mul hg hg
          omega
        clear hb8 hmt hgm
        obtain ⟨sN, hsN⟩ : ∃ k, scanN tag l L = k := ⟨_, rfl⟩
        obtain ⟨lN, hlN⟩ : ∃ k, lookN tag l L = k := ⟨_, rfl⟩
        obtain ⟨R, hR⟩ : ∃ R, findF l L = R := ⟨_, rfl⟩
        rw [hsN, hlN, hR] at cf
        rw [hsN, hlN] at cCo
        rw [hR] at cFi hfl
        obtain ⟨sL, hsL⟩ : ∃ s, bb L = s := ⟨_, rfl⟩
        rw [hsL] at cCo cFi
        have KX := As.mk (fun (v : World) (hv : Below w4.heap.size w4 v) => (by have := conv_byt (c := d) Tryz.underlying23 (hHL.out v hv) (by omega); rw [hsL] at this; exact this : (convert 23 9 (.slice B L.length d)).run Tryz.prog v = .ok (.string sL) v))
        obtain ⟨nL, hnL⟩ : ∃ k, L.length = k := ⟨_, rfl⟩
        rw [hnL] at cf KX hg hd ⊢
        replace hsN := As.mk hsN
        replace hlN := As.mk hlN
        replace hR := As.mk hR
        replace hsL := As.mk hsL
        replace hnL := As.mk hnL
        clear hE7 hmo
        go_wp2_with fail
        refine Calls.mono cf.out ?_
        rintro e w9 ⟨h9, hE9⟩
        have hb79 := h9.young hb78.out hzz
        obtain ⟨A9, c9, rfl, hc9, hcm9, hr9, hm9, _, _⟩ := h9.out
        have hb49 := belowNext hb47.out hb79
        have hb19 := belowNext hb17.out hb79
        have z0 := q0 w9 hb19
        have z1 := q1 w9 hb19
        have K9 := KX.out w9 hb49
        have cCo9 := As.mk (cCo.out w9 hb49 ht0)
        replace hE9 := As.mk hE9
        replace hr9 := As.mk hr9
        replace hm9 := As.mk hm9
        clear h9 cf hb78 hb79 hb47 hb17 cCo
        go_wp2_with fail
        refine Calls.mono cCo9.out ?_
        rintro e w10 ⟨rfl, hb10⟩
        have hb410 := belowNext hb49 hb10
        have hb110 := belowNext hb19 hb10
        have z0 := q0 w10 hb110
        have z1 := q1 w10 hb110
        have K10 := KX.out w10 hb410
        have cFi10 := As.mk (cFi.out w10 hb410)
        replace hE9 := As.mk (hE9.out.below hb10)
        replace hr9 := As.mk (Row.below hr9.out hb10)
        replace hm9 := As.mk (hm9.out.below hb10)
        replace hb110 := As.mk hb110
        clear hb49 hb19 hb10 cCo9 hb410 K9
        go_wp2_with (first
          | (go_at_call 22; refine Calls.mono cFi10.out ?_; rintro e w11 ⟨A11, c11, rfl, hc11, hr11, hb11⟩; have hb111 := As.mk (belowNext hb110.out hb11); have cS := As.mk (same_calls A9 A11 c9 c11 R R w11 (Row.below hr9.out hb11) hr11 (by omega) (by omega)); rw [decide_eq_true rfl] at cS; replace hE9 := As.mk (hE9.out.below hb11); replace hm9 := As.mk (hm9.out.below hb11); clear hb11 hr11))
        refine Calls.mono cS.out ?_
        rintro e w12 ⟨rfl, nq, rfl⟩
        have hdr : Below w11.heap.size w11 (w11.drewN nq) := below_drewN (Below.refl _ _) nq
        have cMc := As.mk (mcounts_calls _ gm _ (hm9.out.below hdr gm rfl))
        have hE12 := As.mk (hE9.out.below hdr)
        have hb112 := As.mk (belowNext hb111.out hdr)
        clear hdr
        go_wp2_with (first
          | (go_at_call 19; refine Calls.mono cMc.out ?_; rintro e w13 ⟨rfl, hb13⟩; unfold cnCells Cn.more Cn.zero; simp only [Int.zero_add]; have hE13 := As.mk (hE12.out.below hb13); have hb113 := As.mk (belowNext hb112.out hb13); clear hb13)
          | (go_at_call 20; refine Calls.mono (etag_calls _ g tag l hE13.out) ?_; rintro e w' ⟨rfl, rfl⟩))
        go_ret
        exact ⟨rfl, belowNext (belowNext hB.out hBs) hb113.out⟩
      · rw [← hq]
        have gq : (q != 0) = true := by rw [hq]; simp; exact h0
        replace hq := As.mk hq
        by_cases ht0 : 0 ≤ tag
        · have g0 : decide (0 ≤ tag) = true := decide_eq_true ht0
          by_cases ht3 : tag ≤ 3
          · have g3 : decide (tag ≤ 3) = true := decide_eq_true ht3
            have hisT : decide (0 ≤ tag ∧ tag ≤ 3) = true := decide_eq_true ⟨ht0, ht3⟩
            go_wp2_with (first
              | (go_at_call 17; with_reducible refine Calls.mono (eis_calls _ tag) ?_; rintro e w' ⟨rfl, rfl⟩; rw [hisT]))
            refine Calls.mono (mnew_calls _) ?_
            rintro e w8 ⟨rfl, hmt, hb8⟩
            have hb18 := As.mk (belowNext hb17.out hb8)
            obtain ⟨gm, hgm⟩ : ∃ g, w7.heap.size = g := ⟨_, rfl⟩
            rw [hgm] at hmt ⊢
            replace hmt := As.mk hmt
            clear hb8 hgm
            go_wp2_with (first
              | (go_at_call 13; refine Calls.mono (efind_none _ _ _) ?_; rintro e w' ⟨rfl, rfl⟩)
              | (go_at_call 19; refine Calls.mono (mcounts_calls _ gm _ hmt.out) ?_; rintro e w9 ⟨rfl, hb9⟩; unfold cnCells Cn.zero; simp only; have hb19 := As.mk (belowNext hb18.out hb9); clear hb9)
              | (go_at_call 20; refine Calls.mono (etag_none _) ?_; rintro e w' ⟨rfl, rfl⟩))
            go_ret
            exact ⟨rfl, belowNext (belowNext hB.out hBs) hb19.out⟩
          · have g3 : decide (tag ≤ 3) = false := decide_eq_false ht3
            have hisT : decide (0 ≤ tag ∧ tag ≤ 3) = false := decide_eq_false (by omega)
            go_wp2_with (first
              | (go_at_call 17; with_reducible refine Calls.mono (eis_calls _ tag) ?_; rintro e w' ⟨rfl, rfl⟩; rw [hisT]))
            refine Calls.mono (mnew_calls _) ?_
            rintro e w8 ⟨rfl, hmt, hb8⟩
            have hb18 := As.mk (belowNext hb17.out hb8)
            obtain ⟨gm, hgm⟩ : ∃ g, w7.heap.size = g := ⟨_, rfl⟩
            rw [hgm] at hmt ⊢
            replace hmt := As.mk hmt
            clear hb8 hgm
            go_wp2_with (first
              | (go_at_call 13; refine Calls.mono (efind_none _ _ _) ?_; rintro e w' ⟨rfl, rfl⟩)
              | (go_at_call 19; refine Calls.mono (mcounts_calls _ gm _ hmt.out) ?_; rintro e w9 ⟨rfl, hb9⟩; unfold cnCells Cn.zero; simp only; have hb19 := As.mk (belowNext hb18.out hb9); clear hb9)
              | (go_at_call 20; refine Calls.mono (etag_none _) ?_; rintro e w' ⟨rfl, rfl⟩))
            go_ret
            exact ⟨rfl, belowNext (belowNext hB.out hBs) hb19.out⟩
        · have g0 : decide (0 ≤ tag) = false := decide_eq_false ht0
          have hisT : decide (0 ≤ tag ∧ tag ≤ 3) = false := decide_eq_false (by omega)
          go_wp2_with (first
            | (go_at_call 17; with_reducible refine Calls.mono (eis_calls _ tag) ?_; rintro e w' ⟨rfl, rfl⟩; rw [hisT]))
          refine Calls.mono (mnew_calls _) ?_
          rintro e w8 ⟨rfl, hmt, hb8⟩
          have hb18 := As.mk (belowNext hb17.out hb8)
          obtain ⟨gm, hgm⟩ : ∃ g, w7.heap.size = g := ⟨_, rfl⟩
          rw [hgm] at hmt ⊢
          replace hmt := As.mk hmt
          clear hb8 hgm
          go_wp2_with (first
            | (go_at_call 13; refine Calls.mono (efind_none _ _ _) ?_; rintro e w' ⟨rfl, rfl⟩)
            | (go_at_call 19; refine Calls.mono (mcounts_calls _ gm _ hmt.out) ?_; rintro e w9 ⟨rfl, hb9⟩; unfold cnCells Cn.zero; simp only; have hb19 := As.mk (belowNext hb18.out hb9); clear hb9)
            | (go_at_call 20; refine Calls.mono (etag_none _) ?_; rintro e w' ⟨rfl, rfl⟩))
          go_ret
          exact ⟨rfl, belowNext (belowNext hB.out hBs) hb19.out⟩
    · rw [decide_eq_false hg]
      go_wp2
      go_ret
      exact ⟨rfl, hB.out⟩
  · --
    have hB := As.mk (Below.refl w.heap.size w)
    have HX := As.mk hx
    have HM := As.mk hm
    clear hx hm
    go_enter Tryz.func4, Tryz.ntmps4
    go_wp2_with fail
    refine Calls.mono (awake_calls _) ?_
    rintro e w1 ⟨rfl, hb⟩
    have hs := hb.size
    (try simp only [World.size_alloc, World.size_drew] at hs)
    replace hB := As.mk (belowNext hB.out (by (repeat (first | (with_reducible assumption) | (with_reducible exact Below.refl _ _) | (with_reducible refine Below.drew ?_) | (with_reducible refine below_drewN ?_ _) | (with_reducible refine Below.alloc ?_ (by (first | omega | (simp only [World.size_alloc, World.size_drew]; done) | (simp only [World.size_alloc, World.size_drew]; omega))) _) | (refine Below.trans ?_ (Below.mono (by with_reducible assumption) (by (first | omega | (simp only [World.size_alloc, World.size_drew]; done) | (simp only [World.size_alloc, World.size_drew]; omega))))))) : Below _ _ w1))
    replace HX := As.mk (HX.out.below (by (repeat (first | (with_reducible assumption) | (with_reducible exact Below.refl _ _) | (with_reducible refine Below.drew ?_) | (with_reducible refine below_drewN ?_ _) | (with_reducible refine Below.alloc ?_ (by (first | omega | (simp only [World.size_alloc, World.size_drew]; done) | (simp only [World.size_alloc, World.size_drew]; omega))) _) | (refine Below.trans ?_ (Below.mono (by with_reducible assumption) (by (first | omega | (simp only [World.size_alloc, World.size_drew]; done) | (simp only [World.size_alloc, World.size_drew]; omega))))))) : Below _ _ w1))
    replace HL := As.mk (HL.out.below (by (repeat (first | (with_reducible assumption) | (with_reducible exact Below.refl _ _) | (with_reducible refine Below.drew ?_) | (with_reducible refine below_drewN ?_ _) | (with_reducible refine Below.alloc ?_ (by (first | omega | (simp only [World.size_alloc, World.size_drew]; done) | (simp only [World.size_alloc, World.size_drew]; omega))) _) | (refine Below.trans ?_ (Below.mono (by with_reducible assumption) (by (first | omega | (simp only [World.size_alloc, World.size_drew]; done) | (simp only [World.size_alloc, World.size_drew]; omega))))))) : Below _ _ w1))
    replace hb := As.mk hb
    go_wp2_with fail
    refine Calls.mono (texts_calls _ A c l HX.out hc hr HM.out) ?_
    rintro e w2 ⟨⟨A2, c2, b, he, hb0, hS⟩, hb⟩; clear hr
    have hs := hb.size
    (try simp only [World.size_alloc, World.size_drew] at hs)
    replace hB := As.mk (belowNext hB.out (by (repeat (first | (with_reducible assumption) | (with_reducible exact Below.refl _ _) | (with_reducible refine Below.drew ?_) | (with_reducible refine below_drewN ?_ _) | (with_reducible refine Below.alloc ?_ (by (first | omega | (simp only [World.size_alloc, World.size_drew]; done) | (simp only [World.size_alloc, World.size_drew]; omega))) _) | (refine Below.trans ?_ (Below.mono (by with_reducible assumption) (by (first | omega | (simp only [World.size_alloc, World.size_drew]; done) | (simp only [World.size_alloc, World.size_drew]; omega))))))) : Below _ _ w2))
    replace HX := As.mk (HX.out.below (by (repeat (first | (with_reducible assumption) | (with_reducible exact Below.refl _ _) | (with_reducible refine Below.drew ?_) | (with_reducible refine below_drewN ?_ _) | (with_reducible refine Below.alloc ?_ (by (first | omega | (simp only [World.size_alloc, World.size_drew]; done) | (simp only [World.size_alloc, World.size_drew]; omega))) _) | (refine Below.trans ?_ (Below.mono (by with_reducible assumption) (by (first | omega | (simp only [World.size_alloc, World.size_drew]; done) | (simp only [World.size_alloc, World.size_drew]; omega))))))) : Below _ _ w2))
    replace HL := As.mk (HL.out.below (by (repeat (first | (with_reducible assumption) | (with_reducible exact Below.refl _ _) | (with_reducible refine Below.drew ?_) | (with_reducible refine below_drewN ?_ _) | (with_reducible refine Below.alloc ?_ (by (first | omega | (simp only [World.size_alloc, World.size_drew]; done) | (simp only [World.size_alloc, World.size_drew]; omega))) _) | (refine Below.trans ?_ (Below.mono (by with_reducible assumption) (by (first | omega | (simp only [World.size_alloc, World.size_drew]; done) | (simp only [World.size_alloc, World.size_drew]; omega))))))) : Below _ _ w2))
    replace hb := As.mk hb
    have hbf : (b && decide (l.length ≤ 12)) = false := by
      cases b with
      | false => rfl
      | true =>
        have h40 := of_decide_eq_true hb0.symm
        simp only [Bool.true_and, decide_eq_false_iff_not]
        exact fun h12 => hf ⟨h12, h40⟩
    obtain ⟨m, hm2⟩ : ∃ m, (if b = true then l.length else 0) = m := ⟨_, rfl⟩
    rw [hbf, hm2] at he
    subst he
    clear hS hb0 hbf hm2
    go_wp2_with fail
    refine Calls.mono (lfew_calls _ B d L HL.out hd (by omega)) ?_
    rintro e w3 ⟨he, hb⟩; subst he
    have hs := hb.size
    (try simp only [World.size_alloc, World.size_drew] at hs)
    replace hB := As.mk (belowNext hB.out (by (repeat (first | (with_reducible assumption) | (with_reducible exact Below.refl _ _) | (with_reducible refine Below.drew ?_) | (with_reducible refine below_drewN ?_ _) | (with_reducible refine Below.alloc ?_ (by (first | omega | (simp only [World.size_alloc, World.size_drew]; done) | (simp only [World.size_alloc, World.size_drew]; omega))) _) | (refine Below.trans ?_ (Below.mono (by with_reducible assumption) (by (first | omega | (simp only [World.size_alloc, World.size_drew]; done) | (simp only [World.size_alloc, World.size_drew]; omega))))))) : Below _ _ w3))
    replace HX := As.mk (HX.out.below (by (repeat (first | (with_reducible assumption) | (with_reducible exact Below.refl _ _) | (with_reducible refine Below.drew ?_) | (with_reducible refine below_drewN ?_ _) | (with_reducible refine Below.alloc ?_ (by (first | omega | (simp only [World.size_alloc, World.size_drew]; done) | (simp only [World.size_alloc, World.size_drew]; omega))) _) | (refine Below.trans ?_ (Below.mono (by with_reducible assumption) (by (first | omega | (simp only [World.size_alloc, World.size_drew]; done) | (simp only [World.size_alloc, World.size_drew]; omega))))))) : Below _ _ w3))
    replace HL := As.mk (HL.out.below (by (repeat (first | (with_reducible assumption) | (with_reducible exact Below.refl _ _) | (with_reducible refine Below.drew ?_) | (with_reducible refine below_drewN ?_ _) | (with_reducible refine Below.alloc ?_ (by (first | omega | (simp only [World.size_alloc, World.size_drew]; done) | (simp only [World.size_alloc, World.size_drew]; omega))) _) | (refine Below.trans ?_ (Below.mono (by with_reducible assumption) (by (first | omega | (simp only [World.size_alloc, World.size_drew]; done) | (simp only [World.size_alloc, World.size_drew]; omega))))))) : Below _ _ w3))
    replace hb := As.mk hb
    go_wp2
    go_ret
    exact ⟨rfl, hB.out⟩
end Go.Proofs.YtdiljmhikajjiaaGreat
