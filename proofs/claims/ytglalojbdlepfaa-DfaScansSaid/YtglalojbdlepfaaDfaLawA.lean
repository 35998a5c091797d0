/- The walk of the law DfaScans. -/
import Derived.Test.YtglalojbdlepfaaM8
set_option linter.unusedVariables false
set_option linter.unusedSimpArgs false
namespace Go.Proofs.Ytglalojbdlepfaa
open Go.RowKit Go.Maps Seine.Trie Seine.Links Seine.Sparse
open Seine.Sort (occ occTo_len)
attribute [local go_sem high] eqCn

set_option maxRecDepth 100000 in
set_option maxHeartbeats 3200000 in
theorem scans_walk (A : Option Addr) (c : Nat) (l : List Txt) (B : Option Addr) (d : Nat) (L : Txt) (w : World) (hx : Txts w A l) (hc : l.length ≤ c) (hr : c * 24 ≤ 140737488351232) (hm : ∀ x ∈ l, x.length ≤ maxLen)
    (h1 : Byt w B L) (hd : L.length ≤ d) (hdm : d ≤ maxLen) :
    Calls Try.prog 3 #[.slice A l.length c, .slice B L.length d] w fun e w' => e = .returned (.bool true) ∧ Below w.heap.size w w' := by
  have HL := As.mk h1
  clear h1
  unfold maxLen at hdm
  by_cases hf : Few l
  · --
    have hB := As.mk (Below.refl w.heap.size w)
    have HX := As.mk hx
    have HM := As.mk hm
    clear hx hm
    go_enter Try.func3, Try.ntmps3
    go_wp2_with fail
    refine Calls.mono (awake_calls _) ?_
    rintro e w1 ⟨rfl, hb⟩
    have hs := hb.size
    (try simp only [World.size_alloc, World.size_drew] at hs)
    replace hB := As.mk (belowNext hB.out (by (repeat (first | (with_reducible assumption) | (with_reducible exact Below.refl _ _) | (with_reducible refine Below.drew ?_) | (with_reducible refine below_drewN ?_ _) | (with_reducible refine Below.alloc ?_ (by (first | omega | (simp only [World.size_alloc, World.size_drew]; done) | (simp only [World.size_alloc, World.size_drew]; omega))) _) | (refine Below.trans ?_ (Below.mono (by with_reducible assumption) (by (first | omega | (simp only [World.size_alloc, World.size_drew]; done) | (simp only [World.size_alloc, World.size_drew]; omega))))))) : Below _ _ w1))
    replace HX := As.mk (HX.out.below (by (repeat (first | (with_reducible assumption) | (with_reducible exact Below.refl _ _) | (with_reducible refine Below.drew ?_) | (with_reducible refine below_drewN ?_ _) | (with_reducible refine Below.alloc ?_ (by (first | omega | (simp only [World.size_alloc, World.size_drew]; done) | (simp only [World.size_alloc, World.size_drew]; omega))) _) | (refine Below.trans ?_ (Below.mono (by with_reducible assumption) (by (first | omega | (simp only [World.size_alloc, World.size_drew]; done) | (simp only [World.size_alloc, World.size_drew]; omega))))))) : Below _ _ w1))
    replace HL := As.mk (HL.out.below (by (repeat (first | (with_reducible assumption) | (with_reducible exact Below.refl _ _) | (with_reducible refine Below.drew ?_) | (with_reducible refine below_drewN ?_ _) | (with_reducible refine Below.alloc ?_ (by (first | omega | (simp only [World.size_alloc, World.size_drew]; done) | (simp only [World.size_alloc, World.size_drew]; omega))) _) | (refine Below.trans ?_ (Below.mono (by with_reducible assumption) (by (first | omega | (simp only [World.size_alloc, World.size_drew]; done) | (simp only [World.size_alloc, World.size_drew]; omega))))))) : Below _ _ w1))
    replace hb := As.mk hb
    go_wp2_with fail
    refine Calls.mono (texts_calls _ A c l HX.out hc hr HM.out) ?_
    rintro e w2 ⟨⟨A2, c2, b, he, hb0, hS⟩, hb⟩; clear hr
    have hs := hb.size
    (try simp only [World.size_alloc, World.size_drew] at hs)
    replace hB := As.mk (belowNext hB.out (by (repeat (first | (with_reducible assumption) | (with_reducible exact Below.refl _ _) | (with_reducible refine Below.drew ?_) | (with_reducible refine below_drewN ?_ _) | (with_reducible refine Below.alloc ?_ (by (first | omega | (simp only [World.size_alloc, World.size_drew]; done) | (simp only [World.size_alloc, World.size_drew]; omega))) _) | (refine Below.trans ?_ (Below.mono (by with_reducible assumption) (by (first | omega | (simp only [World.size_alloc, World.size_drew]; done) | (simp only [World.size_alloc, World.size_drew]; omega))))))) : Below _ _ w2))
    replace HX := As.mk (HX.out.below (by (repeat (first | (with_reducible assumption) | (with_reducible exact Below.refl _ _) | (with_reducible refine Below.drew ?_) | (with_reducible refine below_drewN ?_ _) | (with_reducible refine Below.alloc ?_ (by (first | omega | (simp only [World.size_alloc, World.size_drew]; done) | (simp only [World.size_alloc, World.size_drew]; omega))) _) | (refine Below.trans ?_ (Below.mono (by with_reducible assumption) (by (first | omega | (simp only [World.size_alloc, World.size_drew]; done) | (simp only [World.size_alloc, World.size_drew]; omega))))))) : Below _ _ w2))
    replace HL := As.mk (HL.out.below (by (repeat (first | (with_reducible assumption) | (with_reducible exact Below.refl _ _) | (with_reducible refine Below.drew ?_) | (with_reducible refine below_drewN ?_ _) | (with_reducible refine Below.alloc ?_ (by (first | omega | (simp only [World.size_alloc, World.size_drew]; done) | (simp only [World.size_alloc, World.size_drew]; omega))) _) | (refine Below.trans ?_ (Below.mono (by with_reducible assumption) (by (first | omega | (simp only [World.size_alloc, World.size_drew]; done) | (simp only [World.size_alloc, World.size_drew]; omega))))))) : Below _ _ w2))
    replace hb := As.mk hb
    obtain rfl : b = true := by rw [hb0]; exact decide_eq_true hf.short
    have hd12 : decide (l.length ≤ 12) = true := decide_eq_true hf.len
    rw [Bool.true_and, hd12, if_pos rfl] at he
    subst he
    obtain ⟨hc2, hS2⟩ := hS rfl
    clear hS
    have hS := As.mk hS2
    clear hS2 hb0 hd12
    have htot := As.mk hf.tot
    have hl12 := hf.len
    have hF := As.mk hf
    clear hf
    go_wp2_with fail
    refine Calls.mono (lfew_calls _ B d L HL.out hd (by omega)) ?_
    rintro e w3 ⟨he, hb⟩; subst he
    have hs := hb.size
    (try simp only [World.size_alloc, World.size_drew] at hs)
    replace hB := As.mk (belowNext hB.out (by (repeat (first | (with_reducible assumption) | (with_reducible exact Below.refl _ _) | (with_reducible refine Below.drew ?_) | (with_reducible refine below_drewN ?_ _) | (with_reducible refine Below.alloc ?_ (by (first | omega | (simp only [World.size_alloc, World.size_drew]; done) | (simp only [World.size_alloc, World.size_drew]; omega))) _) | (refine Below.trans ?_ (Below.mono (by with_reducible assumption) (by (first | omega | (simp only [World.size_alloc, World.size_drew]; done) | (simp only [World.size_alloc, World.size_drew]; omega))))))) : Below _ _ w3))
    replace HX := As.mk (HX.out.below (by (repeat (first | (with_reducible assumption) | (with_reducible exact Below.refl _ _) | (with_reducible refine Below.drew ?_) | (with_reducible refine below_drewN ?_ _) | (with_reducible refine Below.alloc ?_ (by (first | omega | (simp only [World.size_alloc, World.size_drew]; done) | (simp only [World.size_alloc, World.size_drew]; omega))) _) | (refine Below.trans ?_ (Below.mono (by with_reducible assumption) (by (first | omega | (simp only [World.size_alloc, World.size_drew]; done) | (simp only [World.size_alloc, World.size_drew]; omega))))))) : Below _ _ w3))
    replace HL := As.mk (HL.out.below (by (repeat (first | (with_reducible assumption) | (with_reducible exact Below.refl _ _) | (with_reducible refine Below.drew ?_) | (with_reducible refine below_drewN ?_ _) | (with_reducible refine Below.alloc ?_ (by (first | omega | (simp only [World.size_alloc, World.size_drew]; done) | (simp only [World.size_alloc, World.size_drew]; omega))) _) | (refine Below.trans ?_ (Below.mono (by with_reducible assumption) (by (first | omega | (simp only [World.size_alloc, World.size_drew]; done) | (simp only [World.size_alloc, World.size_drew]; omega))))))) : Below _ _ w3))
    replace hS := As.mk (hS.out.below (by (repeat (first | (with_reducible assumption) | (with_reducible exact Below.refl _ _) | (with_reducible refine Below.drew ?_) | (with_reducible refine below_drewN ?_ _) | (with_reducible refine Below.alloc ?_ (by (first | omega | (simp only [World.size_alloc, World.size_drew]; done) | (simp only [World.size_alloc, World.size_drew]; omega))) _) | (refine Below.trans ?_ (Below.mono (by with_reducible assumption) (by (first | omega | (simp only [World.size_alloc, World.size_drew]; done) | (simp only [World.size_alloc, World.size_drew]; omega))))))) : Below _ _ w3))
    replace hb := As.mk hb
    by_cases hg : L.length ≤ 120
    · rw [decide_eq_true hg]
      go_wp2_with fail
      refine Calls.mono (mnew_calls _) ?_
      rintro e w4 ⟨rfl, hmt, hb⟩
      have hmo := Mo.some_ hmt
      have hb34 := As.mk hb
      have hmb := block_lt hmt
      obtain ⟨gm, hgm⟩ : ∃ g, w3.heap.size = g := ⟨_, rfl⟩
      rw [hgm] at hmo hmt hmb ⊢
      have hz3 : w3.heap.size ≤ gm := by omega
      clear hgm hmt hb
      have cP := As.mk (fun (v : World) (hv : Below w4.heap.size w4 v) => rpaths_calls v A2 c2 l (hS.out.below (hb34.out.trans (hv.mono hb34.out.size))) hc2 (by omega) (by have := htot.out; omega))
      obtain ⟨np, hnp⟩ : ∃ np, (paths l).length = np := ⟨_, rfl⟩
      by_cases h160 : (paths l).length ≤ 160
      · go_wp2_with fail
        refine Calls.mono (dnew_yes_calls w4 A c l (HX.out.below hb34.out) (by have := htot.out; omega) (by omega) h160) ?_
        rintro e w5 ⟨g, rfl, hA, hb⟩
        have hmo5 := hmo.below hb
        have hb45 := As.mk hb
        replace hA := As.mk hA
        replace hmo5 := As.mk hmo5
        have hno : decide ((160 : Int) < (np : Int)) = false := decide_eq_false (by omega)
        have hF40 := As.mk hF.out.short
        rw [hnp] at cP
        replace h160 := As.mk h160
        replace hnp := As.mk hnp
        clear hb hmo
        go_wp2_with (go_at_call 14; refine Calls.mono (cP.out _ hb45.out) ?_; rintro e w6 ⟨A6, c6, he6, hc6, hr6, hb6⟩; subst he6)
        have hb46 := As.mk (belowNext hb45.out hb6)
        have hb36 := As.mk (hb34.out.trans (hb46.out.mono hb34.out.size))
        have csc := As.mk (fdscan_calls w6 g l hF40.out (hA.out.below hb6) h160.out (some gm) Cn.zero (hmo5.out.below hb6) Cn.zero_room B d L (Row.below HL.out hb36.out) (by omega))
        obtain ⟨R, hR⟩ : ∃ R, occ l L = R := ⟨_, rfl⟩
        obtain ⟨n, hn⟩ : ∃ n, L.length = n := ⟨_, rfl⟩
        rw [hR, hn] at csc
        rw [hn] at hg hd ⊢
        clear hb6 hr6
        go_wp2_with fail
        refine Calls.mono csc.out ?_
        intro e w7 h7
        have hb37 := h7.young hb36.out hz3
        obtain ⟨A7, c7, rfl, hc7, hcm7, hr7, hm7, _, _⟩ := h7.out
        obtain ⟨nr, hnr⟩ : ∃ n, R.length = n := ⟨_, rfl⟩
        have hR1 : nr ≤ 1000000 := by
          have := occTo_len l L L.length
          have h2 : L.length * L.length ≤ 120 * 120 := Nat.mul_le_mul (by omega) (by omega)
          rw [← hnr, ← hR]; unfold occ; omega
        rw [hnr] at hc7 ⊢
        obtain ⟨sL, hsL⟩ : ∃ s, bb L = s := ⟨_, rfl⟩
        have cO := As.mk (by have := rocc_calls w7 A2 c2 l (hS.out.below hb37) hc2 (by omega) L (by omega); rw [hR, hnr, hsL] at this; exact this : Calls Try.prog 17 #[.string sL, .slice A2 l.length c2] w7 fun e w' => ∃ A' c', e = .returned (.slice A' nr c') ∧ nr ≤ c' ∧ Prs w' A' R ∧ Below w7.heap.size w7 w')
        have cS := As.mk (fun (v : World) (hv : Below w7.heap.size w7 v) (A' : Option Addr) (c' : Nat) (h : Prs v A' R) => (by have := same_calls A7 A' c7 c' R R v (Row.below hr7 hv) h (by omega) (by omega); rw [decide_eq_true rfl, hnr] at this; exact this : Calls Try.prog 16 #[.slice A7 nr c7, .slice A' nr c'] v fun e w' => e = .returned (.bool true) ∧ ∃ n, w' = v.drewN n))
        have cM := As.mk (fun (v : World) (hv : Below w7.heap.size w7 v) => (by have := mcounts_calls v gm _ ((hm7 gm rfl).below hv); unfold cnCells Cn.more Cn.zero at this; simp only [Int.zero_add] at this; exact this : Calls Try.prog 18 #[.pointer (some ⟨gm, 0, none⟩)] v fun e w' => e = .returned (.agg #[.int .i64 (n : Int), .int .i64 (n : Int), .int .i64 0, .int .i64 0]) ∧ Below v.heap.size v w'))
        have KX : (convert 23 9 (.slice B n d)).run Try.prog w7 = .ok (.string sL) w7 := by have := conv_byt (c := d) Try.underlying23 (Row.below HL.out hb37) (by omega); rw [hn, hsL] at this; exact this
        have hB7 := As.mk (belowNext hB.out hb37)
        clear h7 hR hn hnr hsL csc hr7 hm7 hb36 hb37 hS HL HX hA hmo5 hB htot HM cP hF hnp h160 hF40
        go_wp2_with (first
          | (go_at_call 17; refine Calls.mono cO.out ?_; rintro e w8 ⟨A8, c8, he8, hc8, hr8, hb8⟩; subst he8; replace hb8 := As.mk hb8)
          | (go_at_call 16; refine Calls.mono (cS.out _ hb8.out _ _ hr8) ?_; rintro e w9 ⟨rfl, nq, rfl⟩; have hb9 := As.mk (below_drewN hb8.out nq); clear hr8)
          | (go_at_call 18; refine Calls.mono (cM.out _ hb9.out) ?_; rintro e w10 ⟨rfl, hb10⟩; replace hb10 := As.mk (belowNext hb9.out hb10)))
        go_ret
        exact ⟨rfl, belowNext hB7.out hb10.out⟩
      · go_wp2_with fail
        refine Calls.mono (dnew_no_calls w4 A c l (HX.out.below hb34.out) (by have := htot.out; omega) (by omega) h160) ?_
        rintro e w5 ⟨rfl, hb⟩
        have hb45 := As.mk hb
        have hno : decide ((160 : Int) < (np : Int)) = true := decide_eq_true (by omega)
        rw [hnp] at cP
        have hB4 := As.mk (belowNext hB.out hb34.out)
        clear hb hmo h160 hnp
        go_wp2_with (go_at_call 14; refine Calls.mono (cP.out _ hb45.out) ?_; rintro e w6 ⟨A6, c6, he6, hc6, hr6, hb6⟩; subst he6)
        go_ret
        exact ⟨rfl, belowNext hB4.out (belowNext hb45.out hb6)⟩
    · rw [decide_eq_false hg]
      go_wp2
      go_ret
      exact ⟨rfl, hB.out⟩
  · --
    have hB := As.mk (Below.refl w.heap.size w)
    have HX := As.mk hx
    have HM := As.mk hm
    clear hx hm
    go_enter Try.func3, Try.ntmps3
    go_wp2_with fail
    refine Calls.mono (awake_calls _) ?_
    rintro e w1 ⟨rfl, hb⟩
    have hs := hb.size
    (try simp only [World.size_alloc, World.size_drew] at hs)
    replace hB := As.mk (belowNext hB.out (by (repeat (first | (with_reducible assumption) | (with_reducible exact Below.refl _ _) | (with_reducible refine Below.drew ?_) | (with_reducible refine below_drewN ?_ _) | (with_reducible refine Below.alloc ?_ (by (first | omega | (simp only [World.size_alloc, World.size_drew]; done) | (simp only [World.size_alloc, World.size_drew]; omega))) _) | (refine Below.trans ?_ (Below.mono (by with_reducible assumption) (by (first | omega | (simp only [World.size_alloc, World.size_drew]; done) | (simp only [World.size_alloc, World.size_drew]; omega))))))) : Below _ _ w1))
    replace HX := As.mk (HX.out.below (by (repeat (first | (with_reducible assumption) | (with_reducible exact Below.refl _ _) | (with_reducible refine Below.drew ?_) | (with_reducible refine below_drewN ?_ _) | (with_reducible refine Below.alloc ?_ (by (first | omega | (simp only [World.size_alloc, World.size_drew]; done) | (simp only [World.size_alloc, World.size_drew]; omega))) _) | (refine Below.trans ?_ (Below.mono (by with_reducible assumption) (by (first | omega | (simp only [World.size_alloc, World.size_drew]; done) | (simp only [World.size_alloc, World.size_drew]; omega))))))) : Below _ _ w1))
    replace HL := As.mk (HL.out.below (by (repeat (first | (with_reducible assumption) | (with_reducible exact Below.refl _ _) | (with_reducible refine Below.drew ?_) | (with_reducible refine below_drewN ?_ _) | (with_reducible refine Below.alloc ?_ (by (first | omega | (simp only [World.size_alloc, World.size_drew]; done) | (simp only [World.size_alloc, World.size_drew]; omega))) _) | (refine Below.trans ?_ (Below.mono (by with_reducible assumption) (by (first | omega | (simp only [World.size_alloc, World.size_drew]; done) | (simp only [World.size_alloc, World.size_drew]; omega))))))) : Below _ _ w1))
    replace hb := As.mk hb
    go_wp2_with fail
    refine Calls.mono (texts_calls _ A c l HX.out hc hr HM.out) ?_
    rintro e w2 ⟨⟨A2, c2, b, he, hb0, hS⟩, hb⟩; clear hr
    have hs := hb.size
    (try simp only [World.size_alloc, World.size_drew] at hs)
    replace hB := As.mk (belowNext hB.out (by (repeat (first | (with_reducible assumption) | (with_reducible exact Below.refl _ _) | (with_reducible refine Below.drew ?_) | (with_reducible refine below_drewN ?_ _) | (with_reducible refine Below.alloc ?_ (by (first | omega | (simp only [World.size_alloc, World.size_drew]; done) | (simp only [World.size_alloc, World.size_drew]; omega))) _) | (refine Below.trans ?_ (Below.mono (by with_reducible assumption) (by (first | omega | (simp only [World.size_alloc, World.size_drew]; done) | (simp only [World.size_alloc, World.size_drew]; omega))))))) : Below _ _ w2))
    replace HX := As.mk (HX.out.below (by (repeat (first | (with_reducible assumption) | (with_reducible exact Below.refl _ _) | (with_reducible refine Below.drew ?_) | (with_reducible refine below_drewN ?_ _) | (with_reducible refine Below.alloc ?_ (by (first | omega | (simp only [World.size_alloc, World.size_drew]; done) | (simp only [World.size_alloc, World.size_drew]; omega))) _) | (refine Below.trans ?_ (Below.mono (by with_reducible assumption) (by (first | omega | (simp only [World.size_alloc, World.size_drew]; done) | (simp only [World.size_alloc, World.size_drew]; omega))))))) : Below _ _ w2))
    replace HL := As.mk (HL.out.below (by (repeat (first | (with_reducible assumption) | (with_reducible exact Below.refl _ _) | (with_reducible refine Below.drew ?_) | (with_reducible refine below_drewN ?_ _) | (with_reducible refine Below.alloc ?_ (by (first | omega | (simp only [World.size_alloc, World.size_drew]; done) | (simp only [World.size_alloc, World.size_drew]; omega))) _) | (refine Below.trans ?_ (Below.mono (by with_reducible assumption) (by (first | omega | (simp only [World.size_alloc, World.size_drew]; done) | (simp only [World.size_alloc, World.size_drew]; omega))))))) : Below _ _ w2))
    replace hb := As.mk hb
    have hbf : (b && decide (l.length ≤ 12)) = false := by
      cases b with
      | false => rfl
      | true =>
        have h40 := of_decide_eq_true hb0.symm
        simp only [Bool.true_and, decide_eq_false_iff_not]
        exact fun h12 => hf ⟨h12, h40⟩
    obtain ⟨m, hm2⟩ : ∃ m, (if b = true then l.length else 0) = m := ⟨_, rfl⟩
    rw [hbf, hm2] at he
    subst he
    clear hS hb0 hbf hm2
    go_wp2_with fail
    refine Calls.mono (lfew_calls _ B d L HL.out hd (by omega)) ?_
    rintro e w3 ⟨he, hb⟩; subst he
    have hs := hb.size
    (try simp only [World.size_alloc, World.size_drew] at hs)
    replace hB := As.mk (belowNext hB.out (by (repeat (first | (with_reducible assumption) | (with_reducible exact Below.refl _ _) | (with_reducible refine Below.drew ?_) | (with_reducible refine below_drewN ?_ _) | (with_reducible refine Below.alloc ?_ (by (first | omega | (simp only [World.size_alloc, World.size_drew]; done) | (simp only [World.size_alloc, World.size_drew]; omega))) _) | (refine Below.trans ?_ (Below.mono (by with_reducible assumption) (by (first | omega | (simp only [World.size_alloc, World.size_drew]; done) | (simp only [World.size_alloc, World.size_drew]; omega))))))) : Below _ _ w3))
    replace hb := As.mk hb
    go_wp2
    go_ret
    exact ⟨rfl, hB.out⟩
end Go.Proofs.Ytglalojbdlepfaa
