/- The walk of the law SparseScans. -/
import Derived.Test.YtieelnpfpfiboaaM6
import Derived.Test.YtieelnpfpfiboaaM5
import Derived.Deep.RegionHeld
set_option linter.unusedVariables false
set_option linter.unusedSimpArgs false
namespace Go.Proofs.Ytieelnpfpfiboaa
open Go.RowKit Go.Maps Seine.Trie Seine.Links Seine.Sparse
open Seine.Sort (occ occTo_len)
attribute [local go_sem high] eqCn

set_option maxRecDepth 100000 in
set_option maxHeartbeats 3200000 in
theorem scans_walk (A : Option Addr) (c : Nat) (l : List Txt) (B : Option Addr) (d : Nat) (L : Txt) (w : World) (hx : Txts w A l) (hc : l.length ≤ c) (hr : c * 24 ≤ 140737488351232) (hm : ∀ x ∈ l, x.length ≤ maxLen)
    (h1 : Byt w B L) (hd : L.length ≤ d) (hdm : d ≤ maxLen) :
    Calls Try.prog 3 #[.slice A l.length c, .slice B L.length d] w fun e w' => e = .returned (.bool true) ∧ Below w.heap.size w w' := by
  have HL := As.mk h1
  clear h1
  unfold maxLen at hdm
  by_cases hf : Few l
  · --
    have hB := As.mk (Below.refl w.heap.size w)
    have HX := As.mk hx
    have HM := As.mk hm
    clear hx hm
    go_enter Try.func3, Try.ntmps3
    go_wp2_with fail
    refine Calls.mono (awake_calls _) ?_
    rintro e w1 ⟨rfl, hb⟩
    have hs := hb.size
    (try simp only [World.size_alloc, World.size_drew] at hs)
    replace hB := As.mk (belowNext hB.out (by (repeat (first | (with_reducible assumption) | (with_reducible exact Below.refl _ _) | (with_reducible refine Below.drew ?_) | (with_reducible refine below_drewN ?_ _) | (with_reducible refine Below.alloc ?_ (by (first | omega | (simp only [World.size_alloc, World.size_drew]; done) | (simp only [World.size_alloc, World.size_drew]; omega))) _) | (refine Below.trans ?_ (Below.mono (by with_reducible assumption) (by (first | omega | (simp only [World.size_alloc, World.size_drew]; done) | (simp only [World.size_alloc, World.size_drew]; omega))))))) : Below _ _ w1))
    replace HX := As.mk (HX.out.below (by (repeat (first | (with_reducible assumption) | (with_reducible exact Below.refl _ _) | (with_reducible refine Below.drew ?_) | (with_reducible refine below_drewN ?_ _) | (with_reducible refine Below.alloc ?_ (by (first | omega | (simp only [World.size_alloc, World.size_drew]; done) | (simp only [World.size_alloc, World.size_drew]; omega))) _) | (refine Below.trans ?_ (Below.mono (by with_reducible assumption) (by (first | omega | (simp only [World.size_alloc, World.size_drew]; done) | (simp only [World.size_alloc, World.size_drew]; omega))))))) : Below _ _ w1))
    replace HL := As.mk (HL.out.below (by (repeat (first | (with_reducible assumption) | (with_reducible exact Below.refl _ _) | (with_reducible refine Below.drew ?_) | (with_reducible refine below_drewN ?_ _) | (with_reducible refine Below.alloc ?_ (by (first | omega | (simp only [World.size_alloc, World.size_drew]; done) | (simp only [World.size_alloc, World.size_drew]; omega))) _) | (refine Below.trans ?_ (Below.mono (by with_reducible assumption) (by (first | omega | (simp only [World.size_alloc, World.size_drew]; done) | (simp only [World.size_alloc, World.size_drew]; omega))))))) : Below _ _ w1))
    replace hb := As.mk hb
    go_wp2_with fail
    refine Calls.mono (texts_calls _ A c l HX.out hc hr HM.out) ?_
    rintro e w2 ⟨⟨A2, c2, b, he, hb0, hS⟩, hb⟩; clear hr
    have hs := hb.size
    (try simp only [World.size_alloc, World.size_drew] at hs)
    replace hB := As.mk (belowNext hB.out (by (repeat (first | (with_reducible assumption) | (with_reducible exact Below.refl _ _) | (with_reducible refine Below.drew ?_) | (with_reducible refine below_drewN ?_ _) | (with_reducible refine Below.alloc ?_ (by (first | omega | (simp only [World.size_alloc, World.size_drew]; done) | (simp only [World.size_alloc, World.size_drew]; omega))) _) | (refine Below.trans ?_ (Below.mono (by with_reducible assumption) (by (first | omega | (simp only [World.size_alloc, World.size_drew]; done) | (simp only [World.size_alloc, World.size_drew]; omega))))))) : Below _ _ w2))
    replace HX := As.mk (HX.out.below (by (repeat (first | (with_reducible assumption) | (with_reducible exact Below.refl _ _) | (with_reducible refine Below.drew ?_) | (with_reducible refine below_drewN ?_ _) | (with_reducible refine Below.alloc ?_ (by (first | omega | (simp only [World.size_alloc, World.size_drew]; done) | (simp only [World.size_alloc, World.size_drew]; omega))) _) | (refine Below.trans ?_ (Below.mono (by with_reducible assumption) (by (first | omega | (simp only [World.size_alloc, World.size_drew]; done) | (simp only [World.size_alloc, World.size_drew]; omega))))))) : Below _ _ w2))
    replace HL := As.mk (HL.out.below (by (repeat (first | (with_reducible assumption) | (with_reducible exact Below.refl _ _) | (with_reducible refine Below.drew ?_) | (with_reducible refine below_drewN ?_ _) | (with_reducible refine Below.alloc ?_ (by (first | omega | (simp only [World.size_alloc, World.size_drew]; done) | (simp only [World.size_alloc, World.size_drew]; omega))) _) | (refine Below.trans ?_ (Below.mono (by with_reducible assumption) (by (first | omega | (simp only [World.size_alloc, World.size_drew]; done) | (simp only [World.size_alloc, World.size_drew]; omega))))))) : Below _ _ w2))
    replace hb := As.mk hb
    obtain rfl : b = true := by rw [hb0]; exact decide_eq_true hf.short
    have hd12 : decide (l.length ≤ 12) = true := decide_eq_true hf.len
    rw [Bool.true_and, hd12, if_pos rfl] at he
    subst he
    obtain ⟨hc2, hS2⟩ := hS rfl
    clear hS
    have hS := As.mk hS2
    clear hS2 hb0 hd12
    have htot := As.mk hf.tot
    have hl12 := hf.len
    have hF := As.mk hf
    clear hf
    go_wp2_with fail
    refine Calls.mono (lfew_calls _ B d L HL.out hd (by omega)) ?_
    rintro e w3 ⟨he, hb⟩; subst he
    have hs := hb.size
    (try simp only [World.size_alloc, World.size_drew] at hs)
    replace hB := As.mk (belowNext hB.out (by (repeat (first | (with_reducible assumption) | (with_reducible exact Below.refl _ _) | (with_reducible refine Below.drew ?_) | (with_reducible refine below_drewN ?_ _) | (with_reducible refine Below.alloc ?_ (by (first | omega | (simp only [World.size_alloc, World.size_drew]; done) | (simp only [World.size_alloc, World.size_drew]; omega))) _) | (refine Below.trans ?_ (Below.mono (by with_reducible assumption) (by (first | omega | (simp only [World.size_alloc, World.size_drew]; done) | (simp only [World.size_alloc, World.size_drew]; omega))))))) : Below _ _ w3))
    replace HX := As.mk (HX.out.below (by (repeat (first | (with_reducible assumption) | (with_reducible exact Below.refl _ _) | (with_reducible refine Below.drew ?_) | (with_reducible refine below_drewN ?_ _) | (with_reducible refine Below.alloc ?_ (by (first | omega | (simp only [World.size_alloc, World.size_drew]; done) | (simp only [World.size_alloc, World.size_drew]; omega))) _) | (refine Below.trans ?_ (Below.mono (by with_reducible assumption) (by (first | omega | (simp only [World.size_alloc, World.size_drew]; done) | (simp only [World.size_alloc, World.size_drew]; omega))))))) : Below _ _ w3))
    replace HL := As.mk (HL.out.below (by (repeat (first | (with_reducible assumption) | (with_reducible exact Below.refl _ _) | (with_reducible refine Below.drew ?_) | (with_reducible refine below_drewN ?_ _) | (with_reducible refine Below.alloc ?_ (by (first | omega | (simp only [World.size_alloc, World.size_drew]; done) | (simp only [World.size_alloc, World.size_drew]; omega))) _) | (refine Below.trans ?_ (Below.mono (by with_reducible assumption) (by (first | omega | (simp only [World.size_alloc, World.size_drew]; done) | (simp only [World.size_alloc, World.size_drew]; omega))))))) : Below _ _ w3))
    replace hS := As.mk (hS.out.below (by (repeat (first | (with_reducible assumption) | (with_reducible exact Below.refl _ _) | (with_reducible refine Below.drew ?_) | (with_reducible refine below_drewN ?_ _) | (with_reducible refine Below.alloc ?_ (by (first | omega | (simp only [World.size_alloc, World.size_drew]; done) | (simp only [World.size_alloc, World.size_drew]; omega))) _) | (refine Below.trans ?_ (Below.mono (by with_reducible assumption) (by (first | omega | (simp only [World.size_alloc, World.size_drew]; done) | (simp only [World.size_alloc, World.size_drew]; omega))))))) : Below _ _ w3))
    replace hb := As.mk hb
    by_cases hg : L.length ≤ 120
    · rw [decide_eq_true hg]
      go_wp2_with fail
      refine Calls.mono (mnew_calls _) ?_
      rintro e w4 ⟨rfl, hmt, hb⟩
      have hmo := Mo.some_ hmt
      have hb34 := As.mk hb
      have hmb := block_lt hmt
      obtain ⟨gm, hgm⟩ : ∃ g, w3.heap.size = g := ⟨_, rfl⟩
      rw [hgm] at hmo hmt hmb ⊢
      have hz3 : w3.heap.size ≤ gm := by omega
      clear hgm hmt hb
      go_wp2_with fail
      refine Calls.mono (snew_calls w4 A c l (HX.out.below hb34.out) (by have := htot.out; omega) (by omega)) ?_
      rintro e w5 ⟨g, rfl, hA, hb⟩
      have hmo5 := hmo.below hb
      have hb35 := As.mk (hb34.out.trans (hb.mono hb34.out.size))
      have lx := few_looks l L
      have csc := As.mk (fscan_calls w5 g l hF.out hA (some gm) Cn.zero hmo5 Cn.zero_room B d L (Row.below HL.out hb35.out) (by omega))
      obtain ⟨R, hR⟩ : ∃ R, occ l L = R := ⟨_, rfl⟩
      obtain ⟨n, hn⟩ : ∃ n, L.length = n := ⟨_, rfl⟩
      obtain ⟨k, hk⟩ : ∃ k, looksTo (paths l) L n = k := ⟨_, rfl⟩
      rw [hR, hn, hk] at csc
      rw [hn, hk] at lx
      rw [hn] at hg hd ⊢
      clear hb hmo hb34
      go_wp2_with fail
      refine Calls.mono csc.out ?_
      intro e w6 h6
      have hb36 := h6.young hb35.out hz3
      obtain ⟨A6, c6, rfl, hc6, hcm6, hr6, hm6, _, _⟩ := h6.out
      obtain ⟨nr, hnr⟩ : ∃ n, R.length = n := ⟨_, rfl⟩
      have hR1 : nr ≤ 1000000 := by
        have := occTo_len l L L.length
        have h2 : L.length * L.length ≤ 120 * 120 := Nat.mul_le_mul (by omega) (by omega)
        rw [← hnr, ← hR]; unfold occ; omega
      rw [hnr] at hc6 ⊢
      have hnr' := As.mk hnr
      have hn' := As.mk hn
      have hPl := hF.out.paths_len
      obtain ⟨P, hP⟩ : ∃ P, paths l = P := ⟨_, rfl⟩
      rw [hP] at hPl hk
      have hT := hP ▸ paths_tree l
      obtain ⟨np, hnp⟩ : ∃ np, P.length = np := ⟨_, rfl⟩
      rw [hnp] at hPl
      obtain ⟨sL, hsL⟩ : ∃ s, bb L = s := ⟨_, rfl⟩
      have cO := As.mk (fun (v : World) (hv : Below w6.heap.size w6 v) => (by have := rocc_calls v A2 c2 l (hS.out.below (hb36.trans (hv.mono hb36.size))) hc2 (by omega) L (by omega); rw [hR, hnr, hsL] at this; exact this : Calls Try.prog 16 #[.string sL, .slice A2 l.length c2] v fun e w' => ∃ A' c', e = .returned (.slice A' nr c') ∧ nr ≤ c' ∧ Prs w' A' R ∧ Below v.heap.size v w'))
      have cS := As.mk (fun (v : World) (hv : Below w6.heap.size w6 v) (A' : Option Addr) (c' : Nat) (h : Prs v A' R) => (by have := same_calls A6 A' c6 c' R R v (Row.below hr6 hv) h (by omega) (by omega); rw [decide_eq_true rfl, hnr] at this; exact this : Calls Try.prog 15 #[.slice A6 nr c6, .slice A' nr c'] v fun e w' => e = .returned (.bool true) ∧ ∃ n, w' = v.drewN n))
      have cM := As.mk (fun (v : World) (hv : Below w6.heap.size w6 v) => (by have := mcounts_calls v gm _ ((hm6 gm rfl).below hv); unfold cnCells Cn.more Cn.zero at this; simp only [Int.zero_add] at this; exact this : Calls Try.prog 17 #[.pointer (some ⟨gm, 0, none⟩)] v fun e w' => e = .returned (.agg #[.int .i64 (n : Int), .int .i64 (k : Int), .int .i64 0, .int .i64 0]) ∧ Below v.heap.size v w'))
      have cP := As.mk (fun (v : World) (hv : Below w6.heap.size w6 v) => (by have := rpaths_calls v A2 c2 l (hS.out.below (hb36.trans (hv.mono hb36.size))) hc2 (by omega) (by have := htot.out; omega); rw [hP, hnp] at this; exact this : Calls Try.prog 19 #[.slice A2 l.length c2] v fun e w' => ∃ A' c', e = .returned (.slice A' np c') ∧ np ≤ c' ∧ KdS w' A' P ∧ Below v.heap.size v w'))
      have cK := As.mk (fun (v : World) (A' : Option Addr) (c' : Nat) (h : KdS v A' P) (hc : np ≤ c') => (by have := rlooks_calls v A' c' P h (by omega) hT (by omega) L (by omega); rw [hn, hk, hnp, hsL] at this; exact this : Calls Try.prog 18 #[.slice A' np c', .string sL] v fun e w' => e = .returned (.int .i64 (k : Int)) ∧ Below v.heap.size v w'))
      have KX : ∀ v, Below w6.heap.size w6 v → (convert 23 9 (.slice B n d)).run Try.prog v = .ok (.string sL) v := fun v hv => by have := conv_byt (c := d) Try.underlying23 (Row.below HL.out (hb36.trans (hv.mono hb36.size))) (by omega); rw [hn, hsL] at this; exact this
      have hB6 := As.mk (belowNext hB.out hb36)
      have hw6 : Below w6.heap.size w6 w6.drew := (Below.refl _ _).drew
      clear h6 hR hn hk hnr hP hnp hsL csc hr6 hm6 hb36 hb35 hS HL HX hA hmo5 hB hT hF htot HM
      go_wp2_with fail
      go_region_held (fun w' => Below w6.heap.size w6 w')
        (first
          | go_keep
          | (exact belowNext (by with_reducible assumption) hb)
          | (exact below_drewN (by with_reducible assumption) _))
        (first
        | (go_at_call 16; refine Calls.mono (cO.out _ (by with_reducible assumption)) ?_; rintro e w' ⟨A1, c1, he, _, hr1, hb⟩; subst he)
        | (go_at_call 15; refine Calls.mono (cS.out _ (by with_reducible assumption) _ _ hr1) ?_; rintro e w' ⟨rfl, nq, rfl⟩; clear hr1)
        | (go_at_call 17; refine Calls.mono (cM.out _ (by with_reducible assumption)) ?_; rintro e w' ⟨rfl, hb⟩)
        | (go_at_call 19; refine Calls.mono (cP.out _ (by with_reducible assumption)) ?_; rintro e w' ⟨A1, c1, he, hc1, hr1, hb⟩; subst he; have hrf := Below.refl w'.heap.size w')
        | (go_at_call 18; refine Calls.mono (cK.out _ _ _ (hr1.below (by with_reducible assumption)) hc1) ?_; rintro e w' ⟨rfl, hb⟩))
      all_goals
        go_wp2
        go_ret
        exact ⟨rfl, belowNext hB6.out (by with_reducible assumption)⟩
    · rw [decide_eq_false hg]
      go_wp2
      go_ret
      exact ⟨rfl, hB.out⟩
  · --
    have hB := As.mk (Below.refl w.heap.size w)
    have HX := As.mk hx
    have HM := As.mk hm
    clear hx hm
    go_enter Try.func3, Try.ntmps3
    go_wp2_with fail
    refine Calls.mono (awake_calls _) ?_
    rintro e w1 ⟨rfl, hb⟩
    have hs := hb.size
    (try simp only [World.size_alloc, World.size_drew] at hs)
    replace hB := As.mk (belowNext hB.out (by (repeat (first | (with_reducible assumption) | (with_reducible exact Below.refl _ _) | (with_reducible refine Below.drew ?_) | (with_reducible refine below_drewN ?_ _) | (with_reducible refine Below.alloc ?_ (by (first | omega | (simp only [World.size_alloc, World.size_drew]; done) | (simp only [World.size_alloc, World.size_drew]; omega))) _) | (refine Below.trans ?_ (Below.mono (by with_reducible assumption) (by (first | omega | (simp only [World.size_alloc, World.size_drew]; done) | (simp only [World.size_alloc, World.size_drew]; omega))))))) : Below _ _ w1))
    replace HX := As.mk (HX.out.below (by (repeat (first | (with_reducible assumption) | (with_reducible exact Below.refl _ _) | (with_reducible refine Below.drew ?_) | (with_reducible refine below_drewN ?_ _) | (with_reducible refine Below.alloc ?_ (by (first | omega | (simp only [World.size_alloc, World.size_drew]; done) | (simp only [World.size_alloc, World.size_drew]; omega))) _) | (refine Below.trans ?_ (Below.mono (by with_reducible assumption) (by (first | omega | (simp only [World.size_alloc, World.size_drew]; done) | (simp only [World.size_alloc, World.size_drew]; omega))))))) : Below _ _ w1))
    replace HL := As.mk (HL.out.below (by (repeat (first | (with_reducible assumption) | (with_reducible exact Below.refl _ _) | (with_reducible refine Below.drew ?_) | (with_reducible refine below_drewN ?_ _) | (with_reducible refine Below.alloc ?_ (by (first | omega | (simp only [World.size_alloc, World.size_drew]; done) | (simp only [World.size_alloc, World.size_drew]; omega))) _) | (refine Below.trans ?_ (Below.mono (by with_reducible assumption) (by (first | omega | (simp only [World.size_alloc, World.size_drew]; done) | (simp only [World.size_alloc, World.size_drew]; omega))))))) : Below _ _ w1))
    replace hb := As.mk hb
    go_wp2_with fail
    refine Calls.mono (texts_calls _ A c l HX.out hc hr HM.out) ?_
    rintro e w2 ⟨⟨A2, c2, b, he, hb0, hS⟩, hb⟩; clear hr
    have hs := hb.size
    (try simp only [World.size_alloc, World.size_drew] at hs)
    replace hB := As.mk (belowNext hB.out (by (repeat (first | (with_reducible assumption) | (with_reducible exact Below.refl _ _) | (with_reducible refine Below.drew ?_) | (with_reducible refine below_drewN ?_ _) | (with_reducible refine Below.alloc ?_ (by (first | omega | (simp only [World.size_alloc, World.size_drew]; done) | (simp only [World.size_alloc, World.size_drew]; omega))) _) | (refine Below.trans ?_ (Below.mono (by with_reducible assumption) (by (first | omega | (simp only [World.size_alloc, World.size_drew]; done) | (simp only [World.size_alloc, World.size_drew]; omega))))))) : Below _ _ w2))
    replace HX := As.mk (HX.out.below (by (repeat (first | (with_reducible assumption) | (with_reducible exact Below.refl _ _) | (with_reducible refine Below.drew ?_) | (with_reducible refine below_drewN ?_ _) | (with_reducible refine Below.alloc ?_ (by (first | omega | (simp only [World.size_alloc, World.size_drew]; done) | (simp only [World.size_alloc, World.size_drew]; omega))) _) | (refine Below.trans ?_ (Below.mono (by with_reducible assumption) (by (first | omega | (simp only [World.size_alloc, World.size_drew]; done) | (simp only [World.size_alloc, World.size_drew]; omega))))))) : Below _ _ w2))
    replace HL := As.mk (HL.out.below (by (repeat (first | (with_reducible assumption) | (with_reducible exact Below.refl _ _) | (with_reducible refine Below.drew ?_) | (with_reducible refine below_drewN ?_ _) | (with_reducible refine Below.alloc ?_ (by (first | omega | (simp only [World.size_alloc, World.size_drew]; done) | (simp only [World.size_alloc, World.size_drew]; omega))) _) | (refine Below.trans ?_ (Below.mono (by with_reducible assumption) (by (first | omega | (simp only [World.size_alloc, World.size_drew]; done) | (simp only [World.size_alloc, World.size_drew]; omega))))))) : Below _ _ w2))
    replace hb := As.mk hb
    have hbf : (b && decide (l.length ≤ 12)) = false := by
      cases b with
      | false => rfl
      | true =>
        have h40 := of_decide_eq_true hb0.symm
        simp only [Bool.true_and, decide_eq_false_iff_not]
        exact fun h12 => hf ⟨h12, h40⟩
    obtain ⟨m, hm2⟩ : ∃ m, (if b = true then l.length else 0) = m := ⟨_, rfl⟩
    rw [hbf, hm2] at he
    subst he
    clear hS hb0 hbf hm2
    go_wp2_with fail
    refine Calls.mono (lfew_calls _ B d L HL.out hd (by omega)) ?_
    rintro e w3 ⟨he, hb⟩; subst he
    have hs := hb.size
    (try simp only [World.size_alloc, World.size_drew] at hs)
    replace hB := As.mk (belowNext hB.out (by (repeat (first | (with_reducible assumption) | (with_reducible exact Below.refl _ _) | (with_reducible refine Below.drew ?_) | (with_reducible refine below_drewN ?_ _) | (with_reducible refine Below.alloc ?_ (by (first | omega | (simp only [World.size_alloc, World.size_drew]; done) | (simp only [World.size_alloc, World.size_drew]; omega))) _) | (refine Below.trans ?_ (Below.mono (by with_reducible assumption) (by (first | omega | (simp only [World.size_alloc, World.size_drew]; done) | (simp only [World.size_alloc, World.size_drew]; omega))))))) : Below _ _ w3))
    replace hb := As.mk hb
    go_wp2
    go_ret
    exact ⟨rfl, hB.out⟩
end Go.Proofs.Ytieelnpfpfiboaa
