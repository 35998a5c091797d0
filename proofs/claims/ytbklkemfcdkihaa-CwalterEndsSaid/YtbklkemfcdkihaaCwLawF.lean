/- The walk of the law CwalterEnds. -/
import Derived.Test.YtbklkemfcdkihaaCwLawA
import Derived.Test.YtbklkemfcdkihaaM8
import Derived.Deep.RegionHeld
set_option linter.unusedVariables false
set_option linter.unusedSimpArgs false
namespace Go.Proofs.Ytbklkemfcdkihaa
open Go.RowKit Go.Maps Seine.Trie Seine.Links Seine.Cw
open Seine.Sort (occ occTo_len)

set_option maxRecDepth 100000 in
set_option maxHeartbeats 3200000 in
theorem ends_walk (A : Option Addr) (c : Nat) (l : List Txt) (B : Option Addr) (d : Nat) (L : Txt) (w : World) (hx : Txts w A l) (hc : l.length ≤ c) (hr : c * 24 ≤ 140737488351232) (hm : ∀ x ∈ l, x.length ≤ maxLen)
    (h1 : Byt w B L) (hd : L.length ≤ d) (hdm : d ≤ maxLen) :
    Calls Try.prog 4 #[.slice A l.length c, .slice B L.length d] w fun e w' => e = .returned (.bool true) ∧ Below w.heap.size w w' := by
  have HL := As.mk h1
  clear h1
  unfold maxLen at hdm
  by_cases hf : Few l
  · --
    have hB := As.mk (Below.refl w.heap.size w)
    have HX := As.mk hx
    have HM := As.mk hm
    clear hx hm
    go_enter Try.func4, Try.ntmps4
    go_wp2_with fail
    refine Calls.mono (awake_calls _) ?_
    rintro e w1 ⟨rfl, hb⟩
    have hs := hb.size
    (try simp only [World.size_alloc, World.size_drew] at hs)
    replace hB := As.mk (belowNext hB.out (by (repeat (first | (with_reducible assumption) | (with_reducible exact Below.refl _ _) | (with_reducible refine Below.drew ?_) | (with_reducible refine below_drewN ?_ _) | (with_reducible refine Below.alloc ?_ (by (first | omega | (simp only [World.size_alloc, World.size_drew]; done) | (simp only [World.size_alloc, World.size_drew]; omega))) _) | (refine Below.trans ?_ (Below.mono (by with_reducible assumption) (by (first | omega | (simp only [World.size_alloc, World.size_drew]; done) | (simp only [World.size_alloc, World.size_drew]; omega))))))) : Below _ _ w1))
    replace HX := As.mk (HX.out.below (by (repeat (first | (with_reducible assumption) | (with_reducible exact Below.refl _ _) | (with_reducible refine Below.drew ?_) | (with_reducible refine below_drewN ?_ _) | (with_reducible refine Below.alloc ?_ (by (first | omega | (simp only [World.size_alloc, World.size_drew]; done) | (simp only [World.size_alloc, World.size_drew]; omega))) _) | (refine Below.trans ?_ (Below.mono (by with_reducible assumption) (by (first | omega | (simp only [World.size_alloc, World.size_drew]; done) | (simp only [World.size_alloc, World.size_drew]; omega))))))) : Below _ _ w1))
    replace HL := As.mk (HL.out.below (by (repeat (first | (with_reducible assumption) | (with_reducible exact Below.refl _ _) | (with_reducible refine Below.drew ?_) | (with_reducible refine below_drewN ?_ _) | (with_reducible refine Below.alloc ?_ (by (first | omega | (simp only [World.size_alloc, World.size_drew]; done) | (simp only [World.size_alloc, World.size_drew]; omega))) _) | (refine Below.trans ?_ (Below.mono (by with_reducible assumption) (by (first | omega | (simp only [World.size_alloc, World.size_drew]; done) | (simp only [World.size_alloc, World.size_drew]; omega))))))) : Below _ _ w1))
    replace hb := As.mk hb
    go_wp2_with fail
    refine Calls.mono (texts_calls _ A c l HX.out hc hr HM.out) ?_
    rintro e w2 ⟨⟨A2, c2, b, he, hb0, hS⟩, hb⟩; clear hr
    have hs := hb.size
    (try simp only [World.size_alloc, World.size_drew] at hs)
    replace hB := As.mk (belowNext hB.out (by (repeat (first | (with_reducible assumption) | (with_reducible exact Below.refl _ _) | (with_reducible refine Below.drew ?_) | (with_reducible refine below_drewN ?_ _) | (with_reducible refine Below.alloc ?_ (by (first | omega | (simp only [World.size_alloc, World.size_drew]; done) | (simp only [World.size_alloc, World.size_drew]; omega))) _) | (refine Below.trans ?_ (Below.mono (by with_reducible assumption) (by (first | omega | (simp only [World.size_alloc, World.size_drew]; done) | (simp only [World.size_alloc, World.size_drew]; omega))))))) : Below _ _ w2))
    replace HX := As.mk (HX.out.below (by (repeat (first | (with_reducible assumption) | (with_reducible exact Below.refl _ _) | (with_reducible refine Below.drew ?_) | (with_reducible refine below_drewN ?_ _) | (with_reducible refine Below.alloc ?_ (by (first | omega | (simp only [World.size_alloc, World.size_drew]; done) | (simp only [World.size_alloc, World.size_drew]; omega))) _) | (refine Below.trans ?_ (Below.mono (by with_reducible assumption) (by (first | omega | (simp only [World.size_alloc, World.size_drew]; done) | (simp only [World.size_alloc, World.size_drew]; omega))))))) : Below _ _ w2))
    replace HL := As.mk (HL.out.below (by (repeat (first | (with_reducible assumption) | (with_reducible exact Below.refl _ _) | (with_reducible refine Below.drew ?_) | (with_reducible refine below_drewN ?_ _) | (with_reducible refine Below.alloc ?_ (by (first | omega | (simp only [World.size_alloc, World.size_drew]; done) | (simp only [World.size_alloc, World.size_drew]; omega))) _) | (refine Below.trans ?_ (Below.mono (by with_reducible assumption) (by (first | omega | (simp only [World.size_alloc, World.size_drew]; done) | (simp only [World.size_alloc, World.size_drew]; omega))))))) : Below _ _ w2))
    replace hb := As.mk hb
    obtain rfl : b = true := by rw [hb0]; exact decide_eq_true hf.short
    have hd12 : decide (l.length ≤ 12) = true := decide_eq_true hf.len
    rw [Bool.true_and, hd12, if_pos rfl] at he
    subst he
    obtain ⟨hc2, hS2⟩ := hS rfl
    clear hS
    have hS := As.mk hS2
    clear hS2 hb0 hd12
    have htot := As.mk hf.tot
    have hl12 := hf.len
    have hF := As.mk hf
    clear hf
    go_wp2_with fail
    refine Calls.mono (lfew_calls _ B d L HL.out hd (by omega)) ?_
    rintro e w3 ⟨he, hb⟩; subst he
    have hs := hb.size
    (try simp only [World.size_alloc, World.size_drew] at hs)
    replace hB := As.mk (belowNext hB.out (by (repeat (first | (with_reducible assumption) | (with_reducible exact Below.refl _ _) | (with_reducible refine Below.drew ?_) | (with_reducible refine below_drewN ?_ _) | (with_reducible refine Below.alloc ?_ (by (first | omega | (simp only [World.size_alloc, World.size_drew]; done) | (simp only [World.size_alloc, World.size_drew]; omega))) _) | (refine Below.trans ?_ (Below.mono (by with_reducible assumption) (by (first | omega | (simp only [World.size_alloc, World.size_drew]; done) | (simp only [World.size_alloc, World.size_drew]; omega))))))) : Below _ _ w3))
    replace HX := As.mk (HX.out.below (by (repeat (first | (with_reducible assumption) | (with_reducible exact Below.refl _ _) | (with_reducible refine Below.drew ?_) | (with_reducible refine below_drewN ?_ _) | (with_reducible refine Below.alloc ?_ (by (first | omega | (simp only [World.size_alloc, World.size_drew]; done) | (simp only [World.size_alloc, World.size_drew]; omega))) _) | (refine Below.trans ?_ (Below.mono (by with_reducible assumption) (by (first | omega | (simp only [World.size_alloc, World.size_drew]; done) | (simp only [World.size_alloc, World.size_drew]; omega))))))) : Below _ _ w3))
    replace HL := As.mk (HL.out.below (by (repeat (first | (with_reducible assumption) | (with_reducible exact Below.refl _ _) | (with_reducible refine Below.drew ?_) | (with_reducible refine below_drewN ?_ _) | (with_reducible refine Below.alloc ?_ (by (first | omega | (simp only [World.size_alloc, World.size_drew]; done) | (simp only [World.size_alloc, World.size_drew]; omega))) _) | (refine Below.trans ?_ (Below.mono (by with_reducible assumption) (by (first | omega | (simp only [World.size_alloc, World.size_drew]; done) | (simp only [World.size_alloc, World.size_drew]; omega))))))) : Below _ _ w3))
    replace hS := As.mk (hS.out.below (by (repeat (first | (with_reducible assumption) | (with_reducible exact Below.refl _ _) | (with_reducible refine Below.drew ?_) | (with_reducible refine below_drewN ?_ _) | (with_reducible refine Below.alloc ?_ (by (first | omega | (simp only [World.size_alloc, World.size_drew]; done) | (simp only [World.size_alloc, World.size_drew]; omega))) _) | (refine Below.trans ?_ (Below.mono (by with_reducible assumption) (by (first | omega | (simp only [World.size_alloc, World.size_drew]; done) | (simp only [World.size_alloc, World.size_drew]; omega))))))) : Below _ _ w3))
    replace hb := As.mk hb
    by_cases hg : L.length ≤ 120
    · rw [decide_eq_true hg]
      have hEl : (natI (ends (turnT l) L)).length ≤ 1000 := by
        rw [natI_length]
        unfold ends
        split
        · simp
        · exact Nat.le_trans (endsFrom_len _ _ _ _) (by omega)
      have cN := As.mk (fun (v : World) (hv : Below w3.heap.size w3 v) => fnew_calls v A c l (HX.out.below hv) hF.out)
      have cE := As.mk (fun (v : World) (hv : Below w3.heap.size w3 v) (g : Nat) (h : WalkAt v g (turnT l)) => cends_calls v g l h hF.out.short60 (by omega) B d L (Row.below HL.out hv) (by omega))
      have cR := As.mk (fun (v : World) (hv : Below w3.heap.size w3 v) => rends_calls v A2 c2 l (hS.out.below hv) hc2 (by omega) hF.out.short L (by omega))
      obtain ⟨E, hE⟩ : ∃ E, natI (ends (turnT l) L) = E := ⟨_, rfl⟩
      rw [hE] at hEl cE cR
      obtain ⟨el, hel⟩ : ∃ k, E.length = k := ⟨_, rfl⟩
      rw [hel] at hEl
      obtain ⟨sL, hsL⟩ : ∃ s, bb L = s := ⟨_, rfl⟩
      rw [hsL] at cR
      obtain ⟨T, hTT⟩ : ∃ T, turnT l = T := ⟨_, rfl⟩
      rw [hTT] at cN cE
      have cM := As.mk (fun (v : World) (A1 A' : Option Addr) (c1 c' : Nat) (h1 : Ints v A1 E) (hc1 : el ≤ c1) (h : Ints v A' E) (hc' : el ≤ c') => (by have := isame_calls v A1 A' c1 c' E E h1 (by rw [hel]; exact hc1) h (by rw [hel]; exact hc') (by omega) (by omega); rw [decide_eq_true rfl, hel] at this; exact this : Calls Try.prog 16 #[.slice A1 el c1, .slice A' el c'] v fun e w' => e = .returned (.bool true) ∧ Below v.heap.size v w'))
      obtain ⟨n, hn⟩ : ∃ n, L.length = n := ⟨_, rfl⟩
      have KX : ∀ v, Below w3.heap.size w3 v → (convert 23 9 (.slice B n d)).run Try.prog v = .ok (.string sL) v := fun v hv => by have := conv_byt (c := d) Try.underlying23 (Row.below HL.out hv) (by omega); rw [hn, hsL] at this; exact this
      rw [hn] at cE hg hd ⊢
      replace hel := As.mk hel
      have cE0 := As.mk (fun (v : World) => cends_none v B n d)
      have cS0 := As.mk (fun (v : World) => cscan_none v B n d)
      have hw3 : Below w3.heap.size w3 w3.drew := (Below.refl _ _).drew
      clear hE hn hsL hTT hS HL HX hF htot HM
      go_wp2_with fail
      go_region_held (fun w' => Below w3.heap.size w3 w')
        (first
          | go_keep
          | (exact belowNext (by with_reducible assumption) hb)
          | (exact below_drewN (by with_reducible assumption) _))
        (first
        | (go_at_call 13; refine Calls.mono (cN.out _ (by with_reducible assumption)) ?_; rintro e w' ⟨g, rfl, hA, hb⟩)
        | (go_at_call 17; with_reducible refine Calls.mono (cE.out _ (by with_reducible assumption) _ hA) ?_; intro e w' h'; obtain ⟨A5, c5, he, hc5, hr5, hb⟩ := h'.row; subst he; rw [hel.out] at hc5 ⊢; clear h' hA)
        | (go_at_call 18; refine Calls.mono (cR.out _ (by with_reducible assumption)) ?_; intro e w' h'; obtain ⟨A6, c6, he, hc6, hr6, hb⟩ := h'.row; subst he; rw [hel.out] at hc6 ⊢; have hr56 := Row.below hr5 hb; clear h')
        | (go_at_call 16; refine Calls.mono (cM.out _ _ _ _ _ hr56 hc5 hr6 hc6) ?_; rintro e w' ⟨rfl, hb⟩; clear hr5 hr6 hr56)
        | (go_at_call 17; with_reducible refine Calls.mono (cE0.out _) ?_; intro e w' h'; obtain ⟨A7, c7, he, hc7, hr7, hb⟩ := h'.row; subst he; rw [show List.length ([] : List Int) = 0 from rfl] at hc7 ⊢; clear h')
        | (go_at_call 14; with_reducible refine Calls.mono (cS0.out _) ?_; intro e w' h'; obtain ⟨A8, c8, he, hc8, _, hr8, hb⟩ := h'.row2; subst he; rw [show List.length ([] : List Pr) = 0 from rfl] at hc8 ⊢; clear h'))
      all_goals
        go_wp2
        go_ret
        exact ⟨rfl, belowNext hB.out (by with_reducible assumption)⟩
    · rw [decide_eq_false hg]
      go_wp2
      go_ret
      exact ⟨rfl, hB.out⟩
  · --
    have hB := As.mk (Below.refl w.heap.size w)
    have HX := As.mk hx
    have HM := As.mk hm
    clear hx hm
    go_enter Try.func4, Try.ntmps4
    go_wp2_with fail
    refine Calls.mono (awake_calls _) ?_
    rintro e w1 ⟨rfl, hb⟩
    have hs := hb.size
    (try simp only [World.size_alloc, World.size_drew] at hs)
    replace hB := As.mk (belowNext hB.out (by (repeat (first | (with_reducible assumption) | (with_reducible exact Below.refl _ _) | (with_reducible refine Below.drew ?_) | (with_reducible refine below_drewN ?_ _) | (with_reducible refine Below.alloc ?_ (by (first | omega | (simp only [World.size_alloc, World.size_drew]; done) | (simp only [World.size_alloc, World.size_drew]; omega))) _) | (refine Below.trans ?_ (Below.mono (by with_reducible assumption) (by (first | omega | (simp only [World.size_alloc, World.size_drew]; done) | (simp only [World.size_alloc, World.size_drew]; omega))))))) : Below _ _ w1))
    replace HX := As.mk (HX.out.below (by (repeat (first | (with_reducible assumption) | (with_reducible exact Below.refl _ _) | (with_reducible refine Below.drew ?_) | (with_reducible refine below_drewN ?_ _) | (with_reducible refine Below.alloc ?_ (by (first | omega | (simp only [World.size_alloc, World.size_drew]; done) | (simp only [World.size_alloc, World.size_drew]; omega))) _) | (refine Below.trans ?_ (Below.mono (by with_reducible assumption) (by (first | omega | (simp only [World.size_alloc, World.size_drew]; done) | (simp only [World.size_alloc, World.size_drew]; omega))))))) : Below _ _ w1))
    replace HL := As.mk (HL.out.below (by (repeat (first | (with_reducible assumption) | (with_reducible exact Below.refl _ _) | (with_reducible refine Below.drew ?_) | (with_reducible refine below_drewN ?_ _) | (with_reducible refine Below.alloc ?_ (by (first | omega | (simp only [World.size_alloc, World.size_drew]; done) | (simp only [World.size_alloc, World.size_drew]; omega))) _) | (refine Below.trans ?_ (Below.mono (by with_reducible assumption) (by (first | omega | (simp only [World.size_alloc, World.size_drew]; done) | (simp only [World.size_alloc, World.size_drew]; omega))))))) : Below _ _ w1))
    replace hb := As.mk hb
    go_wp2_with fail
    refine Calls.mono (texts_calls _ A c l HX.out hc hr HM.out) ?_
    rintro e w2 ⟨⟨A2, c2, b, he, hb0, hS⟩, hb⟩; clear hr
    have hs := hb.size
    (try simp only [World.size_alloc, World.size_drew] at hs)
    replace hB := As.mk (belowNext hB.out (by (repeat (first | (with_reducible assumption) | (with_reducible exact Below.refl _ _) | (with_reducible refine Below.drew ?_) | (with_reducible refine below_drewN ?_ _) | (with_reducible refine Below.alloc ?_ (by (first | omega | (simp only [World.size_alloc, World.size_drew]; done) | (simp only [World.size_alloc, World.size_drew]; omega))) _) | (refine Below.trans ?_ (Below.mono (by with_reducible assumption) (by (first | omega | (simp only [World.size_alloc, World.size_drew]; done) | (simp only [World.size_alloc, World.size_drew]; omega))))))) : Below _ _ w2))
    replace HX := As.mk (HX.out.below (by (repeat (first | (with_reducible assumption) | (with_reducible exact Below.refl _ _) | (with_reducible refine Below.drew ?_) | (with_reducible refine below_drewN ?_ _) | (with_reducible refine Below.alloc ?_ (by (first | omega | (simp only [World.size_alloc, World.size_drew]; done) | (simp only [World.size_alloc, World.size_drew]; omega))) _) | (refine Below.trans ?_ (Below.mono (by with_reducible assumption) (by (first | omega | (simp only [World.size_alloc, World.size_drew]; done) | (simp only [World.size_alloc, World.size_drew]; omega))))))) : Below _ _ w2))
    replace HL := As.mk (HL.out.below (by (repeat (first | (with_reducible assumption) | (with_reducible exact Below.refl _ _) | (with_reducible refine Below.drew ?_) | (with_reducible refine below_drewN ?_ _) | (with_reducible refine Below.alloc ?_ (by (first | omega | (simp only [World.size_alloc, World.size_drew]; done) | (simp only [World.size_alloc, World.size_drew]; omega))) _) | (refine Below.trans ?_ (Below.mono (by with_reducible assumption) (by (first | omega | (simp only [World.size_alloc, World.size_drew]; done) | (simp only [World.size_alloc, World.size_drew]; omega))))))) : Below _ _ w2))
    replace hb := As.mk hb
    have hbf : (b && decide (l.length ≤ 12)) = false := by
      cases b with
      | false => rfl
      | true =>
        have h40 := of_decide_eq_true hb0.symm
        simp only [Bool.true_and, decide_eq_false_iff_not]
        exact fun h12 => hf ⟨h12, h40⟩
    obtain ⟨m, hm2⟩ : ∃ m, (if b = true then l.length else 0) = m := ⟨_, rfl⟩
    rw [hbf, hm2] at he
    subst he
    clear hS hb0 hbf hm2
    go_wp2_with fail
    refine Calls.mono (lfew_calls _ B d L HL.out hd (by omega)) ?_
    rintro e w3 ⟨he, hb⟩; subst he
    have hs := hb.size
    (try simp only [World.size_alloc, World.size_drew] at hs)
    replace hB := As.mk (belowNext hB.out (by (repeat (first | (with_reducible assumption) | (with_reducible exact Below.refl _ _) | (with_reducible refine Below.drew ?_) | (with_reducible refine below_drewN ?_ _) | (with_reducible refine Below.alloc ?_ (by (first | omega | (simp only [World.size_alloc, World.size_drew]; done) | (simp only [World.size_alloc, World.size_drew]; omega))) _) | (refine Below.trans ?_ (Below.mono (by with_reducible assumption) (by (first | omega | (simp only [World.size_alloc, World.size_drew]; done) | (simp only [World.size_alloc, World.size_drew]; omega))))))) : Below _ _ w3))
    replace hb := As.mk hb
    go_wp2
    go_ret
    exact ⟨rfl, hB.out⟩
end Go.Proofs.Ytbklkemfcdkihaa
