/- The walk of the law CwalterFront. -/
import Derived.Test.YtbklkemfcdkihaaCwLawA
import Derived.Test.YtbklkemfcdkihaaM8
set_option linter.unusedVariables false
set_option linter.unusedSimpArgs false
namespace Go.Proofs.Ytbklkemfcdkihaa
open Go.RowKit Go.Maps Seine.Trie Seine.Links Seine.Cw
open Seine.Sort (occ occ_take occTo_len sortP)

theorem rv_take {L : Txt} {k e : Nat} (h : e ≤ k) : rv (L.take k) e = rv L e := by unfold rv; rw [List.take_take, Nat.min_eq_left h]
theorem fit_take {P : List Txt} (hT : Tree P) {L : Txt} {k e : Nat} (h : e ≤ k) (hk : k ≤ L.length) : fit P (L.take k) e = fit P L e := by
  have hl : (L.take k).length = k := by rw [List.length_take]; omega
  obtain ⟨d, h1, h2, h3, h4, h5⟩ := fit_spec hT (L := L.take k) (e := e) (by rw [hl]; exact h)
  rw [rv_take h] at h2 h4 h5
  rw [h2, fit_eq hT (by omega) h1 h4 h5]
theorem getD_take (L : Txt) (k i : Nat) (h : i < k) : (L.take k).getD i 0 = L.getD i 0 := by
  rw [List.getD_eq_getElem?_getD, List.getElem?_take_of_lt h, ← List.getD_eq_getElem?_getD]
theorem farAt_take (T : List Txt) {L : Txt} {k e : Nat} (h : e ≤ k) (hk : k ≤ L.length) (h0 : 0 < e) : farAt T (L.take k) e = farAt T L e := by
  unfold farAt
  rw [fit_take (paths_tree T) h hk]
  split
  · rw [getD_take _ _ _ (by omega)]
  · rfl
theorem endsFrom_take {T : List Txt} (hT : ∀ t ∈ T, t ≠ []) (hne : T ≠ []) {L : Txt} {k : Nat} (hk : k ≤ L.length) : ∀ f e, 0 < e → endsFrom T (L.take k) f e = (endsFrom T L f e).filter fun e => decide (e ≤ k)
  | 0, e, _ => rfl
  | f + 1, e, h0 => by
    have hl : (L.take k).length = k := by rw [List.length_take]; omega
    by_cases h : e ≤ k
    · have e1 : endsFrom T (L.take k) (f + 1) e = e :: endsFrom T (L.take k) f (e + farAt T (L.take k) e) := by rw [endsFrom, if_pos (by rw [hl]; exact h)]
      have e2 : endsFrom T L (f + 1) e = e :: endsFrom T L f (e + farAt T L e) := by rw [endsFrom, if_pos (by omega)]
      rw [e1, e2, farAt_take T h hk h0, List.filter_cons_of_pos (by simpa using h), endsFrom_take hT hne hk f _ (by omega)]
    · rw [show endsFrom T (L.take k) (f + 1) e = [] by rw [endsFrom, if_neg (by rw [hl]; exact h)]]
      symm
      rw [List.filter_eq_nil_iff]
      intro x hx
      have := (ends_le hT hne L _ _ _ hx).1
      simp; omega
theorem ends_take (T : List Txt) (hT : ∀ t ∈ T, t ≠ []) (L : Txt) (k : Nat) (hk : k ≤ L.length) : ends T (L.take k) = (ends T L).filter fun e => decide (e ≤ k) := by
  have hl : (L.take k).length = k := by rw [List.length_take]; omega
  unfold ends
  by_cases hne : T = []
  · rw [if_pos hne, if_pos hne]; rfl
  · have h0 := (least_spec hT hne).1
    rw [if_neg hne, if_neg hne, endsFrom_more hT hne (L.take k) ((L.take k).length + 1) (L.length + 1) (least T) (by omega) (by omega), endsFrom_take hT hne hk _ _ h0]
theorem natI_filter (E : List Nat) (k : Nat) : natI (E.filter fun e => decide (e ≤ k)) = (natI E).filter fun (e : Int) => decide (e ≤ (k : Int)) := by
  unfold natI
  rw [List.filter_map]
  congr 1
  apply List.filter_congr
  intro x _
  simp
set_option maxRecDepth 100000 in
set_option maxHeartbeats 3200000 in
theorem front_walk (A : Option Addr) (c : Nat) (l : List Txt) (B : Option Addr) (d : Nat) (L : Txt) (z : Int) (w : World) (hx : Txts w A l) (hc : l.length ≤ c) (hr : c * 24 ≤ 140737488351232) (hm : ∀ x ∈ l, x.length ≤ maxLen)
    (h1 : Byt w B L) (hd : L.length ≤ d) (hdm : d ≤ maxLen) (hz : (Lit.int .u8 z).wf = true) :
    Calls Try.prog 6 #[.slice A l.length c, .slice B L.length d, .int .u8 z] w fun e w' => e = .returned (.bool true) ∧ Below w.heap.size w w' := by
  have hu25 := Try.underlying41
  have hzb : 0 ≤ z ∧ z ≤ 255 := by simp [Lit.wf, IntKind.min, IntKind.max, IntKind.signed, IntKind.bits] at hz; omega
  obtain ⟨hz0, hz1⟩ := hzb
  obtain ⟨zn, rfl⟩ := Int.eq_ofNat_of_zero_le hz0
  clear hz hz0
  have HL := As.mk h1
  clear h1
  unfold maxLen at hdm
  by_cases hf : Few l
  · --
    have hB := As.mk (Below.refl w.heap.size w)
    have HX := As.mk hx
    have HM := As.mk hm
    clear hx hm
    go_enter Try.func6, Try.ntmps6
    go_wp2_with fail
    refine Calls.mono (awake_calls _) ?_
    rintro e w1 ⟨rfl, hb⟩
    have hs := hb.size
    (try simp only [World.size_alloc, World.size_drew] at hs)
    replace hB := As.mk (belowNext hB.out (by (repeat (first | (with_reducible assumption) | (with_reducible exact Below.refl _ _) | (with_reducible refine Below.drew ?_) | (with_reducible refine below_drewN ?_ _) | (with_reducible refine Below.alloc ?_ (by (first | omega | (simp only [World.size_alloc, World.size_drew]; done) | (simp only [World.size_alloc, World.size_drew]; omega))) _) | (refine Below.trans ?_ (Below.mono (by with_reducible assumption) (by (first | omega | (simp only [World.size_alloc, World.size_drew]; done) | (simp only [World.size_alloc, World.size_drew]; omega))))))) : Below _ _ w1))
    replace HX := As.mk (HX.out.below (by (repeat (first | (with_reducible assumption) | (with_reducible exact Below.refl _ _) | (with_reducible refine Below.drew ?_) | (with_reducible refine below_drewN ?_ _) | (with_reducible refine Below.alloc ?_ (by (first | omega | (simp only [World.size_alloc, World.size_drew]; done) | (simp only [World.size_alloc, World.size_drew]; omega))) _) | (refine Below.trans ?_ (Below.mono (by with_reducible assumption) (by (first | omega | (simp only [World.size_alloc, World.size_drew]; done) | (simp only [World.size_alloc, World.size_drew]; omega))))))) : Below _ _ w1))
    replace HL := As.mk (HL.out.below (by (repeat (first | (with_reducible assumption) | (with_reducible exact Below.refl _ _) | (with_reducible refine Below.drew ?_) | (with_reducible refine below_drewN ?_ _) | (with_reducible refine Below.alloc ?_ (by (first | omega | (simp only [World.size_alloc, World.size_drew]; done) | (simp only [World.size_alloc, World.size_drew]; omega))) _) | (refine Below.trans ?_ (Below.mono (by with_reducible assumption) (by (first | omega | (simp only [World.size_alloc, World.size_drew]; done) | (simp only [World.size_alloc, World.size_drew]; omega))))))) : Below _ _ w1))
    replace hb := As.mk hb
    go_wp2_with fail
    refine Calls.mono (texts_calls _ A c l HX.out hc hr HM.out) ?_
    rintro e w2 ⟨⟨A2, c2, b, he, hb0, hS⟩, hb⟩; clear hr
    have hs := hb.size
    (try simp only [World.size_alloc, World.size_drew] at hs)
    replace hB := As.mk (belowNext hB.out (by (repeat (first | (with_reducible assumption) | (with_reducible exact Below.refl _ _) | (with_reducible refine Below.drew ?_) | (with_reducible refine below_drewN ?_ _) | (with_reducible refine Below.alloc ?_ (by (first | omega | (simp only [World.size_alloc, World.size_drew]; done) | (simp only [World.size_alloc, World.size_drew]; omega))) _) | (refine Below.trans ?_ (Below.mono (by with_reducible assumption) (by (first | omega | (simp only [World.size_alloc, World.size_drew]; done) | (simp only [World.size_alloc, World.size_drew]; omega))))))) : Below _ _ w2))
    replace HX := As.mk (HX.out.below (by (repeat (first | (with_reducible assumption) | (with_reducible exact Below.refl _ _) | (with_reducible refine Below.drew ?_) | (with_reducible refine below_drewN ?_ _) | (with_reducible refine Below.alloc ?_ (by (first | omega | (simp only [World.size_alloc, World.size_drew]; done) | (simp only [World.size_alloc, World.size_drew]; omega))) _) | (refine Below.trans ?_ (Below.mono (by with_reducible assumption) (by (first | omega | (simp only [World.size_alloc, World.size_drew]; done) | (simp only [World.size_alloc, World.size_drew]; omega))))))) : Below _ _ w2))
    replace HL := As.mk (HL.out.below (by (repeat (first | (with_reducible assumption) | (with_reducible exact Below.refl _ _) | (with_reducible refine Below.drew ?_) | (with_reducible refine below_drewN ?_ _) | (with_reducible refine Below.alloc ?_ (by (first | omega | (simp only [World.size_alloc, World.size_drew]; done) | (simp only [World.size_alloc, World.size_drew]; omega))) _) | (refine Below.trans ?_ (Below.mono (by with_reducible assumption) (by (first | omega | (simp only [World.size_alloc, World.size_drew]; done) | (simp only [World.size_alloc, World.size_drew]; omega))))))) : Below _ _ w2))
    replace hb := As.mk hb
    obtain rfl : b = true := by rw [hb0]; exact decide_eq_true hf.short
    have hd12 : decide (l.length ≤ 12) = true := decide_eq_true hf.len
    rw [Bool.true_and, hd12, if_pos rfl] at he
    subst he
    obtain ⟨hc2, hS2⟩ := hS rfl
    clear hS
    have hS := As.mk hS2
    clear hS2 hb0 hd12
    have htot := As.mk hf.tot
    have hl12 := hf.len
    have hF := As.mk hf
    clear hf
    by_cases hg : L.length ≤ 300
    · have hg1 : decide ((300 : Int) < (L.length : Int)) = false := decide_eq_false (by omega)
      have hrm : (zn : Int).tmod ((L.length : Int) + 1) = ((zn % (L.length + 1) : Nat) : Int) := by
        rw [Int.tmod_eq_emod_of_nonneg (by omega)]; simp
      have hkm : zn % (L.length + 1) ≤ L.length := by have := Nat.mod_lt zn (show 0 < L.length + 1 by omega); omega
      obtain ⟨kk, hkk⟩ : ∃ kk, zn % (L.length + 1) = kk := ⟨_, rfl⟩
      rw [hkk] at hrm hkm
      clear hkk
      go_wp2_with fail
      refine Calls.mono (fnew_calls _ A c l HX.out hF.out) ?_
      rintro e w3 ⟨g, rfl, hA, hb⟩; replace hA := As.mk hA
      have hs := hb.size
      (try simp only [World.size_alloc, World.size_drew] at hs)
      replace hB := As.mk (belowNext hB.out (by (repeat (first | (with_reducible assumption) | (with_reducible exact Below.refl _ _) | (with_reducible refine Below.drew ?_) | (with_reducible refine below_drewN ?_ _) | (with_reducible refine Below.alloc ?_ (by (first | omega | (simp only [World.size_alloc, World.size_drew]; done) | (simp only [World.size_alloc, World.size_drew]; omega))) _) | (refine Below.trans ?_ (Below.mono (by with_reducible assumption) (by (first | omega | (simp only [World.size_alloc, World.size_drew]; done) | (simp only [World.size_alloc, World.size_drew]; omega))))))) : Below _ _ w3))
      replace HX := As.mk (HX.out.below (by (repeat (first | (with_reducible assumption) | (with_reducible exact Below.refl _ _) | (with_reducible refine Below.drew ?_) | (with_reducible refine below_drewN ?_ _) | (with_reducible refine Below.alloc ?_ (by (first | omega | (simp only [World.size_alloc, World.size_drew]; done) | (simp only [World.size_alloc, World.size_drew]; omega))) _) | (refine Below.trans ?_ (Below.mono (by with_reducible assumption) (by (first | omega | (simp only [World.size_alloc, World.size_drew]; done) | (simp only [World.size_alloc, World.size_drew]; omega))))))) : Below _ _ w3))
      replace HL := As.mk (HL.out.below (by (repeat (first | (with_reducible assumption) | (with_reducible exact Below.refl _ _) | (with_reducible refine Below.drew ?_) | (with_reducible refine below_drewN ?_ _) | (with_reducible refine Below.alloc ?_ (by (first | omega | (simp only [World.size_alloc, World.size_drew]; done) | (simp only [World.size_alloc, World.size_drew]; omega))) _) | (refine Below.trans ?_ (Below.mono (by with_reducible assumption) (by (first | omega | (simp only [World.size_alloc, World.size_drew]; done) | (simp only [World.size_alloc, World.size_drew]; omega))))))) : Below _ _ w3))
      replace hb := As.mk hb
      go_wp2_with fail
      refine Calls.mono (cends_calls _ g l hA.out hF.out.short60 (by omega) B d L HL.out (by omega)) ?_
      intro e w4 h4; obtain ⟨Ae, ce, rfl, hce, hre, hb⟩ := h4.row; replace hre := As.mk hre; clear h4
      have hs := hb.size
      (try simp only [World.size_alloc, World.size_drew] at hs)
      replace hB := As.mk (belowNext hB.out (by (repeat (first | (with_reducible assumption) | (with_reducible exact Below.refl _ _) | (with_reducible refine Below.drew ?_) | (with_reducible refine below_drewN ?_ _) | (with_reducible refine Below.alloc ?_ (by (first | omega | (simp only [World.size_alloc, World.size_drew]; done) | (simp only [World.size_alloc, World.size_drew]; omega))) _) | (refine Below.trans ?_ (Below.mono (by with_reducible assumption) (by (first | omega | (simp only [World.size_alloc, World.size_drew]; done) | (simp only [World.size_alloc, World.size_drew]; omega))))))) : Below _ _ w4))
      replace HX := As.mk (HX.out.below (by (repeat (first | (with_reducible assumption) | (with_reducible exact Below.refl _ _) | (with_reducible refine Below.drew ?_) | (with_reducible refine below_drewN ?_ _) | (with_reducible refine Below.alloc ?_ (by (first | omega | (simp only [World.size_alloc, World.size_drew]; done) | (simp only [World.size_alloc, World.size_drew]; omega))) _) | (refine Below.trans ?_ (Below.mono (by with_reducible assumption) (by (first | omega | (simp only [World.size_alloc, World.size_drew]; done) | (simp only [World.size_alloc, World.size_drew]; omega))))))) : Below _ _ w4))
      replace HL := As.mk (HL.out.below (by (repeat (first | (with_reducible assumption) | (with_reducible exact Below.refl _ _) | (with_reducible refine Below.drew ?_) | (with_reducible refine below_drewN ?_ _) | (with_reducible refine Below.alloc ?_ (by (first | omega | (simp only [World.size_alloc, World.size_drew]; done) | (simp only [World.size_alloc, World.size_drew]; omega))) _) | (refine Below.trans ?_ (Below.mono (by with_reducible assumption) (by (first | omega | (simp only [World.size_alloc, World.size_drew]; done) | (simp only [World.size_alloc, World.size_drew]; omega))))))) : Below _ _ w4))
      replace hA := As.mk (hA.out.below (by (repeat (first | (with_reducible assumption) | (with_reducible exact Below.refl _ _) | (with_reducible refine Below.drew ?_) | (with_reducible refine below_drewN ?_ _) | (with_reducible refine Below.alloc ?_ (by (first | omega | (simp only [World.size_alloc, World.size_drew]; done) | (simp only [World.size_alloc, World.size_drew]; omega))) _) | (refine Below.trans ?_ (Below.mono (by with_reducible assumption) (by (first | omega | (simp only [World.size_alloc, World.size_drew]; done) | (simp only [World.size_alloc, World.size_drew]; omega))))))) : Below _ _ w4))
      replace hb := As.mk hb
      have hEl : (ends (turnT l) L).length ≤ 1000 := by
        unfold ends
        split
        · simp
        · exact Nat.le_trans (endsFrom_len _ _ _ _) (by omega)
      have hFe := ends_take (turnT l) (turnT_ne l) L kk hkm
      have hFe2 := congrArg natI hFe
      rw [natI_filter] at hFe2
      replace hFe2 := As.mk hFe2
      have hFk := As.mk (occ_take l L kk hkm)
      have hlE : (natI (ends (turnT l) L)).length ≤ 1000 := by rw [natI_length]; exact hEl
      obtain ⟨E, hE⟩ : ∃ E, natI (ends (turnT l) L) = E := ⟨_, rfl⟩
      rw [hE] at hce hre hFe2 hlE ⊢
      obtain ⟨el, hel⟩ : ∃ k, E.length = k := ⟨_, rfl⟩
      rw [hel] at hce hlE ⊢
      replace hel := As.mk hel
      have hrl := occ_few l L (by omega)
      clear hS hFe hEl hE
      go_wp2_with fail
      go_loopg [12, 14] (el + 1) (fun gk v i wr => ∃ j : Nat, As (el + 1 ≤ gk + j) ∧ i = .int .i64 j ∧ j ≤ el ∧ As (OwnInts wr w4.heap.size v ((E.take j).filter fun e => decide (e ≤ (kk : Int)))) ∧ As (Below w4.heap.size w4 wr))
      case atStart => exact ⟨0, ⟨by omega⟩, rfl, by omega, ⟨World.ownsRow_nil _ _ _ _⟩, ⟨Below.refl _ _⟩⟩
      case round =>
        obtain ⟨j, hgk, rfl, hj, hown, hbel⟩ := hrel
        by_cases hlt : j < el
        · obtain ⟨gp, rfl⟩ : ∃ gp, gk = gp + 1 := ⟨gk - 1, by have := hgk.out; omega⟩
          obtain ⟨ad4, rfl, a1⟩ := Ints.at_ (Row.below hre.out hbel.out) (i := j) (by rw [hel.out]; exact hlt)
          have hsuc : E.take (j + 1) = E.take j ++ [E.getD j 0] := by
            rw [List.take_succ_eq_append_getElem (by rw [hel.out]; exact hlt), List.getD_eq_getElem?_getD, List.getElem?_eq_getElem (by rw [hel.out]; exact hlt)]; rfl
          generalize E.getD j 0 = e0 at *
          have hsuc2 := As.mk (congrArg (List.filter fun e : Int => decide (e ≤ (kk : Int))) hsuc)
          have haccl : ((E.take j).filter fun e : Int => decide (e ≤ (kk : Int))).length ≤ el := Nat.le_trans (List.length_filter_le _ _) (by rw [List.length_take]; omega)
          rw [List.filter_append] at hsuc2
          generalize hacc : (E.take j).filter (fun e : Int => decide (e ≤ (kk : Int))) = acc at *
          clear hsuc hacc
          by_cases hek : e0 ≤ (kk : Int)
          · rw [List.filter_cons_of_pos (by simpa using hek), List.filter_nil] at hsuc2
            go_wp2_with (at_builtin
                         refine wpList_app1 _ rfl (.tmp 56) (.tmp 61) 37 rfl w4.heap.size 3 _ 1 8 Try.underlying37 info_int rfl (by decide) _ acc.length (intVals acc) rfl hown.out [.int .i64 e0] rfl (by simp [Value.oneCell']) _ rfl (by simp) (by omega) (by decide) hbel.out.size ?_
                         intro v' w6 hown6 hk6 hat6 hb6
                         replace hown6 := As.mk hown6
                         replace hk6 := As.mk hk6
                         replace hb6 := As.mk hb6)
            go_roundg gp
            case rel => exact ⟨j + 1, ⟨by have := hgk.out; omega⟩, (by first | rfl | go_num | (congr 1; omega)), by omega, ⟨by rw [hsuc2.out]; exact ownInts_snoc hown6.out⟩, ⟨hbel.out.trans hb6.out⟩⟩
            case measure => omega
          · have hek' : decide (e0 ≤ (kk : Int)) = false := by simpa using hek
            rw [List.filter_cons_of_neg (by simpa using hek), List.filter_nil, List.append_nil] at hsuc2
            go_wp2
            go_roundg gp
            case rel => exact ⟨j + 1, ⟨by have := hgk.out; omega⟩, (by first | rfl | go_num | (congr 1; omega)), by omega, ⟨by rw [hsuc2.out]; exact hown.out⟩, hbel⟩
            case measure => omega
        · obtain rfl : j = el := by omega
          rw [← hel.out, List.take_length, ← hFe2.out] at hown
          obtain ⟨Q, hQ⟩ : ∃ Q, natI (ends (turnT l) (L.take kk)) = Q := ⟨_, rfl⟩
          have hW : Q.length ≤ 1000 := by rw [← hQ, hFe2.out]; exact Nat.le_trans (List.length_filter_le _ _) (by rw [hel.out]; exact hlE)
          rw [hQ] at hown
          obtain ⟨A7, c7, hv7, hc7, hr7⟩ := OwnInts.row hown.out
          obtain ⟨ql, hql⟩ : ∃ k, Q.length = k := ⟨_, rfl⟩
          rw [hql] at hv7 hc7 hW
          replace hr7 := As.mk hr7
          replace hql := As.mk hql
          replace hQ := As.mk hQ
          subst hv7
          have hAr := As.mk (hA.out.below hbel.out)
          have HLr := As.mk (Row.below HL.out hbel.out)
          have hBr := As.mk (belowNext hB.out hbel.out)
          have csc := As.mk (cscan_calls wr g l hAr.out hF.out.short60 (by omega) B d L HLr.out (by omega))
          obtain ⟨R, hR⟩ : ∃ R, occ l L = R := ⟨_, rfl⟩
          rw [hR] at csc hFk hrl
          obtain ⟨rl, hrl2⟩ : ∃ n, R.length = n := ⟨_, rfl⟩
          rw [hrl2] at hrl
          replace hrl2 := As.mk hrl2
          replace hR := As.mk hR
          obtain ⟨wo, rfl⟩ : ∃ wo : World, wo = wr := ⟨_, rfl⟩
          clear hFe2 hown hB hA HX HL hre hbel HM htot
          go_wp2_with (go_at_call 14; refine Calls.mono csc.out ?_; intro e w5 h5; obtain ⟨A5, c5, he, hc5, hcm5, hr5, hb5⟩ := h5.row2; subst he; rw [hrl2.out] at hc5 ⊢; clear h5; replace hr5 := As.mk hr5; replace hb5 := As.mk hb5)
          go_loopg [15, 17] (rl + 1) (fun gk v i wr => ∃ j : Nat, As (rl + 1 ≤ gk + j) ∧ i = .int .i64 j ∧ j ≤ rl ∧ As (OwnPrs wr w5.heap.size v ((R.take j).filter fun p => decide (p.2 ≤ (kk : Int)))) ∧ As (Below w5.heap.size w5 wr))
          case atStart => exact ⟨0, ⟨by omega⟩, rfl, by omega, ⟨World.ownsRow_nil _ _ _ _⟩, ⟨Below.refl _ _⟩⟩
          case round =>
            obtain ⟨j, hgk, rfl, hj, hown, hbel⟩ := hrel
            by_cases hlt : j < rl
            · obtain ⟨gp, rfl⟩ : ∃ gp, gk = gp + 1 := ⟨gk - 1, by have := hgk.out; omega⟩
              obtain ⟨ad4, rfl, a1, a2⟩ := Prs.at_ (Row.below hr5.out hbel.out) (i := j) (by rw [hrl2.out]; exact hlt)
              have hsuc : R.take (j + 1) = R.take j ++ [R.getD j (0, 0)] := by
                rw [List.take_succ_eq_append_getElem (by rw [hrl2.out]; exact hlt), List.getD_eq_getElem?_getD, List.getElem?_eq_getElem (by rw [hrl2.out]; exact hlt)]; rfl
              generalize R.getD j (0, 0) = p at *
              obtain ⟨s0, e0⟩ := p
              have hsuc2 := As.mk (congrArg (List.filter fun p : Pr => decide (p.2 ≤ (kk : Int))) hsuc)
              have haccl : ((R.take j).filter fun p : Pr => decide (p.2 ≤ (kk : Int))).length ≤ rl := Nat.le_trans (List.length_filter_le _ _) (by rw [List.length_take]; omega)
              rw [List.filter_append] at hsuc2
              generalize hacc : (R.take j).filter (fun p : Pr => decide (p.2 ≤ (kk : Int))) = acc at *
              clear hsuc hacc
              by_cases hek : e0 ≤ (kk : Int)
              · rw [List.filter_cons_of_pos (by simpa using hek), List.filter_nil] at hsuc2
                go_wp2_with (at_builtin
                             refine wpList_app1 _ rfl (.tmp 79) (.tmp 84) 30 rfl w5.heap.size 41 _ 2 16 Try.underlying30 info_pr rfl (by decide) _ acc.length (prCells acc) rfl hown.out [.int .i64 s0, .int .i64 e0] rfl (by simp [Value.oneCell']) _ rfl (by simp) (by omega) (by decide) hbel.out.size ?_
                             intro v' w6 hown6 hk6 hat6 hb6
                             replace hown6 := As.mk hown6
                             replace hk6 := As.mk hk6
                             replace hb6 := As.mk hb6)
                go_roundg gp
                case rel => exact ⟨j + 1, ⟨by have := hgk.out; omega⟩, (by first | rfl | go_num | (congr 1; omega)), by omega, ⟨by rw [hsuc2.out]; exact ownPrs_snoc hown6.out⟩, ⟨hbel.out.trans hb6.out⟩⟩
                case measure => omega
              · have hek' : decide (e0 ≤ (kk : Int)) = false := by simpa using hek
                rw [List.filter_cons_of_neg (by simpa using hek), List.filter_nil, List.append_nil] at hsuc2
                go_wp2
                go_roundg gp
                case rel => exact ⟨j + 1, ⟨by have := hgk.out; omega⟩, (by first | rfl | go_num | (congr 1; omega)), by omega, ⟨by rw [hsuc2.out]; exact hown.out⟩, hbel⟩
                case measure => omega
            · obtain rfl : j = rl := by omega
              rw [← hrl2.out, List.take_length, ← hFk.out] at hown
              obtain ⟨V, hV⟩ : ∃ Q, occ l (L.take kk) = Q := ⟨_, rfl⟩
              have hVW : V.length ≤ 1000000 := by rw [← hV, hFk.out]; exact Nat.le_trans (List.length_filter_le _ _) (by rw [hrl2.out]; exact hrl)
              rw [hV] at hown
              obtain ⟨A8, c8, hv8, hc8, hr8⟩ := OwnPrs.row hown.out
              obtain ⟨vl, hvl⟩ : ∃ k, V.length = k := ⟨_, rfl⟩
              rw [hvl] at hv8 hc8 hVW
              subst hv8
              have hb05 : Below wo.heap.size wo wr := hb5.out.trans (hbel.out.mono hb5.out.size)
              have hBe := As.mk (belowNext hBr.out hb05)
              have hA9 := hAr.out.below hb05
              have HL9 : Byt wr B (L.take kk) := Byt.take (Row.below HLr.out hb05) kk
              have hlk : (L.take kk).length = kk := by rw [List.length_take]; omega
              have hr79 := Row.below hr7.out hb05
              have cen := cends_calls wr g l hA9 hF.out.short60 (by omega) B d (L.take kk) HL9 (by omega)
              have csc9 := As.mk (fun (v : World) (hv : Below wr.heap.size wr v) => (by have := cscan_calls v g l (hA9.below hv) hF.out.short60 (by omega) B d (L.take kk) (Row.below HL9 hv) (by omega); rw [hV, hlk] at this; exact this : Calls Try.prog 14 #[.pointer (some ⟨g, 0, none⟩), .slice B kk d] v (RetPrs v V)))
              rw [hQ.out, hlk] at cen
              replace cen := As.mk cen
              replace hr79 := As.mk hr79
              replace hr8 := As.mk hr8
              have hkd : kk ≤ d := by omega
              replace hvl := As.mk hvl
              have hqq := hql.out
              clear hown hr7 hr5 hAr HLr hV hlk hA9 HL9 hFk hb05 hBr hb5 hbel csc
              go_wp2_with (first
                | (go_at_call 17; refine Calls.mono cen.out ?_; intro e w6 h6; obtain ⟨Aq, cq, he, hcq, hrq, hb6⟩ := h6.row; subst he; clear h6; have hb6' := hb6; rw [hqq] at hcq ⊢)
                | (go_at_call 16; refine Calls.mono (by have := isame_calls w6 Aq A7 cq c7 Q Q hrq (by rw [hqq]; exact hcq) (Row.below hr79.out hb6) (by rw [hqq]; exact hc7) (by omega) (by omega); rw [decide_eq_true rfl, hqq] at this; exact this) ?_; rintro e w7 ⟨rfl, hb7⟩; have hb67 := belowNext hb6' hb7)
                | (go_at_call 14; refine Calls.mono (csc9.out _ hb67) ?_; intro e w8 h8; obtain ⟨Av, cv, he, hcv, hcmv, hrv, hb8⟩ := h8.row2; subst he; clear h8; rw [hvl.out] at hcv ⊢; have hb68 := belowNext hb67 hb8)
                | (go_at_call 12; refine Calls.mono (by have := same_calls Av A8 cv c8 V V w8 hrv (Row.below hr8.out hb68) (by have := hvl.out; omega) (by have := hvl.out; omega); rw [decide_eq_true rfl, hvl.out] at this; exact this) ?_; rintro e w9 ⟨rfl, nq, rfl⟩))
              go_ret
              exact ⟨rfl, below_drewN (belowNext hBe.out hb68) _⟩
    · have hg1 : decide ((300 : Int) < (L.length : Int)) = true := decide_eq_true (by omega)
      go_wp2
      go_ret
      exact ⟨rfl, hB.out⟩
  · --
    have hB := As.mk (Below.refl w.heap.size w)
    have HX := As.mk hx
    have HM := As.mk hm
    clear hx hm
    go_enter Try.func6, Try.ntmps6
    go_wp2_with fail
    refine Calls.mono (awake_calls _) ?_
    rintro e w1 ⟨rfl, hb⟩
    have hs := hb.size
    (try simp only [World.size_alloc, World.size_drew] at hs)
    replace hB := As.mk (belowNext hB.out (by (repeat (first | (with_reducible assumption) | (with_reducible exact Below.refl _ _) | (with_reducible refine Below.drew ?_) | (with_reducible refine below_drewN ?_ _) | (with_reducible refine Below.alloc ?_ (by (first | omega | (simp only [World.size_alloc, World.size_drew]; done) | (simp only [World.size_alloc, World.size_drew]; omega))) _) | (refine Below.trans ?_ (Below.mono (by with_reducible assumption) (by (first | omega | (simp only [World.size_alloc, World.size_drew]; done) | (simp only [World.size_alloc, World.size_drew]; omega))))))) : Below _ _ w1))
    replace HX := As.mk (HX.out.below (by (repeat (first | (with_reducible assumption) | (with_reducible exact Below.refl _ _) | (with_reducible refine Below.drew ?_) | (with_reducible refine below_drewN ?_ _) | (with_reducible refine Below.alloc ?_ (by (first | omega | (simp only [World.size_alloc, World.size_drew]; done) | (simp only [World.size_alloc, World.size_drew]; omega))) _) | (refine Below.trans ?_ (Below.mono (by with_reducible assumption) (by (first | omega | (simp only [World.size_alloc, World.size_drew]; done) | (simp only [World.size_alloc, World.size_drew]; omega))))))) : Below _ _ w1))
    replace HL := As.mk (HL.out.below (by (repeat (first | (with_reducible assumption) | (with_reducible exact Below.refl _ _) | (with_reducible refine Below.drew ?_) | (with_reducible refine below_drewN ?_ _) | (with_reducible refine Below.alloc ?_ (by (first | omega | (simp only [World.size_alloc, World.size_drew]; done) | (simp only [World.size_alloc, World.size_drew]; omega))) _) | (refine Below.trans ?_ (Below.mono (by with_reducible assumption) (by (first | omega | (simp only [World.size_alloc, World.size_drew]; done) | (simp only [World.size_alloc, World.size_drew]; omega))))))) : Below _ _ w1))
    replace hb := As.mk hb
    go_wp2_with fail
    refine Calls.mono (texts_calls _ A c l HX.out hc hr HM.out) ?_
    rintro e w2 ⟨⟨A2, c2, b, he, hb0, hS⟩, hb⟩; clear hr
    have hs := hb.size
    (try simp only [World.size_alloc, World.size_drew] at hs)
    replace hB := As.mk (belowNext hB.out (by (repeat (first | (with_reducible assumption) | (with_reducible exact Below.refl _ _) | (with_reducible refine Below.drew ?_) | (with_reducible refine below_drewN ?_ _) | (with_reducible refine Below.alloc ?_ (by (first | omega | (simp only [World.size_alloc, World.size_drew]; done) | (simp only [World.size_alloc, World.size_drew]; omega))) _) | (refine Below.trans ?_ (Below.mono (by with_reducible assumption) (by (first | omega | (simp only [World.size_alloc, World.size_drew]; done) | (simp only [World.size_alloc, World.size_drew]; omega))))))) : Below _ _ w2))
    replace HX := As.mk (HX.out.below (by (repeat (first | (with_reducible assumption) | (with_reducible exact Below.refl _ _) | (with_reducible refine Below.drew ?_) | (with_reducible refine below_drewN ?_ _) | (with_reducible refine Below.alloc ?_ (by (first | omega | (simp only [World.size_alloc, World.size_drew]; done) | (simp only [World.size_alloc, World.size_drew]; omega))) _) | (refine Below.trans ?_ (Below.mono (by with_reducible assumption) (by (first | omega | (simp only [World.size_alloc, World.size_drew]; done) | (simp only [World.size_alloc, World.size_drew]; omega))))))) : Below _ _ w2))
    replace HL := As.mk (HL.out.below (by (repeat (first | (with_reducible assumption) | (with_reducible exact Below.refl _ _) | (with_reducible refine Below.drew ?_) | (with_reducible refine below_drewN ?_ _) | (with_reducible refine Below.alloc ?_ (by (first | omega | (simp only [World.size_alloc, World.size_drew]; done) | (simp only [World.size_alloc, World.size_drew]; omega))) _) | (refine Below.trans ?_ (Below.mono (by with_reducible assumption) (by (first | omega | (simp only [World.size_alloc, World.size_drew]; done) | (simp only [World.size_alloc, World.size_drew]; omega))))))) : Below _ _ w2))
    replace hb := As.mk hb
    have hbf : (b && decide (l.length ≤ 12)) = false := by
      cases b with
      | false => rfl
      | true =>
        have h40 := of_decide_eq_true hb0.symm
        simp only [Bool.true_and, decide_eq_false_iff_not]
        exact fun h12 => hf ⟨h12, h40⟩
    obtain ⟨m, hm2⟩ : ∃ m, (if b = true then l.length else 0) = m := ⟨_, rfl⟩
    rw [hbf, hm2] at he
    subst he
    clear hS hb0 hbf hm2
    go_wp2
    go_ret
    exact ⟨rfl, hB.out⟩
end Go.Proofs.Ytbklkemfcdkihaa
