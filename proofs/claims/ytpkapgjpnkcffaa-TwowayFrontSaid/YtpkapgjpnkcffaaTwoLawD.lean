/- The walk of the law TwowayFront. -/
import Derived.Test.YtpkapgjpnkcffaaTwoAwake
import Derived.Test.YtpkapgjpnkcffaaApp
import Derived.Deep.DrawnRows
import Derived.Deep.RegionHeld3
set_option linter.unusedVariables false
set_option linter.unusedSimpArgs false
namespace Go.Proofs.Ytpkapgjpnkcffaa
open Go.RowKit Seine.Trie Seine.Two Go.Proofs.YtpkapgjpnkcffaaW.PrintWords Go.Proofs.Ytpkapgjpnkcffaa.Ref
attribute [local go_sem ↓] Go.wp_at_zero Go.wp_at_succ


theorem isAt_take {b l : Txt} {k i : Nat} (hk : k ≤ l.length) : isAt b (l.take k) i = (isAt b l i && decide (i + b.length ≤ k)) := by
  unfold isAt
  rw [← Bool.decide_and, decide_eq_decide, List.length_take, Nat.min_eq_left hk, List.drop_take, List.take_take]
  constructor
  · rintro ⟨h1, h2⟩
    rw [Nat.min_eq_left (by omega)] at h2
    exact ⟨⟨by omega, h2⟩, h1⟩
  · rintro ⟨⟨h1, h2⟩, h3⟩
    rw [Nat.min_eq_left (by omega)]
    exact ⟨h3, h2⟩
theorem occ_take {b l : Txt} {k : Nat} (hk : k ≤ l.length) : occFrom b (l.take k) 0 = (occFrom b l 0).filter fun p => decide (p.2 ≤ (k : Int)) := by
  unfold occFrom
  rw [List.filter_map, List.filter_filter]
  congr 1
  rw [List.length_take, Nat.min_eq_left hk, Nat.sub_zero, Nat.sub_zero]
  obtain ⟨j, hj⟩ : ∃ j, l.length + 1 = (k + 1) + j := ⟨l.length - k, by omega⟩
  rw [hj, ← List.range'_append_1 (s := 0) (m := k + 1) (n := j), List.filter_append]
  have e2 : (List.range' (0 + (k + 1)) j).filter (fun a => ((fun p : Pr => decide (p.2 ≤ (k : Int))) ∘ fun i : Nat => ((i : Int), (i : Int) + (b.length : Int))) a && isAt b l a) = [] := by
    rw [List.filter_eq_nil_iff]
    intro i hi
    obtain ⟨q, _, rfl⟩ := List.mem_range'.1 hi
    simp only [Function.comp, Bool.and_eq_true, decide_eq_true_eq, not_and]
    intro h
    omega
  rw [e2, List.append_nil]
  apply List.filter_congr
  intro i hi
  rw [isAt_take hk, Bool.and_comm]
  congr 1
  simp only [Function.comp, decide_eq_decide]
  omega
theorem Byt.take {w : World} {A : Option Addr} {b : Txt} (h : Byt w A b) (k : Nat) : Byt w A (b.take k) := by
  rcases h with h | ⟨ad, e, hlt, hc⟩
  · have : b = [] := by have := congrArg List.length h; rw [byCells_length] at this; exact List.eq_nil_of_length_eq_zero this
    subst this
    exact .inl (by simp [byCells])
  · refine .inr ⟨ad, e, hlt, fun j u hu => hc j u ?_⟩
    unfold byCells at hu ⊢
    rw [List.map_take, List.getElem?_take] at hu
    split at hu
    · exact hu
    · cases hu
set_option maxRecDepth 100000 in
set_option maxHeartbeats 1600000 in
theorem front_walk (A : Option Addr) (c : Nat) (b : Txt) (B : Option Addr) (d : Nat) (l : Txt) (z : Int) (w : World) (hb : Byt w A b) (hc : b.length ≤ c) (hcm : c ≤ maxLen) (hl : Byt w B l) (hd : l.length ≤ d) (hdm : d ≤ maxLen) (hz : (Lit.int .u16 z).wf = true) :
    Calls Try.prog 7 #[.slice A b.length c, .slice B l.length d, .int .u16 z] w fun e w' => e = .returned (.bool true) ∧ Below w.heap.size w w' := by
  have hu25 := Try.underlying35
  have hzb : 0 ≤ z ∧ z ≤ 65535 := by simp [Lit.wf, IntKind.min, IntKind.max, IntKind.signed, IntKind.bits] at hz; omega
  obtain ⟨hz0, hz1⟩ := hzb
  obtain ⟨zn, rfl⟩ := Int.eq_ofNat_of_zero_le hz0
  clear hz
  by_cases hf : b.length ≤ 100 ∧ l.length ≤ 300
  · obtain ⟨hf1, hf2⟩ := hf
    by_cases hne : b = []
    · subst hne
      have hB := As.mk (Below.refl w.heap.size w)
      have HX := As.mk hb
      have HY := As.mk hl
      unfold maxLen at hcm hdm
      clear hb hl
      go_enter Try.func7, Try.ntmps7
      go_wp2_with fail
      refine Calls.mono (awake_calls _) ?_
      rintro e w1 ⟨rfl, hb⟩
      have hs := hb.size
      (try simp only [World.size_alloc, World.size_drew] at hs)
      replace hB := As.mk (belowNext hB.out (by (repeat (first | (with_reducible assumption) | (with_reducible exact Below.refl _ _) | (with_reducible refine Below.drew ?_) | (with_reducible refine below_drewN ?_ _) | (with_reducible refine Below.alloc ?_ (by (first | omega | (simp only [World.size_alloc, World.size_drew]; done) | (simp only [World.size_alloc, World.size_drew]; omega))) _) | (refine Below.trans ?_ (Below.mono (by with_reducible assumption) (by (first | omega | (simp only [World.size_alloc, World.size_drew]; done) | (simp only [World.size_alloc, World.size_drew]; omega))))))) : Below _ _ w1))
      replace HX := As.mk (HX.out.below (by (repeat (first | (with_reducible assumption) | (with_reducible exact Below.refl _ _) | (with_reducible refine Below.drew ?_) | (with_reducible refine below_drewN ?_ _) | (with_reducible refine Below.alloc ?_ (by (first | omega | (simp only [World.size_alloc, World.size_drew]; done) | (simp only [World.size_alloc, World.size_drew]; omega))) _) | (refine Below.trans ?_ (Below.mono (by with_reducible assumption) (by (first | omega | (simp only [World.size_alloc, World.size_drew]; done) | (simp only [World.size_alloc, World.size_drew]; omega))))))) : Below _ _ w1))
      replace HY := As.mk (HY.out.below (by (repeat (first | (with_reducible assumption) | (with_reducible exact Below.refl _ _) | (with_reducible refine Below.drew ?_) | (with_reducible refine below_drewN ?_ _) | (with_reducible refine Below.alloc ?_ (by (first | omega | (simp only [World.size_alloc, World.size_drew]; done) | (simp only [World.size_alloc, World.size_drew]; omega))) _) | (refine Below.trans ?_ (Below.mono (by with_reducible assumption) (by (first | omega | (simp only [World.size_alloc, World.size_drew]; done) | (simp only [World.size_alloc, World.size_drew]; omega))))))) : Below _ _ w1))
      replace hb := As.mk hb
      go_wp2_with fail
      refine Calls.mono (few_calls _ A B c d [] l HX.out HY.out hc hd (by omega) (by omega) true (decide_eq_true (And.intro hf1 hf2)).symm) ?_
      rintro e w2 ⟨rfl, hb⟩
      have hs := hb.size
      (try simp only [World.size_alloc, World.size_drew] at hs)
      replace hB := As.mk (belowNext hB.out (by (repeat (first | (with_reducible assumption) | (with_reducible exact Below.refl _ _) | (with_reducible refine Below.drew ?_) | (with_reducible refine below_drewN ?_ _) | (with_reducible refine Below.alloc ?_ (by (first | omega | (simp only [World.size_alloc, World.size_drew]; done) | (simp only [World.size_alloc, World.size_drew]; omega))) _) | (refine Below.trans ?_ (Below.mono (by with_reducible assumption) (by (first | omega | (simp only [World.size_alloc, World.size_drew]; done) | (simp only [World.size_alloc, World.size_drew]; omega))))))) : Below _ _ w2))
      replace HX := As.mk (HX.out.below (by (repeat (first | (with_reducible assumption) | (with_reducible exact Below.refl _ _) | (with_reducible refine Below.drew ?_) | (with_reducible refine below_drewN ?_ _) | (with_reducible refine Below.alloc ?_ (by (first | omega | (simp only [World.size_alloc, World.size_drew]; done) | (simp only [World.size_alloc, World.size_drew]; omega))) _) | (refine Below.trans ?_ (Below.mono (by with_reducible assumption) (by (first | omega | (simp only [World.size_alloc, World.size_drew]; done) | (simp only [World.size_alloc, World.size_drew]; omega))))))) : Below _ _ w2))
      replace HY := As.mk (HY.out.below (by (repeat (first | (with_reducible assumption) | (with_reducible exact Below.refl _ _) | (with_reducible refine Below.drew ?_) | (with_reducible refine below_drewN ?_ _) | (with_reducible refine Below.alloc ?_ (by (first | omega | (simp only [World.size_alloc, World.size_drew]; done) | (simp only [World.size_alloc, World.size_drew]; omega))) _) | (refine Below.trans ?_ (Below.mono (by with_reducible assumption) (by (first | omega | (simp only [World.size_alloc, World.size_drew]; done) | (simp only [World.size_alloc, World.size_drew]; omega))))))) : Below _ _ w2))
      replace hb := As.mk hb
      go_wp2
      go_ret
      exact ⟨rfl, hB.out⟩
    · --
      have hrm : (zn : Int).tmod ((l.length : Int) + 1) = ((zn % (l.length + 1) : Nat) : Int) := by
        rw [Int.tmod_eq_emod_of_nonneg (by omega)]; simp
      have hkm : zn % (l.length + 1) ≤ l.length := by have := Nat.mod_lt zn (show 0 < l.length + 1 by omega); omega
      obtain ⟨kk, hkk⟩ : ∃ kk, zn % (l.length + 1) = kk := ⟨_, rfl⟩
      rw [hkk] at hrm hkm
      replace hkk := As.mk hkk
      have hB := As.mk (Below.refl w.heap.size w)
      have HX := As.mk hb
      have HY := As.mk hl
      unfold maxLen at hcm hdm
      clear hb hl
      go_enter Try.func7, Try.ntmps7
      go_wp2_with fail
      refine Calls.mono (awake_calls _) ?_
      rintro e w1 ⟨rfl, hb⟩
      have hs := hb.size
      (try simp only [World.size_alloc, World.size_drew] at hs)
      replace hB := As.mk (belowNext hB.out (by (repeat (first | (with_reducible assumption) | (with_reducible exact Below.refl _ _) | (with_reducible refine Below.drew ?_) | (with_reducible refine below_drewN ?_ _) | (with_reducible refine Below.alloc ?_ (by (first | omega | (simp only [World.size_alloc, World.size_drew]; done) | (simp only [World.size_alloc, World.size_drew]; omega))) _) | (refine Below.trans ?_ (Below.mono (by with_reducible assumption) (by (first | omega | (simp only [World.size_alloc, World.size_drew]; done) | (simp only [World.size_alloc, World.size_drew]; omega))))))) : Below _ _ w1))
      replace HX := As.mk (HX.out.below (by (repeat (first | (with_reducible assumption) | (with_reducible exact Below.refl _ _) | (with_reducible refine Below.drew ?_) | (with_reducible refine below_drewN ?_ _) | (with_reducible refine Below.alloc ?_ (by (first | omega | (simp only [World.size_alloc, World.size_drew]; done) | (simp only [World.size_alloc, World.size_drew]; omega))) _) | (refine Below.trans ?_ (Below.mono (by with_reducible assumption) (by (first | omega | (simp only [World.size_alloc, World.size_drew]; done) | (simp only [World.size_alloc, World.size_drew]; omega))))))) : Below _ _ w1))
      replace HY := As.mk (HY.out.below (by (repeat (first | (with_reducible assumption) | (with_reducible exact Below.refl _ _) | (with_reducible refine Below.drew ?_) | (with_reducible refine below_drewN ?_ _) | (with_reducible refine Below.alloc ?_ (by (first | omega | (simp only [World.size_alloc, World.size_drew]; done) | (simp only [World.size_alloc, World.size_drew]; omega))) _) | (refine Below.trans ?_ (Below.mono (by with_reducible assumption) (by (first | omega | (simp only [World.size_alloc, World.size_drew]; done) | (simp only [World.size_alloc, World.size_drew]; omega))))))) : Below _ _ w1))
      replace hb := As.mk hb
      go_wp2_with fail
      refine Calls.mono (few_calls _ A B c d b l HX.out HY.out hc hd (by omega) (by omega) true (decide_eq_true (And.intro hf1 hf2)).symm) ?_
      rintro e w2 ⟨rfl, hb⟩
      have hs := hb.size
      (try simp only [World.size_alloc, World.size_drew] at hs)
      replace hB := As.mk (belowNext hB.out (by (repeat (first | (with_reducible assumption) | (with_reducible exact Below.refl _ _) | (with_reducible refine Below.drew ?_) | (with_reducible refine below_drewN ?_ _) | (with_reducible refine Below.alloc ?_ (by (first | omega | (simp only [World.size_alloc, World.size_drew]; done) | (simp only [World.size_alloc, World.size_drew]; omega))) _) | (refine Below.trans ?_ (Below.mono (by with_reducible assumption) (by (first | omega | (simp only [World.size_alloc, World.size_drew]; done) | (simp only [World.size_alloc, World.size_drew]; omega))))))) : Below _ _ w2))
      replace HX := As.mk (HX.out.below (by (repeat (first | (with_reducible assumption) | (with_reducible exact Below.refl _ _) | (with_reducible refine Below.drew ?_) | (with_reducible refine below_drewN ?_ _) | (with_reducible refine Below.alloc ?_ (by (first | omega | (simp only [World.size_alloc, World.size_drew]; done) | (simp only [World.size_alloc, World.size_drew]; omega))) _) | (refine Below.trans ?_ (Below.mono (by with_reducible assumption) (by (first | omega | (simp only [World.size_alloc, World.size_drew]; done) | (simp only [World.size_alloc, World.size_drew]; omega))))))) : Below _ _ w2))
      replace HY := As.mk (HY.out.below (by (repeat (first | (with_reducible assumption) | (with_reducible exact Below.refl _ _) | (with_reducible refine Below.drew ?_) | (with_reducible refine below_drewN ?_ _) | (with_reducible refine Below.alloc ?_ (by (first | omega | (simp only [World.size_alloc, World.size_drew]; done) | (simp only [World.size_alloc, World.size_drew]; omega))) _) | (refine Below.trans ?_ (Below.mono (by with_reducible assumption) (by (first | omega | (simp only [World.size_alloc, World.size_drew]; done) | (simp only [World.size_alloc, World.size_drew]; omega))))))) : Below _ _ w2))
      replace hb := As.mk hb
      have hb0 : 0 < b.length := List.length_pos_iff.2 hne
      obtain ⟨ad0, rfl, _⟩ := Byt.at_ HX.out hb0
      have hn0 : ((b.length : Int) == 0) = false := by simp; omega
      go_wp2_with fail
      refine Calls.mono (new_calls _ ad0 c b HX.out (by omega) hb0 hc) ?_
      rintro e w3 ⟨g, ad, cb, a, s, sm, rfl, hT, hb⟩; replace hT := As.mk hT
      have hs := hb.size
      (try simp only [World.size_alloc, World.size_drew] at hs)
      replace hB := As.mk (belowNext hB.out (by (repeat (first | (with_reducible assumption) | (with_reducible exact Below.refl _ _) | (with_reducible refine Below.drew ?_) | (with_reducible refine below_drewN ?_ _) | (with_reducible refine Below.alloc ?_ (by (first | omega | (simp only [World.size_alloc, World.size_drew]; done) | (simp only [World.size_alloc, World.size_drew]; omega))) _) | (refine Below.trans ?_ (Below.mono (by with_reducible assumption) (by (first | omega | (simp only [World.size_alloc, World.size_drew]; done) | (simp only [World.size_alloc, World.size_drew]; omega))))))) : Below _ _ w3))
      replace HX := As.mk (HX.out.below (by (repeat (first | (with_reducible assumption) | (with_reducible exact Below.refl _ _) | (with_reducible refine Below.drew ?_) | (with_reducible refine below_drewN ?_ _) | (with_reducible refine Below.alloc ?_ (by (first | omega | (simp only [World.size_alloc, World.size_drew]; done) | (simp only [World.size_alloc, World.size_drew]; omega))) _) | (refine Below.trans ?_ (Below.mono (by with_reducible assumption) (by (first | omega | (simp only [World.size_alloc, World.size_drew]; done) | (simp only [World.size_alloc, World.size_drew]; omega))))))) : Below _ _ w3))
      replace HY := As.mk (HY.out.below (by (repeat (first | (with_reducible assumption) | (with_reducible exact Below.refl _ _) | (with_reducible refine Below.drew ?_) | (with_reducible refine below_drewN ?_ _) | (with_reducible refine Below.alloc ?_ (by (first | omega | (simp only [World.size_alloc, World.size_drew]; done) | (simp only [World.size_alloc, World.size_drew]; omega))) _) | (refine Below.trans ?_ (Below.mono (by with_reducible assumption) (by (first | omega | (simp only [World.size_alloc, World.size_drew]; done) | (simp only [World.size_alloc, World.size_drew]; omega))))))) : Below _ _ w3))
      replace hb := As.mk hb
      go_wp2_with fail
      refine Calls.mono (scan_calls _ g b ad cb a s sm hT.out (by omega) B d l HY.out (by omega)) ?_
      intro e w4 h4; obtain ⟨A4, c4, rfl, hc4, hr4, hb⟩ := h4.row; replace hr4 := As.mk hr4; clear h4
      have hs := hb.size
      (try simp only [World.size_alloc, World.size_drew] at hs)
      replace hB := As.mk (belowNext hB.out (by (repeat (first | (with_reducible assumption) | (with_reducible exact Below.refl _ _) | (with_reducible refine Below.drew ?_) | (with_reducible refine below_drewN ?_ _) | (with_reducible refine Below.alloc ?_ (by (first | omega | (simp only [World.size_alloc, World.size_drew]; done) | (simp only [World.size_alloc, World.size_drew]; omega))) _) | (refine Below.trans ?_ (Below.mono (by with_reducible assumption) (by (first | omega | (simp only [World.size_alloc, World.size_drew]; done) | (simp only [World.size_alloc, World.size_drew]; omega))))))) : Below _ _ w4))
      replace HX := As.mk (HX.out.below (by (repeat (first | (with_reducible assumption) | (with_reducible exact Below.refl _ _) | (with_reducible refine Below.drew ?_) | (with_reducible refine below_drewN ?_ _) | (with_reducible refine Below.alloc ?_ (by (first | omega | (simp only [World.size_alloc, World.size_drew]; done) | (simp only [World.size_alloc, World.size_drew]; omega))) _) | (refine Below.trans ?_ (Below.mono (by with_reducible assumption) (by (first | omega | (simp only [World.size_alloc, World.size_drew]; done) | (simp only [World.size_alloc, World.size_drew]; omega))))))) : Below _ _ w4))
      replace HY := As.mk (HY.out.below (by (repeat (first | (with_reducible assumption) | (with_reducible exact Below.refl _ _) | (with_reducible refine Below.drew ?_) | (with_reducible refine below_drewN ?_ _) | (with_reducible refine Below.alloc ?_ (by (first | omega | (simp only [World.size_alloc, World.size_drew]; done) | (simp only [World.size_alloc, World.size_drew]; omega))) _) | (refine Below.trans ?_ (Below.mono (by with_reducible assumption) (by (first | omega | (simp only [World.size_alloc, World.size_drew]; done) | (simp only [World.size_alloc, World.size_drew]; omega))))))) : Below _ _ w4))
      replace hT := As.mk (hT.out.below (by (repeat (first | (with_reducible assumption) | (with_reducible exact Below.refl _ _) | (with_reducible refine Below.drew ?_) | (with_reducible refine below_drewN ?_ _) | (with_reducible refine Below.alloc ?_ (by (first | omega | (simp only [World.size_alloc, World.size_drew]; done) | (simp only [World.size_alloc, World.size_drew]; omega))) _) | (refine Below.trans ?_ (Below.mono (by with_reducible assumption) (by (first | omega | (simp only [World.size_alloc, World.size_drew]; done) | (simp only [World.size_alloc, World.size_drew]; omega))))))) : Below _ _ w4))
      replace hb := As.mk hb
      obtain ⟨R, hR⟩ : ∃ R, occFrom b l 0 = R := ⟨_, rfl⟩
      have hRl := occ_length b l 0
      have hFk := As.mk (occ_take (b := b) (l := l) hkm)
      rw [hR] at hc4 hr4 hRl hFk ⊢
      obtain ⟨rl, hrl⟩ : ∃ n, R.length = n := ⟨_, rfl⟩
      rw [hrl] at hc4 hRl ⊢
      replace hR := As.mk hR
      replace hrl := As.mk hrl
      go_wp2_with fail
      go_loopg [12, 14] (rl + 1) (fun gk v i wr => ∃ j : Nat, As (rl + 1 ≤ gk + j) ∧ i = .int .i64 j ∧ j ≤ rl ∧ As (OwnPrs wr w4.heap.size v ((R.take j).filter fun p => decide (p.2 ≤ (kk : Int)))) ∧ As (Below w4.heap.size w4 wr))
      case atStart => exact ⟨0, ⟨by omega⟩, rfl, by omega, ⟨World.ownsRow_nil _ _ _ _⟩, ⟨Below.refl _ _⟩⟩
      case round =>
        obtain ⟨j, hgk, rfl, hj, hown, hbel⟩ := hrel
        have hBr := As.mk (belowNext hB.out hbel.out)
        have hrr := As.mk (Row.below hr4.out hbel.out)
        by_cases hlt : j < rl
        · obtain ⟨gp, rfl⟩ : ∃ gp, gk = gp + 1 := ⟨gk - 1, by have := hgk.out; omega⟩
          obtain ⟨ad4, rfl, a1, a2⟩ := Prs.at_ hrr.out (i := j) (by rw [hrl.out]; exact hlt)
          have hsuc : R.take (j + 1) = R.take j ++ [R.getD j (0, 0)] := by
            rw [List.take_succ_eq_append_getElem (by rw [hrl.out]; exact hlt), List.getD_eq_getElem?_getD, List.getElem?_eq_getElem (by rw [hrl.out]; exact hlt)]; rfl
          generalize R.getD j (0, 0) = p at *
          obtain ⟨s0, e0⟩ := p
          have hsuc2 := As.mk (congrArg (List.filter fun p : Pr => decide (p.2 ≤ (kk : Int))) hsuc)
          have haccl : ((R.take j).filter fun p : Pr => decide (p.2 ≤ (kk : Int))).length ≤ rl := Nat.le_trans (List.length_filter_le _ _) (by rw [List.length_take]; omega)
          rw [List.filter_append] at hsuc2
          generalize hacc : (R.take j).filter (fun p : Pr => decide (p.2 ≤ (kk : Int))) = acc at *
          clear hsuc hacc
          by_cases hek : e0 ≤ (kk : Int)
          · rw [List.filter_cons_of_pos (by simpa using hek), List.filter_nil] at hsuc2
            go_wp2_with (at_builtin
                         refine wpList_app1 _ rfl (.tmp 55) (.tmp 60) 30 rfl w4.heap.size 35 _ 2 16 Try.underlying30 info_pr rfl (by decide) _ acc.length (prCells acc) rfl hown.out [.int .i64 s0, .int .i64 e0] rfl (by simp [Value.oneCell']) _ rfl (by simp) (by omega) (by decide) hbel.out.size ?_
                         intro v' w5 hown5 hk5 hat5 hb5
                         replace hown5 := As.mk hown5
                         replace hk5 := As.mk hk5
                         replace hb5 := As.mk hb5)
            go_roundg gp
            case rel => exact ⟨j + 1, ⟨by have := hgk.out; omega⟩, (by first | rfl | go_num | (congr 1; omega)), by omega, ⟨by rw [hsuc2.out]; exact ownPrs_snoc hown5.out⟩, ⟨hbel.out.trans hb5.out⟩⟩
            case measure => omega
          · have hek' : decide (e0 ≤ (kk : Int)) = false := by simpa using hek
            rw [List.filter_cons_of_neg (by simpa using hek), List.filter_nil, List.append_nil] at hsuc2
            go_wp2
            go_roundg gp
            case rel => exact ⟨j + 1, ⟨by have := hgk.out; omega⟩, (by first | rfl | go_num | (congr 1; omega)), by omega, ⟨by rw [hsuc2.out]; exact hown.out⟩, hbel⟩
            case measure => omega
        · obtain rfl : j = rl := by omega
          rw [← hrl.out, List.take_length, ← hFk.out] at hown
          have hfl : (l.take kk).length = kk := by rw [List.length_take]; omega
          have cs := As.mk (scan_calls wr g b ad cb a s sm (hT.out.below hbel.out) (by omega) B d (l.take kk) (Byt.take (Row.below HY.out hbel.out) kk) (by omega))
          rw [hfl] at cs
          have hrl2 := As.mk hRl
          go_wp2_with fail
          refine Calls.mono cs.out ?_
          intro e w6 h6
          obtain ⟨A6, c6, rfl, hc6, hr6, hb6⟩ := h6.row
          have hW : ((R.filter fun p : Pr => decide (p.2 ≤ (kk : Int))).length) ≤ j := by rw [← hrl.out]; exact List.length_filter_le _ _
          have hFk2 := hFk.out
          obtain ⟨Q, hQ⟩ : ∃ Q, occFrom b (l.take kk) 0 = Q := ⟨_, rfl⟩
          rw [hQ] at hown hr6 hc6 hFk2 ⊢
          rw [← hFk2] at hW
          obtain ⟨A7, c7, rfl, hc7, hr7⟩ := OwnPrs.row hown.out
          have csm := As.mk (same_calls A6 A7 c6 c7 Q Q w6 hr6 (hr7.below hb6) (by omega) (by omega))
          rw [decide_eq_true rfl] at csm
          have hB6 := As.mk (belowNext hBr.out hb6)
          clear h6 hQ hFk2 hr7 hr6 hown hb6
          go_wp2_with (go_at_call 15; refine Calls.mono csm.out ?_; rintro e w' ⟨rfl, nq, rfl⟩)
          go_ret
          exact ⟨rfl, below_drewN hB6.out _⟩
  · --
    have hB := As.mk (Below.refl w.heap.size w)
    have HX := As.mk hb
    have HY := As.mk hl
    unfold maxLen at hcm hdm
    clear hb hl
    go_enter Try.func7, Try.ntmps7
    go_wp2_with fail
    refine Calls.mono (awake_calls _) ?_
    rintro e w1 ⟨rfl, hb⟩
    have hs := hb.size
    (try simp only [World.size_alloc, World.size_drew] at hs)
    replace hB := As.mk (belowNext hB.out (by (repeat (first | (with_reducible assumption) | (with_reducible exact Below.refl _ _) | (with_reducible refine Below.drew ?_) | (with_reducible refine below_drewN ?_ _) | (with_reducible refine Below.alloc ?_ (by (first | omega | (simp only [World.size_alloc, World.size_drew]; done) | (simp only [World.size_alloc, World.size_drew]; omega))) _) | (refine Below.trans ?_ (Below.mono (by with_reducible assumption) (by (first | omega | (simp only [World.size_alloc, World.size_drew]; done) | (simp only [World.size_alloc, World.size_drew]; omega))))))) : Below _ _ w1))
    replace HX := As.mk (HX.out.below (by (repeat (first | (with_reducible assumption) | (with_reducible exact Below.refl _ _) | (with_reducible refine Below.drew ?_) | (with_reducible refine below_drewN ?_ _) | (with_reducible refine Below.alloc ?_ (by (first | omega | (simp only [World.size_alloc, World.size_drew]; done) | (simp only [World.size_alloc, World.size_drew]; omega))) _) | (refine Below.trans ?_ (Below.mono (by with_reducible assumption) (by (first | omega | (simp only [World.size_alloc, World.size_drew]; done) | (simp only [World.size_alloc, World.size_drew]; omega))))))) : Below _ _ w1))
    replace HY := As.mk (HY.out.below (by (repeat (first | (with_reducible assumption) | (with_reducible exact Below.refl _ _) | (with_reducible refine Below.drew ?_) | (with_reducible refine below_drewN ?_ _) | (with_reducible refine Below.alloc ?_ (by (first | omega | (simp only [World.size_alloc, World.size_drew]; done) | (simp only [World.size_alloc, World.size_drew]; omega))) _) | (refine Below.trans ?_ (Below.mono (by with_reducible assumption) (by (first | omega | (simp only [World.size_alloc, World.size_drew]; done) | (simp only [World.size_alloc, World.size_drew]; omega))))))) : Below _ _ w1))
    replace hb := As.mk hb
    go_wp2_with fail
    refine Calls.mono (few_calls _ A B c d b l HX.out HY.out hc hd (by omega) (by omega) false (decide_eq_false hf).symm) ?_
    rintro e w2 ⟨rfl, hb⟩
    have hs := hb.size
    (try simp only [World.size_alloc, World.size_drew] at hs)
    replace hB := As.mk (belowNext hB.out (by (repeat (first | (with_reducible assumption) | (with_reducible exact Below.refl _ _) | (with_reducible refine Below.drew ?_) | (with_reducible refine below_drewN ?_ _) | (with_reducible refine Below.alloc ?_ (by (first | omega | (simp only [World.size_alloc, World.size_drew]; done) | (simp only [World.size_alloc, World.size_drew]; omega))) _) | (refine Below.trans ?_ (Below.mono (by with_reducible assumption) (by (first | omega | (simp only [World.size_alloc, World.size_drew]; done) | (simp only [World.size_alloc, World.size_drew]; omega))))))) : Below _ _ w2))
    replace HX := As.mk (HX.out.below (by (repeat (first | (with_reducible assumption) | (with_reducible exact Below.refl _ _) | (with_reducible refine Below.drew ?_) | (with_reducible refine below_drewN ?_ _) | (with_reducible refine Below.alloc ?_ (by (first | omega | (simp only [World.size_alloc, World.size_drew]; done) | (simp only [World.size_alloc, World.size_drew]; omega))) _) | (refine Below.trans ?_ (Below.mono (by with_reducible assumption) (by (first | omega | (simp only [World.size_alloc, World.size_drew]; done) | (simp only [World.size_alloc, World.size_drew]; omega))))))) : Below _ _ w2))
    replace HY := As.mk (HY.out.below (by (repeat (first | (with_reducible assumption) | (with_reducible exact Below.refl _ _) | (with_reducible refine Below.drew ?_) | (with_reducible refine below_drewN ?_ _) | (with_reducible refine Below.alloc ?_ (by (first | omega | (simp only [World.size_alloc, World.size_drew]; done) | (simp only [World.size_alloc, World.size_drew]; omega))) _) | (refine Below.trans ?_ (Below.mono (by with_reducible assumption) (by (first | omega | (simp only [World.size_alloc, World.size_drew]; done) | (simp only [World.size_alloc, World.size_drew]; omega))))))) : Below _ _ w2))
    replace hb := As.mk hb
    go_wp2
    go_ret
    exact ⟨rfl, hB.out⟩
end Go.Proofs.Ytpkapgjpnkcffaa
