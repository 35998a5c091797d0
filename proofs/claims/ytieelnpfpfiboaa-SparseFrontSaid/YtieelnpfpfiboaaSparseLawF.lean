/- The walk of the law SparseFront. -/
import Derived.Test.YtieelnpfpfiboaaM6
import Derived.Test.YtieelnpfpfiboaaM5
set_option linter.unusedVariables false
set_option linter.unusedSimpArgs false
namespace Go.Proofs.Ytieelnpfpfiboaa
open Go.RowKit Go.Maps Seine.Trie Seine.Links Seine.Sparse
open Seine.Sort (occ occ_take occTo_len)

set_option maxRecDepth 100000 in
set_option maxHeartbeats 3200000 in
theorem front_walk (A : Option Addr) (c : Nat) (l : List Txt) (B : Option Addr) (d : Nat) (L : Txt) (z tz : Int) (w : World) (hx : Txts w A l) (hc : l.length ≤ c) (hr : c * 24 ≤ 140737488351232) (hm : ∀ x ∈ l, x.length ≤ maxLen)
    (h1 : Byt w B L) (hd : L.length ≤ d) (hdm : d ≤ maxLen) (hz : (Lit.int .u8 z).wf = true) (htz : (Lit.int .u8 tz).wf = true) :
    Calls Try.prog 5 #[.slice A l.length c, .slice B L.length d, .int .u8 z, .int .u8 tz] w fun e w' => e = .returned (.bool true) ∧ Below w.heap.size w w' := by
  have hu25 := Try.underlying45
  have hzb : 0 ≤ z ∧ z ≤ 255 := by simp [Lit.wf, IntKind.min, IntKind.max, IntKind.signed, IntKind.bits] at hz; omega
  have htb : 0 ≤ tz ∧ tz ≤ 255 := by simp [Lit.wf, IntKind.min, IntKind.max, IntKind.signed, IntKind.bits] at htz; omega
  obtain ⟨hz0, hz1⟩ := hzb
  obtain ⟨ht0, ht1⟩ := htb
  obtain ⟨zn, rfl⟩ := Int.eq_ofNat_of_zero_le hz0
  obtain ⟨tn, rfl⟩ := Int.eq_ofNat_of_zero_le ht0
  clear hz htz hz0 ht0
  have HL := As.mk h1
  clear h1
  unfold maxLen at hdm
  by_cases hf : Few l
  · --
    have hB := As.mk (Below.refl w.heap.size w)
    have HX := As.mk hx
    have HM := As.mk hm
    clear hx hm
    go_enter Try.func5, Try.ntmps5
    go_wp2_with fail
    refine Calls.mono (awake_calls _) ?_
    rintro e w1 ⟨rfl, hb⟩
    have hs := hb.size
    (try simp only [World.size_alloc, World.size_drew] at hs)
    replace hB := As.mk (belowNext hB.out (by (repeat (first | (with_reducible assumption) | (with_reducible exact Below.refl _ _) | (with_reducible refine Below.drew ?_) | (with_reducible refine below_drewN ?_ _) | (with_reducible refine Below.alloc ?_ (by (first | omega | (simp only [World.size_alloc, World.size_drew]; done) | (simp only [World.size_alloc, World.size_drew]; omega))) _) | (refine Below.trans ?_ (Below.mono (by with_reducible assumption) (by (first | omega | (simp only [World.size_alloc, World.size_drew]; done) | (simp only [World.size_alloc, World.size_drew]; omega))))))) : Below _ _ w1))
    replace HX := As.mk (HX.out.below (by (repeat (first | (with_reducible assumption) | (with_reducible exact Below.refl _ _) | (with_reducible refine Below.drew ?_) | (with_reducible refine below_drewN ?_ _) | (with_reducible refine Below.alloc ?_ (by (first | omega | (simp only [World.size_alloc, World.size_drew]; done) | (simp only [World.size_alloc, World.size_drew]; omega))) _) | (refine Below.trans ?_ (Below.mono (by with_reducible assumption) (by (first | omega | (simp only [World.size_alloc, World.size_drew]; done) | (simp only [World.size_alloc, World.size_drew]; omega))))))) : Below _ _ w1))
    replace HL := As.mk (HL.out.below (by (repeat (first | (with_reducible assumption) | (with_reducible exact Below.refl _ _) | (with_reducible refine Below.drew ?_) | (with_reducible refine below_drewN ?_ _) | (with_reducible refine Below.alloc ?_ (by (first | omega | (simp only [World.size_alloc, World.size_drew]; done) | (simp only [World.size_alloc, World.size_drew]; omega))) _) | (refine Below.trans ?_ (Below.mono (by with_reducible assumption) (by (first | omega | (simp only [World.size_alloc, World.size_drew]; done) | (simp only [World.size_alloc, World.size_drew]; omega))))))) : Below _ _ w1))
    replace hb := As.mk hb
    go_wp2_with fail
    refine Calls.mono (texts_calls _ A c l HX.out hc hr HM.out) ?_
    rintro e w2 ⟨⟨A2, c2, b, he, hb0, hS⟩, hb⟩; clear hr
    have hs := hb.size
    (try simp only [World.size_alloc, World.size_drew] at hs)
    replace hB := As.mk (belowNext hB.out (by (repeat (first | (with_reducible assumption) | (with_reducible exact Below.refl _ _) | (with_reducible refine Below.drew ?_) | (with_reducible refine below_drewN ?_ _) | (with_reducible refine Below.alloc ?_ (by (first | omega | (simp only [World.size_alloc, World.size_drew]; done) | (simp only [World.size_alloc, World.size_drew]; omega))) _) | (refine Below.trans ?_ (Below.mono (by with_reducible assumption) (by (first | omega | (simp only [World.size_alloc, World.size_drew]; done) | (simp only [World.size_alloc, World.size_drew]; omega))))))) : Below _ _ w2))
    replace HX := As.mk (HX.out.below (by (repeat (first | (with_reducible assumption) | (with_reducible exact Below.refl _ _) | (with_reducible refine Below.drew ?_) | (with_reducible refine below_drewN ?_ _) | (with_reducible refine Below.alloc ?_ (by (first | omega | (simp only [World.size_alloc, World.size_drew]; done) | (simp only [World.size_alloc, World.size_drew]; omega))) _) | (refine Below.trans ?_ (Below.mono (by with_reducible assumption) (by (first | omega | (simp only [World.size_alloc, World.size_drew]; done) | (simp only [World.size_alloc, World.size_drew]; omega))))))) : Below _ _ w2))
    replace HL := As.mk (HL.out.below (by (repeat (first | (with_reducible assumption) | (with_reducible exact Below.refl _ _) | (with_reducible refine Below.drew ?_) | (with_reducible refine below_drewN ?_ _) | (with_reducible refine Below.alloc ?_ (by (first | omega | (simp only [World.size_alloc, World.size_drew]; done) | (simp only [World.size_alloc, World.size_drew]; omega))) _) | (refine Below.trans ?_ (Below.mono (by with_reducible assumption) (by (first | omega | (simp only [World.size_alloc, World.size_drew]; done) | (simp only [World.size_alloc, World.size_drew]; omega))))))) : Below _ _ w2))
    replace hb := As.mk hb
    obtain rfl : b = true := by rw [hb0]; exact decide_eq_true hf.short
    have hd12 : decide (l.length ≤ 12) = true := decide_eq_true hf.len
    rw [Bool.true_and, hd12, if_pos rfl] at he
    subst he
    obtain ⟨hc2, hS2⟩ := hS rfl
    clear hS
    have hS := As.mk hS2
    clear hS2 hb0 hd12
    have htot := As.mk hf.tot
    have hl12 := hf.len
    have hF := As.mk hf
    clear hf
    go_wp2_with fail
    refine Calls.mono (lfew_calls _ B d L HL.out hd (by omega)) ?_
    rintro e w3 ⟨he, hb⟩; subst he
    have hs := hb.size
    (try simp only [World.size_alloc, World.size_drew] at hs)
    replace hB := As.mk (belowNext hB.out (by (repeat (first | (with_reducible assumption) | (with_reducible exact Below.refl _ _) | (with_reducible refine Below.drew ?_) | (with_reducible refine below_drewN ?_ _) | (with_reducible refine Below.alloc ?_ (by (first | omega | (simp only [World.size_alloc, World.size_drew]; done) | (simp only [World.size_alloc, World.size_drew]; omega))) _) | (refine Below.trans ?_ (Below.mono (by with_reducible assumption) (by (first | omega | (simp only [World.size_alloc, World.size_drew]; done) | (simp only [World.size_alloc, World.size_drew]; omega))))))) : Below _ _ w3))
    replace HX := As.mk (HX.out.below (by (repeat (first | (with_reducible assumption) | (with_reducible exact Below.refl _ _) | (with_reducible refine Below.drew ?_) | (with_reducible refine below_drewN ?_ _) | (with_reducible refine Below.alloc ?_ (by (first | omega | (simp only [World.size_alloc, World.size_drew]; done) | (simp only [World.size_alloc, World.size_drew]; omega))) _) | (refine Below.trans ?_ (Below.mono (by with_reducible assumption) (by (first | omega | (simp only [World.size_alloc, World.size_drew]; done) | (simp only [World.size_alloc, World.size_drew]; omega))))))) : Below _ _ w3))
    replace HL := As.mk (HL.out.below (by (repeat (first | (with_reducible assumption) | (with_reducible exact Below.refl _ _) | (with_reducible refine Below.drew ?_) | (with_reducible refine below_drewN ?_ _) | (with_reducible refine Below.alloc ?_ (by (first | omega | (simp only [World.size_alloc, World.size_drew]; done) | (simp only [World.size_alloc, World.size_drew]; omega))) _) | (refine Below.trans ?_ (Below.mono (by with_reducible assumption) (by (first | omega | (simp only [World.size_alloc, World.size_drew]; done) | (simp only [World.size_alloc, World.size_drew]; omega))))))) : Below _ _ w3))
    replace hS := As.mk (hS.out.below (by (repeat (first | (with_reducible assumption) | (with_reducible exact Below.refl _ _) | (with_reducible refine Below.drew ?_) | (with_reducible refine below_drewN ?_ _) | (with_reducible refine Below.alloc ?_ (by (first | omega | (simp only [World.size_alloc, World.size_drew]; done) | (simp only [World.size_alloc, World.size_drew]; omega))) _) | (refine Below.trans ?_ (Below.mono (by with_reducible assumption) (by (first | omega | (simp only [World.size_alloc, World.size_drew]; done) | (simp only [World.size_alloc, World.size_drew]; omega))))))) : Below _ _ w3))
    replace hb := As.mk hb
    by_cases hg : L.length ≤ 120
    · rw [decide_eq_true hg]
      by_cases hl0 : l.length = 0
      · have hl0' : ((l.length : Int) == 0) = true := by rw [hl0]; rfl
        go_wp2
        go_ret
        exact ⟨rfl, hB.out⟩
      · have hl0' : ((l.length : Int) == 0) = false := by rw [beq_eq_false_iff_ne]; omega
        have hl1 : 0 < l.length := Nat.pos_of_ne_zero hl0
        have hrm : (zn : Int).tmod ((L.length : Int) + 1) = ((zn % (L.length + 1) : Nat) : Int) := by
          rw [Int.tmod_eq_emod_of_nonneg (by omega)]; simp
        have hkm : zn % (L.length + 1) ≤ L.length := by have := Nat.mod_lt zn (show 0 < L.length + 1 by omega); omega
        obtain ⟨kk, hkk⟩ : ∃ kk, zn % (L.length + 1) = kk := ⟨_, rfl⟩
        rw [hkk] at hrm hkm
        clear hkk
        go_wp2_with fail
        refine Calls.mono (snew_calls _ A c l HX.out (by have := htot.out; omega) (by omega)) ?_
        rintro e w4 ⟨g, rfl, hA, hb⟩; replace hA := As.mk hA
        have hs := hb.size
        (try simp only [World.size_alloc, World.size_drew] at hs)
        replace hB := As.mk (belowNext hB.out (by (repeat (first | (with_reducible assumption) | (with_reducible exact Below.refl _ _) | (with_reducible refine Below.drew ?_) | (with_reducible refine below_drewN ?_ _) | (with_reducible refine Below.alloc ?_ (by (first | omega | (simp only [World.size_alloc, World.size_drew]; done) | (simp only [World.size_alloc, World.size_drew]; omega))) _) | (refine Below.trans ?_ (Below.mono (by with_reducible assumption) (by (first | omega | (simp only [World.size_alloc, World.size_drew]; done) | (simp only [World.size_alloc, World.size_drew]; omega))))))) : Below _ _ w4))
        replace HX := As.mk (HX.out.below (by (repeat (first | (with_reducible assumption) | (with_reducible exact Below.refl _ _) | (with_reducible refine Below.drew ?_) | (with_reducible refine below_drewN ?_ _) | (with_reducible refine Below.alloc ?_ (by (first | omega | (simp only [World.size_alloc, World.size_drew]; done) | (simp only [World.size_alloc, World.size_drew]; omega))) _) | (refine Below.trans ?_ (Below.mono (by with_reducible assumption) (by (first | omega | (simp only [World.size_alloc, World.size_drew]; done) | (simp only [World.size_alloc, World.size_drew]; omega))))))) : Below _ _ w4))
        replace HL := As.mk (HL.out.below (by (repeat (first | (with_reducible assumption) | (with_reducible exact Below.refl _ _) | (with_reducible refine Below.drew ?_) | (with_reducible refine below_drewN ?_ _) | (with_reducible refine Below.alloc ?_ (by (first | omega | (simp only [World.size_alloc, World.size_drew]; done) | (simp only [World.size_alloc, World.size_drew]; omega))) _) | (refine Below.trans ?_ (Below.mono (by with_reducible assumption) (by (first | omega | (simp only [World.size_alloc, World.size_drew]; done) | (simp only [World.size_alloc, World.size_drew]; omega))))))) : Below _ _ w4))
        replace hb := As.mk hb
        go_wp2_with fail
        refine Calls.mono (fscan0_calls _ g l hF.out hA.out B d L HL.out (by omega)) ?_
        intro e w5 h5; obtain ⟨A5, c5, rfl, hc5, hr5, hb⟩ := h5.row; replace hr5 := As.mk hr5; clear h5
        have hs := hb.size
        (try simp only [World.size_alloc, World.size_drew] at hs)
        replace hB := As.mk (belowNext hB.out (by (repeat (first | (with_reducible assumption) | (with_reducible exact Below.refl _ _) | (with_reducible refine Below.drew ?_) | (with_reducible refine below_drewN ?_ _) | (with_reducible refine Below.alloc ?_ (by (first | omega | (simp only [World.size_alloc, World.size_drew]; done) | (simp only [World.size_alloc, World.size_drew]; omega))) _) | (refine Below.trans ?_ (Below.mono (by with_reducible assumption) (by (first | omega | (simp only [World.size_alloc, World.size_drew]; done) | (simp only [World.size_alloc, World.size_drew]; omega))))))) : Below _ _ w5))
        replace HX := As.mk (HX.out.below (by (repeat (first | (with_reducible assumption) | (with_reducible exact Below.refl _ _) | (with_reducible refine Below.drew ?_) | (with_reducible refine below_drewN ?_ _) | (with_reducible refine Below.alloc ?_ (by (first | omega | (simp only [World.size_alloc, World.size_drew]; done) | (simp only [World.size_alloc, World.size_drew]; omega))) _) | (refine Below.trans ?_ (Below.mono (by with_reducible assumption) (by (first | omega | (simp only [World.size_alloc, World.size_drew]; done) | (simp only [World.size_alloc, World.size_drew]; omega))))))) : Below _ _ w5))
        replace HL := As.mk (HL.out.below (by (repeat (first | (with_reducible assumption) | (with_reducible exact Below.refl _ _) | (with_reducible refine Below.drew ?_) | (with_reducible refine below_drewN ?_ _) | (with_reducible refine Below.alloc ?_ (by (first | omega | (simp only [World.size_alloc, World.size_drew]; done) | (simp only [World.size_alloc, World.size_drew]; omega))) _) | (refine Below.trans ?_ (Below.mono (by with_reducible assumption) (by (first | omega | (simp only [World.size_alloc, World.size_drew]; done) | (simp only [World.size_alloc, World.size_drew]; omega))))))) : Below _ _ w5))
        replace hA := As.mk (hA.out.below (by (repeat (first | (with_reducible assumption) | (with_reducible exact Below.refl _ _) | (with_reducible refine Below.drew ?_) | (with_reducible refine below_drewN ?_ _) | (with_reducible refine Below.alloc ?_ (by (first | omega | (simp only [World.size_alloc, World.size_drew]; done) | (simp only [World.size_alloc, World.size_drew]; omega))) _) | (refine Below.trans ?_ (Below.mono (by with_reducible assumption) (by (first | omega | (simp only [World.size_alloc, World.size_drew]; done) | (simp only [World.size_alloc, World.size_drew]; omega))))))) : Below _ _ w5))
        replace hb := As.mk hb
        obtain ⟨R, hR⟩ : ∃ R, occ l L = R := ⟨_, rfl⟩
        have hRl := occTo_len l L L.length
        have hRl2 : L.length * L.length ≤ 120 * 120 := Nat.mul_le_mul hg hg
        have hRl3 : R.length ≤ 14400 := by rw [← hR]; unfold occ; omega
        have hFk := As.mk (occ_take l L kk hkm)
        rw [hR] at hc5 hr5 hFk ⊢
        obtain ⟨rl, hrl⟩ : ∃ n, R.length = n := ⟨_, rfl⟩
        rw [hrl] at hc5 hRl3 ⊢
        replace hR := As.mk hR
        replace hrl := As.mk hrl
        clear hRl hRl2 hS
        go_wp2_with fail
        go_loopg [16, 17] (rl + 1) (fun gk v i wr => ∃ j : Nat, As (rl + 1 ≤ gk + j) ∧ i = .int .i64 j ∧ j ≤ rl ∧ As (OwnPrs wr w5.heap.size v ((R.take j).filter fun p => decide (p.2 ≤ (kk : Int)))) ∧ As (Below w5.heap.size w5 wr))
        case atStart => exact ⟨0, ⟨by omega⟩, rfl, by omega, ⟨World.ownsRow_nil _ _ _ _⟩, ⟨Below.refl _ _⟩⟩
        case round =>
          obtain ⟨j, hgk, rfl, hj, hown, hbel⟩ := hrel
          have hBr := As.mk (belowNext hB.out hbel.out)
          have hrr := As.mk (Row.below hr5.out hbel.out)
          by_cases hlt : j < rl
          · obtain ⟨gp, rfl⟩ : ∃ gp, gk = gp + 1 := ⟨gk - 1, by have := hgk.out; omega⟩
            obtain ⟨ad4, rfl, a1, a2⟩ := Prs.at_ hrr.out (i := j) (by rw [hrl.out]; exact hlt)
            have hsuc : R.take (j + 1) = R.take j ++ [R.getD j (0, 0)] := by
              rw [List.take_succ_eq_append_getElem (by rw [hrl.out]; exact hlt), List.getD_eq_getElem?_getD, List.getElem?_eq_getElem (by rw [hrl.out]; exact hlt)]; rfl
            generalize R.getD j (0, 0) = p at *
            obtain ⟨s0, e0⟩ := p
            have hsuc2 := As.mk (congrArg (List.filter fun p : Pr => decide (p.2 ≤ (kk : Int))) hsuc)
            have haccl : ((R.take j).filter fun p : Pr => decide (p.2 ≤ (kk : Int))).length ≤ rl := Nat.le_trans (List.length_filter_le _ _) (by rw [List.length_take]; omega)
            rw [List.filter_append] at hsuc2
            generalize hacc : (R.take j).filter (fun p : Pr => decide (p.2 ≤ (kk : Int))) = acc at *
            clear hsuc hacc
            by_cases hek : e0 ≤ (kk : Int)
            · rw [List.filter_cons_of_pos (by simpa using hek), List.filter_nil] at hsuc2
              go_wp2_with (at_builtin
                           refine wpList_app1 _ rfl (.tmp 66) (.tmp 71) 33 rfl w5.heap.size 45 _ 2 16 Try.underlying33 info_pr rfl (by decide) _ acc.length (prCells acc) rfl hown.out [.int .i64 s0, .int .i64 e0] rfl (by simp [Value.oneCell']) _ rfl (by simp) (by omega) (by decide) hbel.out.size ?_
                           intro v' w6 hown6 hk6 hat6 hb6
                           replace hown6 := As.mk hown6
                           replace hk6 := As.mk hk6
                           replace hb6 := As.mk hb6)
              go_roundg gp
              case rel => exact ⟨j + 1, ⟨by have := hgk.out; omega⟩, (by first | rfl | go_num | (congr 1; omega)), by omega, ⟨by rw [hsuc2.out]; exact ownPrs_snoc hown6.out⟩, ⟨hbel.out.trans hb6.out⟩⟩
              case measure => omega
            · have hek' : decide (e0 ≤ (kk : Int)) = false := by simpa using hek
              rw [List.filter_cons_of_neg (by simpa using hek), List.filter_nil, List.append_nil] at hsuc2
              go_wp2
              go_roundg gp
              case rel => exact ⟨j + 1, ⟨by have := hgk.out; omega⟩, (by first | rfl | go_num | (congr 1; omega)), by omega, ⟨by rw [hsuc2.out]; exact hown.out⟩, hbel⟩
              case measure => omega
          · obtain rfl : j = rl := by omega
            rw [← hrl.out, List.take_length, ← hFk.out] at hown
            obtain ⟨Q, hQ⟩ : ∃ Q, occ l (L.take kk) = Q := ⟨_, rfl⟩
            have hW : Q.length ≤ j := by rw [← hQ, hFk.out, ← hrl.out]; exact List.length_filter_le _ _
            rw [hQ] at hown
            replace hQ := As.mk hQ
            obtain ⟨A7, c7, hv7, hc7, hr7⟩ := OwnPrs.row hown.out
            replace hr7 := As.mk hr7
            subst hv7
            have hAr := As.mk (hA.out.below hbel.out)
            have HXr := As.mk (HX.out.below hbel.out)
            have HLr := As.mk (Row.below HL.out hbel.out)
            clear hFk hown hB hA HX HL hr5
            generalize wr = wo at *
            go_wp2_with fail
            go_loopg [18, 19] (l.length + 1) (fun gk v i wq => ∃ m : Nat, As (l.length + 1 ≤ gk + m) ∧ i = .int .i64 m ∧ m ≤ l.length ∧ As (OwnTx wo wo.heap.size wq v (turned l tn m)) ∧ As (Below wo.heap.size wo wq))
            case atStart => exact ⟨0, ⟨by omega⟩, rfl, by omega, ⟨OwnTx.nil _ _ _⟩, ⟨Below.refl _ _⟩⟩
            case round =>
              obtain ⟨m, hgm, rfl, hm, hot, hbq⟩ := hrel
              have HXq := As.mk (HXr.out.below hbq.out)
              by_cases hlm : m < l.length
              · obtain ⟨gp, rfl⟩ : ∃ gp, gk = gp + 1 := ⟨gk - 1, by have := hgm.out; omega⟩
                obtain ⟨vs, hvl, hov, hvb⟩ := hot.out
                have hix : (m + tn) % l.length < l.length := Nat.mod_lt _ hl1
                have hmd : ((m : Int) + (tn : Int)).tmod (l.length : Int) = (((m + tn) % l.length : Nat) : Int) := by
                  rw [Int.tmod_eq_emod_of_nonneg (by omega)]; simp
                obtain ⟨ad, Ax, cx, rfl, hcl, hxc, hxb⟩ := HXq.out.at_ hix
                obtain ⟨ad2, Ay, cy, e2, hcl2, _, hxb2⟩ := HXr.out.at_ hix
                injection e2 with e2
                subst e2
                have hsame := (hbq.out.cell (World.block_lt_of_cell? wo _ hcl2)).trans hcl2
                rw [hcl] at hsame
                injection hsame with hsame
                injection hsame with e3 e4 e5
                subst e3
                subst e5
                clear hcl2 e4
                have hts := As.mk (turned_succ l tn m)
                have htl := turned_length l tn m
                obtain ⟨x, hxx⟩ : ∃ x, l.getD ((m + tn) % l.length) [] = x := ⟨_, rfl⟩
                rw [hxx] at hcl hxc hxb2 hts
                obtain ⟨ix, hixx⟩ : ∃ i, (m + tn) % l.length = i := ⟨_, rfl⟩
                rw [hixx] at hix hmd hcl
                rw [htl] at hvl hov
                have hov' := As.mk hov
                have hvb' := As.mk hvb
                have hxb2' := As.mk hxb2
                have hl12' : l.length ≤ 12 := hl12
                clear hvb hxb2 hxb hov hxx hixx hot HXq
                have hmt : (m : Int) + (tn : Int) ≤ 1000 := by omega
                go_wp2_with (at_builtin
                             refine wpList_app1 _ rfl (.tmp 79) (.tmp 90) 22 rfl wo.heap.size 23 _ 1 24 Try.underlying22 info_bs rfl (by decide) _ m vs rfl hov'.out [.slice Ax x.length cx] rfl (by simp [Value.oneCell']) _ rfl (by simp) (by omega) (by decide) hbq.out.size ?_
                             intro v' w6 hown6 hk6 hat6 hb6
                             replace hown6 := As.mk hown6
                             replace hk6 := As.mk hk6
                             replace hb6 := As.mk hb6)
                go_roundg gp
                case rel => exact ⟨m + 1, ⟨by have := hgm.out; omega⟩, (by first | rfl | go_num | (congr 1; omega)), by omega, ⟨by rw [hts.out]; exact OwnTx.snoc (by rw [hvl, htl]) hvb'.out hxc hxb2'.out (by rw [htl]; exact hown6.out)⟩, ⟨hbq.out.trans hb6.out⟩⟩
                case measure => omega
              · obtain rfl : m = l.length := by omega
                obtain ⟨vs, hvl, hov, hvb⟩ := hot.out
                obtain ⟨ad, Ax, cx, rfl, hcl, hxc, hxb⟩ := HXr.out.at_ hl1
                have hclq := (hbq.out.cell (World.block_lt_of_cell? wo _ hcl)).trans hcl
                have htl := turned_length l tn l.length
                rw [htl] at hvl hov
                have hov' := As.mk hov
                have hvb' := As.mk hvb
                have hxb' := As.mk hxb
                have hxc' := As.mk hxc
                obtain ⟨x, hxx⟩ : ∃ x, l.getD 0 [] = x := ⟨_, rfl⟩
                rw [hxx] at hxb' hxc' hclq
                clear hvb hxb hxc hov hot hcl
                rw [show ad.add 0 = ad from (by unfold Addr.add; simp)] at hclq
                go_wp2_with (first
                             | (at_builtin
                                refine wpList_app1 _ rfl (.tmp 92) (.tmp 96) 22 rfl wo.heap.size 23 _ 1 24 Try.underlying22 info_bs rfl (by decide) _ l.length vs rfl hov'.out [.slice Ax x.length cx] rfl (by simp [Value.oneCell']) _ rfl (by simp) (by omega) (by decide) hbq.out.size ?_
                                intro v' w6 hown6 hk6 hat6 hb6
                                replace hown6 := As.mk hown6
                                replace hk6 := As.mk hk6
                                replace hb6 := As.mk hb6)
                             | (at_builtin
                                refine wpList_app1 _ rfl (.tmp 98) (.tmp 99) 22 rfl wo.heap.size 23 _ 1 24 Try.underlying22 info_bs rfl (by decide) _ (l.length + 1) (vs ++ [.slice Ax x.length cx]) rfl hown6.out [.slice none 0 0] rfl (by simp [Value.oneCell']) _ rfl (by simp) (by omega) (by decide) (hbq.out.trans hb6.out).size ?_
                                intro v7 w7 hown7 hk7 hat7 hb7
                                replace hown7 := As.mk hown7
                                replace hk7 := As.mk hk7
                                replace hb7 := As.mk hb7))
                have hbq6 := As.mk (hbq.out.trans hb6.out)
                have hbq7 := As.mk (hbq6.out.trans hb7.out)
                have ho1 : OwnTx wo wo.heap.size w7 v7 (mixed l tn) := by
                  unfold mixed
                  rw [hxx]
                  have hv2 := hvb'.out
                  refine OwnTx.snoc (vs := vs ++ [.slice Ax x.length cx]) (A := none) (c := 0) (by simp [hvl, htl]) (fun i hi => ?_) (Nat.le_refl _) (Byt.none0 _) (by rw [List.length_append, htl]; exact hown7.out)
                  have hsn : OwnTx wo wo.heap.size w6 v' (turned l tn l.length ++ [x]) := OwnTx.snoc (by rw [hvl, htl]) hv2 hxc'.out hxb'.out (by rw [htl]; exact hown6.out)
                  rw [List.length_append, List.length_singleton, htl] at hi
                  by_cases h : i < l.length
                  · obtain ⟨A', c', a, b, e⟩ := hv2 i (by rw [htl]; exact h)
                    have e1 : (turned l tn l.length ++ [x]).getD i [] = (turned l tn l.length).getD i [] := by rw [List.getD_eq_getElem?_getD, List.getElem?_append_left (by rw [htl]; exact h), ← List.getD_eq_getElem?_getD]
                    rw [e1]
                    exact ⟨A', c', by rw [List.getElem?_append_left (by omega)]; exact a, b, e⟩
                  · obtain rfl : i = l.length := by omega
                    have e1 : (turned l tn l.length ++ [x]).getD l.length [] = x := by rw [List.getD_eq_getElem?_getD, List.getElem?_append_right (by rw [htl]; exact Nat.le_refl _), htl]; simp
                    rw [e1]
                    exact ⟨Ax, cx, by rw [← hvl, List.getElem?_append_right (Nat.le_refl _)]; simp, hxc'.out, hxb'.out⟩
                obtain ⟨A8, c8, rfl, hc8, hx8⟩ := ho1.txts hbq7.out
                have hmx := mixed_length l tn
                have hms : ∀ y ∈ mixed l tn, y.length ≤ 40 := fun y hy => by
                  rcases (mem_mixed hl1).1 hy with h | rfl
                  · exact hF.out.short y h
                  · simp
                have hmo := occ_mixed (t := tn) hl1 L
                obtain ⟨M, hM⟩ : ∃ M, mixed l tn = M := ⟨_, rfl⟩
                rw [hM] at hmx hms hmo hx8 hc8 ⊢
                have hmt := short_tot M hms
                have hAq := As.mk (hAr.out.below hbq7.out)
                have HLq := As.mk (Row.below HLr.out hbq7.out)
                have hr7q := As.mk (Row.below hr7.out hbq7.out)
                have hrrq := As.mk (Row.below hrr.out hbq7.out)
                have hBq := As.mk (belowNext hBr.out hbq7.out)
                clear hov' hvb' hxb' hxc' hown6 hk6 hat6 hb6 hown7 hk7 hat7 hb7 hbq6 hbq7 hbq hclq ho1 hgm HXr hAr HLr hr7 hrr hBr
                have hfl : (L.take kk).length = kk := by rw [List.length_take]; omega
                go_wp2_with fail
                refine Calls.mono (snew_calls w7 A8 c8 M hx8 (by omega) (by omega)) ?_
                rintro e w8 ⟨g2, rfl, hA2, hb8⟩
                replace hA2 := As.mk hA2
                replace hAq := As.mk (hAq.out.below hb8)
                replace HLq := As.mk (Row.below HLq.out hb8)
                replace hr7q := As.mk (Row.below hr7q.out hb8)
                replace hrrq := As.mk (Row.below hrrq.out hb8)
                replace hBq := As.mk (belowNext hBq.out hb8)
                have cs := As.mk (fscan0_calls w8 g l hF.out hAq.out B d (L.take kk) (Byt.take HLq.out kk) (by omega))
                rw [hfl, hQ.out] at cs
                have hrl2 := As.mk hrl.out
                clear hb8
                go_wp2_with fail
                refine Calls.mono cs.out ?_
                intro e w9 h9
                obtain ⟨A9, c9, rfl, hc9, hr9, hb9⟩ := h9.row
                have cm := As.mk (same_calls A9 A7 c9 c7 Q Q w9 hr9 (Row.below hr7q.out hb9) (by omega) (by omega))
                rw [decide_eq_true rfl] at cm
                replace hA2 := As.mk (hA2.out.below hb9)
                replace HLq := As.mk (Row.below HLq.out hb9)
                replace hrrq := As.mk (Row.below hrrq.out hb9)
                replace hBq := As.mk (belowNext hBq.out hb9)
                clear h9 hr9 hb9 cs hAq hr7q
                go_wp2_with fail
                refine Calls.mono cm.out ?_
                rintro e w10 ⟨rfl, nq, rfl⟩
                have hbd := below_drewN (Below.refl w9.heap.size w9) nq
                have ct := As.mk (fscan0s_calls (w9.drewN nq) g2 M hms (by omega) (hA2.out.below hbd) B d L (Row.below HLq.out hbd) (by omega))
                rw [hmo, hR.out] at ct
                have hrr10 := As.mk (Row.below hrrq.out hbd)
                have hB10 := As.mk (belowNext hBq.out hbd)
                clear cm hA2 HLq hrrq hBq hbd
                go_wp2_with fail
                refine Calls.mono ct.out ?_
                intro e w11 h11
                obtain ⟨A11, c11, he, hc11, hr11, hb11⟩ := h11.row
                rw [hrl.out] at he hc11
                subst he
                have cm := As.mk (same_calls A11 A5 c11 c5 R R w11 hr11 (Row.below hrr10.out hb11) (by rw [hrl.out]; omega) (by rw [hrl.out]; omega))
                rw [decide_eq_true rfl, hrl.out] at cm
                have hB11 := As.mk (belowNext hB10.out hb11)
                clear h11 hr11 hb11 ct
                go_wp2_with fail
                refine Calls.mono cm.out ?_
                rintro e w12 ⟨rfl, nq2, rfl⟩
                go_wp2
                go_ret
                exact ⟨rfl, below_drewN hB11.out _⟩
    · rw [decide_eq_false hg]
      go_wp2
      go_ret
      exact ⟨rfl, hB.out⟩
  · --
    have hB := As.mk (Below.refl w.heap.size w)
    have HX := As.mk hx
    have HM := As.mk hm
    clear hx hm
    go_enter Try.func5, Try.ntmps5
    go_wp2_with fail
    refine Calls.mono (awake_calls _) ?_
    rintro e w1 ⟨rfl, hb⟩
    have hs := hb.size
    (try simp only [World.size_alloc, World.size_drew] at hs)
    replace hB := As.mk (belowNext hB.out (by (repeat (first | (with_reducible assumption) | (with_reducible exact Below.refl _ _) | (with_reducible refine Below.drew ?_) | (with_reducible refine below_drewN ?_ _) | (with_reducible refine Below.alloc ?_ (by (first | omega | (simp only [World.size_alloc, World.size_drew]; done) | (simp only [World.size_alloc, World.size_drew]; omega))) _) | (refine Below.trans ?_ (Below.mono (by with_reducible assumption) (by (first | omega | (simp only [World.size_alloc, World.size_drew]; done) | (simp only [World.size_alloc, World.size_drew]; omega))))))) : Below _ _ w1))
    replace HX := As.mk (HX.out.below (by (repeat (first | (with_reducible assumption) | (with_reducible exact Below.refl _ _) | (with_reducible refine Below.drew ?_) | (with_reducible refine below_drewN ?_ _) | (with_reducible refine Below.alloc ?_ (by (first | omega | (simp only [World.size_alloc, World.size_drew]; done) | (simp only [World.size_alloc, World.size_drew]; omega))) _) | (refine Below.trans ?_ (Below.mono (by with_reducible assumption) (by (first | omega | (simp only [World.size_alloc, World.size_drew]; done) | (simp only [World.size_alloc, World.size_drew]; omega))))))) : Below _ _ w1))
    replace HL := As.mk (HL.out.below (by (repeat (first | (with_reducible assumption) | (with_reducible exact Below.refl _ _) | (with_reducible refine Below.drew ?_) | (with_reducible refine below_drewN ?_ _) | (with_reducible refine Below.alloc ?_ (by (first | omega | (simp only [World.size_alloc, World.size_drew]; done) | (simp only [World.size_alloc, World.size_drew]; omega))) _) | (refine Below.trans ?_ (Below.mono (by with_reducible assumption) (by (first | omega | (simp only [World.size_alloc, World.size_drew]; done) | (simp only [World.size_alloc, World.size_drew]; omega))))))) : Below _ _ w1))
    replace hb := As.mk hb
    go_wp2_with fail
    refine Calls.mono (texts_calls _ A c l HX.out hc hr HM.out) ?_
    rintro e w2 ⟨⟨A2, c2, b, he, hb0, hS⟩, hb⟩; clear hr
    have hs := hb.size
    (try simp only [World.size_alloc, World.size_drew] at hs)
    replace hB := As.mk (belowNext hB.out (by (repeat (first | (with_reducible assumption) | (with_reducible exact Below.refl _ _) | (with_reducible refine Below.drew ?_) | (with_reducible refine below_drewN ?_ _) | (with_reducible refine Below.alloc ?_ (by (first | omega | (simp only [World.size_alloc, World.size_drew]; done) | (simp only [World.size_alloc, World.size_drew]; omega))) _) | (refine Below.trans ?_ (Below.mono (by with_reducible assumption) (by (first | omega | (simp only [World.size_alloc, World.size_drew]; done) | (simp only [World.size_alloc, World.size_drew]; omega))))))) : Below _ _ w2))
    replace HX := As.mk (HX.out.below (by (repeat (first | (with_reducible assumption) | (with_reducible exact Below.refl _ _) | (with_reducible refine Below.drew ?_) | (with_reducible refine below_drewN ?_ _) | (with_reducible refine Below.alloc ?_ (by (first | omega | (simp only [World.size_alloc, World.size_drew]; done) | (simp only [World.size_alloc, World.size_drew]; omega))) _) | (refine Below.trans ?_ (Below.mono (by with_reducible assumption) (by (first | omega | (simp only [World.size_alloc, World.size_drew]; done) | (simp only [World.size_alloc, World.size_drew]; omega))))))) : Below _ _ w2))
    replace HL := As.mk (HL.out.below (by (repeat (first | (with_reducible assumption) | (with_reducible exact Below.refl _ _) | (with_reducible refine Below.drew ?_) | (with_reducible refine below_drewN ?_ _) | (with_reducible refine Below.alloc ?_ (by (first | omega | (simp only [World.size_alloc, World.size_drew]; done) | (simp only [World.size_alloc, World.size_drew]; omega))) _) | (refine Below.trans ?_ (Below.mono (by with_reducible assumption) (by (first | omega | (simp only [World.size_alloc, World.size_drew]; done) | (simp only [World.size_alloc, World.size_drew]; omega))))))) : Below _ _ w2))
    replace hb := As.mk hb
    have hbf : (b && decide (l.length ≤ 12)) = false := by
      cases b with
      | false => rfl
      | true =>
        have h40 := of_decide_eq_true hb0.symm
        simp only [Bool.true_and, decide_eq_false_iff_not]
        exact fun h12 => hf ⟨h12, h40⟩
    obtain ⟨m, hm2⟩ : ∃ m, (if b = true then l.length else 0) = m := ⟨_, rfl⟩
    rw [hbf, hm2] at he
    subst he
    clear hS hb0 hbf hm2
    go_wp2_with fail
    refine Calls.mono (lfew_calls _ B d L HL.out hd (by omega)) ?_
    rintro e w3 ⟨he, hb⟩; subst he
    have hs := hb.size
    (try simp only [World.size_alloc, World.size_drew] at hs)
    replace hB := As.mk (belowNext hB.out (by (repeat (first | (with_reducible assumption) | (with_reducible exact Below.refl _ _) | (with_reducible refine Below.drew ?_) | (with_reducible refine below_drewN ?_ _) | (with_reducible refine Below.alloc ?_ (by (first | omega | (simp only [World.size_alloc, World.size_drew]; done) | (simp only [World.size_alloc, World.size_drew]; omega))) _) | (refine Below.trans ?_ (Below.mono (by with_reducible assumption) (by (first | omega | (simp only [World.size_alloc, World.size_drew]; done) | (simp only [World.size_alloc, World.size_drew]; omega))))))) : Below _ _ w3))
    replace hb := As.mk hb
    go_wp2
    go_ret
    exact ⟨rfl, hB.out⟩
end Go.Proofs.Ytieelnpfpfiboaa
