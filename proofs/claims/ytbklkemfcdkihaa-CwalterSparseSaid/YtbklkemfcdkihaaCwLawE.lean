/- The walk of the law CwalterSparse. -/
import Derived.Test.YtbklkemfcdkihaaCwLawA
import Derived.Test.YtbklkemfcdkihaaM7
import Derived.Test.YtbklkemfcdkihaaM4
set_option linter.unusedVariables false
set_option linter.unusedSimpArgs false
namespace Go.Proofs.Ytbklkemfcdkihaa
open Go.RowKit Go.Maps Seine.Trie Seine.Links Seine.Cw
open Seine.Sort (occ occTo_len sortP occ_ext)

theorem turned_none (l : List Txt) (t : Nat) : turned l t 0 = [] := rfl
theorem occ_none_turned {l : List Txt} {t : Nat} (h0 : 0 < l.length) (L : Txt) : occ ([[]] ++ turned l t l.length) L = occ l L :=
  occ_ext fun x hx => by
    rw [List.mem_append, mem_turned h0, List.mem_singleton]
    simp [hx]
set_option maxRecDepth 100000 in
set_option maxHeartbeats 3200000 in
theorem sparse_walk (A : Option Addr) (c : Nat) (l : List Txt) (B : Option Addr) (d : Nat) (L : Txt) (tz : Int) (w : World) (hx : Txts w A l) (hc : l.length ≤ c) (hr : c * 24 ≤ 140737488351232) (hm : ∀ x ∈ l, x.length ≤ maxLen)
    (h1 : Byt w B L) (hd : L.length ≤ d) (hdm : d ≤ maxLen) (htz : (Lit.int .u8 tz).wf = true) :
    Calls Try.prog 8 #[.slice A l.length c, .slice B L.length d, .int .u8 tz] w fun e w' => e = .returned (.bool true) ∧ Below w.heap.size w w' := by
  have htb : 0 ≤ tz ∧ tz ≤ 255 := by simp [Lit.wf, IntKind.min, IntKind.max, IntKind.signed, IntKind.bits] at htz; omega
  obtain ⟨ht0, ht1⟩ := htb
  obtain ⟨tn, rfl⟩ := Int.eq_ofNat_of_zero_le ht0
  clear htz ht0
  have HL := As.mk h1
  clear h1
  unfold maxLen at hdm
  by_cases hf : Few l
  · --
    have hB := As.mk (Below.refl w.heap.size w)
    have HX := As.mk hx
    have HM := As.mk hm
    clear hx hm
    go_enter Try.func8, Try.ntmps8
    go_wp2_with fail
    refine Calls.mono (awake_calls _) ?_
    rintro e w1 ⟨rfl, hb⟩
    have hs := hb.size
    (try simp only [World.size_alloc, World.size_drew] at hs)
    replace hB := As.mk (belowNext hB.out (by (repeat (first | (with_reducible assumption) | (with_reducible exact Below.refl _ _) | (with_reducible refine Below.drew ?_) | (with_reducible refine below_drewN ?_ _) | (with_reducible refine Below.alloc ?_ (by (first | omega | (simp only [World.size_alloc, World.size_drew]; done) | (simp only [World.size_alloc, World.size_drew]; omega))) _) | (refine Below.trans ?_ (Below.mono (by with_reducible assumption) (by (first | omega | (simp only [World.size_alloc, World.size_drew]; done) | (simp only [World.size_alloc, World.size_drew]; omega))))))) : Below _ _ w1))
    replace HX := As.mk (HX.out.below (by (repeat (first | (with_reducible assumption) | (with_reducible exact Below.refl _ _) | (with_reducible refine Below.drew ?_) | (with_reducible refine below_drewN ?_ _) | (with_reducible refine Below.alloc ?_ (by (first | omega | (simp only [World.size_alloc, World.size_drew]; done) | (simp only [World.size_alloc, World.size_drew]; omega))) _) | (refine Below.trans ?_ (Below.mono (by with_reducible assumption) (by (first | omega | (simp only [World.size_alloc, World.size_drew]; done) | (simp only [World.size_alloc, World.size_drew]; omega))))))) : Below _ _ w1))
    replace HL := As.mk (HL.out.below (by (repeat (first | (with_reducible assumption) | (with_reducible exact Below.refl _ _) | (with_reducible refine Below.drew ?_) | (with_reducible refine below_drewN ?_ _) | (with_reducible refine Below.alloc ?_ (by (first | omega | (simp only [World.size_alloc, World.size_drew]; done) | (simp only [World.size_alloc, World.size_drew]; omega))) _) | (refine Below.trans ?_ (Below.mono (by with_reducible assumption) (by (first | omega | (simp only [World.size_alloc, World.size_drew]; done) | (simp only [World.size_alloc, World.size_drew]; omega))))))) : Below _ _ w1))
    replace hb := As.mk hb
    go_wp2_with fail
    refine Calls.mono (texts_calls _ A c l HX.out hc hr HM.out) ?_
    rintro e w2 ⟨⟨A2, c2, b, he, hb0, hS⟩, hb⟩; clear hr
    have hs := hb.size
    (try simp only [World.size_alloc, World.size_drew] at hs)
    replace hB := As.mk (belowNext hB.out (by (repeat (first | (with_reducible assumption) | (with_reducible exact Below.refl _ _) | (with_reducible refine Below.drew ?_) | (with_reducible refine below_drewN ?_ _) | (with_reducible refine Below.alloc ?_ (by (first | omega | (simp only [World.size_alloc, World.size_drew]; done) | (simp only [World.size_alloc, World.size_drew]; omega))) _) | (refine Below.trans ?_ (Below.mono (by with_reducible assumption) (by (first | omega | (simp only [World.size_alloc, World.size_drew]; done) | (simp only [World.size_alloc, World.size_drew]; omega))))))) : Below _ _ w2))
    replace HX := As.mk (HX.out.below (by (repeat (first | (with_reducible assumption) | (with_reducible exact Below.refl _ _) | (with_reducible refine Below.drew ?_) | (with_reducible refine below_drewN ?_ _) | (with_reducible refine Below.alloc ?_ (by (first | omega | (simp only [World.size_alloc, World.size_drew]; done) | (simp only [World.size_alloc, World.size_drew]; omega))) _) | (refine Below.trans ?_ (Below.mono (by with_reducible assumption) (by (first | omega | (simp only [World.size_alloc, World.size_drew]; done) | (simp only [World.size_alloc, World.size_drew]; omega))))))) : Below _ _ w2))
    replace HL := As.mk (HL.out.below (by (repeat (first | (with_reducible assumption) | (with_reducible exact Below.refl _ _) | (with_reducible refine Below.drew ?_) | (with_reducible refine below_drewN ?_ _) | (with_reducible refine Below.alloc ?_ (by (first | omega | (simp only [World.size_alloc, World.size_drew]; done) | (simp only [World.size_alloc, World.size_drew]; omega))) _) | (refine Below.trans ?_ (Below.mono (by with_reducible assumption) (by (first | omega | (simp only [World.size_alloc, World.size_drew]; done) | (simp only [World.size_alloc, World.size_drew]; omega))))))) : Below _ _ w2))
    replace hb := As.mk hb
    obtain rfl : b = true := by rw [hb0]; exact decide_eq_true hf.short
    have hd12 : decide (l.length ≤ 12) = true := decide_eq_true hf.len
    rw [Bool.true_and, hd12, if_pos rfl] at he
    subst he
    obtain ⟨hc2, hS2⟩ := hS rfl
    clear hS
    have hS := As.mk hS2
    clear hS2 hb0 hd12
    have htot := As.mk hf.tot
    have hl12 := hf.len
    have hF := As.mk hf
    clear hf
    by_cases hg : L.length ≤ 300
    · have hg1 : decide ((300 : Int) < (L.length : Int)) = false := decide_eq_false (by omega)
      by_cases hl0 : l.length = 0
      · have hl0' : ((l.length : Int) == 0) = true := by rw [hl0]; rfl
        go_wp2
        go_ret
        exact ⟨rfl, hB.out⟩
      · have hl0' : ((l.length : Int) == 0) = false := by rw [beq_eq_false_iff_ne]; omega
        have hl1 : 0 < l.length := Nat.pos_of_ne_zero hl0
        have hrl := occ_few l L (by omega)
        obtain ⟨R, hR⟩ : ∃ R, occ l L = R := ⟨_, rfl⟩
        rw [hR] at hrl
        obtain ⟨rl, hrl2⟩ : ∃ k, R.length = k := ⟨_, rfl⟩
        rw [hrl2] at hrl
        replace hrl2 := As.mk hrl2
        have hR' := As.mk hR
        go_wp2_with fail
        refine Calls.mono (fnew_calls _ A c l HX.out hF.out) ?_
        rintro e w3 ⟨g, rfl, hA, hb⟩; replace hA := As.mk hA
        have hs := hb.size
        (try simp only [World.size_alloc, World.size_drew] at hs)
        replace hB := As.mk (belowNext hB.out (by (repeat (first | (with_reducible assumption) | (with_reducible exact Below.refl _ _) | (with_reducible refine Below.drew ?_) | (with_reducible refine below_drewN ?_ _) | (with_reducible refine Below.alloc ?_ (by (first | omega | (simp only [World.size_alloc, World.size_drew]; done) | (simp only [World.size_alloc, World.size_drew]; omega))) _) | (refine Below.trans ?_ (Below.mono (by with_reducible assumption) (by (first | omega | (simp only [World.size_alloc, World.size_drew]; done) | (simp only [World.size_alloc, World.size_drew]; omega))))))) : Below _ _ w3))
        replace HX := As.mk (HX.out.below (by (repeat (first | (with_reducible assumption) | (with_reducible exact Below.refl _ _) | (with_reducible refine Below.drew ?_) | (with_reducible refine below_drewN ?_ _) | (with_reducible refine Below.alloc ?_ (by (first | omega | (simp only [World.size_alloc, World.size_drew]; done) | (simp only [World.size_alloc, World.size_drew]; omega))) _) | (refine Below.trans ?_ (Below.mono (by with_reducible assumption) (by (first | omega | (simp only [World.size_alloc, World.size_drew]; done) | (simp only [World.size_alloc, World.size_drew]; omega))))))) : Below _ _ w3))
        replace HL := As.mk (HL.out.below (by (repeat (first | (with_reducible assumption) | (with_reducible exact Below.refl _ _) | (with_reducible refine Below.drew ?_) | (with_reducible refine below_drewN ?_ _) | (with_reducible refine Below.alloc ?_ (by (first | omega | (simp only [World.size_alloc, World.size_drew]; done) | (simp only [World.size_alloc, World.size_drew]; omega))) _) | (refine Below.trans ?_ (Below.mono (by with_reducible assumption) (by (first | omega | (simp only [World.size_alloc, World.size_drew]; done) | (simp only [World.size_alloc, World.size_drew]; omega))))))) : Below _ _ w3))
        replace hb := As.mk hb
        go_wp2_with fail
        refine Calls.mono (cscan_calls _ g l hA.out hF.out.short60 (by omega) B d L HL.out (by omega)) ?_
        intro e w4 h4; rw [hR] at h4; obtain ⟨A4, c4, he, hc4, hcm4, hr4, hb⟩ := h4.row2; subst he; replace hr4 := As.mk hr4; clear h4; rw [hrl2.out] at hc4 ⊢
        have hs := hb.size
        (try simp only [World.size_alloc, World.size_drew] at hs)
        replace hB := As.mk (belowNext hB.out (by (repeat (first | (with_reducible assumption) | (with_reducible exact Below.refl _ _) | (with_reducible refine Below.drew ?_) | (with_reducible refine below_drewN ?_ _) | (with_reducible refine Below.alloc ?_ (by (first | omega | (simp only [World.size_alloc, World.size_drew]; done) | (simp only [World.size_alloc, World.size_drew]; omega))) _) | (refine Below.trans ?_ (Below.mono (by with_reducible assumption) (by (first | omega | (simp only [World.size_alloc, World.size_drew]; done) | (simp only [World.size_alloc, World.size_drew]; omega))))))) : Below _ _ w4))
        replace HX := As.mk (HX.out.below (by (repeat (first | (with_reducible assumption) | (with_reducible exact Below.refl _ _) | (with_reducible refine Below.drew ?_) | (with_reducible refine below_drewN ?_ _) | (with_reducible refine Below.alloc ?_ (by (first | omega | (simp only [World.size_alloc, World.size_drew]; done) | (simp only [World.size_alloc, World.size_drew]; omega))) _) | (refine Below.trans ?_ (Below.mono (by with_reducible assumption) (by (first | omega | (simp only [World.size_alloc, World.size_drew]; done) | (simp only [World.size_alloc, World.size_drew]; omega))))))) : Below _ _ w4))
        replace HL := As.mk (HL.out.below (by (repeat (first | (with_reducible assumption) | (with_reducible exact Below.refl _ _) | (with_reducible refine Below.drew ?_) | (with_reducible refine below_drewN ?_ _) | (with_reducible refine Below.alloc ?_ (by (first | omega | (simp only [World.size_alloc, World.size_drew]; done) | (simp only [World.size_alloc, World.size_drew]; omega))) _) | (refine Below.trans ?_ (Below.mono (by with_reducible assumption) (by (first | omega | (simp only [World.size_alloc, World.size_drew]; done) | (simp only [World.size_alloc, World.size_drew]; omega))))))) : Below _ _ w4))
        replace hA := As.mk (hA.out.below (by (repeat (first | (with_reducible assumption) | (with_reducible exact Below.refl _ _) | (with_reducible refine Below.drew ?_) | (with_reducible refine below_drewN ?_ _) | (with_reducible refine Below.alloc ?_ (by (first | omega | (simp only [World.size_alloc, World.size_drew]; done) | (simp only [World.size_alloc, World.size_drew]; omega))) _) | (refine Below.trans ?_ (Below.mono (by with_reducible assumption) (by (first | omega | (simp only [World.size_alloc, World.size_drew]; done) | (simp only [World.size_alloc, World.size_drew]; omega))))))) : Below _ _ w4))
        replace hb := As.mk hb
        clear hS hR hA
        obtain ⟨wo, rfl⟩ : ∃ wo : World, wo = w4 := ⟨_, rfl⟩
        have hnl := As.mk (World.ownsRow_nil wo wo.heap.size 23 1)
        go_wp2_with (at_builtin
                     refine wpList_app1 _ rfl (.tmp 37) (.tmp 38) 22 rfl wo.heap.size 23 _ 1 24 Try.underlying22 info_bs rfl (by decide) _ 0 [] rfl hnl.out [.slice none 0 0] rfl (by simp [Value.oneCell']) _ rfl (by simp) (by omega) (by decide) (Nat.le_refl _) ?_
                     intro v0 w5 hown5 hk5 hat5 hb5
                     replace hown5 := As.mk hown5
                     replace hb5 := As.mk hb5)
        have hO0 : As (OwnTx wo wo.heap.size w5 v0 ([[]] ++ turned l tn 0)) := ⟨by
          rw [turned_none, List.append_nil]
          exact OwnTx.snoc (ls := []) (vs := []) (A := none) (c := 0) rfl (fun i hi => absurd hi (Nat.not_lt_zero _)) (Nat.le_refl _) (Byt.none0 _) hown5.out⟩
        clear hown5 hk5 hat5
        go_loopg [11, 12] (l.length + 1) (fun gk v i wq => ∃ m : Nat, As (l.length + 1 ≤ gk + m) ∧ i = .int .i64 m ∧ m ≤ l.length ∧ As (OwnTx wo wo.heap.size wq v ([[]] ++ turned l tn m)) ∧ As (Below wo.heap.size wo wq))
        case atStart => exact ⟨0, ⟨by omega⟩, rfl, by omega, hO0, hb5⟩
        case round =>
          obtain ⟨m, hgm, rfl, hm, hot, hbq⟩ := hrel
          have HXq := As.mk (HX.out.below hbq.out)
          by_cases hlm : m < l.length
          · obtain ⟨gp, rfl⟩ : ∃ gp, gk = gp + 1 := ⟨gk - 1, by have := hgm.out; omega⟩
            obtain ⟨vs, hvl, hov, hvb⟩ := hot.out
            have hix : (m + tn) % l.length < l.length := Nat.mod_lt _ hl1
            have hmd : ((m : Int) + (tn : Int)).tmod (l.length : Int) = (((m + tn) % l.length : Nat) : Int) := by
              rw [Int.tmod_eq_emod_of_nonneg (by omega)]; simp
            obtain ⟨ad, Ax, cx, rfl, hcl, hxc, hxb⟩ := HXq.out.at_ hix
            obtain ⟨ad2, Ay, cy, e2, hcl2, _, hxb2⟩ := HX.out.at_ hix
            injection e2 with e2
            subst e2
            have hsame := (hbq.out.cell (World.block_lt_of_cell? wo _ hcl2)).trans hcl2
            rw [hcl] at hsame
            injection hsame with hsame
            injection hsame with e3 e4 e5
            subst e3
            subst e5
            clear hcl2 e4
            have hts := As.mk (turned_succ l tn m)
            have htl : ([[]] ++ turned l tn m).length = m + 1 := by rw [List.length_append, turned_length]; simp; omega
            obtain ⟨x, hxx⟩ : ∃ x, l.getD ((m + tn) % l.length) [] = x := ⟨_, rfl⟩
            rw [hxx] at hcl hxc hxb2 hts
            obtain ⟨ix, hixx⟩ : ∃ i, (m + tn) % l.length = i := ⟨_, rfl⟩
            rw [hixx] at hix hmd hcl
            rw [htl] at hvl hov
            have hov' := As.mk hov
            have hvb' := As.mk hvb
            have hxb2' := As.mk hxb2
            have hl12' : l.length ≤ 12 := hl12
            have htl' := As.mk htl
            clear hvb hxb2 hxb hov hxx hixx hot HXq htl
            have hmt : (m : Int) + (tn : Int) ≤ 1000 := by omega
            go_wp2_with (at_builtin
                         refine wpList_app1 _ rfl (.tmp 46) (.tmp 57) 22 rfl wo.heap.size 23 _ 1 24 Try.underlying22 info_bs rfl (by decide) _ (m + 1) vs rfl hov'.out [.slice Ax x.length cx] rfl (by simp [Value.oneCell']) _ rfl (by simp) (by omega) (by decide) hbq.out.size ?_
                         intro v' w6 hown6 hk6 hat6 hb6
                         replace hown6 := As.mk hown6
                         replace hk6 := As.mk hk6
                         replace hb6 := As.mk hb6)
            go_roundg gp
            case rel => exact ⟨m + 1, ⟨by have := hgm.out; omega⟩, (by first | rfl | go_num | (congr 1; omega)), by omega, ⟨by rw [hts.out, ← List.append_assoc]; exact OwnTx.snoc (by rw [hvl, htl'.out]) hvb'.out hxc hxb2'.out (by rw [htl'.out]; exact hown6.out)⟩, ⟨hbq.out.trans hb6.out⟩⟩
            case measure => omega
          · obtain rfl : m = l.length := by omega
            obtain ⟨A8, c8, rfl, hc8, hx8⟩ := hot.out.txts hbq.out
            have hmx : ([[]] ++ turned l tn l.length).length = l.length + 1 := by rw [List.length_append, turned_length]; simp; omega
            have hms : ∀ y ∈ [[]] ++ turned l tn l.length, y.length ≤ 40 := fun y hy => by
              rcases List.mem_append.1 hy with h | h
              · rw [List.mem_singleton] at h; subst h; simp
              · exact hF.out.short y ((mem_turned hl1).1 h)
            have hmo := occ_none_turned (t := tn) hl1 L
            obtain ⟨M, hM⟩ : ∃ M, [[]] ++ turned l tn l.length = M := ⟨_, rfl⟩
            rw [hM] at hmx hms hmo hx8 hc8 ⊢
            rw [hR'.out] at hmo
            have hmt := short_tot M hms
            have hms6 : ∀ y ∈ M, y.length ≤ 60 := fun y hy => Nat.le_trans (hms y hy) (by omega)
            obtain ⟨ml, hml⟩ : ∃ k, M.length = k := ⟨_, rfl⟩
            have cn2 := As.mk (fun (v : World) (hv : Below wr.heap.size wr v) => cnew_calls v A8 c8 M (hx8.below hv) (by omega) (by omega))
            rw [hml] at cn2 hmx hc8 ⊢
            have hmb : ml ≤ 13 := by omega
            replace hmx := As.mk hmx
            have csn := As.mk (snew_calls wr A c l (HX.out.below hbq.out) (by have := htot.out; omega) (by omega))
            have HLq := As.mk (Row.below HL.out hbq.out)
            have css := As.mk (fun (v : World) (hv : Below wr.heap.size wr v) (g2 : Nat) (h : AutoAt v g2 (paths l) l) => (by have := fscan0_calls v g2 l hF.out h B d L (Row.below HLq.out hv) (by omega); rw [hR'.out] at this; exact this : Calls Try.prog 22 #[.pointer (some ⟨g2, 0, none⟩), .pointer none, .slice B L.length d] v (RetPrs v R)))
            have csc := As.mk (fun (v : World) (hv : Below wr.heap.size wr v) (g3 : Nat) (h : WalkAt v g3 (turnT M)) => (by have := cscan_calls v g3 M h hms6 (by have := hmx.out; have := hml; omega) B d L (Row.below HLq.out hv) (by omega); rw [hmo] at this; exact this : Calls Try.prog 14 #[.pointer (some ⟨g3, 0, none⟩), .slice B L.length d] v (RetPrs v R)))
            have hr4q := As.mk (Row.below hr4.out hbq.out)
            have hBq := As.mk (belowNext hB.out hbq.out)
            have csm := As.mk (fun (v : World) (hv : Below wr.heap.size wr v) (A' : Option Addr) (c' : Nat) (h : Prs v A' R) => (by have := same_calls A4 A' c4 c' R R v (Row.below hr4q.out hv) h (by have := hrl2.out; omega) (by have := hrl2.out; omega); rw [decide_eq_true rfl, hrl2.out] at this; exact this : Calls Try.prog 12 #[.slice A4 rl c4, .slice A' rl c'] v fun e w' => e = .returned (.bool true) ∧ ∃ n, w' = v.drewN n))
            clear hot hgm HX HL hr4 hB hbq hx8 hb5 hO0 hF htot hM HM hml hmo hmt
            go_wp2_with (first
              | (go_at_call 21; refine Calls.mono csn.out ?_; rintro e w5 ⟨g5, rfl, hA5, hb5⟩; have hb05 := hb5)
              | (go_at_call 22; refine Calls.mono (css.out _ hb05 g5 hA5) ?_; intro e w6 h6; obtain ⟨A6, c6, he, hc6, hr6, hb6⟩ := h6.row; subst he; clear h6; rw [hrl2.out] at hc6 ⊢; have hb06 := belowNext hb05 hb6)
              | (go_at_call 13; with_reducible refine Calls.mono (cn2.out _ hb07) ?_; rintro e w8 ⟨g8, rfl, hA8, hb8⟩; have hb08 := belowNext hb07 hb8)
              | (go_at_call 14; refine Calls.mono (csc.out _ hb08 g8 hA8) ?_; intro e w9 h9; obtain ⟨A9, c9, he, hc9, hcm9, hr9, hb9⟩ := h9.row2; subst he; clear h9; rw [hrl2.out] at hc9 ⊢; have hb09 := belowNext hb08 hb9)
              | (go_at_call 12; with_reducible refine Calls.mono (csm.out _ hb06 _ _ hr6) ?_; rintro e w7 ⟨rfl, nq, rfl⟩; have hb07 := below_drewN hb06 nq; clear hr6)
              | (go_at_call 12; with_reducible refine Calls.mono (csm.out _ hb09 _ _ hr9) ?_; rintro e w7 ⟨rfl, nz, rfl⟩))
            go_ret
            exact ⟨rfl, below_drewN (belowNext hBq.out hb09) _⟩
    · have hg1 : decide ((300 : Int) < (L.length : Int)) = true := decide_eq_true (by omega)
      go_wp2
      go_ret
      exact ⟨rfl, hB.out⟩
  · --
    have hB := As.mk (Below.refl w.heap.size w)
    have HX := As.mk hx
    have HM := As.mk hm
    clear hx hm
    go_enter Try.func8, Try.ntmps8
    go_wp2_with fail
    refine Calls.mono (awake_calls _) ?_
    rintro e w1 ⟨rfl, hb⟩
    have hs := hb.size
    (try simp only [World.size_alloc, World.size_drew] at hs)
    replace hB := As.mk (belowNext hB.out (by (repeat (first | (with_reducible assumption) | (with_reducible exact Below.refl _ _) | (with_reducible refine Below.drew ?_) | (with_reducible refine below_drewN ?_ _) | (with_reducible refine Below.alloc ?_ (by (first | omega | (simp only [World.size_alloc, World.size_drew]; done) | (simp only [World.size_alloc, World.size_drew]; omega))) _) | (refine Below.trans ?_ (Below.mono (by with_reducible assumption) (by (first | omega | (simp only [World.size_alloc, World.size_drew]; done) | (simp only [World.size_alloc, World.size_drew]; omega))))))) : Below _ _ w1))
    replace HX := As.mk (HX.out.below (by (repeat (first | (with_reducible assumption) | (with_reducible exact Below.refl _ _) | (with_reducible refine Below.drew ?_) | (with_reducible refine below_drewN ?_ _) | (with_reducible refine Below.alloc ?_ (by (first | omega | (simp only [World.size_alloc, World.size_drew]; done) | (simp only [World.size_alloc, World.size_drew]; omega))) _) | (refine Below.trans ?_ (Below.mono (by with_reducible assumption) (by (first | omega | (simp only [World.size_alloc, World.size_drew]; done) | (simp only [World.size_alloc, World.size_drew]; omega))))))) : Below _ _ w1))
    replace HL := As.mk (HL.out.below (by (repeat (first | (with_reducible assumption) | (with_reducible exact Below.refl _ _) | (with_reducible refine Below.drew ?_) | (with_reducible refine below_drewN ?_ _) | (with_reducible refine Below.alloc ?_ (by (first | omega | (simp only [World.size_alloc, World.size_drew]; done) | (simp only [World.size_alloc, World.size_drew]; omega))) _) | (refine Below.trans ?_ (Below.mono (by with_reducible assumption) (by (first | omega | (simp only [World.size_alloc, World.size_drew]; done) | (simp only [World.size_alloc, World.size_drew]; omega))))))) : Below _ _ w1))
    replace hb := As.mk hb
    go_wp2_with fail
    refine Calls.mono (texts_calls _ A c l HX.out hc hr HM.out) ?_
    rintro e w2 ⟨⟨A2, c2, b, he, hb0, hS⟩, hb⟩; clear hr
    have hs := hb.size
    (try simp only [World.size_alloc, World.size_drew] at hs)
    replace hB := As.mk (belowNext hB.out (by (repeat (first | (with_reducible assumption) | (with_reducible exact Below.refl _ _) | (with_reducible refine Below.drew ?_) | (with_reducible refine below_drewN ?_ _) | (with_reducible refine Below.alloc ?_ (by (first | omega | (simp only [World.size_alloc, World.size_drew]; done) | (simp only [World.size_alloc, World.size_drew]; omega))) _) | (refine Below.trans ?_ (Below.mono (by with_reducible assumption) (by (first | omega | (simp only [World.size_alloc, World.size_drew]; done) | (simp only [World.size_alloc, World.size_drew]; omega))))))) : Below _ _ w2))
    replace HX := As.mk (HX.out.below (by (repeat (first | (with_reducible assumption) | (with_reducible exact Below.refl _ _) | (with_reducible refine Below.drew ?_) | (with_reducible refine below_drewN ?_ _) | (with_reducible refine Below.alloc ?_ (by (first | omega | (simp only [World.size_alloc, World.size_drew]; done) | (simp only [World.size_alloc, World.size_drew]; omega))) _) | (refine Below.trans ?_ (Below.mono (by with_reducible assumption) (by (first | omega | (simp only [World.size_alloc, World.size_drew]; done) | (simp only [World.size_alloc, World.size_drew]; omega))))))) : Below _ _ w2))
    replace HL := As.mk (HL.out.below (by (repeat (first | (with_reducible assumption) | (with_reducible exact Below.refl _ _) | (with_reducible refine Below.drew ?_) | (with_reducible refine below_drewN ?_ _) | (with_reducible refine Below.alloc ?_ (by (first | omega | (simp only [World.size_alloc, World.size_drew]; done) | (simp only [World.size_alloc, World.size_drew]; omega))) _) | (refine Below.trans ?_ (Below.mono (by with_reducible assumption) (by (first | omega | (simp only [World.size_alloc, World.size_drew]; done) | (simp only [World.size_alloc, World.size_drew]; omega))))))) : Below _ _ w2))
    replace hb := As.mk hb
    have hbf : (b && decide (l.length ≤ 12)) = false := by
      cases b with
      | false => rfl
      | true =>
        have h40 := of_decide_eq_true hb0.symm
        simp only [Bool.true_and, decide_eq_false_iff_not]
        exact fun h12 => hf ⟨h12, h40⟩
    obtain ⟨m, hm2⟩ : ∃ m, (if b = true then l.length else 0) = m := ⟨_, rfl⟩
    rw [hbf, hm2] at he
    subst he
    clear hS hb0 hbf hm2
    go_wp2
    go_ret
    exact ⟨rfl, hB.out⟩
end Go.Proofs.Ytbklkemfcdkihaa
