/- The walk of the law LinksShort. -/
import Derived.Test.YtcajccknkjljfaaLinksRef3
import Derived.Test.YtcajccknkjljfaaLinksAwake
import Derived.Deep.DrawnRows
set_option linter.unusedVariables false
set_option linter.unusedSimpArgs false
namespace Go.Proofs.Ytcajccknkjljfaa
open Go.RowKit Go.Maps Seine.Trie Seine.Links Go.Proofs.YtcajccknkjljfaaW.PrintWords Go.Proofs.Ytcajccknkjljfaa.Ref
attribute [local go_sem ↓] Go.wp_at_zero Go.wp_at_succ



theorem conv_byt {w : World} {src : TypeId} {A : Option Addr} {b : Txt} {c : Nat} (hs : Try.prog.underlying src = some (.slice 5)) (h : Byt w A b) (hl : b.length ≤ 9223372036854775807) : (convert src 9 (.slice A b.length c)).run Try.prog w = .ok (.string (bb b)) w := by
  have := Kd.C_string (P := Try.prog) (src := src) (dst := 9) (c := c) hs Try.underlying5 Try.underlying9 (kdU8 h hl)
  rw [bb_nums] at this
  exact this
theorem Byt.from_ {w : World} {ad : Addr} {b : Txt} (h : Byt w (some ad) b) (i : Nat) : Byt w (some (ad.add i)) (b.drop i) := by
  rcases h with h | ⟨ad', e, hlt, hc⟩
  · have : b = [] := by have := congrArg List.length h; rw [byCells_length] at this; exact List.eq_nil_of_length_eq_zero this
    subst this
    exact .inl (by simp [byCells])
  · injection e with e
    subst e
    refine .inr ⟨_, rfl, by rw [Addr.block_add]; exact hlt, fun j u hu => ?_⟩
    rw [Addr.add_add']
    refine hc _ u ?_
    unfold byCells at hu ⊢
    rw [List.getElem?_map, List.getElem?_drop] at hu
    rw [List.getElem?_map]; exact hu

set_option maxRecDepth 100000 in
set_option maxHeartbeats 3200000 in
theorem short_walk (A : Option Addr) (c : Nat) (l : List Txt) (w : World) (hx : Txts w A l) (hc : l.length ≤ c) (hr : c * 24 ≤ 140737488351232) (hm : ∀ x ∈ l, x.length ≤ maxLen) :
    Calls Try.prog 5 #[.slice A l.length c] w fun e w' => e = .returned (.bool true) ∧ Below w.heap.size w w' := by
  by_cases hf : Few l
  · --
    have hB := As.mk (Below.refl w.heap.size w)
    have HX := As.mk hx
    have HM := As.mk hm
    clear hx hm
    go_enter Try.func5, Try.ntmps5
    go_wp2_with fail
    refine Calls.mono (awake_calls _) ?_
    rintro e w1 ⟨rfl, hb⟩
    have hs := hb.size
    (try simp only [World.size_alloc, World.size_drew] at hs)
    replace hB := As.mk (below_next' hB.out (by (repeat (first | (with_reducible assumption) | (with_reducible exact Below.refl _ _) | (with_reducible refine Below.drew ?_) | (with_reducible refine Below.alloc ?_ (by (first | omega | (simp only [World.size_alloc, World.size_drew]; done) | (simp only [World.size_alloc, World.size_drew]; omega))) _) | (refine Below.trans ?_ (Below.mono (by with_reducible assumption) (by (first | omega | (simp only [World.size_alloc, World.size_drew]; done) | (simp only [World.size_alloc, World.size_drew]; omega))))))) : Below _ _ w1))
    replace HX := As.mk (HX.out.below (by (repeat (first | (with_reducible assumption) | (with_reducible exact Below.refl _ _) | (with_reducible refine Below.drew ?_) | (with_reducible refine Below.alloc ?_ (by (first | omega | (simp only [World.size_alloc, World.size_drew]; done) | (simp only [World.size_alloc, World.size_drew]; omega))) _) | (refine Below.trans ?_ (Below.mono (by with_reducible assumption) (by (first | omega | (simp only [World.size_alloc, World.size_drew]; done) | (simp only [World.size_alloc, World.size_drew]; omega))))))) : Below _ _ w1))
    replace hb := As.mk hb
    go_wp2_with fail
    refine Calls.mono (texts_calls _ A c l HX.out hc hr HM.out) ?_
    rintro e w2 ⟨⟨A2, c2, b, he, hb0, hS⟩, hb⟩; clear hr
    have hs := hb.size
    (try simp only [World.size_alloc, World.size_drew] at hs)
    replace hB := As.mk (below_next' hB.out (by (repeat (first | (with_reducible assumption) | (with_reducible exact Below.refl _ _) | (with_reducible refine Below.drew ?_) | (with_reducible refine Below.alloc ?_ (by (first | omega | (simp only [World.size_alloc, World.size_drew]; done) | (simp only [World.size_alloc, World.size_drew]; omega))) _) | (refine Below.trans ?_ (Below.mono (by with_reducible assumption) (by (first | omega | (simp only [World.size_alloc, World.size_drew]; done) | (simp only [World.size_alloc, World.size_drew]; omega))))))) : Below _ _ w2))
    replace HX := As.mk (HX.out.below (by (repeat (first | (with_reducible assumption) | (with_reducible exact Below.refl _ _) | (with_reducible refine Below.drew ?_) | (with_reducible refine Below.alloc ?_ (by (first | omega | (simp only [World.size_alloc, World.size_drew]; done) | (simp only [World.size_alloc, World.size_drew]; omega))) _) | (refine Below.trans ?_ (Below.mono (by with_reducible assumption) (by (first | omega | (simp only [World.size_alloc, World.size_drew]; done) | (simp only [World.size_alloc, World.size_drew]; omega))))))) : Below _ _ w2))
    replace hb := As.mk hb
    obtain rfl : b = true := by rw [hb0]; exact decide_eq_true hf.short
    have hd12 : decide (l.length ≤ 12) = true := decide_eq_true hf.len
    rw [Bool.true_and, hd12, if_pos rfl] at he
    subst he
    obtain ⟨hc2, hS2⟩ := hS rfl
    clear hS
    have hS := As.mk hS2
    clear hS2
    have hl12 := hf.len
    have htot := As.mk hf.tot
    have hpl0 := hf.paths_len
    have hps0 := hf.path_short
    have hT0 := paths_tree l
    have hlP0 := text_path (l := l)
    clear hb0 hd12
    obtain ⟨P, hP⟩ : ∃ P, paths l = P := ⟨_, rfl⟩
    rw [hP] at hpl0 hps0 hT0 hlP0
    have hps := As.mk hps0
    have hTr := As.mk hT0
    have hlP := As.mk hlP0
    have hd := As.mk (show ∀ p ∈ P, p.length ≤ 100000 from fun p hp => by have := hps.out p hp; omega)
    replace hP := As.mk hP
    clear hps0 hT0 hlP0 hf
    go_wp2_with fail
    refine Calls.mono (build_calls _ A c l HX.out (by have := htot.out; omega) (by omega)) ?_
    rintro e w3 ⟨g, rfl, hT, hb⟩; rw [hP.out] at hT; obtain ⟨tb, hT⟩ : ∃ tb, TrieAt w3 tb g P (place l) := ⟨_, hT⟩; replace hT := As.mk hT
    have hs := hb.size
    (try simp only [World.size_alloc, World.size_drew] at hs)
    replace hB := As.mk (below_next' hB.out (by (repeat (first | (with_reducible assumption) | (with_reducible exact Below.refl _ _) | (with_reducible refine Below.drew ?_) | (with_reducible refine Below.alloc ?_ (by (first | omega | (simp only [World.size_alloc, World.size_drew]; done) | (simp only [World.size_alloc, World.size_drew]; omega))) _) | (refine Below.trans ?_ (Below.mono (by with_reducible assumption) (by (first | omega | (simp only [World.size_alloc, World.size_drew]; done) | (simp only [World.size_alloc, World.size_drew]; omega))))))) : Below _ _ w3))
    replace HX := As.mk (HX.out.below (by (repeat (first | (with_reducible assumption) | (with_reducible exact Below.refl _ _) | (with_reducible refine Below.drew ?_) | (with_reducible refine Below.alloc ?_ (by (first | omega | (simp only [World.size_alloc, World.size_drew]; done) | (simp only [World.size_alloc, World.size_drew]; omega))) _) | (refine Below.trans ?_ (Below.mono (by with_reducible assumption) (by (first | omega | (simp only [World.size_alloc, World.size_drew]; done) | (simp only [World.size_alloc, World.size_drew]; omega))))))) : Below _ _ w3))
    replace hS := As.mk (hS.out.below (by (repeat (first | (with_reducible assumption) | (with_reducible exact Below.refl _ _) | (with_reducible refine Below.drew ?_) | (with_reducible refine Below.alloc ?_ (by (first | omega | (simp only [World.size_alloc, World.size_drew]; done) | (simp only [World.size_alloc, World.size_drew]; omega))) _) | (refine Below.trans ?_ (Below.mono (by with_reducible assumption) (by (first | omega | (simp only [World.size_alloc, World.size_drew]; done) | (simp only [World.size_alloc, World.size_drew]; omega))))))) : Below _ _ w3))
    replace hb := As.mk hb
    go_wp2_with fail
    refine Calls.mono (lbuild_calls _ tb g P l hT.out (by omega) hd.out hlP.out) ?_
    rintro e w4 ⟨gl, rfl, hL, hb⟩; obtain ⟨lb, hL⟩ : ∃ lb, LinksOf w4 lb gl P l := ⟨_, hL⟩; replace hL := As.mk hL
    have hs := hb.size
    (try simp only [World.size_alloc, World.size_drew] at hs)
    replace hB := As.mk (below_next' hB.out (by (repeat (first | (with_reducible assumption) | (with_reducible exact Below.refl _ _) | (with_reducible refine Below.drew ?_) | (with_reducible refine Below.alloc ?_ (by (first | omega | (simp only [World.size_alloc, World.size_drew]; done) | (simp only [World.size_alloc, World.size_drew]; omega))) _) | (refine Below.trans ?_ (Below.mono (by with_reducible assumption) (by (first | omega | (simp only [World.size_alloc, World.size_drew]; done) | (simp only [World.size_alloc, World.size_drew]; omega))))))) : Below _ _ w4))
    replace HX := As.mk (HX.out.below (by (repeat (first | (with_reducible assumption) | (with_reducible exact Below.refl _ _) | (with_reducible refine Below.drew ?_) | (with_reducible refine Below.alloc ?_ (by (first | omega | (simp only [World.size_alloc, World.size_drew]; done) | (simp only [World.size_alloc, World.size_drew]; omega))) _) | (refine Below.trans ?_ (Below.mono (by with_reducible assumption) (by (first | omega | (simp only [World.size_alloc, World.size_drew]; done) | (simp only [World.size_alloc, World.size_drew]; omega))))))) : Below _ _ w4))
    replace hS := As.mk (hS.out.below (by (repeat (first | (with_reducible assumption) | (with_reducible exact Below.refl _ _) | (with_reducible refine Below.drew ?_) | (with_reducible refine Below.alloc ?_ (by (first | omega | (simp only [World.size_alloc, World.size_drew]; done) | (simp only [World.size_alloc, World.size_drew]; omega))) _) | (refine Below.trans ?_ (Below.mono (by with_reducible assumption) (by (first | omega | (simp only [World.size_alloc, World.size_drew]; done) | (simp only [World.size_alloc, World.size_drew]; omega))))))) : Below _ _ w4))
    replace hT := As.mk (hT.out.below (by (repeat (first | (with_reducible assumption) | (with_reducible exact Below.refl _ _) | (with_reducible refine Below.drew ?_) | (with_reducible refine Below.alloc ?_ (by (first | omega | (simp only [World.size_alloc, World.size_drew]; done) | (simp only [World.size_alloc, World.size_drew]; omega))) _) | (refine Below.trans ?_ (Below.mono (by with_reducible assumption) (by (first | omega | (simp only [World.size_alloc, World.size_drew]; done) | (simp only [World.size_alloc, World.size_drew]; omega))))))) : Below _ _ w4))
    replace hb := As.mk hb
    obtain ⟨np, hnp⟩ : ∃ np, P.length = np := ⟨_, rfl⟩
    rw [hnp] at hpl0
    have cnod := As.mk (fun v (hv : Below w4.heap.size w4 v) => nodes_calls v tb g P (place l) (hT.out.below hv))
    have hnp0 : 0 < np := by rw [← hnp]; exact (List.getElem?_eq_some_iff.1 hTr.out.root).1
    rw [hnp] at cnod
    replace hnp := As.mk hnp
    go_wp2_with fail
    go_loopg [8] (np + 1) (fun gk i wr => ∃ k : Nat, As (np + 1 ≤ gk + k) ∧ 1 ≤ k ∧ k ≤ np ∧ i = .int .i64 k ∧ As (Below w4.heap.size w4 wr))
    case atStart => exact ⟨1, ⟨by omega⟩, Nat.le_refl _, by omega, rfl, ⟨Below.refl _ _⟩⟩
    case round =>
      obtain ⟨k, hgk, hk1, hk2, rfl, hbel⟩ := hrel
      have hLr := As.mk (hL.out.below hbel.out)
      have hTT := As.mk (hT.out.below hbel.out)
      have hBr := As.mk (below_next' hB.out hbel.out)
      by_cases hlt : k < np
      · obtain ⟨gq, rfl⟩ : ∃ gq, gk = gq + 1 := ⟨gk - 1, by have := hgk.out; omega⟩
        obtain ⟨s, hs⟩ : ∃ s, P.getD k [] = s := ⟨_, rfl⟩
        have hPk := get_at (P := P) (a := k) (by rw [hnp.out]; exact hlt)
        rw [hs] at hPk
        have hsP := List.mem_of_getElem? hPk
        have hsl := hps.out s hsP
        have hsn : s ≠ [] := fun e => by
          subst e
          have := nodup_get hTr.out.nodup hTr.out.root hPk
          omega
        obtain ⟨nn, hnn⟩ := fail_some hTr.out hsn
        obtain ⟨j1, j2, j3, j4⟩ := failN_some hnn
        have hfv : failF P s = place P (s.drop nn) := by unfold failF; rw [hnn]
        obtain ⟨fa, hfa1, hfa2⟩ := place_nat j3
        have hask : askF P (failF P) (-1) (k : Int) = (fa : Int) := by
          unfold askF
          rw [if_pos (by have := hnp.out; omega), Int.toNat_natCast, hs, hfv, hfa1]
        have hp1 : pathF P (k : Int) = s := by
          unfold pathF
          rw [if_pos (by have := hnp.out; omega), Int.toNat_natCast, hs]
        have hfal := (List.getElem?_eq_some_iff.1 hfa2).1
        have hp2 : pathF P (fa : Int) = s.drop nn := by
          unfold pathF
          rw [if_pos (by omega), Int.toNat_natCast, List.getD_eq_getElem?_getD, hfa2]; rfl
        have c1 := As.mk (fun v (hv : Below wr.heap.size wr v) => path_calls v tb g P (place l) (hTT.out.below hv) (k : Int) hd.out)
        have c2 := As.mk (fun v (hv : Below wr.heap.size wr v) => lfail_calls v lb gl P (failF P) (outF P l) (ownF l) (op P P.length) (hLr.out.below hv) (k : Int))
        have c3 := As.mk (fun v (hv : Below wr.heap.size wr v) => path_calls v tb g P (place l) (hTT.out.below hv) (fa : Int) hd.out)
        have c4 := As.mk (fun v (hv : Below wr.heap.size wr v) A' c' b (hb : Byt v A' b) (hbl : b.length ≤ 1000000) => find_calls v tb g P (place l) (hTT.out.below hv) (by have := hnp.out; omega) A' c' b hb hbl)
        rw [hp1] at c1
        rw [hask] at c2
        rw [hp2] at c3
        have hj4 := As.mk (fun j a b => place_none (j4 j a b))
        obtain ⟨q, hq⟩ : ∃ q, s.drop nn = q := ⟨_, rfl⟩
        rw [hq] at c3
        obtain ⟨lp, hlp⟩ : ∃ lp, s.length = lp := ⟨_, rfl⟩
        obtain ⟨lq, hlq⟩ : ∃ lq, q.length = lq := ⟨_, rfl⟩
        have hlpq : lq + nn = lp := by rw [← hlq, ← hq, List.length_drop, hlp]; omega
        rw [hlp] at hsl j2
        replace hq := As.mk hq
        replace hlp := As.mk hlp
        replace hlq := As.mk hlq
        clear hfv hask hp1 hp2 hfa1 hfa2 hnn j3 j4 hsn hsP hPk hs
        go_wp2_with (go_at_call 22; refine Calls.mono (cnod.out _ hbel.out) ?_; rintro e w' ⟨rfl, rfl⟩)
        refine Calls.mono (c1.out _ (Below.refl _ _)) ?_
        intro e w5 h5
        obtain ⟨v5, rfl, ho5, hb5⟩ := h5
        obtain ⟨A5, c5, hv5, hc5, hby5⟩ := OwnByt.row ho5
        rw [hlp.out] at hv5 hc5
        subst hv5
        obtain ⟨ad5, rfl, _⟩ := Byt.at_ hby5 (i := 0) (by rw [hlp.out]; omega)
        replace hby5 := As.mk hby5
        replace hb5 := As.mk hb5
        clear ho5
        go_wp2_with fail
        refine Calls.mono (c2.out _ hb5.out) ?_
        rintro e w' ⟨rfl, rfl⟩
        go_wp2_with fail
        refine Calls.mono (c3.out _ hb5.out) ?_
        intro e w6 h6
        obtain ⟨v6, rfl, ho6, hb6⟩ := h6
        obtain ⟨A6, c6, hv6, hc6, hby6⟩ := OwnByt.row ho6
        rw [hlq.out] at hv6 hc6
        subst hv6
        have hb56 := As.mk (below_next' hb5.out hb6)
        have hbyp := As.mk (Row.below hby5.out hb6)
        replace hby6 := As.mk hby6
        clear ho6 hb6
        have hcB : ∀ j, (convert 44 9 (.slice A6 lq c6)).run Try.prog (w6.drewN j) = .ok (.string (bb q)) (w6.drewN j) := fun j => by
          have := conv_byt (c := c6) Try.underlying44 (Row.drewN hby6.out j) (by have := hlq.out; omega)
          rwa [hlq.out] at this
        have hcA : ∀ j c', (convert 44 9 (.slice (some (ad5.add nn)) (lp - nn) c')).run Try.prog (w6.drewN j) = .ok (.string (bb q)) (w6.drewN j) := fun j c' => by
          have := conv_byt (c := c') Try.underlying44 (Byt.from_ (b := s) (Row.drewN hbyp.out j) nn) (by rw [List.length_drop]; have := hlp.out; omega)
          rwa [List.length_drop, hlp.out, hq.out] at this
        have hsub : (lp : Int) - (lq : Int) = (nn : Int) := by omega
        have hfa0 : decide ((fa : Int) < 0) = false := by simp only [decide_eq_false_iff_not]; omega
        have hge : decide ((lp : Int) ≤ (lq : Int)) = false := by simp only [decide_eq_false_iff_not]; omega
        have hge2 : decide (lp ≤ lq) = false := by simp only [decide_eq_false_iff_not]; omega
        have hnc : (nn : Int) ≤ (c5 : Int) := by omega
        have hnl : (nn : Int) ≤ (lp : Int) := by omega
        obtain ⟨sq, hsq⟩ : ∃ sq, bb q = sq := ⟨_, rfl⟩
        rw [hsq] at hcB
        rw [hsq] at hcA
        replace hsq := As.mk hsq
        have cfind : ∀ (v : World) (_ : Below w6.heap.size w6 v) (lo : Nat), 1 ≤ lo → lo < nn → Calls Try.prog 24 #[.pointer (some ⟨g, 0, none⟩), .slice (some (ad5.add lo)) (lp - lo) (c5 - lo)] v fun e w' => e = .returned (.int .i64 (-1)) ∧ v = w' := fun v hv lo h1 h2 => by
          have := c4.out v (below_next' hb56.out hv) (some (ad5.add lo)) (c5 - lo) (s.drop lo) (Byt.from_ (b := s) (Row.below hbyp.out hv) lo) (by rw [List.length_drop]; have := hlp.out; omega)
          rw [List.length_drop, hlp.out, hj4.out lo h1 h2] at this
          exact this
        replace cfind := As.mk cfind
        have hb46 := As.mk (below_next' hbel.out hb56.out)
        have hcap : nn < c5 ∨ (nn = c5 ∧ lq = 0) := by omega
        rcases hcap with hcap | ⟨hcap, hlq0⟩
        · go_wp2
          go_quiet (fail)
          have hcf := As.mk (fun v (hv : Below w6.heap.size w6 v) lo h1 h2 => cfind.out v hv lo h1 h2)
          clear hcA hcB
          go_wp2
          go_loopg [12] (lp + 1) (fun g2 i2 wr2 => ∃ n : Nat, As (lp + 1 ≤ g2 + n) ∧ lq + 1 ≤ n ∧ n ≤ lp ∧ i2 = .int .i64 n ∧ As (Below w6.heap.size w6 wr2))
          case atStart => exact ⟨lq + 1, ⟨by omega⟩, Nat.le_refl _, by omega, (by first | rfl | go_num | (congr 1; omega)), ⟨below_drewN (Below.refl _ _) _⟩⟩
          case round =>
            obtain ⟨n, hgn, hn1, hn2, rfl, hbel2⟩ := hrel
            by_cases hnlt : n < lp
            · obtain ⟨gp, rfl⟩ : ∃ gp, gk = gp + 1 := ⟨gk - 1, by have := hgn.out; omega⟩
              obtain ⟨lo, hlo⟩ : ∃ lo, lp - n = lo := ⟨_, rfl⟩
              have hlo1 : 1 ≤ lo := by omega
              have hlo2 : lo < nn := by omega
              have hsub2 : (lp : Int) - (n : Int) = (lo : Int) := by omega
              have cfl := As.mk (hcf.out wr hbel2.out lo hlo1 hlo2)
              have hlc : (lo : Int) ≤ (c5 : Int) := by omega
              have hll : (lo : Int) ≤ (lp : Int) := by omega
              have hlc2 : lo < c5 := by omega
              clear hlo
              go_wp2_with (go_at_call 24; refine Calls.mono cfl.out ?_; rintro e w' ⟨rfl, rfl⟩)
              go_roundg gp
              case rel => exact ⟨n + 1, ⟨by have := hgn.out; omega⟩, by omega, by omega, (by first | rfl | go_num | (congr 1; omega)), hbel2⟩
              case measure => omega
            · have hb4r := As.mk (below_next' hb46.out hbel2.out)
              go_wp2
              go_roundg gq
              case rel => exact ⟨k + 1, ⟨by have := hgk.out; omega⟩, by omega, by omega, (by first | rfl | go_num | (congr 1; omega)), hb4r⟩
              case measure => omega
        · replace hlq0 := As.mk hlq0
          have hcA0 : ∀ j c', (convert 44 9 (.slice (some ad5) 0 c')).run Try.prog (w6.drewN j) = .ok (.string sq) (w6.drewN j) := fun j c' => by
            have hb : Byt (w6.drewN j) (some ad5) [] := .inl rfl
            have := conv_byt (c := c') Try.underlying44 hb (by simp)
            have hqe : q = [] := List.eq_nil_of_length_eq_zero (by have := hlq.out; have := hlq0.out; omega)
            rw [← hsq.out, hqe]
            exact this
          subst hcap
          have hwn : IntKind.i64.wrap (nn : Int) = (nn : Int) := IntWalk.i64_in _ (by have := hlq0.out; omega)
          go_wp2
          go_quiet (fail)
          have hcf := As.mk (fun v (hv : Below w6.heap.size w6 v) lo h1 h2 => cfind.out v hv lo h1 h2)
          clear hcA hcB
          go_wp2
          go_loopg [12] (lp + 1) (fun g2 i2 wr2 => ∃ n : Nat, As (lp + 1 ≤ g2 + n) ∧ lq + 1 ≤ n ∧ n ≤ lp ∧ i2 = .int .i64 n ∧ As (Below w6.heap.size w6 wr2))
          case atStart => exact ⟨lq + 1, ⟨by omega⟩, Nat.le_refl _, by omega, (by first | rfl | go_num | (congr 1; omega)), ⟨below_drewN (Below.refl _ _) _⟩⟩
          case round =>
            obtain ⟨n, hgn, hn1, hn2, rfl, hbel2⟩ := hrel
            by_cases hnlt : n < lp
            · obtain ⟨gp, rfl⟩ : ∃ gp, gk = gp + 1 := ⟨gk - 1, by have := hgn.out; omega⟩
              obtain ⟨lo, hlo⟩ : ∃ lo, lp - n = lo := ⟨_, rfl⟩
              have hlo1 : 1 ≤ lo := by omega
              have hlo2 : lo < nn := by omega
              have hsub2 : (lp : Int) - (n : Int) = (lo : Int) := by omega
              have cfl := As.mk (hcf.out wr hbel2.out lo hlo1 hlo2)
              have hlc : (lo : Int) ≤ (nn : Int) := by omega
              have hll : (lo : Int) ≤ (lp : Int) := by omega
              have hlc2 : lo < nn := by omega
              clear hlo
              go_wp2_with (go_at_call 24; refine Calls.mono cfl.out ?_; rintro e w' ⟨rfl, rfl⟩)
              go_roundg gp
              case rel => exact ⟨n + 1, ⟨by have := hgn.out; omega⟩, by omega, by omega, (by first | rfl | go_num | (congr 1; omega)), hbel2⟩
              case measure => omega
            · have hb4r := As.mk (below_next' hb46.out hbel2.out)
              go_wp2
              go_roundg gq
              case rel => exact ⟨k + 1, ⟨by have := hgk.out; omega⟩, by omega, by omega, (by first | rfl | go_num | (congr 1; omega)), hb4r⟩
              case measure => omega
      · obtain rfl : k = np := by omega
        have hask0 : askF P (failF P) (-1) 0 = -1 := by
          have h0 : P.getD 0 [] = [] := by rw [List.getD_eq_getElem?_getD, hTr.out.root]; rfl
          unfold askF
          rw [if_pos (by have := hnp.out; omega), show (0 : Int).toNat = 0 from rfl, h0, failF_nil]
        have cf0 := As.mk (lfail_calls wr lb gl P (failF P) (outF P l) (ownF l) (op P P.length) hLr.out 0)
        rw [hask0] at cf0
        clear hask0
        go_wp2_with (first
          | (go_at_call 22; refine Calls.mono (cnod.out _ hbel.out) ?_; rintro e w' ⟨rfl, rfl⟩)
          | (go_at_call 13; refine Calls.mono cf0.out ?_; rintro e w' ⟨rfl, rfl⟩))
        go_ret
        exact ⟨rfl, hBr.out⟩
  · --
    have hB := As.mk (Below.refl w.heap.size w)
    have HX := As.mk hx
    have HM := As.mk hm
    clear hx hm
    go_enter Try.func5, Try.ntmps5
    go_wp2_with fail
    refine Calls.mono (awake_calls _) ?_
    rintro e w1 ⟨rfl, hb⟩
    have hs := hb.size
    (try simp only [World.size_alloc, World.size_drew] at hs)
    replace hB := As.mk (below_next' hB.out (by (repeat (first | (with_reducible assumption) | (with_reducible exact Below.refl _ _) | (with_reducible refine Below.drew ?_) | (with_reducible refine Below.alloc ?_ (by (first | omega | (simp only [World.size_alloc, World.size_drew]; done) | (simp only [World.size_alloc, World.size_drew]; omega))) _) | (refine Below.trans ?_ (Below.mono (by with_reducible assumption) (by (first | omega | (simp only [World.size_alloc, World.size_drew]; done) | (simp only [World.size_alloc, World.size_drew]; omega))))))) : Below _ _ w1))
    replace HX := As.mk (HX.out.below (by (repeat (first | (with_reducible assumption) | (with_reducible exact Below.refl _ _) | (with_reducible refine Below.drew ?_) | (with_reducible refine Below.alloc ?_ (by (first | omega | (simp only [World.size_alloc, World.size_drew]; done) | (simp only [World.size_alloc, World.size_drew]; omega))) _) | (refine Below.trans ?_ (Below.mono (by with_reducible assumption) (by (first | omega | (simp only [World.size_alloc, World.size_drew]; done) | (simp only [World.size_alloc, World.size_drew]; omega))))))) : Below _ _ w1))
    replace hb := As.mk hb
    go_wp2_with fail
    refine Calls.mono (texts_calls _ A c l HX.out hc hr HM.out) ?_
    rintro e w2 ⟨⟨A2, c2, b, he, hb0, hS⟩, hb⟩; clear hr
    have hs := hb.size
    (try simp only [World.size_alloc, World.size_drew] at hs)
    replace hB := As.mk (below_next' hB.out (by (repeat (first | (with_reducible assumption) | (with_reducible exact Below.refl _ _) | (with_reducible refine Below.drew ?_) | (with_reducible refine Below.alloc ?_ (by (first | omega | (simp only [World.size_alloc, World.size_drew]; done) | (simp only [World.size_alloc, World.size_drew]; omega))) _) | (refine Below.trans ?_ (Below.mono (by with_reducible assumption) (by (first | omega | (simp only [World.size_alloc, World.size_drew]; done) | (simp only [World.size_alloc, World.size_drew]; omega))))))) : Below _ _ w2))
    replace HX := As.mk (HX.out.below (by (repeat (first | (with_reducible assumption) | (with_reducible exact Below.refl _ _) | (with_reducible refine Below.drew ?_) | (with_reducible refine Below.alloc ?_ (by (first | omega | (simp only [World.size_alloc, World.size_drew]; done) | (simp only [World.size_alloc, World.size_drew]; omega))) _) | (refine Below.trans ?_ (Below.mono (by with_reducible assumption) (by (first | omega | (simp only [World.size_alloc, World.size_drew]; done) | (simp only [World.size_alloc, World.size_drew]; omega))))))) : Below _ _ w2))
    replace hb := As.mk hb
    have hbf : (b && decide (l.length ≤ 12)) = false := by
      cases b with
      | false => rfl
      | true =>
        have h40 := of_decide_eq_true hb0.symm
        simp only [Bool.true_and, decide_eq_false_iff_not]
        exact fun h12 => hf ⟨h12, h40⟩
    obtain ⟨m, hm2⟩ : ∃ m, (if b = true then l.length else 0) = m := ⟨_, rfl⟩
    rw [hbf, hm2] at he
    subst he
    clear hS hb0 hbf hm2
    go_wp2
    go_ret
    exact ⟨rfl, hB.out⟩
end Go.Proofs.Ytcajccknkjljfaa
