/- The walks of the laws LinksTells. -/
import Derived.Test.YtcajccknkjljfaaLinksRef3
import Derived.Test.YtcajccknkjljfaaLinksAwake
import Derived.Deep.DrawnRows
import Derived.Deep.RegionHeld3
set_option linter.unusedVariables false
set_option linter.unusedSimpArgs false
namespace Go.Proofs.Ytcajccknkjljfaa
open Go.RowKit Go.Maps Seine.Trie Seine.Links Go.Proofs.YtcajccknkjljfaaW.PrintWords Go.Proofs.Ytcajccknkjljfaa.Ref
attribute [local go_sem ↓] Go.wp_at_zero Go.wp_at_succ



theorem held_step {w v w' : World} {p : Addr} {u : Value} (h : Below w.heap.size w v) (hb : Below v.heap.size v w') (hp : w.cell? p = some u) : w'.cell? p = some u ∧ Below w.heap.size w w' := by
  have h2 := below_next' h hb
  exact ⟨(h2.cell (World.block_lt_of_cell? w _ hp)).trans hp, h2⟩
theorem outF_none_node (P l : List Txt) (d n : Int) (f : Txt → Int) (h : ¬ (0 ≤ n ∧ n < P.length)) : askF P f d n = d := if_neg h
theorem endsAt_none {P l : List Txt} {n : Int} (h : ¬ (0 ≤ n ∧ n < P.length)) : endsAt P l n = [] := if_neg h
set_option maxRecDepth 100000 in
set_option maxHeartbeats 3200000 in
theorem tells_walk (A : Option Addr) (c : Nat) (l : List Txt) (n : Int) (w : World) (hx : Txts w A l) (hc : l.length ≤ c) (hr : c * 24 ≤ 140737488351232) (hm : ∀ x ∈ l, x.length ≤ maxLen) (hn : (Lit.int .i64 n).wf = true) :
    Calls Try.prog 3 #[.slice A l.length c, .int .i64 n] w fun e w' => e = .returned (.bool true) ∧ Below w.heap.size w w' := by
  clear hn
  by_cases hf : Few l
  · --
    have hB := As.mk (Below.refl w.heap.size w)
    have HX := As.mk hx
    have HM := As.mk hm
    clear hx hm
    go_enter Try.func3, Try.ntmps3
    go_wp2_with fail
    refine Calls.mono (awake_calls _) ?_
    rintro e w1 ⟨rfl, hb⟩
    have hs := hb.size
    (try simp only [World.size_alloc, World.size_drew] at hs)
    replace hB := As.mk (below_next' hB.out (by (repeat (first | (with_reducible assumption) | (with_reducible exact Below.refl _ _) | (with_reducible refine Below.drew ?_) | (with_reducible refine Below.alloc ?_ (by (first | omega | (simp only [World.size_alloc, World.size_drew]; done) | (simp only [World.size_alloc, World.size_drew]; omega))) _) | (refine Below.trans ?_ (Below.mono (by with_reducible assumption) (by (first | omega | (simp only [World.size_alloc, World.size_drew]; done) | (simp only [World.size_alloc, World.size_drew]; omega))))))) : Below _ _ w1))
    replace HX := As.mk (HX.out.below (by (repeat (first | (with_reducible assumption) | (with_reducible exact Below.refl _ _) | (with_reducible refine Below.drew ?_) | (with_reducible refine Below.alloc ?_ (by (first | omega | (simp only [World.size_alloc, World.size_drew]; done) | (simp only [World.size_alloc, World.size_drew]; omega))) _) | (refine Below.trans ?_ (Below.mono (by with_reducible assumption) (by (first | omega | (simp only [World.size_alloc, World.size_drew]; done) | (simp only [World.size_alloc, World.size_drew]; omega))))))) : Below _ _ w1))
    replace hb := As.mk hb
    go_wp2_with fail
    refine Calls.mono (texts_calls _ A c l HX.out hc hr HM.out) ?_
    rintro e w2 ⟨⟨A2, c2, b, he, hb0, hS⟩, hb⟩; clear hr
    have hs := hb.size
    (try simp only [World.size_alloc, World.size_drew] at hs)
    replace hB := As.mk (below_next' hB.out (by (repeat (first | (with_reducible assumption) | (with_reducible exact Below.refl _ _) | (with_reducible refine Below.drew ?_) | (with_reducible refine Below.alloc ?_ (by (first | omega | (simp only [World.size_alloc, World.size_drew]; done) | (simp only [World.size_alloc, World.size_drew]; omega))) _) | (refine Below.trans ?_ (Below.mono (by with_reducible assumption) (by (first | omega | (simp only [World.size_alloc, World.size_drew]; done) | (simp only [World.size_alloc, World.size_drew]; omega))))))) : Below _ _ w2))
    replace HX := As.mk (HX.out.below (by (repeat (first | (with_reducible assumption) | (with_reducible exact Below.refl _ _) | (with_reducible refine Below.drew ?_) | (with_reducible refine Below.alloc ?_ (by (first | omega | (simp only [World.size_alloc, World.size_drew]; done) | (simp only [World.size_alloc, World.size_drew]; omega))) _) | (refine Below.trans ?_ (Below.mono (by with_reducible assumption) (by (first | omega | (simp only [World.size_alloc, World.size_drew]; done) | (simp only [World.size_alloc, World.size_drew]; omega))))))) : Below _ _ w2))
    replace hb := As.mk hb
    obtain rfl : b = true := by rw [hb0]; exact decide_eq_true hf.short
    have hd12 : decide (l.length ≤ 12) = true := decide_eq_true hf.len
    rw [Bool.true_and, hd12, if_pos rfl] at he
    subst he
    obtain ⟨hc2, hS2⟩ := hS rfl
    clear hS
    have hS := As.mk hS2
    clear hS2
    have hl12 := hf.len
    have htot := As.mk hf.tot
    have hpl0 := hf.paths_len
    have hps0 := hf.path_short
    have hT0 := paths_tree l
    have hlP0 := text_path (l := l)
    clear hb0 hd12
    obtain ⟨P, hP⟩ : ∃ P, paths l = P := ⟨_, rfl⟩
    rw [hP] at hpl0 hps0 hT0 hlP0
    have hps := As.mk hps0
    have hTr := As.mk hT0
    have hlP := As.mk hlP0
    have hd := As.mk (show ∀ p ∈ P, p.length ≤ 100000 from fun p hp => by have := hps.out p hp; omega)
    replace hP := As.mk hP
    clear hps0 hT0 hlP0 hf
    go_wp2_with fail
    refine Calls.mono (build_calls _ A c l HX.out (by have := htot.out; omega) (by omega)) ?_
    rintro e w3 ⟨g, rfl, hT, hb⟩; rw [hP.out] at hT; obtain ⟨tb, hT⟩ : ∃ tb, TrieAt w3 tb g P (place l) := ⟨_, hT⟩; replace hT := As.mk hT
    have hs := hb.size
    (try simp only [World.size_alloc, World.size_drew] at hs)
    replace hB := As.mk (below_next' hB.out (by (repeat (first | (with_reducible assumption) | (with_reducible exact Below.refl _ _) | (with_reducible refine Below.drew ?_) | (with_reducible refine Below.alloc ?_ (by (first | omega | (simp only [World.size_alloc, World.size_drew]; done) | (simp only [World.size_alloc, World.size_drew]; omega))) _) | (refine Below.trans ?_ (Below.mono (by with_reducible assumption) (by (first | omega | (simp only [World.size_alloc, World.size_drew]; done) | (simp only [World.size_alloc, World.size_drew]; omega))))))) : Below _ _ w3))
    replace HX := As.mk (HX.out.below (by (repeat (first | (with_reducible assumption) | (with_reducible exact Below.refl _ _) | (with_reducible refine Below.drew ?_) | (with_reducible refine Below.alloc ?_ (by (first | omega | (simp only [World.size_alloc, World.size_drew]; done) | (simp only [World.size_alloc, World.size_drew]; omega))) _) | (refine Below.trans ?_ (Below.mono (by with_reducible assumption) (by (first | omega | (simp only [World.size_alloc, World.size_drew]; done) | (simp only [World.size_alloc, World.size_drew]; omega))))))) : Below _ _ w3))
    replace hS := As.mk (hS.out.below (by (repeat (first | (with_reducible assumption) | (with_reducible exact Below.refl _ _) | (with_reducible refine Below.drew ?_) | (with_reducible refine Below.alloc ?_ (by (first | omega | (simp only [World.size_alloc, World.size_drew]; done) | (simp only [World.size_alloc, World.size_drew]; omega))) _) | (refine Below.trans ?_ (Below.mono (by with_reducible assumption) (by (first | omega | (simp only [World.size_alloc, World.size_drew]; done) | (simp only [World.size_alloc, World.size_drew]; omega))))))) : Below _ _ w3))
    replace hb := As.mk hb
    go_wp2_with fail
    refine Calls.mono (lbuild_calls _ tb g P l hT.out (by omega) hd.out hlP.out) ?_
    rintro e w4 ⟨gl, rfl, hL, hb⟩; obtain ⟨lb, hL⟩ : ∃ lb, LinksOf w4 lb gl P l := ⟨_, hL⟩; replace hL := As.mk hL
    have hs := hb.size
    (try simp only [World.size_alloc, World.size_drew] at hs)
    replace hB := As.mk (below_next' hB.out (by (repeat (first | (with_reducible assumption) | (with_reducible exact Below.refl _ _) | (with_reducible refine Below.drew ?_) | (with_reducible refine Below.alloc ?_ (by (first | omega | (simp only [World.size_alloc, World.size_drew]; done) | (simp only [World.size_alloc, World.size_drew]; omega))) _) | (refine Below.trans ?_ (Below.mono (by with_reducible assumption) (by (first | omega | (simp only [World.size_alloc, World.size_drew]; done) | (simp only [World.size_alloc, World.size_drew]; omega))))))) : Below _ _ w4))
    replace HX := As.mk (HX.out.below (by (repeat (first | (with_reducible assumption) | (with_reducible exact Below.refl _ _) | (with_reducible refine Below.drew ?_) | (with_reducible refine Below.alloc ?_ (by (first | omega | (simp only [World.size_alloc, World.size_drew]; done) | (simp only [World.size_alloc, World.size_drew]; omega))) _) | (refine Below.trans ?_ (Below.mono (by with_reducible assumption) (by (first | omega | (simp only [World.size_alloc, World.size_drew]; done) | (simp only [World.size_alloc, World.size_drew]; omega))))))) : Below _ _ w4))
    replace hS := As.mk (hS.out.below (by (repeat (first | (with_reducible assumption) | (with_reducible exact Below.refl _ _) | (with_reducible refine Below.drew ?_) | (with_reducible refine Below.alloc ?_ (by (first | omega | (simp only [World.size_alloc, World.size_drew]; done) | (simp only [World.size_alloc, World.size_drew]; omega))) _) | (refine Below.trans ?_ (Below.mono (by with_reducible assumption) (by (first | omega | (simp only [World.size_alloc, World.size_drew]; done) | (simp only [World.size_alloc, World.size_drew]; omega))))))) : Below _ _ w4))
    replace hT := As.mk (hT.out.below (by (repeat (first | (with_reducible assumption) | (with_reducible exact Below.refl _ _) | (with_reducible refine Below.drew ?_) | (with_reducible refine Below.alloc ?_ (by (first | omega | (simp only [World.size_alloc, World.size_drew]; done) | (simp only [World.size_alloc, World.size_drew]; omega))) _) | (refine Below.trans ?_ (Below.mono (by with_reducible assumption) (by (first | omega | (simp only [World.size_alloc, World.size_drew]; done) | (simp only [World.size_alloc, World.size_drew]; omega))))))) : Below _ _ w4))
    replace hb := As.mk hb
    go_wp2_with fail
    refine Calls.mono (rpaths_calls _ A2 c2 l hS.out hc2 (by omega) (by have := htot.out; omega)) ?_
    rintro e w6 ⟨A6, c6, he, hc6, hp6, hb⟩; rw [hP.out] at he hc6 hp6; obtain ⟨np, hnp⟩ : ∃ np, P.length = np := ⟨_, rfl⟩; rw [hnp] at he hc6 hpl0; subst he; replace hp6 := As.mk hp6; replace hnp := As.mk hnp
    have hs := hb.size
    (try simp only [World.size_alloc, World.size_drew] at hs)
    replace hB := As.mk (below_next' hB.out (by (repeat (first | (with_reducible assumption) | (with_reducible exact Below.refl _ _) | (with_reducible refine Below.drew ?_) | (with_reducible refine Below.alloc ?_ (by (first | omega | (simp only [World.size_alloc, World.size_drew]; done) | (simp only [World.size_alloc, World.size_drew]; omega))) _) | (refine Below.trans ?_ (Below.mono (by with_reducible assumption) (by (first | omega | (simp only [World.size_alloc, World.size_drew]; done) | (simp only [World.size_alloc, World.size_drew]; omega))))))) : Below _ _ w6))
    replace HX := As.mk (HX.out.below (by (repeat (first | (with_reducible assumption) | (with_reducible exact Below.refl _ _) | (with_reducible refine Below.drew ?_) | (with_reducible refine Below.alloc ?_ (by (first | omega | (simp only [World.size_alloc, World.size_drew]; done) | (simp only [World.size_alloc, World.size_drew]; omega))) _) | (refine Below.trans ?_ (Below.mono (by with_reducible assumption) (by (first | omega | (simp only [World.size_alloc, World.size_drew]; done) | (simp only [World.size_alloc, World.size_drew]; omega))))))) : Below _ _ w6))
    replace hS := As.mk (hS.out.below (by (repeat (first | (with_reducible assumption) | (with_reducible exact Below.refl _ _) | (with_reducible refine Below.drew ?_) | (with_reducible refine Below.alloc ?_ (by (first | omega | (simp only [World.size_alloc, World.size_drew]; done) | (simp only [World.size_alloc, World.size_drew]; omega))) _) | (refine Below.trans ?_ (Below.mono (by with_reducible assumption) (by (first | omega | (simp only [World.size_alloc, World.size_drew]; done) | (simp only [World.size_alloc, World.size_drew]; omega))))))) : Below _ _ w6))
    replace hT := As.mk (hT.out.below (by (repeat (first | (with_reducible assumption) | (with_reducible exact Below.refl _ _) | (with_reducible refine Below.drew ?_) | (with_reducible refine Below.alloc ?_ (by (first | omega | (simp only [World.size_alloc, World.size_drew]; done) | (simp only [World.size_alloc, World.size_drew]; omega))) _) | (refine Below.trans ?_ (Below.mono (by with_reducible assumption) (by (first | omega | (simp only [World.size_alloc, World.size_drew]; done) | (simp only [World.size_alloc, World.size_drew]; omega))))))) : Below _ _ w6))
    replace hL := As.mk (hL.out.below (by (repeat (first | (with_reducible assumption) | (with_reducible exact Below.refl _ _) | (with_reducible refine Below.drew ?_) | (with_reducible refine Below.alloc ?_ (by (first | omega | (simp only [World.size_alloc, World.size_drew]; done) | (simp only [World.size_alloc, World.size_drew]; omega))) _) | (refine Below.trans ?_ (Below.mono (by with_reducible assumption) (by (first | omega | (simp only [World.size_alloc, World.size_drew]; done) | (simp only [World.size_alloc, World.size_drew]; omega))))))) : Below _ _ w6))
    replace hb := As.mk hb
    go_wp2_with fail
    go_loopw [10] (fun i wr => ∃ k : Nat, k ≤ np ∧ i = .int .i64 k ∧ As (Below w6.heap.size w6 wr)) (fun i _ => np - (intOf i).toNat)
    case atStart => exact ⟨0, Nat.zero_le _, rfl, ⟨Below.refl _ _⟩⟩
    case round =>
      obtain ⟨k, hk, rfl, hbel⟩ := hrel
      have hLr := As.mk (hL.out.below hbel.out)
      have hSr := As.mk (hS.out.below hbel.out)
      have hpr := As.mk (hp6.out.below hbel.out)
      have hBr := As.mk (below_next' hB.out hbel.out)
      by_cases hlt : k < np
      · obtain ⟨s, hs⟩ : ∃ s, P.getD k [] = s := ⟨_, rfl⟩
        have hPk := get_at (P := P) (a := k) (by rw [hnp.out]; exact hlt)
        rw [hs] at hPk
        have hsl : s.length ≤ 40 := hps.out s (List.mem_of_getElem? hPk)
        have hcl : ∀ {v}, KdS v A6 P → ∃ ad, A6 = some ad ∧ v.cell? (ad.add k) = some (.string (bb s)) := fun h => by
          obtain ⟨ad, h1, h2⟩ := h.at_ (i := k) (by rw [hnp.out]; exact hlt)
          rw [hs] at h2
          exact ⟨ad, h1, h2⟩
        have hcl := As.mk @hcl
        obtain ⟨ad, rfl, hcell0⟩ := hcl.out hpr.out
        have hE := endsAt_place (l := l) hTr.out hPk
        obtain ⟨E, hEE⟩ : ∃ E, endsF l s = E := ⟨_, rfl⟩
        have hEl : E.length ≤ 40 := by rw [← hEE]; have := endsF_length l s; omega
        have hask : ∀ (f : Txt → Int) (d : Int), askF P f d (k : Int) = f s := fun f d => by
          unfold askF
          rw [if_pos (by have := hnp.out; omega), Int.toNat_natCast, hs]
        rw [hEE] at hE
        obtain ⟨el, hel⟩ : ∃ el, E.length = el := ⟨_, rfl⟩
        rw [hel] at hEl
        obtain ⟨fv, hfv⟩ : ∃ fv, failF P s = fv := ⟨_, rfl⟩
        obtain ⟨ov, hov⟩ : ∃ ov, outF P l s = ov := ⟨_, rfl⟩
        have hask := As.mk hask
        have hEE := As.mk hEE
        have hE := As.mk hE
        have hel := As.mk hel
        have hfv := As.mk hfv
        have hov := As.mk hov
        have hs := As.mk hs
        have hPk := As.mk hPk
        have hsl2 := As.mk hsl
        go_wp2_with fail
        refine Calls.mono (rends_calls _ A2 c2 l hSr.out hc2 (by omega) s (by omega)) ?_
        intro e w7 h7; rw [hEE.out] at h7; obtain ⟨A7, c7, he, hc7, hr7, hb⟩ := h7.row; rw [hel.out] at he hc7; subst he; replace hr7 := As.mk hr7; clear h7 hcell0
        have hs := hb.size
        (try simp only [World.size_alloc, World.size_drew] at hs)
        replace hBr := As.mk (below_next' hBr.out (by (repeat (first | (with_reducible assumption) | (with_reducible exact Below.refl _ _) | (with_reducible refine Below.drew ?_) | (with_reducible refine Below.alloc ?_ (by (first | omega | (simp only [World.size_alloc, World.size_drew]; done) | (simp only [World.size_alloc, World.size_drew]; omega))) _) | (refine Below.trans ?_ (Below.mono (by with_reducible assumption) (by (first | omega | (simp only [World.size_alloc, World.size_drew]; done) | (simp only [World.size_alloc, World.size_drew]; omega))))))) : Below _ _ w7))
        replace hLr := As.mk (hLr.out.below (by (repeat (first | (with_reducible assumption) | (with_reducible exact Below.refl _ _) | (with_reducible refine Below.drew ?_) | (with_reducible refine Below.alloc ?_ (by (first | omega | (simp only [World.size_alloc, World.size_drew]; done) | (simp only [World.size_alloc, World.size_drew]; omega))) _) | (refine Below.trans ?_ (Below.mono (by with_reducible assumption) (by (first | omega | (simp only [World.size_alloc, World.size_drew]; done) | (simp only [World.size_alloc, World.size_drew]; omega))))))) : Below _ _ w7))
        replace hSr := As.mk (hSr.out.below (by (repeat (first | (with_reducible assumption) | (with_reducible exact Below.refl _ _) | (with_reducible refine Below.drew ?_) | (with_reducible refine Below.alloc ?_ (by (first | omega | (simp only [World.size_alloc, World.size_drew]; done) | (simp only [World.size_alloc, World.size_drew]; omega))) _) | (refine Below.trans ?_ (Below.mono (by with_reducible assumption) (by (first | omega | (simp only [World.size_alloc, World.size_drew]; done) | (simp only [World.size_alloc, World.size_drew]; omega))))))) : Below _ _ w7))
        replace hpr := As.mk (hpr.out.below (by (repeat (first | (with_reducible assumption) | (with_reducible exact Below.refl _ _) | (with_reducible refine Below.drew ?_) | (with_reducible refine Below.alloc ?_ (by (first | omega | (simp only [World.size_alloc, World.size_drew]; done) | (simp only [World.size_alloc, World.size_drew]; omega))) _) | (refine Below.trans ?_ (Below.mono (by with_reducible assumption) (by (first | omega | (simp only [World.size_alloc, World.size_drew]; done) | (simp only [World.size_alloc, World.size_drew]; omega))))))) : Below _ _ w7))
        replace hb := As.mk hb
        have hb67 := As.mk (below_next' hbel.out hb.out)
        obtain ⟨ad', had, hcell⟩ := hcl.out hpr.out
        injection had with had
        subst had
        have hbd : Below w7.heap.size w7 w7.drew := (Below.refl _ _).drew
        have cF := As.mk (fun (v : World) (h : Below w7.heap.size w7 v) => (by have := lfail_calls v lb gl P (failF P) (outF P l) (ownF l) (op P P.length) (hLr.out.below h) (k : Int); rw [hask.out, hfv.out] at this; exact this : Calls Try.prog 13 #[.pointer (some ⟨gl, 0, none⟩), .int .i64 (k : Int)] v fun e w' => e = .returned (.int .i64 fv) ∧ v = w'))
        have cO := As.mk (fun (v : World) (h : Below w7.heap.size w7 v) => (by have := lout_calls v lb gl P (failF P) (outF P l) (ownF l) (op P P.length) (hLr.out.below h) (k : Int); rw [hask.out, hov.out] at this; exact this : Calls Try.prog 15 #[.pointer (some ⟨gl, 0, none⟩), .int .i64 (k : Int)] v fun e w' => e = .returned (.int .i64 ov) ∧ v = w'))
        have cE := As.mk (fun (v : World) (h : Below w7.heap.size w7 v) => (by have := lends_calls v lb gl P l hTr.out hlP.out hd.out (hLr.out.below h) (k : Int); rw [hE.out] at this; exact this : Calls Try.prog 18 #[.pointer (some ⟨gl, 0, none⟩), .int .i64 (k : Int)] v (RetInts v E)))
        have cG := As.mk (fun (v : World) (h : Below w7.heap.size w7 v) => (by have := llongest_calls v lb gl P l hTr.out hlP.out hd.out (hLr.out.below h) (k : Int); rw [hE.out] at this; exact this : Calls Try.prog 19 #[.pointer (some ⟨gl, 0, none⟩), .int .i64 (k : Int)] v fun e w' => e = .returned (.int .i64 (E.headD 0)) ∧ Below v.heap.size v w'))
        have cRF := As.mk (fun (v : World) (h : Below w7.heap.size w7 v) => (by have := rfail_calls v (some ad) c6 P (hpr.out.below h) (by rw [hnp.out]; exact hc6) (by have := hnp.out; omega) s (by have := hsl2.out; omega); rw [hfv.out, hnp.out] at this; exact this : Calls Try.prog 14 #[.slice (some ad) np c6, .string (bb s)] v fun e w' => e = .returned (.int .i64 fv) ∧ Below v.heap.size v w'))
        have cRO := As.mk (fun (v : World) (h : Below w7.heap.size w7 v) => (by have := rout_calls v (some ad) A2 c6 c2 P l (hpr.out.below h) (by rw [hnp.out]; exact hc6) (by have := hnp.out; omega) (hSr.out.below h) hc2 (by omega) s (by have := hsl2.out; omega); rw [hov.out, hnp.out] at this; exact this : Calls Try.prog 16 #[.slice (some ad) np c6, .slice A2 l.length c2, .string (bb s)] v fun e w' => e = .returned (.int .i64 ov) ∧ Below v.heap.size v w'))
        have cS := As.mk (fun (v : World) (h : Below w7.heap.size w7 v) (A8 : Option Addr) (c8 : Nat) (h8 : Ints v A8 E) (hc8 : el ≤ c8) => (by have := rsame_calls v A8 A7 c8 c7 E E h8 (by rw [hel.out]; exact hc8) (Row.below hr7.out h) (by rw [hel.out]; exact hc7) (by have := hel.out; omega) (by have := hel.out; omega); rw [decide_eq_true rfl, hel.out] at this; exact this : Calls Try.prog 17 #[.slice A8 el c8, .slice A7 el c7] v fun e w' => e = .returned (.bool true) ∧ Below v.heap.size v w'))
        by_cases he0 : el = 0
        · have hE0 : E = [] := List.eq_nil_of_length_eq_zero (by rw [hel.out, he0])
          subst he0
          have hlg : E.headD 0 = 0 := by rw [hE0]; rfl
          rw [hlg] at cG
          clear hlg hE0
          go_wp2_with fail
          go_region_held3 (fun w' => w'.cell? (ad.add k) = some (.string (bb s)) ∧ Below w7.heap.size w7 w')
            (first
              | go_keep
              | (go_split_ands; exact held_step (by with_reducible assumption) hb hcell))
            (first
              | (go_at_call 13; go_split_ands; refine Calls.mono (cF.out _ (by with_reducible assumption)) ?_; rintro e w' ⟨rfl, rfl⟩)
              | (go_at_call 15; go_split_ands; refine Calls.mono (cO.out _ (by with_reducible assumption)) ?_; rintro e w' ⟨rfl, rfl⟩)
              | (go_at_call 14; go_split_ands; refine Calls.mono (cRF.out _ (by with_reducible assumption)) ?_; rintro e w' ⟨rfl, hb⟩)
              | (go_at_call 16; go_split_ands; refine Calls.mono (cRO.out _ (by with_reducible assumption)) ?_; rintro e w' ⟨rfl, hb⟩)
              | (go_at_call 18; go_split_ands; refine Calls.mono (cE.out _ (by with_reducible assumption)) ?_; intro e w' h8; obtain ⟨A8, c8, he, hc8, hr8, hb⟩ := h8.row; rw [hel.out] at he hc8; subst he; replace hr8 := As.mk hr8; clear h8)
              | (go_at_call 17; go_split_ands; refine Calls.mono (cS.out _ (by with_reducible assumption) _ _ hr8.out hc8) ?_; rintro e w' ⟨rfl, hb⟩)
              | (go_at_call 19; go_split_ands; refine Calls.mono (cG.out _ (by with_reducible assumption)) ?_; rintro e w' ⟨rfl, hb⟩))
          all_goals
            go_split_ands
            go_wp2
            go_roundw
            case rel => exact ⟨k + 1, by omega, by go_num, ⟨below_next' hb67.out (by with_reducible assumption)⟩⟩
            case measure => simp [intOf]; omega
        · have hel0 : 0 < el := by omega
          obtain ⟨ad9, rfl, hc9⟩ := Ints.at_ hr7.out (i := 0) (by rw [hel.out]; exact hel0)
          have hlg : E.headD 0 = E.getD 0 0 := by cases E <;> rfl
          rw [hlg] at cG
          obtain ⟨lg, hlg2⟩ : ∃ lg, E.getD 0 0 = lg := ⟨_, rfl⟩
          rw [hlg2] at cG hc9
          rw [show ad9.add 0 = ad9 from (by unfold Addr.add; simp)] at hc9
          clear hlg hlg2 he0
          go_wp2_with fail
          go_region_held3 (fun w' => w'.cell? (ad.add k) = some (.string (bb s)) ∧ Below w7.heap.size w7 w')
            (first
              | go_keep
              | (go_split_ands; exact held_step (by with_reducible assumption) hb hcell))
            (first
              | (go_at_call 13; go_split_ands; refine Calls.mono (cF.out _ (by with_reducible assumption)) ?_; rintro e w' ⟨rfl, rfl⟩)
              | (go_at_call 15; go_split_ands; refine Calls.mono (cO.out _ (by with_reducible assumption)) ?_; rintro e w' ⟨rfl, rfl⟩)
              | (go_at_call 14; go_split_ands; refine Calls.mono (cRF.out _ (by with_reducible assumption)) ?_; rintro e w' ⟨rfl, hb⟩)
              | (go_at_call 16; go_split_ands; refine Calls.mono (cRO.out _ (by with_reducible assumption)) ?_; rintro e w' ⟨rfl, hb⟩)
              | (go_at_call 18; go_split_ands; refine Calls.mono (cE.out _ (by with_reducible assumption)) ?_; intro e w' h8; obtain ⟨A8, c8, he, hc8, hr8, hb⟩ := h8.row; rw [hel.out] at he hc8; subst he; replace hr8 := As.mk hr8; clear h8)
              | (go_at_call 17; go_split_ands; refine Calls.mono (cS.out _ (by with_reducible assumption) _ _ hr8.out hc8) ?_; rintro e w' ⟨rfl, hb⟩)
              | (go_at_call 19; go_split_ands; refine Calls.mono (cG.out _ (by with_reducible assumption)) ?_; rintro e w' ⟨rfl, hb⟩))
          all_goals
            go_split_ands
            go_wp2
            go_roundw
            case rel => exact ⟨k + 1, by omega, by go_num, ⟨below_next' hb67.out (by with_reducible assumption)⟩⟩
            case measure => simp [intOf]; omega
      · obtain rfl : k = np := by omega
        by_cases hnn : 0 ≤ n ∧ n < (k : Int)
        · obtain ⟨h1, h2⟩ := hnn
          go_wp2
          go_ret
          exact ⟨rfl, hBr.out⟩
        · have hnn' : ¬ (0 ≤ n ∧ n < P.length) := by rw [hnp.out]; exact hnn
          have hq : (decide (0 ≤ n) && decide (n < (k : Int))) = false := by
            rw [← Bool.decide_and]; exact decide_eq_false hnn
          have e1 := As.mk (outF_none_node P l (-1) n (failF P) hnn')
          have e2 := As.mk (outF_none_node P l (-1) n (outF P l) hnn')
          have e3 := As.mk (endsAt_none (l := l) hnn')
          clear hnn'
          rcases (show n < 0 ∨ (0 ≤ n ∧ (k : Int) ≤ n) by omega) with hneg | ⟨hp1, hp2⟩
          all_goals
            clear hnn hq
            go_wp2_with fail
            refine Calls.mono (lfail_calls _ lb gl P (failF P) (outF P l) (ownF l) (op P P.length) hLr.out n) ?_
            rintro e w' ⟨he, rfl⟩; rw [e1.out] at he; subst he
            go_wp2_with fail
            refine Calls.mono (lout_calls _ lb gl P (failF P) (outF P l) (ownF l) (op P P.length) hLr.out n) ?_
            rintro e w' ⟨he, rfl⟩; rw [e2.out] at he; subst he
            go_wp2_with fail
            refine Calls.mono (lends_calls _ lb gl P l hTr.out hlP.out hd.out hLr.out n) ?_
            intro e w8 h8; rw [e3.out] at h8; obtain ⟨A8, c8, he, hc8, hr8, hb⟩ := h8.row; rw [List.length_nil] at he; subst he; clear h8 hr8 hc8
            have hs := hb.size
            (try simp only [World.size_alloc, World.size_drew] at hs)
            replace hBr := As.mk (below_next' hBr.out (by (repeat (first | (with_reducible assumption) | (with_reducible exact Below.refl _ _) | (with_reducible refine Below.drew ?_) | (with_reducible refine Below.alloc ?_ (by (first | omega | (simp only [World.size_alloc, World.size_drew]; done) | (simp only [World.size_alloc, World.size_drew]; omega))) _) | (refine Below.trans ?_ (Below.mono (by with_reducible assumption) (by (first | omega | (simp only [World.size_alloc, World.size_drew]; done) | (simp only [World.size_alloc, World.size_drew]; omega))))))) : Below _ _ w8))
            replace hLr := As.mk (hLr.out.below (by (repeat (first | (with_reducible assumption) | (with_reducible exact Below.refl _ _) | (with_reducible refine Below.drew ?_) | (with_reducible refine Below.alloc ?_ (by (first | omega | (simp only [World.size_alloc, World.size_drew]; done) | (simp only [World.size_alloc, World.size_drew]; omega))) _) | (refine Below.trans ?_ (Below.mono (by with_reducible assumption) (by (first | omega | (simp only [World.size_alloc, World.size_drew]; done) | (simp only [World.size_alloc, World.size_drew]; omega))))))) : Below _ _ w8))
            replace hb := As.mk hb
            go_wp2_with fail
            refine Calls.mono (llongest_calls _ lb gl P l hTr.out hlP.out hd.out hLr.out n) ?_
            rintro e w9 ⟨he, hb⟩; rw [e3.out] at he; replace he : e = .returned (.int .i64 0) := he; subst he
            have hs := hb.size
            (try simp only [World.size_alloc, World.size_drew] at hs)
            replace hBr := As.mk (below_next' hBr.out (by (repeat (first | (with_reducible assumption) | (with_reducible exact Below.refl _ _) | (with_reducible refine Below.drew ?_) | (with_reducible refine Below.alloc ?_ (by (first | omega | (simp only [World.size_alloc, World.size_drew]; done) | (simp only [World.size_alloc, World.size_drew]; omega))) _) | (refine Below.trans ?_ (Below.mono (by with_reducible assumption) (by (first | omega | (simp only [World.size_alloc, World.size_drew]; done) | (simp only [World.size_alloc, World.size_drew]; omega))))))) : Below _ _ w9))
            replace hLr := As.mk (hLr.out.below (by (repeat (first | (with_reducible assumption) | (with_reducible exact Below.refl _ _) | (with_reducible refine Below.drew ?_) | (with_reducible refine Below.alloc ?_ (by (first | omega | (simp only [World.size_alloc, World.size_drew]; done) | (simp only [World.size_alloc, World.size_drew]; omega))) _) | (refine Below.trans ?_ (Below.mono (by with_reducible assumption) (by (first | omega | (simp only [World.size_alloc, World.size_drew]; done) | (simp only [World.size_alloc, World.size_drew]; omega))))))) : Below _ _ w9))
            replace hb := As.mk hb
            go_wp2
            go_ret
            exact ⟨rfl, hBr.out⟩
  · --
    have hB := As.mk (Below.refl w.heap.size w)
    have HX := As.mk hx
    have HM := As.mk hm
    clear hx hm
    go_enter Try.func3, Try.ntmps3
    go_wp2_with fail
    refine Calls.mono (awake_calls _) ?_
    rintro e w1 ⟨rfl, hb⟩
    have hs := hb.size
    (try simp only [World.size_alloc, World.size_drew] at hs)
    replace hB := As.mk (below_next' hB.out (by (repeat (first | (with_reducible assumption) | (with_reducible exact Below.refl _ _) | (with_reducible refine Below.drew ?_) | (with_reducible refine Below.alloc ?_ (by (first | omega | (simp only [World.size_alloc, World.size_drew]; done) | (simp only [World.size_alloc, World.size_drew]; omega))) _) | (refine Below.trans ?_ (Below.mono (by with_reducible assumption) (by (first | omega | (simp only [World.size_alloc, World.size_drew]; done) | (simp only [World.size_alloc, World.size_drew]; omega))))))) : Below _ _ w1))
    replace HX := As.mk (HX.out.below (by (repeat (first | (with_reducible assumption) | (with_reducible exact Below.refl _ _) | (with_reducible refine Below.drew ?_) | (with_reducible refine Below.alloc ?_ (by (first | omega | (simp only [World.size_alloc, World.size_drew]; done) | (simp only [World.size_alloc, World.size_drew]; omega))) _) | (refine Below.trans ?_ (Below.mono (by with_reducible assumption) (by (first | omega | (simp only [World.size_alloc, World.size_drew]; done) | (simp only [World.size_alloc, World.size_drew]; omega))))))) : Below _ _ w1))
    replace hb := As.mk hb
    go_wp2_with fail
    refine Calls.mono (texts_calls _ A c l HX.out hc hr HM.out) ?_
    rintro e w2 ⟨⟨A2, c2, b, he, hb0, hS⟩, hb⟩; clear hr
    have hs := hb.size
    (try simp only [World.size_alloc, World.size_drew] at hs)
    replace hB := As.mk (below_next' hB.out (by (repeat (first | (with_reducible assumption) | (with_reducible exact Below.refl _ _) | (with_reducible refine Below.drew ?_) | (with_reducible refine Below.alloc ?_ (by (first | omega | (simp only [World.size_alloc, World.size_drew]; done) | (simp only [World.size_alloc, World.size_drew]; omega))) _) | (refine Below.trans ?_ (Below.mono (by with_reducible assumption) (by (first | omega | (simp only [World.size_alloc, World.size_drew]; done) | (simp only [World.size_alloc, World.size_drew]; omega))))))) : Below _ _ w2))
    replace HX := As.mk (HX.out.below (by (repeat (first | (with_reducible assumption) | (with_reducible exact Below.refl _ _) | (with_reducible refine Below.drew ?_) | (with_reducible refine Below.alloc ?_ (by (first | omega | (simp only [World.size_alloc, World.size_drew]; done) | (simp only [World.size_alloc, World.size_drew]; omega))) _) | (refine Below.trans ?_ (Below.mono (by with_reducible assumption) (by (first | omega | (simp only [World.size_alloc, World.size_drew]; done) | (simp only [World.size_alloc, World.size_drew]; omega))))))) : Below _ _ w2))
    replace hb := As.mk hb
    have hbf : (b && decide (l.length ≤ 12)) = false := by
      cases b with
      | false => rfl
      | true =>
        have h40 := of_decide_eq_true hb0.symm
        simp only [Bool.true_and, decide_eq_false_iff_not]
        exact fun h12 => hf ⟨h12, h40⟩
    obtain ⟨m, hm2⟩ : ∃ m, (if b = true then l.length else 0) = m := ⟨_, rfl⟩
    rw [hbf, hm2] at he
    subst he
    clear hS hb0 hbf hm2
    go_wp2
    go_ret
    exact ⟨rfl, hB.out⟩
end Go.Proofs.Ytcajccknkjljfaa
