/- The walk of the law LinksOuts. -/
import Derived.Test.YtcajccknkjljfaaLinksRef3
import Derived.Test.YtcajccknkjljfaaLinksAwake
import Derived.Test.YtcajccknkjljfaaApp
import Derived.Deep.DrawnRows
set_option linter.unusedVariables false
set_option linter.unusedSimpArgs false
namespace Go.Proofs.Ytcajccknkjljfaa
open Go.RowKit Go.Maps Seine.Trie Seine.Links Go.Proofs.YtcajccknkjljfaaW.PrintWords Go.Proofs.Ytcajccknkjljfaa.Ref
attribute [local go_sem ↓] Go.wp_at_zero Go.wp_at_succ




/-- What a round of LinksOuts asks of a node. -/
theorem outs_node {P l : List Txt} (hT : Tree P) (hlP : ∀ x, x ∈ l → x ∈ P) {k : Nat} {s : Txt} (h : P[k]? = some s) :
    (endsF l s = (if 0 ≤ place l s ∧ 0 < k then [(s.length : Int)] else []) ++ endsAt P l (outF P l s)) ∧
    (0 ≤ outF P l s → ∃ (o j : Nat) (q : Txt), outF P l s = (o : Int) ∧ P[o]? = some q ∧ place l q = (j : Int) ∧ q.length < s.length) := by
  obtain ⟨e1, e2⟩ := ends_round hT hlP (l := l) h
  constructor
  · have hk : 0 < k ↔ s ≠ [] := by
      constructor
      · rintro h0 rfl
        have := nodup_get hT.nodup hT.root h
        omega
      · intro h0
        rcases Nat.eq_zero_or_pos k with rfl | h1
        · have := hT.root.symm.trans h
          injection this with this
          exact absurd this.symm h0
        · exact h1
    rw [e1]
    congr 1
    by_cases hs : s ∈ l
    · obtain ⟨j, hj, _⟩ := place_nat hs
      unfold ownF
      rw [if_pos hs, hj]
      by_cases hs0 : s = []
      · subst hs0; simp [hk]
      · have : 0 < s.length := List.length_pos_iff.2 hs0
        rw [if_pos (by omega), if_pos ⟨by omega, hk.2 hs0⟩]
    · unfold ownF
      rw [if_neg hs, place_none hs]
      simp
  · intro h0
    unfold outF at h0 ⊢
    cases ho : outN l s with
    | none => rw [ho] at h0; simp at h0
    | some n =>
      rw [ho] at h0
      obtain ⟨h1, h2, h3, _⟩ := outN_some ho
      obtain ⟨b, hb1, hb2⟩ := place_nat (hlP _ h3)
      obtain ⟨j, hj1, _⟩ := place_nat h3
      exact ⟨b, j, _, hb1, hb2, hj1, by rw [List.length_drop]; omega⟩
set_option maxRecDepth 100000 in
set_option maxHeartbeats 3200000 in
theorem outs_walk (A : Option Addr) (c : Nat) (l : List Txt) (w : World) (hx : Txts w A l) (hc : l.length ≤ c) (hr : c * 24 ≤ 140737488351232) (hm : ∀ x ∈ l, x.length ≤ maxLen) :
    Calls Try.prog 6 #[.slice A l.length c] w fun e w' => e = .returned (.bool true) ∧ Below w.heap.size w w' := by
  by_cases hf : Few l
  · --
    have hB := As.mk (Below.refl w.heap.size w)
    have HX := As.mk hx
    have HM := As.mk hm
    clear hx hm
    go_enter Try.func6, Try.ntmps6
    go_wp2_with fail
    refine Calls.mono (awake_calls _) ?_
    rintro e w1 ⟨rfl, hb⟩
    have hs := hb.size
    (try simp only [World.size_alloc, World.size_drew] at hs)
    replace hB := As.mk (below_next' hB.out (by (repeat (first | (with_reducible assumption) | (with_reducible exact Below.refl _ _) | (with_reducible refine Below.drew ?_) | (with_reducible refine Below.alloc ?_ (by (first | omega | (simp only [World.size_alloc, World.size_drew]; done) | (simp only [World.size_alloc, World.size_drew]; omega))) _) | (refine Below.trans ?_ (Below.mono (by with_reducible assumption) (by (first | omega | (simp only [World.size_alloc, World.size_drew]; done) | (simp only [World.size_alloc, World.size_drew]; omega))))))) : Below _ _ w1))
    replace HX := As.mk (HX.out.below (by (repeat (first | (with_reducible assumption) | (with_reducible exact Below.refl _ _) | (with_reducible refine Below.drew ?_) | (with_reducible refine Below.alloc ?_ (by (first | omega | (simp only [World.size_alloc, World.size_drew]; done) | (simp only [World.size_alloc, World.size_drew]; omega))) _) | (refine Below.trans ?_ (Below.mono (by with_reducible assumption) (by (first | omega | (simp only [World.size_alloc, World.size_drew]; done) | (simp only [World.size_alloc, World.size_drew]; omega))))))) : Below _ _ w1))
    replace hb := As.mk hb
    go_wp2_with fail
    refine Calls.mono (texts_calls _ A c l HX.out hc hr HM.out) ?_
    rintro e w2 ⟨⟨A2, c2, b, he, hb0, hS⟩, hb⟩; clear hr
    have hs := hb.size
    (try simp only [World.size_alloc, World.size_drew] at hs)
    replace hB := As.mk (below_next' hB.out (by (repeat (first | (with_reducible assumption) | (with_reducible exact Below.refl _ _) | (with_reducible refine Below.drew ?_) | (with_reducible refine Below.alloc ?_ (by (first | omega | (simp only [World.size_alloc, World.size_drew]; done) | (simp only [World.size_alloc, World.size_drew]; omega))) _) | (refine Below.trans ?_ (Below.mono (by with_reducible assumption) (by (first | omega | (simp only [World.size_alloc, World.size_drew]; done) | (simp only [World.size_alloc, World.size_drew]; omega))))))) : Below _ _ w2))
    replace HX := As.mk (HX.out.below (by (repeat (first | (with_reducible assumption) | (with_reducible exact Below.refl _ _) | (with_reducible refine Below.drew ?_) | (with_reducible refine Below.alloc ?_ (by (first | omega | (simp only [World.size_alloc, World.size_drew]; done) | (simp only [World.size_alloc, World.size_drew]; omega))) _) | (refine Below.trans ?_ (Below.mono (by with_reducible assumption) (by (first | omega | (simp only [World.size_alloc, World.size_drew]; done) | (simp only [World.size_alloc, World.size_drew]; omega))))))) : Below _ _ w2))
    replace hb := As.mk hb
    obtain rfl : b = true := by rw [hb0]; exact decide_eq_true hf.short
    have hd12 : decide (l.length ≤ 12) = true := decide_eq_true hf.len
    rw [Bool.true_and, hd12, if_pos rfl] at he
    subst he
    obtain ⟨hc2, hS2⟩ := hS rfl
    clear hS
    have hS := As.mk hS2
    clear hS2
    have hl12 := hf.len
    have htot := As.mk hf.tot
    have hpl0 := hf.paths_len
    have hps0 := hf.path_short
    have hT0 := paths_tree l
    have hlP0 := text_path (l := l)
    clear hb0 hd12
    obtain ⟨P, hP⟩ : ∃ P, paths l = P := ⟨_, rfl⟩
    rw [hP] at hpl0 hps0 hT0 hlP0
    have hps := As.mk hps0
    have hTr := As.mk hT0
    have hlP := As.mk hlP0
    have hd := As.mk (show ∀ p ∈ P, p.length ≤ 100000 from fun p hp => by have := hps.out p hp; omega)
    replace hP := As.mk hP
    clear hps0 hT0 hlP0 hf
    go_wp2_with fail
    refine Calls.mono (build_calls _ A c l HX.out (by have := htot.out; omega) (by omega)) ?_
    rintro e w3 ⟨g, rfl, hT, hb⟩; rw [hP.out] at hT; obtain ⟨tb, hT⟩ : ∃ tb, TrieAt w3 tb g P (place l) := ⟨_, hT⟩; replace hT := As.mk hT
    have hs := hb.size
    (try simp only [World.size_alloc, World.size_drew] at hs)
    replace hB := As.mk (below_next' hB.out (by (repeat (first | (with_reducible assumption) | (with_reducible exact Below.refl _ _) | (with_reducible refine Below.drew ?_) | (with_reducible refine Below.alloc ?_ (by (first | omega | (simp only [World.size_alloc, World.size_drew]; done) | (simp only [World.size_alloc, World.size_drew]; omega))) _) | (refine Below.trans ?_ (Below.mono (by with_reducible assumption) (by (first | omega | (simp only [World.size_alloc, World.size_drew]; done) | (simp only [World.size_alloc, World.size_drew]; omega))))))) : Below _ _ w3))
    replace HX := As.mk (HX.out.below (by (repeat (first | (with_reducible assumption) | (with_reducible exact Below.refl _ _) | (with_reducible refine Below.drew ?_) | (with_reducible refine Below.alloc ?_ (by (first | omega | (simp only [World.size_alloc, World.size_drew]; done) | (simp only [World.size_alloc, World.size_drew]; omega))) _) | (refine Below.trans ?_ (Below.mono (by with_reducible assumption) (by (first | omega | (simp only [World.size_alloc, World.size_drew]; done) | (simp only [World.size_alloc, World.size_drew]; omega))))))) : Below _ _ w3))
    replace hS := As.mk (hS.out.below (by (repeat (first | (with_reducible assumption) | (with_reducible exact Below.refl _ _) | (with_reducible refine Below.drew ?_) | (with_reducible refine Below.alloc ?_ (by (first | omega | (simp only [World.size_alloc, World.size_drew]; done) | (simp only [World.size_alloc, World.size_drew]; omega))) _) | (refine Below.trans ?_ (Below.mono (by with_reducible assumption) (by (first | omega | (simp only [World.size_alloc, World.size_drew]; done) | (simp only [World.size_alloc, World.size_drew]; omega))))))) : Below _ _ w3))
    replace hb := As.mk hb
    go_wp2_with fail
    refine Calls.mono (lbuild_calls _ tb g P l hT.out (by omega) hd.out hlP.out) ?_
    rintro e w4 ⟨gl, rfl, hL, hb⟩; obtain ⟨lb, hL⟩ : ∃ lb, LinksOf w4 lb gl P l := ⟨_, hL⟩; replace hL := As.mk hL
    have hs := hb.size
    (try simp only [World.size_alloc, World.size_drew] at hs)
    replace hB := As.mk (below_next' hB.out (by (repeat (first | (with_reducible assumption) | (with_reducible exact Below.refl _ _) | (with_reducible refine Below.drew ?_) | (with_reducible refine Below.alloc ?_ (by (first | omega | (simp only [World.size_alloc, World.size_drew]; done) | (simp only [World.size_alloc, World.size_drew]; omega))) _) | (refine Below.trans ?_ (Below.mono (by with_reducible assumption) (by (first | omega | (simp only [World.size_alloc, World.size_drew]; done) | (simp only [World.size_alloc, World.size_drew]; omega))))))) : Below _ _ w4))
    replace HX := As.mk (HX.out.below (by (repeat (first | (with_reducible assumption) | (with_reducible exact Below.refl _ _) | (with_reducible refine Below.drew ?_) | (with_reducible refine Below.alloc ?_ (by (first | omega | (simp only [World.size_alloc, World.size_drew]; done) | (simp only [World.size_alloc, World.size_drew]; omega))) _) | (refine Below.trans ?_ (Below.mono (by with_reducible assumption) (by (first | omega | (simp only [World.size_alloc, World.size_drew]; done) | (simp only [World.size_alloc, World.size_drew]; omega))))))) : Below _ _ w4))
    replace hS := As.mk (hS.out.below (by (repeat (first | (with_reducible assumption) | (with_reducible exact Below.refl _ _) | (with_reducible refine Below.drew ?_) | (with_reducible refine Below.alloc ?_ (by (first | omega | (simp only [World.size_alloc, World.size_drew]; done) | (simp only [World.size_alloc, World.size_drew]; omega))) _) | (refine Below.trans ?_ (Below.mono (by with_reducible assumption) (by (first | omega | (simp only [World.size_alloc, World.size_drew]; done) | (simp only [World.size_alloc, World.size_drew]; omega))))))) : Below _ _ w4))
    replace hT := As.mk (hT.out.below (by (repeat (first | (with_reducible assumption) | (with_reducible exact Below.refl _ _) | (with_reducible refine Below.drew ?_) | (with_reducible refine Below.alloc ?_ (by (first | omega | (simp only [World.size_alloc, World.size_drew]; done) | (simp only [World.size_alloc, World.size_drew]; omega))) _) | (refine Below.trans ?_ (Below.mono (by with_reducible assumption) (by (first | omega | (simp only [World.size_alloc, World.size_drew]; done) | (simp only [World.size_alloc, World.size_drew]; omega))))))) : Below _ _ w4))
    replace hb := As.mk hb
    obtain ⟨np, hnp⟩ : ∃ np, P.length = np := ⟨_, rfl⟩
    rw [hnp] at hpl0
    have cnod := As.mk (fun v (hv : Below w4.heap.size w4 v) => nodes_calls v tb g P (place l) (hT.out.below hv))
    rw [hnp] at cnod
    replace hnp := As.mk hnp
    go_wp2_with fail
    go_loopg [8] (np + 1) (fun gk i wr => ∃ k : Nat, As (np + 1 ≤ gk + k) ∧ k ≤ np ∧ i = .int .i64 k ∧ As (Below w4.heap.size w4 wr))
    case atStart => exact ⟨0, ⟨by omega⟩, Nat.zero_le _, rfl, ⟨Below.refl _ _⟩⟩
    case round =>
      obtain ⟨k, hgk, hk2, rfl, hbel⟩ := hrel
      have hLr := As.mk (hL.out.below hbel.out)
      have hTT := As.mk (hT.out.below hbel.out)
      have hBr := As.mk (below_next' hB.out hbel.out)
      by_cases hlt : k < np
      · obtain ⟨gq, rfl⟩ : ∃ gq, gk = gq + 1 := ⟨gk - 1, by have := hgk.out; omega⟩
        obtain ⟨s, hs⟩ : ∃ s, P.getD k [] = s := ⟨_, rfl⟩
        have hPk := get_at (P := P) (a := k) (by rw [hnp.out]; exact hlt)
        rw [hs] at hPk
        have hsl := hps.out s (List.mem_of_getElem? hPk)
        obtain ⟨hE, hO⟩ := outs_node hTr.out hlP.out (l := l) hPk
        have hask : ∀ (f : Txt → Int) (d : Int), askF P f d (k : Int) = f s := fun f d => by
          unfold askF
          rw [if_pos (by have := hnp.out; omega), Int.toNat_natCast, hs]
        have hEat := endsAt_place (l := l) hTr.out hPk
        have c1 := As.mk (fun v (hv : Below wr.heap.size wr v) => word_calls v tb g P (place l) (hTT.out.below hv) (k : Int))
        have c2 := As.mk (fun v (hv : Below wr.heap.size wr v) => depth_calls v tb g P (place l) (hTT.out.below hv) (k : Int))
        have c3 := As.mk (fun v (hv : Below wr.heap.size wr v) => lout_calls v lb gl P (failF P) (outF P l) (ownF l) (op P P.length) (hLr.out.below hv) (k : Int))
        have c4 := As.mk (fun v (hv : Below wr.heap.size wr v) => lends_calls v lb gl P l hTr.out hlP.out hd.out (hLr.out.below hv) (k : Int))
        rw [hask] at c1 c2 c3
        obtain ⟨E, hEE⟩ : ∃ E, endsF l s = E := ⟨_, rfl⟩
        have hEl : E.length ≤ 40 := by rw [← hEE]; have := endsF_length l s; omega
        rw [hEE] at hE hEat
        rw [hEat] at c4
        obtain ⟨el, hel⟩ : ∃ el, E.length = el := ⟨_, rfl⟩
        have cS := As.mk (fun (v : World) (A8 : Option Addr) (c8 n8 : Nat) (h8 : Ints v A8 E) (e8 : n8 = el) (hc8 : el ≤ c8) (A9 : Option Addr) (c9 n9 : Nat) (h9 : Ints v A9 E) (e9 : n9 = el) (hc9 : el ≤ c9) =>
          (by have := rsame_calls v A8 A9 c8 c9 E E h8 (by rw [hel]; exact hc8) h9 (by rw [hel]; exact hc9) (by omega) (by omega); rw [decide_eq_true rfl, hel] at this; rw [e8, e9]; exact this : Calls Try.prog 17 #[.slice A8 n8 c8, .slice A9 n9 c9] v fun e w' => e = .returned (.bool true) ∧ Below v.heap.size v w'))
        obtain ⟨dk, hdk⟩ : ∃ dk, s.length = dk := ⟨_, rfl⟩
        rw [hdk] at c2 hE hsl hO
        obtain ⟨pl, hpl⟩ : ∃ pl, place l s = pl := ⟨_, rfl⟩
        rw [hpl] at c1 hE
        obtain ⟨ov, hov⟩ : ∃ ov, outF P l s = ov := ⟨_, rfl⟩
        rw [hov] at c3 hE hO
        rw [hel] at hEl
        clear hs hPk hask hEE hEat hdk hpl hov
        replace hel := As.mk hel
        replace hE := As.mk hE
        by_cases ho : 0 ≤ ov
        · obtain ⟨o, j, q, rfl, hPo, hpj, hql⟩ := hO ho
          obtain ⟨E2, hE2⟩ : ∃ E2, endsAt P l (o : Int) = E2 := ⟨_, rfl⟩
          have d4 := As.mk (fun v (hv : Below wr.heap.size wr v) => lends_calls v lb gl P l hTr.out hlP.out hd.out (hLr.out.below hv) (o : Int))
          have hask : ∀ (f : Txt → Int) (d : Int), askF P f d (o : Int) = f q := fun f d => by
            have h1 := (List.getElem?_eq_some_iff.1 hPo).1
            unfold askF
            rw [if_pos (by omega), Int.toNat_natCast, List.getD_eq_getElem?_getD, hPo]; rfl
          have d1 := As.mk (fun v (hv : Below wr.heap.size wr v) => word_calls v tb g P (place l) (hTT.out.below hv) (o : Int))
          have d2 := As.mk (fun v (hv : Below wr.heap.size wr v) => depth_calls v tb g P (place l) (hTT.out.below hv) (o : Int))
          rw [hask] at d1 d2
          rw [hpj] at d1
          rw [hE2] at d4 hE
          obtain ⟨dq, hdq⟩ : ∃ dq, q.length = dq := ⟨_, rfl⟩
          rw [hdq] at d2 hql
          obtain ⟨el2, hel2⟩ : ∃ el2, E2.length = el2 := ⟨_, rfl⟩
          have hel20 : el2 ≤ 40 := by
            have h1 := congrArg List.length hE.out
            rw [hel.out, List.length_append, hel2] at h1
            omega
          replace hel2 := As.mk hel2
          clear hask hPo hpj hE2 hdq hO ho
          by_cases hown : 0 ≤ pl ∧ 0 < k
          · rw [if_pos hown] at hE
            obtain ⟨p0, rfl⟩ : ∃ p0 : Nat, pl = (p0 : Int) := ⟨pl.toNat, by omega⟩
            have hk0 := hown.2
            clear hown
            obtain ⟨L5, hL5⟩ : ∃ L5, L5 = [(dk : Int)] := ⟨_, rfl⟩
            rw [← hL5] at hE
            have hE5 := As.mk hE.out
            have hL5l : As (L5.length = 1) := ⟨by rw [hL5]; rfl⟩
            replace hL5 := As.mk hL5
            go_wp2_with fail
            refine Calls.mono (cnod.out _ hbel.out) ?_
            rintro e w' ⟨rfl, rfl⟩
            go_wp2_with fail
            refine Calls.mono (c1.out _ (Below.refl _ _)) ?_
            rintro e w' ⟨rfl, rfl⟩
            go_wp2_with fail
            refine Calls.mono (c2.out _ (Below.refl _ _)) ?_
            rintro e w' ⟨rfl, rfl⟩
            go_wp2_with (at_builtin
                         refine wpList_app1 _ rfl (.tmp 39) (.tmp 43) 32 rfl wr.heap.size 3 _ 1 8 Try.underlying32 info_int rfl (by decide) _ 0 [] rfl (World.ownsRow_nil _ _ _ _) [.int .i64 (dk : Int)] rfl (by simp [Value.oneCell']) _ rfl (by simp) (by omega) (by decide) (Nat.le_refl _) ?_
                         intro v5 w5 how5 hk5 ha5 hb5
                         obtain ⟨A5, c5, rfl, hc5⟩ := own_slice how5
                         clear hk5 ha5
                         replace how5 : As (w5.ownsRow wr.heap.size 3 1 (.slice A5 1 c5) 1 (intVals L5)) := ⟨by rw [hL5.out]; exact how5⟩
                         replace hb5 := As.mk hb5
                         replace hc5 := As.mk hc5)
            go_wp2_with fail
            refine Calls.mono (c3.out _ hb5.out) ?_
            rintro e w' ⟨rfl, rfl⟩
            go_wp2_with fail
            refine Calls.mono (d1.out _ hb5.out) ?_
            rintro e w' ⟨rfl, rfl⟩
            go_wp2_with fail
            refine Calls.mono (d2.out _ hb5.out) ?_
            rintro e w' ⟨rfl, rfl⟩
            go_wp2_with fail
            refine Calls.mono (c2.out _ hb5.out) ?_
            rintro e w' ⟨rfl, rfl⟩
            go_wp2_with fail
            refine Calls.mono (d4.out _ hb5.out) ?_
            intro e w7 h7
            obtain ⟨A7, c7, he, hc7, hr7, hb7⟩ := h7.row
            rw [hel2.out] at he hc7
            subst he
            replace hr7 := As.mk hr7
            replace how5 := As.mk (own_below how5.out hb7)
            replace hb5 := As.mk (below_next' hb5.out hb7)
            clear h7 hb7
            go_wp2_with (at_builtin
                         refine wpList_apps _ rfl (.tmp 63) (.tmp 66) 32 rfl wr.heap.size 3 _ 1 8 Try.underlying32 info_int rfl (by decide) _ 1 (intVals L5) rfl how5.out A7 el2 c7 (intVals E2) hr7.out (by rw [intVals_length, hel2.out, Nat.mul_one]) (fun u hu => by obtain ⟨x, _, rfl⟩ := List.mem_map.1 hu; rfl) rfl (by omega) (by decide) hb5.out.size ?_
                         intro v6 w6 how6 hb6
                         obtain ⟨A6, c6, rfl, hc6⟩ := own_slice how6
                         replace how6 := As.mk how6
                         replace hb6 := As.mk (hb5.out.trans hb6))
            refine Calls.mono (c4.out _ hb6.out) ?_
            intro e w8 h8
            obtain ⟨A8, c8, he, hc8, hr8, hb8⟩ := h8.row
            rw [hel.out] at he hc8
            subst he
            have hr6 : As (Ints w8 A6 E) := ⟨by rw [hE5.out]; have := Row.below (Row.of_own how6.out) hb8; simpa [Ints, intVals] using this⟩
            have hel6 : 1 + el2 = el := by rw [← hel.out, hE5.out, ← hel2.out, List.length_append, hL5l.out]
            replace hel6 := As.mk hel6
            have hb48 := As.mk (below_next' (below_next' hbel.out hb6.out) hb8)
            replace hr8 := As.mk hr8
            clear h8 hb8 how6
            go_wp2_with fail
            refine Calls.mono (cS.out _ A8 c8 _ hr8.out rfl hc8 A6 c6 _ hr6.out (by have := hel6.out; omega) (by rw [← hel6.out]; exact hc6)) ?_
            rintro e w9 ⟨rfl, hb9⟩
            have hb49 := As.mk (below_next' hb48.out hb9)
            clear hb9
            go_wp2
            go_roundg gq
            case rel => exact ⟨k + 1, ⟨by have := hgk.out; omega⟩, by omega, (by first | rfl | go_num | (congr 1; omega)), hb49⟩
            case measure => omega
          · rw [if_neg hown, List.nil_append] at hE
            obtain ⟨L5, hL5⟩ : ∃ L5 : List Int, L5 = [] := ⟨_, rfl⟩
            have hE5 : As (E = L5 ++ E2) := ⟨by rw [hL5]; exact hE.out⟩
            have hL5l : As (L5.length = 0) := ⟨by rw [hL5]; rfl⟩
            have how5 : As (wr.ownsRow wr.heap.size 3 1 (.slice none 0 0) 0 (intVals L5)) := ⟨by rw [hL5]; exact World.ownsRow_nil _ _ _ _⟩
            have hb5 : As (Below wr.heap.size wr wr) := ⟨Below.refl _ _⟩
            replace hL5 := As.mk hL5
            rcases (show ¬ 0 ≤ pl ∨ (0 ≤ pl ∧ k = 0) by omega) with hneg | ⟨hpos, hk00⟩
            · have hpd : decide (0 ≤ pl) = false := decide_eq_false hneg
              clear hown
              go_wp2_with fail
              refine Calls.mono (cnod.out _ hbel.out) ?_
              rintro e w' ⟨rfl, rfl⟩
              go_wp2_with fail
              refine Calls.mono (c1.out _ (Below.refl _ _)) ?_
              rintro e w' ⟨rfl, rfl⟩
              go_wp2_with fail
              refine Calls.mono (c3.out _ hb5.out) ?_
              rintro e w' ⟨rfl, rfl⟩
              go_wp2_with fail
              refine Calls.mono (d1.out _ hb5.out) ?_
              rintro e w' ⟨rfl, rfl⟩
              go_wp2_with fail
              refine Calls.mono (d2.out _ hb5.out) ?_
              rintro e w' ⟨rfl, rfl⟩
              go_wp2_with fail
              refine Calls.mono (c2.out _ hb5.out) ?_
              rintro e w' ⟨rfl, rfl⟩
              go_wp2_with fail
              refine Calls.mono (d4.out _ hb5.out) ?_
              intro e w7 h7
              obtain ⟨A7, c7, he, hc7, hr7, hb7⟩ := h7.row
              rw [hel2.out] at he hc7
              subst he
              replace hr7 := As.mk hr7
              replace how5 := As.mk (own_below how5.out hb7)
              replace hb5 := As.mk (below_next' hb5.out hb7)
              clear h7 hb7
              go_wp2_with (at_builtin
                           refine wpList_apps _ rfl (.tmp 63) (.tmp 66) 32 rfl wr.heap.size 3 _ 1 8 Try.underlying32 info_int rfl (by decide) _ 0 (intVals L5) rfl how5.out A7 el2 c7 (intVals E2) hr7.out (by rw [intVals_length, hel2.out, Nat.mul_one]) (fun u hu => by obtain ⟨x, _, rfl⟩ := List.mem_map.1 hu; rfl) rfl (by omega) (by decide) hb5.out.size ?_
                           intro v6 w6 how6 hb6
                           obtain ⟨A6, c6, rfl, hc6⟩ := own_slice how6
                           replace how6 := As.mk how6
                           replace hb6 := As.mk (hb5.out.trans hb6))
              refine Calls.mono (c4.out _ hb6.out) ?_
              intro e w8 h8
              obtain ⟨A8, c8, he, hc8, hr8, hb8⟩ := h8.row
              rw [hel.out] at he hc8
              subst he
              have hr6 : As (Ints w8 A6 E) := ⟨by rw [hE5.out]; have := Row.below (Row.of_own how6.out) hb8; simpa [Ints, intVals] using this⟩
              have hel6 : 0 + el2 = el := by rw [← hel.out, hE5.out, ← hel2.out, List.length_append, hL5l.out]
              replace hel6 := As.mk hel6
              have hb48 := As.mk (below_next' (below_next' hbel.out hb6.out) hb8)
              replace hr8 := As.mk hr8
              clear h8 hb8 how6
              go_wp2_with fail
              refine Calls.mono (cS.out _ A8 c8 _ hr8.out rfl hc8 A6 c6 _ hr6.out (by have := hel6.out; omega) (by rw [← hel6.out]; exact hc6)) ?_
              rintro e w9 ⟨rfl, hb9⟩
              have hb49 := As.mk (below_next' hb48.out hb9)
              clear hb9
              go_wp2
              go_roundg gq
              case rel => exact ⟨k + 1, ⟨by have := hgk.out; omega⟩, by omega, (by first | rfl | go_num | (congr 1; omega)), hb49⟩
              case measure => omega
            · obtain ⟨p0, rfl⟩ : ∃ p0 : Nat, pl = (p0 : Int) := ⟨pl.toNat, by omega⟩
              have hkd : decide ((0 : Int) < (k : Int)) = false := decide_eq_false (by omega)
              have hkd2 : decide (0 < k) = false := decide_eq_false (by omega)
              replace hk00 := As.mk hk00
              clear hown hpos
              go_wp2_with fail
              refine Calls.mono (cnod.out _ hbel.out) ?_
              rintro e w' ⟨rfl, rfl⟩
              go_wp2_with fail
              refine Calls.mono (c1.out _ (Below.refl _ _)) ?_
              rintro e w' ⟨rfl, rfl⟩
              go_wp2_with fail
              refine Calls.mono (c3.out _ hb5.out) ?_
              rintro e w' ⟨rfl, rfl⟩
              go_wp2_with fail
              refine Calls.mono (d1.out _ hb5.out) ?_
              rintro e w' ⟨rfl, rfl⟩
              go_wp2_with fail
              refine Calls.mono (d2.out _ hb5.out) ?_
              rintro e w' ⟨rfl, rfl⟩
              go_wp2_with fail
              refine Calls.mono (c2.out _ hb5.out) ?_
              rintro e w' ⟨rfl, rfl⟩
              go_wp2_with fail
              refine Calls.mono (d4.out _ hb5.out) ?_
              intro e w7 h7
              obtain ⟨A7, c7, he, hc7, hr7, hb7⟩ := h7.row
              rw [hel2.out] at he hc7
              subst he
              replace hr7 := As.mk hr7
              replace how5 := As.mk (own_below how5.out hb7)
              replace hb5 := As.mk (below_next' hb5.out hb7)
              clear h7 hb7
              go_wp2_with (at_builtin
                           refine wpList_apps _ rfl (.tmp 63) (.tmp 66) 32 rfl wr.heap.size 3 _ 1 8 Try.underlying32 info_int rfl (by decide) _ 0 (intVals L5) rfl how5.out A7 el2 c7 (intVals E2) hr7.out (by rw [intVals_length, hel2.out, Nat.mul_one]) (fun u hu => by obtain ⟨x, _, rfl⟩ := List.mem_map.1 hu; rfl) rfl (by omega) (by decide) hb5.out.size ?_
                           intro v6 w6 how6 hb6
                           obtain ⟨A6, c6, rfl, hc6⟩ := own_slice how6
                           replace how6 := As.mk how6
                           replace hb6 := As.mk (hb5.out.trans hb6))
              refine Calls.mono (c4.out _ hb6.out) ?_
              intro e w8 h8
              obtain ⟨A8, c8, he, hc8, hr8, hb8⟩ := h8.row
              rw [hel.out] at he hc8
              subst he
              have hr6 : As (Ints w8 A6 E) := ⟨by rw [hE5.out]; have := Row.below (Row.of_own how6.out) hb8; simpa [Ints, intVals] using this⟩
              have hel6 : 0 + el2 = el := by rw [← hel.out, hE5.out, ← hel2.out, List.length_append, hL5l.out]
              replace hel6 := As.mk hel6
              have hb48 := As.mk (below_next' (below_next' hbel.out hb6.out) hb8)
              replace hr8 := As.mk hr8
              clear h8 hb8 how6
              go_wp2_with fail
              refine Calls.mono (cS.out _ A8 c8 _ hr8.out rfl hc8 A6 c6 _ hr6.out (by have := hel6.out; omega) (by rw [← hel6.out]; exact hc6)) ?_
              rintro e w9 ⟨rfl, hb9⟩
              have hb49 := As.mk (below_next' hb48.out hb9)
              clear hb9
              go_wp2
              go_roundg gq
              case rel => exact ⟨k + 1, ⟨by have := hgk.out; omega⟩, by omega, (by first | rfl | go_num | (congr 1; omega)), hb49⟩
              case measure => omega
        · have hod : decide (0 ≤ ov) = false := decide_eq_false ho
          have hen : endsAt P l ov = [] := if_neg (by omega)
          rw [hen] at hE
          clear hen hO
          by_cases hown : 0 ≤ pl ∧ 0 < k
          · rw [if_pos hown] at hE
            obtain ⟨p0, rfl⟩ : ∃ p0 : Nat, pl = (p0 : Int) := ⟨pl.toNat, by omega⟩
            have hk0 := hown.2
            clear hown
            obtain ⟨L5, hL5⟩ : ∃ L5, L5 = [(dk : Int)] := ⟨_, rfl⟩
            rw [← hL5] at hE
            have hE5 : As (E = L5) := ⟨by rw [hE.out, List.append_nil]⟩
            have hL5l : As (L5.length = 1) := ⟨by rw [hL5]; rfl⟩
            replace hL5 := As.mk hL5
            go_wp2_with fail
            refine Calls.mono (cnod.out _ hbel.out) ?_
            rintro e w' ⟨rfl, rfl⟩
            go_wp2_with fail
            refine Calls.mono (c1.out _ (Below.refl _ _)) ?_
            rintro e w' ⟨rfl, rfl⟩
            go_wp2_with fail
            refine Calls.mono (c2.out _ (Below.refl _ _)) ?_
            rintro e w' ⟨rfl, rfl⟩
            go_wp2_with (at_builtin
                         refine wpList_app1 _ rfl (.tmp 39) (.tmp 43) 32 rfl wr.heap.size 3 _ 1 8 Try.underlying32 info_int rfl (by decide) _ 0 [] rfl (World.ownsRow_nil _ _ _ _) [.int .i64 (dk : Int)] rfl (by simp [Value.oneCell']) _ rfl (by simp) (by omega) (by decide) (Nat.le_refl _) ?_
                         intro v5 w5 how5 hk5 ha5 hb5
                         obtain ⟨A5, c5, rfl, hc5⟩ := own_slice how5
                         clear hk5 ha5
                         replace how5 : As (w5.ownsRow wr.heap.size 3 1 (.slice A5 1 c5) 1 (intVals L5)) := ⟨by rw [hL5.out]; exact how5⟩
                         replace hb5 := As.mk hb5
                         replace hc5 := As.mk hc5)
            go_wp2_with fail
            refine Calls.mono (c3.out _ hb5.out) ?_
            rintro e w' ⟨rfl, rfl⟩
            go_wp2_with fail
            refine Calls.mono (c4.out _ hb5.out) ?_
            intro e w8 h8
            obtain ⟨A8, c8, he, hc8, hr8, hb8⟩ := h8.row
            rw [hel.out] at he hc8
            subst he
            have hr6 : As (Ints w8 A5 E) := ⟨by rw [hE5.out]; exact Row.below (Row.of_own how5.out) hb8⟩
            have hel6 : 1 = el := by rw [← hel.out, hE5.out, hL5l.out]
            replace hel6 := As.mk hel6
            have hb48 := As.mk (below_next' (below_next' hbel.out hb5.out) hb8)
            replace hr8 := As.mk hr8
            clear h8 hb8 how5
            go_wp2_with fail
            refine Calls.mono (cS.out _ A8 c8 _ hr8.out rfl hc8 A5 c5 _ hr6.out (by have := hel6.out; omega) (by rw [← hel6.out]; first | exact hc5.out | omega)) ?_
            rintro e w9 ⟨rfl, hb9⟩
            have hb49 := As.mk (below_next' hb48.out hb9)
            clear hb9
            go_wp2
            go_roundg gq
            case rel => exact ⟨k + 1, ⟨by have := hgk.out; omega⟩, by omega, (by first | rfl | go_num | (congr 1; omega)), hb49⟩
            case measure => omega
          · rw [if_neg hown, List.nil_append] at hE
            obtain ⟨L5, hL5⟩ : ∃ L5 : List Int, L5 = [] := ⟨_, rfl⟩
            have hE5 : As (E = L5) := ⟨by rw [hL5]; exact hE.out⟩
            have hL5l : As (L5.length = 0) := ⟨by rw [hL5]; rfl⟩
            have how5 : As (wr.ownsRow wr.heap.size 3 1 (.slice none 0 0) 0 (intVals L5)) := ⟨by rw [hL5]; exact World.ownsRow_nil _ _ _ _⟩
            have hb5 : As (Below wr.heap.size wr wr) := ⟨Below.refl _ _⟩
            replace hL5 := As.mk hL5
            rcases (show ¬ 0 ≤ pl ∨ (0 ≤ pl ∧ k = 0) by omega) with hneg | ⟨hpos, hk00⟩
            · have hpd : decide (0 ≤ pl) = false := decide_eq_false hneg
              clear hown
              go_wp2_with fail
              refine Calls.mono (cnod.out _ hbel.out) ?_
              rintro e w' ⟨rfl, rfl⟩
              go_wp2_with fail
              refine Calls.mono (c1.out _ (Below.refl _ _)) ?_
              rintro e w' ⟨rfl, rfl⟩
              go_wp2_with fail
              refine Calls.mono (c3.out _ hb5.out) ?_
              rintro e w' ⟨rfl, rfl⟩
              go_wp2_with fail
              refine Calls.mono (c4.out _ hb5.out) ?_
              intro e w8 h8
              obtain ⟨A8, c8, he, hc8, hr8, hb8⟩ := h8.row
              rw [hel.out] at he hc8
              subst he
              have hr6 : As (Ints w8 none E) := ⟨by rw [hE5.out]; exact Row.below (Row.of_own how5.out) hb8⟩
              have hel6 : 0 = el := by rw [← hel.out, hE5.out, hL5l.out]
              replace hel6 := As.mk hel6
              have hb48 := As.mk (below_next' (below_next' hbel.out hb5.out) hb8)
              replace hr8 := As.mk hr8
              clear h8 hb8 how5
              go_wp2_with fail
              refine Calls.mono (cS.out _ A8 c8 _ hr8.out rfl hc8 none 0 _ hr6.out (by have := hel6.out; omega) (by rw [← hel6.out]; first | exact hc5.out | omega)) ?_
              rintro e w9 ⟨rfl, hb9⟩
              have hb49 := As.mk (below_next' hb48.out hb9)
              clear hb9
              go_wp2
              go_roundg gq
              case rel => exact ⟨k + 1, ⟨by have := hgk.out; omega⟩, by omega, (by first | rfl | go_num | (congr 1; omega)), hb49⟩
              case measure => omega
            · obtain ⟨p0, rfl⟩ : ∃ p0 : Nat, pl = (p0 : Int) := ⟨pl.toNat, by omega⟩
              have hkd : decide ((0 : Int) < (k : Int)) = false := decide_eq_false (by omega)
              have hkd2 : decide (0 < k) = false := decide_eq_false (by omega)
              replace hk00 := As.mk hk00
              clear hown hpos
              go_wp2_with fail
              refine Calls.mono (cnod.out _ hbel.out) ?_
              rintro e w' ⟨rfl, rfl⟩
              go_wp2_with fail
              refine Calls.mono (c1.out _ (Below.refl _ _)) ?_
              rintro e w' ⟨rfl, rfl⟩
              go_wp2_with fail
              refine Calls.mono (c3.out _ hb5.out) ?_
              rintro e w' ⟨rfl, rfl⟩
              go_wp2_with fail
              refine Calls.mono (c4.out _ hb5.out) ?_
              intro e w8 h8
              obtain ⟨A8, c8, he, hc8, hr8, hb8⟩ := h8.row
              rw [hel.out] at he hc8
              subst he
              have hr6 : As (Ints w8 none E) := ⟨by rw [hE5.out]; exact Row.below (Row.of_own how5.out) hb8⟩
              have hel6 : 0 = el := by rw [← hel.out, hE5.out, hL5l.out]
              replace hel6 := As.mk hel6
              have hb48 := As.mk (below_next' (below_next' hbel.out hb5.out) hb8)
              replace hr8 := As.mk hr8
              clear h8 hb8 how5
              go_wp2_with fail
              refine Calls.mono (cS.out _ A8 c8 _ hr8.out rfl hc8 none 0 _ hr6.out (by have := hel6.out; omega) (by rw [← hel6.out]; first | exact hc5.out | omega)) ?_
              rintro e w9 ⟨rfl, hb9⟩
              have hb49 := As.mk (below_next' hb48.out hb9)
              clear hb9
              go_wp2
              go_roundg gq
              case rel => exact ⟨k + 1, ⟨by have := hgk.out; omega⟩, by omega, (by first | rfl | go_num | (congr 1; omega)), hb49⟩
              case measure => omega
      · obtain rfl : k = np := by omega
        go_wp2_with (first
          | (go_at_call 22; refine Calls.mono (cnod.out _ hbel.out) ?_; rintro e w' ⟨rfl, rfl⟩))
        go_ret
        exact ⟨rfl, hBr.out⟩
  · --
    have hB := As.mk (Below.refl w.heap.size w)
    have HX := As.mk hx
    have HM := As.mk hm
    clear hx hm
    go_enter Try.func6, Try.ntmps6
    go_wp2_with fail
    refine Calls.mono (awake_calls _) ?_
    rintro e w1 ⟨rfl, hb⟩
    have hs := hb.size
    (try simp only [World.size_alloc, World.size_drew] at hs)
    replace hB := As.mk (below_next' hB.out (by (repeat (first | (with_reducible assumption) | (with_reducible exact Below.refl _ _) | (with_reducible refine Below.drew ?_) | (with_reducible refine Below.alloc ?_ (by (first | omega | (simp only [World.size_alloc, World.size_drew]; done) | (simp only [World.size_alloc, World.size_drew]; omega))) _) | (refine Below.trans ?_ (Below.mono (by with_reducible assumption) (by (first | omega | (simp only [World.size_alloc, World.size_drew]; done) | (simp only [World.size_alloc, World.size_drew]; omega))))))) : Below _ _ w1))
    replace HX := As.mk (HX.out.below (by (repeat (first | (with_reducible assumption) | (with_reducible exact Below.refl _ _) | (with_reducible refine Below.drew ?_) | (with_reducible refine Below.alloc ?_ (by (first | omega | (simp only [World.size_alloc, World.size_drew]; done) | (simp only [World.size_alloc, World.size_drew]; omega))) _) | (refine Below.trans ?_ (Below.mono (by with_reducible assumption) (by (first | omega | (simp only [World.size_alloc, World.size_drew]; done) | (simp only [World.size_alloc, World.size_drew]; omega))))))) : Below _ _ w1))
    replace hb := As.mk hb
    go_wp2_with fail
    refine Calls.mono (texts_calls _ A c l HX.out hc hr HM.out) ?_
    rintro e w2 ⟨⟨A2, c2, b, he, hb0, hS⟩, hb⟩; clear hr
    have hs := hb.size
    (try simp only [World.size_alloc, World.size_drew] at hs)
    replace hB := As.mk (below_next' hB.out (by (repeat (first | (with_reducible assumption) | (with_reducible exact Below.refl _ _) | (with_reducible refine Below.drew ?_) | (with_reducible refine Below.alloc ?_ (by (first | omega | (simp only [World.size_alloc, World.size_drew]; done) | (simp only [World.size_alloc, World.size_drew]; omega))) _) | (refine Below.trans ?_ (Below.mono (by with_reducible assumption) (by (first | omega | (simp only [World.size_alloc, World.size_drew]; done) | (simp only [World.size_alloc, World.size_drew]; omega))))))) : Below _ _ w2))
    replace HX := As.mk (HX.out.below (by (repeat (first | (with_reducible assumption) | (with_reducible exact Below.refl _ _) | (with_reducible refine Below.drew ?_) | (with_reducible refine Below.alloc ?_ (by (first | omega | (simp only [World.size_alloc, World.size_drew]; done) | (simp only [World.size_alloc, World.size_drew]; omega))) _) | (refine Below.trans ?_ (Below.mono (by with_reducible assumption) (by (first | omega | (simp only [World.size_alloc, World.size_drew]; done) | (simp only [World.size_alloc, World.size_drew]; omega))))))) : Below _ _ w2))
    replace hb := As.mk hb
    have hbf : (b && decide (l.length ≤ 12)) = false := by
      cases b with
      | false => rfl
      | true =>
        have h40 := of_decide_eq_true hb0.symm
        simp only [Bool.true_and, decide_eq_false_iff_not]
        exact fun h12 => hf ⟨h12, h40⟩
    obtain ⟨m, hm2⟩ : ∃ m, (if b = true then l.length else 0) = m := ⟨_, rfl⟩
    rw [hbf, hm2] at he
    subst he
    clear hS hb0 hbf hm2
    go_wp2
    go_ret
    exact ⟨rfl, hB.out⟩
end Go.Proofs.Ytcajccknkjljfaa
