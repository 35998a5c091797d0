/- The walk of the law SparseSteps. -/
import Derived.Test.YtieelnpfpfiboaaM6
import Derived.Test.YtieelnpfpfiboaaM5
import Derived.Deep.RegionHeld
set_option linter.unusedVariables false
set_option linter.unusedSimpArgs false
namespace Go.Proofs.Ytieelnpfpfiboaa
open Go.RowKit Go.Maps Seine.Trie Seine.Links Seine.Sparse
attribute [local go_sem high] eqCn

theorem heldStep {w v w' : World} {p : Addr} {u : Value} (h : Below w.heap.size w v) (hb : Below v.heap.size v w') (hp : w.cell? p = some u) : w'.cell? p = some u ∧ Below w.heap.size w w' := by
  have h2 := belowNext h hb
  exact ⟨(h2.cell (World.block_lt_of_cell? w _ hp)).trans hp, h2⟩
set_option maxRecDepth 100000 in
set_option maxHeartbeats 3200000 in
theorem steps_walk (A : Option Addr) (c : Nat) (l : List Txt) (st : Int) (a : Int) (w : World) (hx : Txts w A l) (hc : l.length ≤ c) (hr : c * 24 ≤ 140737488351232) (hm : ∀ x ∈ l, x.length ≤ maxLen)
    (hst : (Lit.int .i64 st).wf = true) (ha : (Lit.int .u8 a).wf = true) :
    Calls Try.prog 6 #[.slice A l.length c, .int .i64 st, .int .u8 a] w fun e w' => e = .returned (.bool true) ∧ Below w.heap.size w w' := by
  obtain ⟨ch, rfl⟩ := u8_byte ha
  clear ha hst
  by_cases hf : Few l
  · --
    have hB := As.mk (Below.refl w.heap.size w)
    have HX := As.mk hx
    have HM := As.mk hm
    clear hx hm
    go_enter Try.func6, Try.ntmps6
    go_wp2_with fail
    refine Calls.mono (awake_calls _) ?_
    rintro e w1 ⟨rfl, hb⟩
    have hs := hb.size
    (try simp only [World.size_alloc, World.size_drew] at hs)
    replace hB := As.mk (belowNext hB.out (by (repeat (first | (with_reducible assumption) | (with_reducible exact Below.refl _ _) | (with_reducible refine Below.drew ?_) | (with_reducible refine below_drewN ?_ _) | (with_reducible refine Below.alloc ?_ (by (first | omega | (simp only [World.size_alloc, World.size_drew]; done) | (simp only [World.size_alloc, World.size_drew]; omega))) _) | (refine Below.trans ?_ (Below.mono (by with_reducible assumption) (by (first | omega | (simp only [World.size_alloc, World.size_drew]; done) | (simp only [World.size_alloc, World.size_drew]; omega))))))) : Below _ _ w1))
    replace HX := As.mk (HX.out.below (by (repeat (first | (with_reducible assumption) | (with_reducible exact Below.refl _ _) | (with_reducible refine Below.drew ?_) | (with_reducible refine below_drewN ?_ _) | (with_reducible refine Below.alloc ?_ (by (first | omega | (simp only [World.size_alloc, World.size_drew]; done) | (simp only [World.size_alloc, World.size_drew]; omega))) _) | (refine Below.trans ?_ (Below.mono (by with_reducible assumption) (by (first | omega | (simp only [World.size_alloc, World.size_drew]; done) | (simp only [World.size_alloc, World.size_drew]; omega))))))) : Below _ _ w1))
    replace hb := As.mk hb
    go_wp2_with fail
    refine Calls.mono (texts_calls _ A c l HX.out hc hr HM.out) ?_
    rintro e w2 ⟨⟨A2, c2, b, he, hb0, hS⟩, hb⟩; clear hr
    have hs := hb.size
    (try simp only [World.size_alloc, World.size_drew] at hs)
    replace hB := As.mk (belowNext hB.out (by (repeat (first | (with_reducible assumption) | (with_reducible exact Below.refl _ _) | (with_reducible refine Below.drew ?_) | (with_reducible refine below_drewN ?_ _) | (with_reducible refine Below.alloc ?_ (by (first | omega | (simp only [World.size_alloc, World.size_drew]; done) | (simp only [World.size_alloc, World.size_drew]; omega))) _) | (refine Below.trans ?_ (Below.mono (by with_reducible assumption) (by (first | omega | (simp only [World.size_alloc, World.size_drew]; done) | (simp only [World.size_alloc, World.size_drew]; omega))))))) : Below _ _ w2))
    replace HX := As.mk (HX.out.below (by (repeat (first | (with_reducible assumption) | (with_reducible exact Below.refl _ _) | (with_reducible refine Below.drew ?_) | (with_reducible refine below_drewN ?_ _) | (with_reducible refine Below.alloc ?_ (by (first | omega | (simp only [World.size_alloc, World.size_drew]; done) | (simp only [World.size_alloc, World.size_drew]; omega))) _) | (refine Below.trans ?_ (Below.mono (by with_reducible assumption) (by (first | omega | (simp only [World.size_alloc, World.size_drew]; done) | (simp only [World.size_alloc, World.size_drew]; omega))))))) : Below _ _ w2))
    replace hb := As.mk hb
    obtain rfl : b = true := by rw [hb0]; exact decide_eq_true hf.short
    have hd12 : decide (l.length ≤ 12) = true := decide_eq_true hf.len
    rw [Bool.true_and, hd12, if_pos rfl] at he
    subst he
    obtain ⟨hc2, hS2⟩ := hS rfl
    clear hS
    have hS := As.mk hS2
    clear hS2 hb0 hd12
    have htot := As.mk hf.tot
    have hl12 := hf.len
    have hF := As.mk hf
    clear hf
    go_wp2_with fail
    refine Calls.mono (snew_calls _ A c l HX.out (by have := htot.out; omega) (by omega)) ?_
    rintro e w3 ⟨g, rfl, hA, hb⟩; replace hA := As.mk hA
    have hs := hb.size
    (try simp only [World.size_alloc, World.size_drew] at hs)
    replace hB := As.mk (belowNext hB.out (by (repeat (first | (with_reducible assumption) | (with_reducible exact Below.refl _ _) | (with_reducible refine Below.drew ?_) | (with_reducible refine below_drewN ?_ _) | (with_reducible refine Below.alloc ?_ (by (first | omega | (simp only [World.size_alloc, World.size_drew]; done) | (simp only [World.size_alloc, World.size_drew]; omega))) _) | (refine Below.trans ?_ (Below.mono (by with_reducible assumption) (by (first | omega | (simp only [World.size_alloc, World.size_drew]; done) | (simp only [World.size_alloc, World.size_drew]; omega))))))) : Below _ _ w3))
    replace HX := As.mk (HX.out.below (by (repeat (first | (with_reducible assumption) | (with_reducible exact Below.refl _ _) | (with_reducible refine Below.drew ?_) | (with_reducible refine below_drewN ?_ _) | (with_reducible refine Below.alloc ?_ (by (first | omega | (simp only [World.size_alloc, World.size_drew]; done) | (simp only [World.size_alloc, World.size_drew]; omega))) _) | (refine Below.trans ?_ (Below.mono (by with_reducible assumption) (by (first | omega | (simp only [World.size_alloc, World.size_drew]; done) | (simp only [World.size_alloc, World.size_drew]; omega))))))) : Below _ _ w3))
    replace hS := As.mk (hS.out.below (by (repeat (first | (with_reducible assumption) | (with_reducible exact Below.refl _ _) | (with_reducible refine Below.drew ?_) | (with_reducible refine below_drewN ?_ _) | (with_reducible refine Below.alloc ?_ (by (first | omega | (simp only [World.size_alloc, World.size_drew]; done) | (simp only [World.size_alloc, World.size_drew]; omega))) _) | (refine Below.trans ?_ (Below.mono (by with_reducible assumption) (by (first | omega | (simp only [World.size_alloc, World.size_drew]; done) | (simp only [World.size_alloc, World.size_drew]; omega))))))) : Below _ _ w3))
    replace hb := As.mk hb
    go_wp2_with fail
    refine Calls.mono (rpaths_calls _ A2 c2 l hS.out hc2 (by omega) (by have := htot.out; omega)) ?_
    rintro e w4 ⟨A4, c4, he, hc4, hp, hb⟩; subst he; replace hp := As.mk hp
    have hs := hb.size
    (try simp only [World.size_alloc, World.size_drew] at hs)
    replace hB := As.mk (belowNext hB.out (by (repeat (first | (with_reducible assumption) | (with_reducible exact Below.refl _ _) | (with_reducible refine Below.drew ?_) | (with_reducible refine below_drewN ?_ _) | (with_reducible refine Below.alloc ?_ (by (first | omega | (simp only [World.size_alloc, World.size_drew]; done) | (simp only [World.size_alloc, World.size_drew]; omega))) _) | (refine Below.trans ?_ (Below.mono (by with_reducible assumption) (by (first | omega | (simp only [World.size_alloc, World.size_drew]; done) | (simp only [World.size_alloc, World.size_drew]; omega))))))) : Below _ _ w4))
    replace HX := As.mk (HX.out.below (by (repeat (first | (with_reducible assumption) | (with_reducible exact Below.refl _ _) | (with_reducible refine Below.drew ?_) | (with_reducible refine below_drewN ?_ _) | (with_reducible refine Below.alloc ?_ (by (first | omega | (simp only [World.size_alloc, World.size_drew]; done) | (simp only [World.size_alloc, World.size_drew]; omega))) _) | (refine Below.trans ?_ (Below.mono (by with_reducible assumption) (by (first | omega | (simp only [World.size_alloc, World.size_drew]; done) | (simp only [World.size_alloc, World.size_drew]; omega))))))) : Below _ _ w4))
    replace hS := As.mk (hS.out.below (by (repeat (first | (with_reducible assumption) | (with_reducible exact Below.refl _ _) | (with_reducible refine Below.drew ?_) | (with_reducible refine below_drewN ?_ _) | (with_reducible refine Below.alloc ?_ (by (first | omega | (simp only [World.size_alloc, World.size_drew]; done) | (simp only [World.size_alloc, World.size_drew]; omega))) _) | (refine Below.trans ?_ (Below.mono (by with_reducible assumption) (by (first | omega | (simp only [World.size_alloc, World.size_drew]; done) | (simp only [World.size_alloc, World.size_drew]; omega))))))) : Below _ _ w4))
    replace hA := As.mk (hA.out.below (by (repeat (first | (with_reducible assumption) | (with_reducible exact Below.refl _ _) | (with_reducible refine Below.drew ?_) | (with_reducible refine below_drewN ?_ _) | (with_reducible refine Below.alloc ?_ (by (first | omega | (simp only [World.size_alloc, World.size_drew]; done) | (simp only [World.size_alloc, World.size_drew]; omega))) _) | (refine Below.trans ?_ (Below.mono (by with_reducible assumption) (by (first | omega | (simp only [World.size_alloc, World.size_drew]; done) | (simp only [World.size_alloc, World.size_drew]; omega))))))) : Below _ _ w4))
    replace hb := As.mk hb
    have hT := paths_tree l
    have hps := hF.out.path_short
    have hPl := hF.out.paths_len
    obtain ⟨P, hP⟩ : ∃ P, paths l = P := ⟨_, rfl⟩
    rw [hP] at hT hps hPl hc4 hp hA ⊢
    have hTr := As.mk hT
    have hps := As.mk hps
    obtain ⟨np, hnp⟩ : ∃ np, P.length = np := ⟨_, rfl⟩
    have hnp' := As.mk hnp
    clear hS HX HM htot hT hF hP
    go_wp2_with fail
    refine Calls.mono (sstates_calls _ g P l hA.out) ?_
    rintro e w' ⟨he, rfl⟩; subst he
    rw [hnp] at hPl hc4 ⊢
    clear hnp
    go_wp2_with fail
    refine Calls.mono (mnew_calls _) ?_
    rintro e w5 ⟨rfl, hmt, hb⟩
    have hmo := Mo.some_ hmt
    have hb45 := As.mk hb
    have hmb := block_lt hmt
    obtain ⟨gm, hgm⟩ : ∃ g, w4.heap.size = g := ⟨_, rfl⟩
    rw [hgm] at hmo hmt hmb ⊢
    have hz4 : w4.heap.size ≤ gm := by omega
    have hcnz := Cn.zero_room
    clear hgm hmt hb
    by_cases hin : 0 ≤ st ∧ st < np
    · obtain ⟨k, rfl⟩ : ∃ k : Nat, st = (k : Int) := ⟨st.toNat, by omega⟩
      have hk : k < np := by omega
      obtain ⟨s, hs⟩ : ∃ s, P.getD k [] = s := ⟨_, rfl⟩
      have hPk := get_at (P := P) (a := k) (by rw [hnp'.out]; exact hk)
      rw [hs] at hPk
      have hsl : s.length ≤ 40 := hps.out s (List.mem_of_getElem? hPk)
      obtain ⟨ad, rfl, hcell0⟩ := hp.out.at_ (i := k) (by rw [hnp'.out]; exact hk)
      rw [hs] at hcell0
      have hlk : looks1 P s ch ≤ 42 := by have := looks1_cost hTr.out ch _ s rfl; omega
      have hG : stepG P (k : Int) ch = place P (lng P (s ++ [ch])) := by
        unfold stepG
        rw [if_pos (by have := hnp'.out; omega), Int.toNat_natCast, hs]
      have hK : looksG P (k : Int) ch = looks1 P s ch := by
        unfold looksG
        rw [if_pos (by have := hnp'.out; omega), Int.toNat_natCast, hs]
      have hF2 : pathF P (k : Int) = s := by
        unfold pathF
        rw [if_pos (by have := hnp'.out; omega), Int.toNat_natCast, hs]
      obtain ⟨s2, hs2⟩ : ∃ x, lng P (s ++ [ch]) = x := ⟨_, rfl⟩
      obtain ⟨q, hq⟩ : ∃ q, looks1 P s ch = q := ⟨_, rfl⟩
      obtain ⟨tov, hto⟩ : ∃ tov, place P s2 = tov := ⟨_, rfl⟩
      have hs2l : s2.length ≤ 41 := by have := lng_len hTr.out (s ++ [ch]); rw [hs2] at this; simp at this; omega
      rw [hs2, hto] at hG
      rw [hq] at hK hlk
      obtain ⟨sS, hsS⟩ : ∃ x, bb s = x := ⟨_, rfl⟩
      obtain ⟨sT, hsT⟩ : ∃ x, bb s2 = x := ⟨_, rfl⟩
      have cR := As.mk (fun (v : World) (hv : Below w4.heap.size w4 v) => (by have := rstep_calls v (some ad) c4 P (hp.out.below hv) (by rw [hnp'.out]; exact hc4) hTr.out (by have := hnp'.out; omega) s (by omega) ch; rw [hs2, hq, hsS, hsT, hnp'.out] at this; exact this : Calls Try.prog 23 #[.slice (some ad) np c4, .string sS, .int .u8 (ch.toNat : Int)] v fun e w' => e = .returned (.tuple #[.string sT, .int .i64 (q : Int)]) ∧ Below v.heap.size v w'))
      have cL := As.mk (fun (v : World) (hv : Below w4.heap.size w4 v) => (by have := rplace_calls v (some ad) c4 P (hp.out.below hv) (by rw [hnp'.out]; exact hc4) (by have := hnp'.out; omega) s2; rw [hto, hsT, hnp'.out] at this; exact this : Calls Try.prog 24 #[.slice (some ad) np c4, .string sT] v fun e w' => e = .returned (.int .i64 tov) ∧ Below v.heap.size v w'))
      have cStep := As.mk (fun (v : World) (hv : Below w4.heap.size w4 v) (mo : Option Nat) (hm : Mo v mo Cn.zero) => (by have := sStep_calls v g P l (hA.out.below hv) mo Cn.zero hm hTr.out (by have := hnp'.out; omega) (k : Int) ch (by rw [hK]; unfold Cn.ok Cn.looked Cn.zero; simp only; omega); rw [hG, hK] at this; exact this : Calls Try.prog 21 #[.pointer (some ⟨g, 0, none⟩), .pointer (madr mo), .int .i64 (k : Int), .int .u8 (ch.toNat : Int)] v fun e w' => e = .returned (.int .i64 tov) ∧ Mo w' mo (Cn.zero.looked q) ∧ Keeps (OnlyM mo) v w'))
      have cPa := As.mk (fun (v : World) (hv : Below w4.heap.size w4 v) => (by have := spath_calls v g P l (hA.out.below hv) (k : Int) (fun p hp => by have := hps.out p hp; omega); rw [hF2] at this; exact this : Calls Try.prog 22 #[.pointer (some ⟨g, 0, none⟩), .int .i64 (k : Int)] v (RetByt v s)))
      have hsl' := As.mk hsl
      have hsS' := As.mk hsS
      have hcell := hcell0
      have hc5 : w5.cell? (ad.add k) = some (.string (bb s)) := (hb45.out.cell (World.block_lt_of_cell? w4 _ hcell0)).trans hcell0
      rw [hsS] at hc5 hcell0
      clear hs2 hq hto hsS hsT hG hK hF2 hs hPk hcell hnp' hps
      have hlt : decide ((k : Int) < (np : Int)) = true := decide_eq_true (by omega)
      go_wp2_with fail
      refine Calls.mono (cR.out _ hb45.out) ?_
      rintro e w6 ⟨he, hb⟩
      subst he
      replace hb45 := As.mk (hb45.out.trans (hb.mono hb45.out.size))
      replace hmo := hmo.below hb
      clear hb hc5
      go_wp2_with fail
      refine Calls.mono (cStep.out _ hb45.out (some gm) hmo) ?_
      rintro e w7 ⟨he, hm7, hk7⟩
      subst he
      have hb47 := hb45.out.trans (hk7.below (fun j hj hS => by unfold OnlyM at hS; injection hS with hS; omega) hb45.out.size)
      have hcell : w7.cell? (ad.add k) = some (.string sS) := (hb47.cell (World.block_lt_of_cell? w4 _ hcell0)).trans hcell0
      have hm7' := hm7 gm rfl
      have cM := As.mk (fun (v : World) (hv : Below w7.heap.size w7 v) => (by have := mcounts_calls v gm _ (hm7'.below hv); unfold cnCells Cn.looked Cn.zero at this; simp only [Int.zero_add] at this; exact this : Calls Try.prog 17 #[.pointer (some ⟨gm, 0, none⟩)] v fun e w' => e = .returned (.agg #[.int .i64 0, .int .i64 (q : Int), .int .i64 0, .int .i64 0]) ∧ Below v.heap.size v w'))
      have cL7 := As.mk (fun (v : World) (hv : Below w7.heap.size w7 v) => cL.out v (hb47.trans (hv.mono hb47.size)))
      have cP7 := As.mk (fun (v : World) (hv : Below w7.heap.size w7 v) => cPa.out v (hb47.trans (hv.mono hb47.size)))
      have cS7 := As.mk (fun (v : World) (hv : Below w7.heap.size w7 v) => (cStep.out v (hb47.trans (hv.mono hb47.size)) none (Mo.none_ _ _)).mono fun e w' h => (show e = .returned (.int .i64 tov) ∧ Below v.heap.size v w' from ⟨h.1, h.2.2.below (fun j _ hS => by cases hS) (Nat.le_refl _)⟩))
      have hB7 := As.mk (belowNext hB.out hb47)
      have hw7 : Below w7.heap.size w7 w7.drew := (Below.refl _ _).drew
      clear hm7 hm7' hk7 hmo hb45 hb47 hcell0 cR cL cStep cPa hA hp hB hTr hz4 hcnz hmb hs2l
      go_wp2_with fail
      go_region_held (fun w' => w'.cell? (ad.add k) = some (.string sS) ∧ Below w7.heap.size w7 w')
        (first
          | go_keep
          | (go_split_ands; exact heldStep (by with_reducible assumption) hb hcell))
        (first
        | (go_at_call 22; go_split_ands; refine Calls.mono (cP7.out _ (by with_reducible assumption)) ?_; intro e w' h'; obtain ⟨A1, c1, he, _, hr1, hb⟩ := h'.rowc; subst he; have K1 : ∀ v, Below w'.heap.size w' v → (convert 23 9 (.slice A1 s.length c1)).run Try.prog v = .ok (.string sS) v := (fun v hv => strOf (Row.below hr1 hv) (by have := hsl'.out; omega) hsS'.out); have hrf := Below.refl w'.heap.size w'; clear h' hr1)
        | (go_at_call 24; go_split_ands; refine Calls.mono (cL7.out _ (by with_reducible assumption)) ?_; rintro e w' ⟨rfl, hb⟩)
        | (go_at_call 17; go_split_ands; refine Calls.mono (cM.out _ (by with_reducible assumption)) ?_; rintro e w' ⟨rfl, hb⟩)
        | (go_at_call 21; go_split_ands; refine Calls.mono (cS7.out _ (by with_reducible assumption)) ?_; rintro e w' ⟨rfl, hb⟩))
      all_goals
        go_split_ands
        go_wp2
        go_ret
        exact ⟨rfl, belowNext hB7.out (by with_reducible assumption)⟩
    · have hG : stepG P st ch = -1 := by unfold stepG; rw [if_neg (by rw [hnp'.out]; exact hin)]
      have hK : looksG P st ch = 0 := by unfold looksG; rw [if_neg (by rw [hnp'.out]; exact hin)]
      have hF2 : pathF P st = [] := if_neg (by rw [hnp'.out]; exact hin)
      have cStep := As.mk (by have := sStep_calls w5 g P l (hA.out.below hb45.out) (some gm) Cn.zero hmo hTr.out (by have := hnp'.out; omega) st ch (by rw [hK]; unfold Cn.ok Cn.looked Cn.zero; decide); rw [hG, hK] at this; exact this : Calls Try.prog 21 #[.pointer (some ⟨g, 0, none⟩), .pointer (some ⟨gm, 0, none⟩), .int .i64 st, .int .u8 (ch.toNat : Int)] w5 fun e w' => e = .returned (.int .i64 (-1)) ∧ Mo w' (some gm) (Cn.zero.looked 0) ∧ Keeps (OnlyM (some gm)) w5 w')
      have cPa := As.mk (fun (v : World) (hv : Below w4.heap.size w4 v) => (by have := spath_calls v g P l (hA.out.below hv) st (fun p hp => by have := hps.out p hp; omega); rw [hF2] at this; exact this : Calls Try.prog 22 #[.pointer (some ⟨g, 0, none⟩), .int .i64 st] v (RetByt v [])))
      have hz4' := As.mk hz4
      clear hG hK hF2 hnp' hps hp hz4
      rcases (show st < 0 ∨ (0 ≤ st ∧ (np : Int) ≤ st) by omega) with hneg | ⟨hp1, hp2⟩
      all_goals
        clear hin
        go_wp2_with fail
        refine Calls.mono cStep.out ?_
        rintro e w7 ⟨he, hm7, hk7⟩
        subst he
        have hb47 := As.mk (hb45.out.trans (hk7.below (fun j hj hS => by have := hz4'.out; unfold OnlyM at hS; injection hS with hS; omega) hb45.out.size))
        go_wp2_with fail
        refine Calls.mono (mcounts_calls _ gm _ (hm7 gm rfl)) ?_
        rintro e w8 ⟨rfl, hb⟩
        unfold cnCells Cn.looked Cn.zero
        replace hb47 := As.mk (hb47.out.trans (hb.mono hb47.out.size))
        go_wp2_with fail
        refine Calls.mono (cPa.out _ (hb47.out)) ?_
        intro e w9 h9
        obtain ⟨A9, c9, he, _, _, hb9⟩ := h9.rowc
        rw [List.length_nil] at he
        subst he
        have hB9 := belowNext hB.out (hb47.out.trans (hb9.mono hb47.out.size))
        go_wp2
        go_ret
        exact ⟨rfl, hB9⟩
  · --
    have hB := As.mk (Below.refl w.heap.size w)
    have HX := As.mk hx
    have HM := As.mk hm
    clear hx hm
    go_enter Try.func6, Try.ntmps6
    go_wp2_with fail
    refine Calls.mono (awake_calls _) ?_
    rintro e w1 ⟨rfl, hb⟩
    have hs := hb.size
    (try simp only [World.size_alloc, World.size_drew] at hs)
    replace hB := As.mk (belowNext hB.out (by (repeat (first | (with_reducible assumption) | (with_reducible exact Below.refl _ _) | (with_reducible refine Below.drew ?_) | (with_reducible refine below_drewN ?_ _) | (with_reducible refine Below.alloc ?_ (by (first | omega | (simp only [World.size_alloc, World.size_drew]; done) | (simp only [World.size_alloc, World.size_drew]; omega))) _) | (refine Below.trans ?_ (Below.mono (by with_reducible assumption) (by (first | omega | (simp only [World.size_alloc, World.size_drew]; done) | (simp only [World.size_alloc, World.size_drew]; omega))))))) : Below _ _ w1))
    replace HX := As.mk (HX.out.below (by (repeat (first | (with_reducible assumption) | (with_reducible exact Below.refl _ _) | (with_reducible refine Below.drew ?_) | (with_reducible refine below_drewN ?_ _) | (with_reducible refine Below.alloc ?_ (by (first | omega | (simp only [World.size_alloc, World.size_drew]; done) | (simp only [World.size_alloc, World.size_drew]; omega))) _) | (refine Below.trans ?_ (Below.mono (by with_reducible assumption) (by (first | omega | (simp only [World.size_alloc, World.size_drew]; done) | (simp only [World.size_alloc, World.size_drew]; omega))))))) : Below _ _ w1))
    replace hb := As.mk hb
    go_wp2_with fail
    refine Calls.mono (texts_calls _ A c l HX.out hc hr HM.out) ?_
    rintro e w2 ⟨⟨A2, c2, b, he, hb0, hS⟩, hb⟩; clear hr
    have hs := hb.size
    (try simp only [World.size_alloc, World.size_drew] at hs)
    replace hB := As.mk (belowNext hB.out (by (repeat (first | (with_reducible assumption) | (with_reducible exact Below.refl _ _) | (with_reducible refine Below.drew ?_) | (with_reducible refine below_drewN ?_ _) | (with_reducible refine Below.alloc ?_ (by (first | omega | (simp only [World.size_alloc, World.size_drew]; done) | (simp only [World.size_alloc, World.size_drew]; omega))) _) | (refine Below.trans ?_ (Below.mono (by with_reducible assumption) (by (first | omega | (simp only [World.size_alloc, World.size_drew]; done) | (simp only [World.size_alloc, World.size_drew]; omega))))))) : Below _ _ w2))
    replace HX := As.mk (HX.out.below (by (repeat (first | (with_reducible assumption) | (with_reducible exact Below.refl _ _) | (with_reducible refine Below.drew ?_) | (with_reducible refine below_drewN ?_ _) | (with_reducible refine Below.alloc ?_ (by (first | omega | (simp only [World.size_alloc, World.size_drew]; done) | (simp only [World.size_alloc, World.size_drew]; omega))) _) | (refine Below.trans ?_ (Below.mono (by with_reducible assumption) (by (first | omega | (simp only [World.size_alloc, World.size_drew]; done) | (simp only [World.size_alloc, World.size_drew]; omega))))))) : Below _ _ w2))
    replace hb := As.mk hb
    have hbf : (b && decide (l.length ≤ 12)) = false := by
      cases b with
      | false => rfl
      | true =>
        have h40 := of_decide_eq_true hb0.symm
        simp only [Bool.true_and, decide_eq_false_iff_not]
        exact fun h12 => hf ⟨h12, h40⟩
    obtain ⟨m, hm2⟩ : ∃ m, (if b = true then l.length else 0) = m := ⟨_, rfl⟩
    rw [hbf, hm2] at he
    subst he
    clear hS hb0 hbf hm2
    go_wp2
    go_ret
    exact ⟨rfl, hB.out⟩
end Go.Proofs.Ytieelnpfpfiboaa
