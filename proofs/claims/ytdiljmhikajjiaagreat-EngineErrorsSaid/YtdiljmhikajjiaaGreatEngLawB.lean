/- The walk of the law EngineErrors. -/
import Derived.Test.YtdiljmhikajjiaaGreatM12
set_option linter.unusedVariables false
set_option linter.unusedSimpArgs false
namespace Go.Proofs.YtdiljmhikajjiaaGreat
open Go.RowKit Go.Maps Seine.Trie Seine.Eng Seine.Links


theorem enew_eq (w : World) (tag : Int) (V : Value) (base : Nat) (l : List Txt) (h : PsAt w base V l) (hs : ∀ t ∈ l, t.length ≤ 60) (hll : l.length ≤ 1000) (q : Int) (hq : wrongF tag l = q) :
    Calls Tryz.prog 11 #[.int .i64 tag, V] w fun e w' => ∃ p, e = .returned (.tuple #[.pointer p, .int .i64 q]) ∧ (q ≠ 0 → p = none) ∧ Below w.heap.size w w' :=
  (enew_calls w tag V base l h hs hll).mono fun e w' hh => by
    by_cases h0 : wrongF tag l = 0
    · rw [if_pos h0] at hh
      obtain ⟨⟨g, h1, h2⟩, h3⟩ := hh
      exact ⟨_, by rw [h1, ← hq, h0], fun h => absurd (hq.symm.trans h0) h, h3⟩
    · rw [if_neg h0] at hh
      exact ⟨none, by rw [hh.1, hq], fun _ => rfl, hh.2⟩
theorem paths_one (t : Txt) : (paths [t]).length = t.length + 1 := by
  have hn : ((List.range (t.length + 1)).map fun k => t.take k).Nodup := nodup_map' List.nodup_range fun x y hx hy h => by
    have hx := List.mem_range.1 hx
    have hy := List.mem_range.1 hy
    have := congrArg List.length h
    rw [List.length_take, List.length_take] at this
    omega
  have hm : ∀ p, p ∈ paths [t] ↔ p ∈ (List.range (t.length + 1)).map fun k => t.take k := fun p => by
    rw [(paths_spec [t]).2 p, List.mem_map]
    constructor
    · rintro (rfl | ⟨b, hb, k, hk, rfl⟩)
      · exact ⟨0, List.mem_range.2 (by omega), by simp⟩
      · obtain rfl : b = t := by simpa using hb
        exact ⟨k, List.mem_range.2 (by omega), rfl⟩
    · rintro ⟨k, hk, rfl⟩
      have hk := List.mem_range.1 hk
      exact .inr ⟨t, by simp, k, by omega, rfl⟩
  have h1 := nodup_len (paths_tree [t]).nodup fun x hx => (hm x).1 hx
  have h2 := nodup_len hn fun x hx => (hm x).2 hx
  rw [List.length_map, List.length_range] at h1 h2
  omega
theorem size_big {ps : List Txt} (h : ¬ (paths ps).length ≤ 160) : 160 ≤ sumL ps := by
  have := paths_len ps
  have e : tot ps = sumL ps := rfl
  omega
theorem size_one {ps : List Txt} (h : (paths ps).length ≤ 160) (h1 : ps.length = 1) : sumL ps < 160 := by
  obtain ⟨t, rfl⟩ := List.length_eq_one_iff.1 h1
  rw [paths_one] at h
  unfold sumL; simp; omega
set_option maxRecDepth 100000 in
set_option maxHeartbeats 12800000 in
theorem errors_walk (A : Option Addr) (c : Nat) (l : List Txt) (tag : Int) (w : World) (hx : Txts w A l) (hc : l.length ≤ c) (hr : c * 24 ≤ 140737488351232) (hm : ∀ x ∈ l, x.length ≤ maxLen) (ht : (Lit.int .i64 tag).wf = true) :
    Calls Tryz.prog 6 #[.slice A l.length c, .int .i64 tag] w fun e w' => e = .returned (.bool true) ∧ Below w.heap.size w w' := by
  clear ht
  by_cases hf : Few l
  · --
    have hB := As.mk (Below.refl w.heap.size w)
    have HX := As.mk hx
    have HM := As.mk hm
    clear hx hm
    go_enter Tryz.func6, Tryz.ntmps6
    go_wp2_with fail
    refine Calls.mono (awake_calls _) ?_
    rintro e w1 ⟨rfl, hb⟩
    have hs := hb.size
    (try simp only [World.size_alloc, World.size_drew] at hs)
    replace hB := As.mk (belowNext hB.out (by (repeat (first | (with_reducible assumption) | (with_reducible exact Below.refl _ _) | (with_reducible refine Below.drew ?_) | (with_reducible refine below_drewN ?_ _) | (with_reducible refine Below.alloc ?_ (by (first | omega | (simp only [World.size_alloc, World.size_drew]; done) | (simp only [World.size_alloc, World.size_drew]; omega))) _) | (refine Below.trans ?_ (Below.mono (by with_reducible assumption) (by (first | omega | (simp only [World.size_alloc, World.size_drew]; done) | (simp only [World.size_alloc, World.size_drew]; omega))))))) : Below _ _ w1))
    replace HX := As.mk (HX.out.below (by (repeat (first | (with_reducible assumption) | (with_reducible exact Below.refl _ _) | (with_reducible refine Below.drew ?_) | (with_reducible refine below_drewN ?_ _) | (with_reducible refine Below.alloc ?_ (by (first | omega | (simp only [World.size_alloc, World.size_drew]; done) | (simp only [World.size_alloc, World.size_drew]; omega))) _) | (refine Below.trans ?_ (Below.mono (by with_reducible assumption) (by (first | omega | (simp only [World.size_alloc, World.size_drew]; done) | (simp only [World.size_alloc, World.size_drew]; omega))))))) : Below _ _ w1))
    replace hb := As.mk hb
    go_wp2_with fail
    refine Calls.mono (texts_calls _ A c l HX.out hc hr HM.out) ?_
    rintro e w2 ⟨⟨A2, c2, b, he, hb0, hS⟩, hb⟩; clear hr
    have hs := hb.size
    (try simp only [World.size_alloc, World.size_drew] at hs)
    replace hB := As.mk (belowNext hB.out (by (repeat (first | (with_reducible assumption) | (with_reducible exact Below.refl _ _) | (with_reducible refine Below.drew ?_) | (with_reducible refine below_drewN ?_ _) | (with_reducible refine Below.alloc ?_ (by (first | omega | (simp only [World.size_alloc, World.size_drew]; done) | (simp only [World.size_alloc, World.size_drew]; omega))) _) | (refine Below.trans ?_ (Below.mono (by with_reducible assumption) (by (first | omega | (simp only [World.size_alloc, World.size_drew]; done) | (simp only [World.size_alloc, World.size_drew]; omega))))))) : Below _ _ w2))
    replace HX := As.mk (HX.out.below (by (repeat (first | (with_reducible assumption) | (with_reducible exact Below.refl _ _) | (with_reducible refine Below.drew ?_) | (with_reducible refine below_drewN ?_ _) | (with_reducible refine Below.alloc ?_ (by (first | omega | (simp only [World.size_alloc, World.size_drew]; done) | (simp only [World.size_alloc, World.size_drew]; omega))) _) | (refine Below.trans ?_ (Below.mono (by with_reducible assumption) (by (first | omega | (simp only [World.size_alloc, World.size_drew]; done) | (simp only [World.size_alloc, World.size_drew]; omega))))))) : Below _ _ w2))
    replace hb := As.mk hb
    obtain rfl : b = true := by rw [hb0]; exact decide_eq_true hf.short
    have hd12 : decide (l.length ≤ 12) = true := decide_eq_true hf.len
    rw [Bool.true_and, hd12, if_pos rfl] at he
    subst he
    obtain ⟨hc2, hS2⟩ := hS rfl
    clear hS
    have hS := As.mk hS2
    clear hS2 hb0 hd12
    have htot := As.mk hf.tot
    have hl12 := hf.len
    have hF := As.mk hf
    clear hf
    have hs60 : ∀ t ∈ l, t.length ≤ 60 := fun t ht => by have := hF.out.short t ht; omega
    have hll : l.length ≤ 1000 := by omega
    have hsz0 := sumL_pset l
    have htt := htot.out
    go_wp2_with fail
    refine Calls.mono (pof_calls _ A c l HX.out (fun t ht => by have := hF.out.short t ht; omega) (by omega)) ?_
    rintro e w3 ⟨V, rfl, hP, hb⟩
    have hs := hb.size
    (try simp only [World.size_alloc, World.size_drew] at hs)
    replace hB := As.mk (belowNext hB.out (by (repeat (first | (with_reducible assumption) | (with_reducible exact Below.refl _ _) | (with_reducible refine Below.drew ?_) | (with_reducible refine below_drewN ?_ _) | (with_reducible refine Below.alloc ?_ (by (first | omega | (simp only [World.size_alloc, World.size_drew]; done) | (simp only [World.size_alloc, World.size_drew]; omega))) _) | (refine Below.trans ?_ (Below.mono (by with_reducible assumption) (by (first | omega | (simp only [World.size_alloc, World.size_drew]; done) | (simp only [World.size_alloc, World.size_drew]; omega))))))) : Below _ _ w3))
    replace hb := As.mk hb
    obtain ⟨A1, c1, mb, rfl⟩ := hP.open_
    obtain ⟨pn, hpn⟩ : ∃ k, (pset l).length = k := ⟨_, rfl⟩
    obtain ⟨e0, he0⟩ : ∃ e, decide (([] : Txt) ∈ l) = e := ⟨_, rfl⟩
    rw [hpn, he0] at hP ⊢
    have hz1 := heap_alloc_new w3 (.cells #[.slice A1 pn c1, .map (some mb), .bool e0] 30)
    have hPs := As.mk (hP.below ((Below.refl _ _).alloc (Nat.le_refl _) (.cells #[.slice A1 pn c1, .map (some mb), .bool e0] 30)))
    have hBs : Below w3.heap.size w3 (w3.alloc (.cells #[.slice A1 pn c1, .map (some mb), .bool e0] 30)) := (Below.refl _ _).alloc (Nat.le_refl _) _
    obtain ⟨b1, hb1e⟩ : ∃ g, w3.heap.size = g := ⟨_, rfl⟩
    obtain ⟨W1, hW1⟩ : ∃ W, w3.alloc (.cells #[.slice A1 pn c1, .map (some mb), .bool e0] 30) = W := ⟨_, rfl⟩
    rw [hb1e] at hz1
    rw [hW1] at hz1 hPs hBs
    have q0 : ∀ v, Below W1.heap.size W1 v → v.cell? ⟨b1, 0, none⟩ = some (.slice A1 pn c1) := fun v hv => cell_of_blk (blkBelow hv hz1) 0
    have q1 : ∀ v, Below W1.heap.size W1 v → v.cell? ⟨b1, 1, none⟩ = some (.map (some mb)) := fun v hv => cell_of_blk (blkBelow hv hz1) 1
    have q2 : ∀ v, Below W1.heap.size W1 v → v.cell? ⟨b1, 2, none⟩ = some (.bool e0) := fun v hv => cell_of_blk (blkBelow hv hz1) 2
    have hWr : Below W1.heap.size W1 W1 := Below.refl _ _
    replace hz1 := As.mk hz1
    clear hP
    have hB1 := As.mk (belowNext hB.out hBs)
    have cPt := As.mk (fun (v : World) (hv : Below W1.heap.size W1 v) => (by have := patterns_calls v _ _ l (hPs.out.below hv) (fun t ht => by have := hs60 t ht; omega) (by omega); rw [hpn] at this; exact this : Calls Tryz.prog 23 #[.agg #[.slice A1 pn c1, .map (some mb), .bool e0]] v fun e w' => ∃ A' c', e = .returned (.slice A' pn c') ∧ pn ≤ c' ∧ Txts w' A' (pset l) ∧ Below v.heap.size v w'))
    have cEm := As.mk (fun (v : World) (hv : Below W1.heap.size W1 v) => (by have := pempty_calls v _ _ l (hPs.out.below hv); rw [he0] at this; exact this : Calls Tryz.prog 24 #[.agg #[.slice A1 pn c1, .map (some mb), .bool e0]] v fun e w' => e = .returned (.bool e0) ∧ Below v.heap.size v w'))
    have cSz := As.mk (fun (v : World) (hv : Below W1.heap.size W1 v) => psize_calls v _ _ l (hPs.out.below hv) (fun t ht => by have := hs60 t ht; omega) (by omega) (by omega))
    obtain ⟨sz, hsz⟩ : ∃ k, sumL (pset l) = k := ⟨_, rfl⟩
    rw [hsz] at cSz hsz0
    have hsz' := As.mk hsz
    have cA := As.mk (fun (v : World) (hv : Below W1.heap.size W1 v) => enew_eq v 0 _ _ l (hPs.out.below hv) hs60 hll 0 rfl)
    have cB := As.mk (fun (v : World) (hv : Below W1.heap.size W1 v) => enew_eq v 3 _ _ l (hPs.out.below hv) hs60 hll 0 rfl)
    have cC := As.mk (fun (v : World) (hv : Below W1.heap.size W1 v) (q : Int) (hq : wrongF 2 l = q) => enew_eq v 2 _ _ l (hPs.out.below hv) hs60 hll q hq)
    have cD := As.mk (fun (v : World) (hv : Below W1.heap.size W1 v) (q : Int) (hq : wrongF 1 l = q) => enew_eq v 1 _ _ l (hPs.out.below hv) hs60 hll q hq)
    have cT := As.mk (fun (v : World) (hv : Below W1.heap.size W1 v) (q : Int) (hq : wrongF tag l = q) => enew_eq v tag _ _ l (hPs.out.below hv) hs60 hll q hq)
    replace hpn := As.mk hpn
    replace he0 := As.mk he0
    clear hs60 hb hS htot HM HX hBs hF
    by_cases hp1 : pn = 1
    · have gp1 : ((pn : Int) == 1) = true := by simp [hp1]
      replace hp1 := As.mk hp1
      by_cases hef : e0 = false
      · have hee := As.mk hef
        clear hef
        have hC0 : wrongF 2 l = 0 := by unfold wrongF; rw [if_neg (by omega), if_neg (by rintro ⟨-, hh⟩; exact hh.elim (fun hh => hh (hpn.out.trans hp1.out)) (fun hh => of_decide_eq_false (he0.out.trans hee.out) hh)), if_neg (by omega)]
        replace cC := As.mk (fun v hv => cC.out v hv 0 hC0)
        clear hC0
        by_cases h160 : (paths (pset l)).length ≤ 160
        · have hD0 : wrongF 1 l = 0 := by unfold wrongF; rw [if_neg (by omega), if_neg (by omega), if_neg (by simp [h160])]
          replace cD := As.mk (fun v hv => cD.out v hv 0 hD0)
          have gs1 : pn = 1 → decide ((160 : Int) ≤ (sz : Int)) = false := fun hh => decide_eq_false (by have := size_one h160 (hpn.out.trans hh); rw [hsz'.out] at this; omega)
          try replace gs1 := gs1 hp1.out
          try clear hp1
          clear hD0 h160
          by_cases hT : 0 ≤ tag ∧ tag ≤ 3
          · have hisT : decide (0 ≤ tag ∧ tag ≤ 3) = true := decide_eq_true hT
            obtain ⟨q, hq⟩ : ∃ q, wrongF tag l = q := ⟨_, rfl⟩
            replace cT := As.mk (fun v hv => cT.out v hv q hq)
            replace hq := As.mk hq
            clear hT
            go_wp2_with (first | (rw [hW1]) | (rw [hb1e]))
            refine Calls.mono (cPt.out _ hWr) ?_
            rintro e w2 ⟨A2', c2', rfl, hc2', hT2', hb2⟩
            first | (have hee2 := hee.out; subst hee2) | skip
            have hk2 : Below W1.heap.size W1 w2 := hb2
            clear hT2'
            go_wp2_with fail
            refine Calls.mono (cA.out _ hk2) ?_
            rintro e w3 ⟨p3, rfl, _, hb3⟩
            have hk3 : Below W1.heap.size W1 w3 := belowNext hk2 hb3
            go_wp2_with fail
            refine Calls.mono (cB.out _ hk3) ?_
            rintro e w4 ⟨p4, rfl, _, hb4⟩
            have hk4 : Below W1.heap.size W1 w4 := belowNext hk3 hb4
            go_wp2_with fail
            refine Calls.mono (cC.out _ hk4) ?_
            rintro e w5 ⟨p5, rfl, _, hb5⟩
            have hk5 : Below W1.heap.size W1 w5 := belowNext hk4 hb5
            go_wp2_with fail
            refine Calls.mono (cD.out _ hk5) ?_
            rintro e w6 ⟨p6, rfl, _, hb6⟩
            have hk6 : Below W1.heap.size W1 w6 := belowNext hk5 hb6
            go_wp2_with fail
            refine Calls.mono (cT.out _ hk6) ?_
            rintro e w7 ⟨p7, rfl, hp7, hb7⟩
            have hk7 : Below W1.heap.size W1 w7 := belowNext hk6 hb7
            clear hp7
            clear hb2 hb3 hb4 hb5 hb6 hb7 hk2 hk3 hk4 hk5 hk6
            go_wp2_with (first
              | (go_at_call 24; refine Calls.mono (cEm.out _ hk7) ?_; rintro e w8 ⟨rfl, hb8⟩; have hk8 : Below W1.heap.size W1 w8 := belowNext hk7 hb8; clear hb8)
              | (go_at_call 25; with_reducible refine Calls.mono (cSz.out _ hk8) ?_; rintro e w9 ⟨rfl, hb9⟩; have hk9 : Below W1.heap.size W1 w9 := belowNext hk8 hb9; clear hb9)
              | (go_at_call 25; with_reducible refine Calls.mono (cSz.out _ hk7) ?_; rintro e w9 ⟨rfl, hb9⟩; have hk9 : Below W1.heap.size W1 w9 := belowNext hk7 hb9; clear hb9)
              | (go_at_call 17; refine Calls.mono (eis_calls _ tag) ?_; rintro e w' ⟨rfl, rfl⟩; try rw [hisT]))
            go_ret
            exact ⟨rfl, belowNext hB1.out (by first | with_reducible assumption | exact hk9 | exact hk8 | exact hk7)⟩
          · have hisT : decide (0 ≤ tag ∧ tag ≤ 3) = false := decide_eq_false hT
            have hq : wrongF tag l = 11 := by unfold wrongF; rw [if_pos (by omega)]
            replace cT := As.mk (fun v hv => cT.out v hv 11 hq)
            clear hq hT
            go_wp2_with (first | (rw [hW1]) | (rw [hb1e]))
            refine Calls.mono (cPt.out _ hWr) ?_
            rintro e w2 ⟨A2', c2', rfl, hc2', hT2', hb2⟩
            first | (have hee2 := hee.out; subst hee2) | skip
            have hk2 : Below W1.heap.size W1 w2 := hb2
            clear hT2'
            go_wp2_with fail
            refine Calls.mono (cA.out _ hk2) ?_
            rintro e w3 ⟨p3, rfl, _, hb3⟩
            have hk3 : Below W1.heap.size W1 w3 := belowNext hk2 hb3
            go_wp2_with fail
            refine Calls.mono (cB.out _ hk3) ?_
            rintro e w4 ⟨p4, rfl, _, hb4⟩
            have hk4 : Below W1.heap.size W1 w4 := belowNext hk3 hb4
            go_wp2_with fail
            refine Calls.mono (cC.out _ hk4) ?_
            rintro e w5 ⟨p5, rfl, _, hb5⟩
            have hk5 : Below W1.heap.size W1 w5 := belowNext hk4 hb5
            go_wp2_with fail
            refine Calls.mono (cD.out _ hk5) ?_
            rintro e w6 ⟨p6, rfl, _, hb6⟩
            have hk6 : Below W1.heap.size W1 w6 := belowNext hk5 hb6
            go_wp2_with fail
            refine Calls.mono (cT.out _ hk6) ?_
            rintro e w7 ⟨p7, rfl, hp7, hb7⟩
            have hk7 : Below W1.heap.size W1 w7 := belowNext hk6 hb7
            obtain rfl := hp7 (fun h => nomatch h)
            clear hp7
            clear hb2 hb3 hb4 hb5 hb6 hb7 hk2 hk3 hk4 hk5 hk6
            go_wp2_with (first
              | (go_at_call 24; refine Calls.mono (cEm.out _ hk7) ?_; rintro e w8 ⟨rfl, hb8⟩; have hk8 : Below W1.heap.size W1 w8 := belowNext hk7 hb8; clear hb8)
              | (go_at_call 25; with_reducible refine Calls.mono (cSz.out _ hk8) ?_; rintro e w9 ⟨rfl, hb9⟩; have hk9 : Below W1.heap.size W1 w9 := belowNext hk8 hb9; clear hb9)
              | (go_at_call 25; with_reducible refine Calls.mono (cSz.out _ hk7) ?_; rintro e w9 ⟨rfl, hb9⟩; have hk9 : Below W1.heap.size W1 w9 := belowNext hk7 hb9; clear hb9)
              | (go_at_call 17; refine Calls.mono (eis_calls _ tag) ?_; rintro e w' ⟨rfl, rfl⟩; try rw [hisT]))
            go_ret
            exact ⟨rfl, belowNext hB1.out (by first | with_reducible assumption | exact hk9 | exact hk8 | exact hk7)⟩
        · have hD0 : wrongF 1 l = 14 := by unfold wrongF; rw [if_neg (by omega), if_neg (by omega), if_pos ⟨rfl, h160⟩]
          replace cD := As.mk (fun v hv => cD.out v hv 14 hD0)
          have gs2 : decide ((sz : Int) < (160 : Int)) = false := decide_eq_false (by have := size_big h160; rw [hsz'.out] at this; omega)
          clear hD0 h160
          by_cases hT : 0 ≤ tag ∧ tag ≤ 3
          · have hisT : decide (0 ≤ tag ∧ tag ≤ 3) = true := decide_eq_true hT
            obtain ⟨q, hq⟩ : ∃ q, wrongF tag l = q := ⟨_, rfl⟩
            replace cT := As.mk (fun v hv => cT.out v hv q hq)
            replace hq := As.mk hq
            clear hT
            go_wp2_with (first | (rw [hW1]) | (rw [hb1e]))
            refine Calls.mono (cPt.out _ hWr) ?_
            rintro e w2 ⟨A2', c2', rfl, hc2', hT2', hb2⟩
            first | (have hee2 := hee.out; subst hee2) | skip
            have hk2 : Below W1.heap.size W1 w2 := hb2
            clear hT2'
            go_wp2_with fail
            refine Calls.mono (cA.out _ hk2) ?_
            rintro e w3 ⟨p3, rfl, _, hb3⟩
            have hk3 : Below W1.heap.size W1 w3 := belowNext hk2 hb3
            go_wp2_with fail
            refine Calls.mono (cB.out _ hk3) ?_
            rintro e w4 ⟨p4, rfl, _, hb4⟩
            have hk4 : Below W1.heap.size W1 w4 := belowNext hk3 hb4
            go_wp2_with fail
            refine Calls.mono (cC.out _ hk4) ?_
            rintro e w5 ⟨p5, rfl, _, hb5⟩
            have hk5 : Below W1.heap.size W1 w5 := belowNext hk4 hb5
            go_wp2_with fail
            refine Calls.mono (cD.out _ hk5) ?_
            rintro e w6 ⟨p6, rfl, _, hb6⟩
            have hk6 : Below W1.heap.size W1 w6 := belowNext hk5 hb6
            go_wp2_with fail
            refine Calls.mono (cT.out _ hk6) ?_
            rintro e w7 ⟨p7, rfl, hp7, hb7⟩
            have hk7 : Below W1.heap.size W1 w7 := belowNext hk6 hb7
            clear hp7
            clear hb2 hb3 hb4 hb5 hb6 hb7 hk2 hk3 hk4 hk5 hk6
            go_wp2_with (first
              | (go_at_call 24; refine Calls.mono (cEm.out _ hk7) ?_; rintro e w8 ⟨rfl, hb8⟩; have hk8 : Below W1.heap.size W1 w8 := belowNext hk7 hb8; clear hb8)
              | (go_at_call 25; with_reducible refine Calls.mono (cSz.out _ hk8) ?_; rintro e w9 ⟨rfl, hb9⟩; have hk9 : Below W1.heap.size W1 w9 := belowNext hk8 hb9; clear hb9)
              | (go_at_call 25; with_reducible refine Calls.mono (cSz.out _ hk7) ?_; rintro e w9 ⟨rfl, hb9⟩; have hk9 : Below W1.heap.size W1 w9 := belowNext hk7 hb9; clear hb9)
              | (go_at_call 17; refine Calls.mono (eis_calls _ tag) ?_; rintro e w' ⟨rfl, rfl⟩; try rw [hisT]))
            go_ret
            exact ⟨rfl, belowNext hB1.out (by first | with_reducible assumption | exact hk9 | exact hk8 | exact hk7)⟩
          · have hisT : decide (0 ≤ tag ∧ tag ≤ 3) = false := decide_eq_false hT
            have hq : wrongF tag l = 11 := by unfold wrongF; rw [if_pos (by omega)]
            replace cT := As.mk (fun v hv => cT.out v hv 11 hq)
            clear hq hT
            go_wp2_with (first | (rw [hW1]) | (rw [hb1e]))
            refine Calls.mono (cPt.out _ hWr) ?_
            rintro e w2 ⟨A2', c2', rfl, hc2', hT2', hb2⟩
            first | (have hee2 := hee.out; subst hee2) | skip
            have hk2 : Below W1.heap.size W1 w2 := hb2
            clear hT2'
            go_wp2_with fail
            refine Calls.mono (cA.out _ hk2) ?_
            rintro e w3 ⟨p3, rfl, _, hb3⟩
            have hk3 : Below W1.heap.size W1 w3 := belowNext hk2 hb3
            go_wp2_with fail
            refine Calls.mono (cB.out _ hk3) ?_
            rintro e w4 ⟨p4, rfl, _, hb4⟩
            have hk4 : Below W1.heap.size W1 w4 := belowNext hk3 hb4
            go_wp2_with fail
            refine Calls.mono (cC.out _ hk4) ?_
            rintro e w5 ⟨p5, rfl, _, hb5⟩
            have hk5 : Below W1.heap.size W1 w5 := belowNext hk4 hb5
            go_wp2_with fail
            refine Calls.mono (cD.out _ hk5) ?_
            rintro e w6 ⟨p6, rfl, _, hb6⟩
            have hk6 : Below W1.heap.size W1 w6 := belowNext hk5 hb6
            go_wp2_with fail
            refine Calls.mono (cT.out _ hk6) ?_
            rintro e w7 ⟨p7, rfl, hp7, hb7⟩
            have hk7 : Below W1.heap.size W1 w7 := belowNext hk6 hb7
            obtain rfl := hp7 (fun h => nomatch h)
            clear hp7
            clear hb2 hb3 hb4 hb5 hb6 hb7 hk2 hk3 hk4 hk5 hk6
            go_wp2_with (first
              | (go_at_call 24; refine Calls.mono (cEm.out _ hk7) ?_; rintro e w8 ⟨rfl, hb8⟩; have hk8 : Below W1.heap.size W1 w8 := belowNext hk7 hb8; clear hb8)
              | (go_at_call 25; with_reducible refine Calls.mono (cSz.out _ hk8) ?_; rintro e w9 ⟨rfl, hb9⟩; have hk9 : Below W1.heap.size W1 w9 := belowNext hk8 hb9; clear hb9)
              | (go_at_call 25; with_reducible refine Calls.mono (cSz.out _ hk7) ?_; rintro e w9 ⟨rfl, hb9⟩; have hk9 : Below W1.heap.size W1 w9 := belowNext hk7 hb9; clear hb9)
              | (go_at_call 17; refine Calls.mono (eis_calls _ tag) ?_; rintro e w' ⟨rfl, rfl⟩; try rw [hisT]))
            go_ret
            exact ⟨rfl, belowNext hB1.out (by first | with_reducible assumption | exact hk9 | exact hk8 | exact hk7)⟩
      · have hee := As.mk ((by cases e0 with | true => rfl | false => exact absurd rfl hef : e0 = true))
        clear hef
        have hC0 : wrongF 2 l = 13 := by unfold wrongF; rw [if_neg (by omega), if_pos ⟨rfl, .inr (of_decide_eq_true (he0.out.trans hee.out))⟩]
        replace cC := As.mk (fun v hv => cC.out v hv 13 hC0)
        clear hC0
        by_cases h160 : (paths (pset l)).length ≤ 160
        · have hD0 : wrongF 1 l = 0 := by unfold wrongF; rw [if_neg (by omega), if_neg (by omega), if_neg (by simp [h160])]
          replace cD := As.mk (fun v hv => cD.out v hv 0 hD0)
          have gs1 : pn = 1 → decide ((160 : Int) ≤ (sz : Int)) = false := fun hh => decide_eq_false (by have := size_one h160 (hpn.out.trans hh); rw [hsz'.out] at this; omega)
          try replace gs1 := gs1 hp1.out
          try clear hp1
          clear hD0 h160
          by_cases hT : 0 ≤ tag ∧ tag ≤ 3
          · have hisT : decide (0 ≤ tag ∧ tag ≤ 3) = true := decide_eq_true hT
            obtain ⟨q, hq⟩ : ∃ q, wrongF tag l = q := ⟨_, rfl⟩
            replace cT := As.mk (fun v hv => cT.out v hv q hq)
            replace hq := As.mk hq
            clear hT
            go_wp2_with (first | (rw [hW1]) | (rw [hb1e]))
            refine Calls.mono (cPt.out _ hWr) ?_
            rintro e w2 ⟨A2', c2', rfl, hc2', hT2', hb2⟩
            first | (have hee2 := hee.out; subst hee2) | skip
            have hk2 : Below W1.heap.size W1 w2 := hb2
            clear hT2'
            go_wp2_with fail
            refine Calls.mono (cA.out _ hk2) ?_
            rintro e w3 ⟨p3, rfl, _, hb3⟩
            have hk3 : Below W1.heap.size W1 w3 := belowNext hk2 hb3
            go_wp2_with fail
            refine Calls.mono (cB.out _ hk3) ?_
            rintro e w4 ⟨p4, rfl, _, hb4⟩
            have hk4 : Below W1.heap.size W1 w4 := belowNext hk3 hb4
            go_wp2_with fail
            refine Calls.mono (cC.out _ hk4) ?_
            rintro e w5 ⟨p5, rfl, _, hb5⟩
            have hk5 : Below W1.heap.size W1 w5 := belowNext hk4 hb5
            go_wp2_with fail
            refine Calls.mono (cD.out _ hk5) ?_
            rintro e w6 ⟨p6, rfl, _, hb6⟩
            have hk6 : Below W1.heap.size W1 w6 := belowNext hk5 hb6
            go_wp2_with fail
            refine Calls.mono (cT.out _ hk6) ?_
            rintro e w7 ⟨p7, rfl, hp7, hb7⟩
            have hk7 : Below W1.heap.size W1 w7 := belowNext hk6 hb7
            clear hp7
            clear hb2 hb3 hb4 hb5 hb6 hb7 hk2 hk3 hk4 hk5 hk6
            go_wp2_with (first
              | (go_at_call 24; refine Calls.mono (cEm.out _ hk7) ?_; rintro e w8 ⟨rfl, hb8⟩; have hk8 : Below W1.heap.size W1 w8 := belowNext hk7 hb8; clear hb8)
              | (go_at_call 25; with_reducible refine Calls.mono (cSz.out _ hk8) ?_; rintro e w9 ⟨rfl, hb9⟩; have hk9 : Below W1.heap.size W1 w9 := belowNext hk8 hb9; clear hb9)
              | (go_at_call 25; with_reducible refine Calls.mono (cSz.out _ hk7) ?_; rintro e w9 ⟨rfl, hb9⟩; have hk9 : Below W1.heap.size W1 w9 := belowNext hk7 hb9; clear hb9)
              | (go_at_call 17; refine Calls.mono (eis_calls _ tag) ?_; rintro e w' ⟨rfl, rfl⟩; try rw [hisT]))
            go_ret
            exact ⟨rfl, belowNext hB1.out (by first | with_reducible assumption | exact hk9 | exact hk8 | exact hk7)⟩
          · have hisT : decide (0 ≤ tag ∧ tag ≤ 3) = false := decide_eq_false hT
            have hq : wrongF tag l = 11 := by unfold wrongF; rw [if_pos (by omega)]
            replace cT := As.mk (fun v hv => cT.out v hv 11 hq)
            clear hq hT
            go_wp2_with (first | (rw [hW1]) | (rw [hb1e]))
            refine Calls.mono (cPt.out _ hWr) ?_
            rintro e w2 ⟨A2', c2', rfl, hc2', hT2', hb2⟩
            first | (have hee2 := hee.out; subst hee2) | skip
            have hk2 : Below W1.heap.size W1 w2 := hb2
            clear hT2'
            go_wp2_with fail
            refine Calls.mono (cA.out _ hk2) ?_
            rintro e w3 ⟨p3, rfl, _, hb3⟩
            have hk3 : Below W1.heap.size W1 w3 := belowNext hk2 hb3
            go_wp2_with fail
            refine Calls.mono (cB.out _ hk3) ?_
            rintro e w4 ⟨p4, rfl, _, hb4⟩
            have hk4 : Below W1.heap.size W1 w4 := belowNext hk3 hb4
            go_wp2_with fail
            refine Calls.mono (cC.out _ hk4) ?_
            rintro e w5 ⟨p5, rfl, _, hb5⟩
            have hk5 : Below W1.heap.size W1 w5 := belowNext hk4 hb5
            go_wp2_with fail
            refine Calls.mono (cD.out _ hk5) ?_
            rintro e w6 ⟨p6, rfl, _, hb6⟩
            have hk6 : Below W1.heap.size W1 w6 := belowNext hk5 hb6
            go_wp2_with fail
            refine Calls.mono (cT.out _ hk6) ?_
            rintro e w7 ⟨p7, rfl, hp7, hb7⟩
            have hk7 : Below W1.heap.size W1 w7 := belowNext hk6 hb7
            obtain rfl := hp7 (fun h => nomatch h)
            clear hp7
            clear hb2 hb3 hb4 hb5 hb6 hb7 hk2 hk3 hk4 hk5 hk6
            go_wp2_with (first
              | (go_at_call 24; refine Calls.mono (cEm.out _ hk7) ?_; rintro e w8 ⟨rfl, hb8⟩; have hk8 : Below W1.heap.size W1 w8 := belowNext hk7 hb8; clear hb8)
              | (go_at_call 25; with_reducible refine Calls.mono (cSz.out _ hk8) ?_; rintro e w9 ⟨rfl, hb9⟩; have hk9 : Below W1.heap.size W1 w9 := belowNext hk8 hb9; clear hb9)
              | (go_at_call 25; with_reducible refine Calls.mono (cSz.out _ hk7) ?_; rintro e w9 ⟨rfl, hb9⟩; have hk9 : Below W1.heap.size W1 w9 := belowNext hk7 hb9; clear hb9)
              | (go_at_call 17; refine Calls.mono (eis_calls _ tag) ?_; rintro e w' ⟨rfl, rfl⟩; try rw [hisT]))
            go_ret
            exact ⟨rfl, belowNext hB1.out (by first | with_reducible assumption | exact hk9 | exact hk8 | exact hk7)⟩
        · have hD0 : wrongF 1 l = 14 := by unfold wrongF; rw [if_neg (by omega), if_neg (by omega), if_pos ⟨rfl, h160⟩]
          replace cD := As.mk (fun v hv => cD.out v hv 14 hD0)
          have gs2 : decide ((sz : Int) < (160 : Int)) = false := decide_eq_false (by have := size_big h160; rw [hsz'.out] at this; omega)
          clear hD0 h160
          by_cases hT : 0 ≤ tag ∧ tag ≤ 3
          · have hisT : decide (0 ≤ tag ∧ tag ≤ 3) = true := decide_eq_true hT
            obtain ⟨q, hq⟩ : ∃ q, wrongF tag l = q := ⟨_, rfl⟩
            replace cT := As.mk (fun v hv => cT.out v hv q hq)
            replace hq := As.mk hq
            clear hT
            go_wp2_with (first | (rw [hW1]) | (rw [hb1e]))
            refine Calls.mono (cPt.out _ hWr) ?_
            rintro e w2 ⟨A2', c2', rfl, hc2', hT2', hb2⟩
            first | (have hee2 := hee.out; subst hee2) | skip
            have hk2 : Below W1.heap.size W1 w2 := hb2
            clear hT2'
            go_wp2_with fail
            refine Calls.mono (cA.out _ hk2) ?_
            rintro e w3 ⟨p3, rfl, _, hb3⟩
            have hk3 : Below W1.heap.size W1 w3 := belowNext hk2 hb3
            go_wp2_with fail
            refine Calls.mono (cB.out _ hk3) ?_
            rintro e w4 ⟨p4, rfl, _, hb4⟩
            have hk4 : Below W1.heap.size W1 w4 := belowNext hk3 hb4
            go_wp2_with fail
            refine Calls.mono (cC.out _ hk4) ?_
            rintro e w5 ⟨p5, rfl, _, hb5⟩
            have hk5 : Below W1.heap.size W1 w5 := belowNext hk4 hb5
            go_wp2_with fail
            refine Calls.mono (cD.out _ hk5) ?_
            rintro e w6 ⟨p6, rfl, _, hb6⟩
            have hk6 : Below W1.heap.size W1 w6 := belowNext hk5 hb6
            go_wp2_with fail
            refine Calls.mono (cT.out _ hk6) ?_
            rintro e w7 ⟨p7, rfl, hp7, hb7⟩
            have hk7 : Below W1.heap.size W1 w7 := belowNext hk6 hb7
            clear hp7
            clear hb2 hb3 hb4 hb5 hb6 hb7 hk2 hk3 hk4 hk5 hk6
            go_wp2_with (first
              | (go_at_call 24; refine Calls.mono (cEm.out _ hk7) ?_; rintro e w8 ⟨rfl, hb8⟩; have hk8 : Below W1.heap.size W1 w8 := belowNext hk7 hb8; clear hb8)
              | (go_at_call 25; with_reducible refine Calls.mono (cSz.out _ hk8) ?_; rintro e w9 ⟨rfl, hb9⟩; have hk9 : Below W1.heap.size W1 w9 := belowNext hk8 hb9; clear hb9)
              | (go_at_call 25; with_reducible refine Calls.mono (cSz.out _ hk7) ?_; rintro e w9 ⟨rfl, hb9⟩; have hk9 : Below W1.heap.size W1 w9 := belowNext hk7 hb9; clear hb9)
              | (go_at_call 17; refine Calls.mono (eis_calls _ tag) ?_; rintro e w' ⟨rfl, rfl⟩; try rw [hisT]))
            go_ret
            exact ⟨rfl, belowNext hB1.out (by first | with_reducible assumption | exact hk9 | exact hk8 | exact hk7)⟩
          · have hisT : decide (0 ≤ tag ∧ tag ≤ 3) = false := decide_eq_false hT
            have hq : wrongF tag l = 11 := by unfold wrongF; rw [if_pos (by omega)]
            replace cT := As.mk (fun v hv => cT.out v hv 11 hq)
            clear hq hT
            go_wp2_with (first | (rw [hW1]) | (rw [hb1e]))
            refine Calls.mono (cPt.out _ hWr) ?_
            rintro e w2 ⟨A2', c2', rfl, hc2', hT2', hb2⟩
            first | (have hee2 := hee.out; subst hee2) | skip
            have hk2 : Below W1.heap.size W1 w2 := hb2
            clear hT2'
            go_wp2_with fail
            refine Calls.mono (cA.out _ hk2) ?_
            rintro e w3 ⟨p3, rfl, _, hb3⟩
            have hk3 : Below W1.heap.size W1 w3 := belowNext hk2 hb3
            go_wp2_with fail
            refine Calls.mono (cB.out _ hk3) ?_
            rintro e w4 ⟨p4, rfl, _, hb4⟩
            have hk4 : Below W1.heap.size W1 w4 := belowNext hk3 hb4
            go_wp2_with fail
            refine Calls.mono (cC.out _ hk4) ?_
            rintro e w5 ⟨p5, rfl, _, hb5⟩
            have hk5 : Below W1.heap.size W1 w5 := belowNext hk4 hb5
            go_wp2_with fail
            refine Calls.mono (cD.out _ hk5) ?_
            rintro e w6 ⟨p6, rfl, _, hb6⟩
            have hk6 : Below W1.heap.size W1 w6 := belowNext hk5 hb6
            go_wp2_with fail
            refine Calls.mono (cT.out _ hk6) ?_
            rintro e w7 ⟨p7, rfl, hp7, hb7⟩
            have hk7 : Below W1.heap.size W1 w7 := belowNext hk6 hb7
            obtain rfl := hp7 (fun h => nomatch h)
            clear hp7
            clear hb2 hb3 hb4 hb5 hb6 hb7 hk2 hk3 hk4 hk5 hk6
            go_wp2_with (first
              | (go_at_call 24; refine Calls.mono (cEm.out _ hk7) ?_; rintro e w8 ⟨rfl, hb8⟩; have hk8 : Below W1.heap.size W1 w8 := belowNext hk7 hb8; clear hb8)
              | (go_at_call 25; with_reducible refine Calls.mono (cSz.out _ hk8) ?_; rintro e w9 ⟨rfl, hb9⟩; have hk9 : Below W1.heap.size W1 w9 := belowNext hk8 hb9; clear hb9)
              | (go_at_call 25; with_reducible refine Calls.mono (cSz.out _ hk7) ?_; rintro e w9 ⟨rfl, hb9⟩; have hk9 : Below W1.heap.size W1 w9 := belowNext hk7 hb9; clear hb9)
              | (go_at_call 17; refine Calls.mono (eis_calls _ tag) ?_; rintro e w' ⟨rfl, rfl⟩; try rw [hisT]))
            go_ret
            exact ⟨rfl, belowNext hB1.out (by first | with_reducible assumption | exact hk9 | exact hk8 | exact hk7)⟩
    · have gp1 : ((pn : Int) == 1) = false := by simp; omega
      have hp1' := As.mk hp1
      have hC0 : wrongF 2 l = 13 := by unfold wrongF; rw [if_neg (by omega), if_pos ⟨rfl, .inl (fun hh => hp1 (hpn.out.symm.trans hh))⟩]
      replace cC := As.mk (fun v hv => cC.out v hv 13 hC0)
      clear hC0
      by_cases h160 : (paths (pset l)).length ≤ 160
      · have hD0 : wrongF 1 l = 0 := by unfold wrongF; rw [if_neg (by omega), if_neg (by omega), if_neg (by simp [h160])]
        replace cD := As.mk (fun v hv => cD.out v hv 0 hD0)
        have gs1 : pn = 1 → decide ((160 : Int) ≤ (sz : Int)) = false := fun hh => decide_eq_false (by have := size_one h160 (hpn.out.trans hh); rw [hsz'.out] at this; omega)
        try replace gs1 := gs1 hp1.out
        try clear hp1
        clear hD0 h160
        by_cases hT : 0 ≤ tag ∧ tag ≤ 3
        · have hisT : decide (0 ≤ tag ∧ tag ≤ 3) = true := decide_eq_true hT
          obtain ⟨q, hq⟩ : ∃ q, wrongF tag l = q := ⟨_, rfl⟩
          replace cT := As.mk (fun v hv => cT.out v hv q hq)
          replace hq := As.mk hq
          clear hT
          go_wp2_with (first | (rw [hW1]) | (rw [hb1e]))
          refine Calls.mono (cPt.out _ hWr) ?_
          rintro e w2 ⟨A2', c2', rfl, hc2', hT2', hb2⟩
          first | (have hee2 := hee.out; subst hee2) | skip
          have hk2 : Below W1.heap.size W1 w2 := hb2
          clear hT2'
          go_wp2_with fail
          refine Calls.mono (cA.out _ hk2) ?_
          rintro e w3 ⟨p3, rfl, _, hb3⟩
          have hk3 : Below W1.heap.size W1 w3 := belowNext hk2 hb3
          go_wp2_with fail
          refine Calls.mono (cB.out _ hk3) ?_
          rintro e w4 ⟨p4, rfl, _, hb4⟩
          have hk4 : Below W1.heap.size W1 w4 := belowNext hk3 hb4
          go_wp2_with fail
          refine Calls.mono (cC.out _ hk4) ?_
          rintro e w5 ⟨p5, rfl, _, hb5⟩
          have hk5 : Below W1.heap.size W1 w5 := belowNext hk4 hb5
          go_wp2_with fail
          refine Calls.mono (cD.out _ hk5) ?_
          rintro e w6 ⟨p6, rfl, _, hb6⟩
          have hk6 : Below W1.heap.size W1 w6 := belowNext hk5 hb6
          go_wp2_with fail
          refine Calls.mono (cT.out _ hk6) ?_
          rintro e w7 ⟨p7, rfl, hp7, hb7⟩
          have hk7 : Below W1.heap.size W1 w7 := belowNext hk6 hb7
          clear hp7
          clear hb2 hb3 hb4 hb5 hb6 hb7 hk2 hk3 hk4 hk5 hk6
          go_wp2_with (first
            | (go_at_call 24; refine Calls.mono (cEm.out _ hk7) ?_; rintro e w8 ⟨rfl, hb8⟩; have hk8 : Below W1.heap.size W1 w8 := belowNext hk7 hb8; clear hb8)
            | (go_at_call 25; with_reducible refine Calls.mono (cSz.out _ hk8) ?_; rintro e w9 ⟨rfl, hb9⟩; have hk9 : Below W1.heap.size W1 w9 := belowNext hk8 hb9; clear hb9)
            | (go_at_call 25; with_reducible refine Calls.mono (cSz.out _ hk7) ?_; rintro e w9 ⟨rfl, hb9⟩; have hk9 : Below W1.heap.size W1 w9 := belowNext hk7 hb9; clear hb9)
            | (go_at_call 17; refine Calls.mono (eis_calls _ tag) ?_; rintro e w' ⟨rfl, rfl⟩; try rw [hisT]))
          go_ret
          exact ⟨rfl, belowNext hB1.out (by first | with_reducible assumption | exact hk9 | exact hk8 | exact hk7)⟩
        · have hisT : decide (0 ≤ tag ∧ tag ≤ 3) = false := decide_eq_false hT
          have hq : wrongF tag l = 11 := by unfold wrongF; rw [if_pos (by omega)]
          replace cT := As.mk (fun v hv => cT.out v hv 11 hq)
          clear hq hT
          go_wp2_with (first | (rw [hW1]) | (rw [hb1e]))
          refine Calls.mono (cPt.out _ hWr) ?_
          rintro e w2 ⟨A2', c2', rfl, hc2', hT2', hb2⟩
          first | (have hee2 := hee.out; subst hee2) | skip
          have hk2 : Below W1.heap.size W1 w2 := hb2
          clear hT2'
          go_wp2_with fail
          refine Calls.mono (cA.out _ hk2) ?_
          rintro e w3 ⟨p3, rfl, _, hb3⟩
          have hk3 : Below W1.heap.size W1 w3 := belowNext hk2 hb3
          go_wp2_with fail
          refine Calls.mono (cB.out _ hk3) ?_
          rintro e w4 ⟨p4, rfl, _, hb4⟩
          have hk4 : Below W1.heap.size W1 w4 := belowNext hk3 hb4
          go_wp2_with fail
          refine Calls.mono (cC.out _ hk4) ?_
          rintro e w5 ⟨p5, rfl, _, hb5⟩
          have hk5 : Below W1.heap.size W1 w5 := belowNext hk4 hb5
          go_wp2_with fail
          refine Calls.mono (cD.out _ hk5) ?_
          rintro e w6 ⟨p6, rfl, _, hb6⟩
          have hk6 : Below W1.heap.size W1 w6 := belowNext hk5 hb6
          go_wp2_with fail
          refine Calls.mono (cT.out _ hk6) ?_
          rintro e w7 ⟨p7, rfl, hp7, hb7⟩
          have hk7 : Below W1.heap.size W1 w7 := belowNext hk6 hb7
          obtain rfl := hp7 (fun h => nomatch h)
          clear hp7
          clear hb2 hb3 hb4 hb5 hb6 hb7 hk2 hk3 hk4 hk5 hk6
          go_wp2_with (first
            | (go_at_call 24; refine Calls.mono (cEm.out _ hk7) ?_; rintro e w8 ⟨rfl, hb8⟩; have hk8 : Below W1.heap.size W1 w8 := belowNext hk7 hb8; clear hb8)
            | (go_at_call 25; with_reducible refine Calls.mono (cSz.out _ hk8) ?_; rintro e w9 ⟨rfl, hb9⟩; have hk9 : Below W1.heap.size W1 w9 := belowNext hk8 hb9; clear hb9)
            | (go_at_call 25; with_reducible refine Calls.mono (cSz.out _ hk7) ?_; rintro e w9 ⟨rfl, hb9⟩; have hk9 : Below W1.heap.size W1 w9 := belowNext hk7 hb9; clear hb9)
            | (go_at_call 17; refine Calls.mono (eis_calls _ tag) ?_; rintro e w' ⟨rfl, rfl⟩; try rw [hisT]))
          go_ret
          exact ⟨rfl, belowNext hB1.out (by first | with_reducible assumption | exact hk9 | exact hk8 | exact hk7)⟩
      · have hD0 : wrongF 1 l = 14 := by unfold wrongF; rw [if_neg (by omega), if_neg (by omega), if_pos ⟨rfl, h160⟩]
        replace cD := As.mk (fun v hv => cD.out v hv 14 hD0)
        have gs2 : decide ((sz : Int) < (160 : Int)) = false := decide_eq_false (by have := size_big h160; rw [hsz'.out] at this; omega)
        clear hD0 h160
        by_cases hT : 0 ≤ tag ∧ tag ≤ 3
        · have hisT : decide (0 ≤ tag ∧ tag ≤ 3) = true := decide_eq_true hT
          obtain ⟨q, hq⟩ : ∃ q, wrongF tag l = q := ⟨_, rfl⟩
          replace cT := As.mk (fun v hv => cT.out v hv q hq)
          replace hq := As.mk hq
          clear hT
          go_wp2_with (first | (rw [hW1]) | (rw [hb1e]))
          refine Calls.mono (cPt.out _ hWr) ?_
          rintro e w2 ⟨A2', c2', rfl, hc2', hT2', hb2⟩
          first | (have hee2 := hee.out; subst hee2) | skip
          have hk2 : Below W1.heap.size W1 w2 := hb2
          clear hT2'
          go_wp2_with fail
          refine Calls.mono (cA.out _ hk2) ?_
          rintro e w3 ⟨p3, rfl, _, hb3⟩
          have hk3 : Below W1.heap.size W1 w3 := belowNext hk2 hb3
          go_wp2_with fail
          refine Calls.mono (cB.out _ hk3) ?_
          rintro e w4 ⟨p4, rfl, _, hb4⟩
          have hk4 : Below W1.heap.size W1 w4 := belowNext hk3 hb4
          go_wp2_with fail
          refine Calls.mono (cC.out _ hk4) ?_
          rintro e w5 ⟨p5, rfl, _, hb5⟩
          have hk5 : Below W1.heap.size W1 w5 := belowNext hk4 hb5
          go_wp2_with fail
          refine Calls.mono (cD.out _ hk5) ?_
          rintro e w6 ⟨p6, rfl, _, hb6⟩
          have hk6 : Below W1.heap.size W1 w6 := belowNext hk5 hb6
          go_wp2_with fail
          refine Calls.mono (cT.out _ hk6) ?_
          rintro e w7 ⟨p7, rfl, hp7, hb7⟩
          have hk7 : Below W1.heap.size W1 w7 := belowNext hk6 hb7
          clear hp7
          clear hb2 hb3 hb4 hb5 hb6 hb7 hk2 hk3 hk4 hk5 hk6
          go_wp2_with (first
            | (go_at_call 24; refine Calls.mono (cEm.out _ hk7) ?_; rintro e w8 ⟨rfl, hb8⟩; have hk8 : Below W1.heap.size W1 w8 := belowNext hk7 hb8; clear hb8)
            | (go_at_call 25; with_reducible refine Calls.mono (cSz.out _ hk8) ?_; rintro e w9 ⟨rfl, hb9⟩; have hk9 : Below W1.heap.size W1 w9 := belowNext hk8 hb9; clear hb9)
            | (go_at_call 25; with_reducible refine Calls.mono (cSz.out _ hk7) ?_; rintro e w9 ⟨rfl, hb9⟩; have hk9 : Below W1.heap.size W1 w9 := belowNext hk7 hb9; clear hb9)
            | (go_at_call 17; refine Calls.mono (eis_calls _ tag) ?_; rintro e w' ⟨rfl, rfl⟩; try rw [hisT]))
          go_ret
          exact ⟨rfl, belowNext hB1.out (by first | with_reducible assumption | exact hk9 | exact hk8 | exact hk7)⟩
        · have hisT : decide (0 ≤ tag ∧ tag ≤ 3) = false := decide_eq_false hT
          have hq : wrongF tag l = 11 := by unfold wrongF; rw [if_pos (by omega)]
          replace cT := As.mk (fun v hv => cT.out v hv 11 hq)
          clear hq hT
          go_wp2_with (first | (rw [hW1]) | (rw [hb1e]))
          refine Calls.mono (cPt.out _ hWr) ?_
          rintro e w2 ⟨A2', c2', rfl, hc2', hT2', hb2⟩
          first | (have hee2 := hee.out; subst hee2) | skip
          have hk2 : Below W1.heap.size W1 w2 := hb2
          clear hT2'
          go_wp2_with fail
          refine Calls.mono (cA.out _ hk2) ?_
          rintro e w3 ⟨p3, rfl, _, hb3⟩
          have hk3 : Below W1.heap.size W1 w3 := belowNext hk2 hb3
          go_wp2_with fail
          refine Calls.mono (cB.out _ hk3) ?_
          rintro e w4 ⟨p4, rfl, _, hb4⟩
          have hk4 : Below W1.heap.size W1 w4 := belowNext hk3 hb4
          go_wp2_with fail
          refine Calls.mono (cC.out _ hk4) ?_
          rintro e w5 ⟨p5, rfl, _, hb5⟩
          have hk5 : Below W1.heap.size W1 w5 := belowNext hk4 hb5
          go_wp2_with fail
          refine Calls.mono (cD.out _ hk5) ?_
          rintro e w6 ⟨p6, rfl, _, hb6⟩
          have hk6 : Below W1.heap.size W1 w6 := belowNext hk5 hb6
          go_wp2_with fail
          refine Calls.mono (cT.out _ hk6) ?_
          rintro e w7 ⟨p7, rfl, hp7, hb7⟩
          have hk7 : Below W1.heap.size W1 w7 := belowNext hk6 hb7
          obtain rfl := hp7 (fun h => nomatch h)
          clear hp7
          clear hb2 hb3 hb4 hb5 hb6 hb7 hk2 hk3 hk4 hk5 hk6
          go_wp2_with (first
            | (go_at_call 24; refine Calls.mono (cEm.out _ hk7) ?_; rintro e w8 ⟨rfl, hb8⟩; have hk8 : Below W1.heap.size W1 w8 := belowNext hk7 hb8; clear hb8)
            | (go_at_call 25; with_reducible refine Calls.mono (cSz.out _ hk8) ?_; rintro e w9 ⟨rfl, hb9⟩; have hk9 : Below W1.heap.size W1 w9 := belowNext hk8 hb9; clear hb9)
            | (go_at_call 25; with_reducible refine Calls.mono (cSz.out _ hk7) ?_; rintro e w9 ⟨rfl, hb9⟩; have hk9 : Below W1.heap.size W1 w9 := belowNext hk7 hb9; clear hb9)
            | (go_at_call 17; refine Calls.mono (eis_calls _ tag) ?_; rintro e w' ⟨rfl, rfl⟩; try rw [hisT]))
          go_ret
          exact ⟨rfl, belowNext hB1.out (by first | with_reducible assumption | exact hk9 | exact hk8 | exact hk7)⟩
  · --
    have hB := As.mk (Below.refl w.heap.size w)
    have HX := As.mk hx
    have HM := As.mk hm
    clear hx hm
    go_enter Tryz.func6, Tryz.ntmps6
    go_wp2_with fail
    refine Calls.mono (awake_calls _) ?_
    rintro e w1 ⟨rfl, hb⟩
    have hs := hb.size
    (try simp only [World.size_alloc, World.size_drew] at hs)
    replace hB := As.mk (belowNext hB.out (by (repeat (first | (with_reducible assumption) | (with_reducible exact Below.refl _ _) | (with_reducible refine Below.drew ?_) | (with_reducible refine below_drewN ?_ _) | (with_reducible refine Below.alloc ?_ (by (first | omega | (simp only [World.size_alloc, World.size_drew]; done) | (simp only [World.size_alloc, World.size_drew]; omega))) _) | (refine Below.trans ?_ (Below.mono (by with_reducible assumption) (by (first | omega | (simp only [World.size_alloc, World.size_drew]; done) | (simp only [World.size_alloc, World.size_drew]; omega))))))) : Below _ _ w1))
    replace HX := As.mk (HX.out.below (by (repeat (first | (with_reducible assumption) | (with_reducible exact Below.refl _ _) | (with_reducible refine Below.drew ?_) | (with_reducible refine below_drewN ?_ _) | (with_reducible refine Below.alloc ?_ (by (first | omega | (simp only [World.size_alloc, World.size_drew]; done) | (simp only [World.size_alloc, World.size_drew]; omega))) _) | (refine Below.trans ?_ (Below.mono (by with_reducible assumption) (by (first | omega | (simp only [World.size_alloc, World.size_drew]; done) | (simp only [World.size_alloc, World.size_drew]; omega))))))) : Below _ _ w1))
    replace hb := As.mk hb
    go_wp2_with fail
    refine Calls.mono (texts_calls _ A c l HX.out hc hr HM.out) ?_
    rintro e w2 ⟨⟨A2, c2, b, he, hb0, hS⟩, hb⟩; clear hr
    have hs := hb.size
    (try simp only [World.size_alloc, World.size_drew] at hs)
    replace hB := As.mk (belowNext hB.out (by (repeat (first | (with_reducible assumption) | (with_reducible exact Below.refl _ _) | (with_reducible refine Below.drew ?_) | (with_reducible refine below_drewN ?_ _) | (with_reducible refine Below.alloc ?_ (by (first | omega | (simp only [World.size_alloc, World.size_drew]; done) | (simp only [World.size_alloc, World.size_drew]; omega))) _) | (refine Below.trans ?_ (Below.mono (by with_reducible assumption) (by (first | omega | (simp only [World.size_alloc, World.size_drew]; done) | (simp only [World.size_alloc, World.size_drew]; omega))))))) : Below _ _ w2))
    replace HX := As.mk (HX.out.below (by (repeat (first | (with_reducible assumption) | (with_reducible exact Below.refl _ _) | (with_reducible refine Below.drew ?_) | (with_reducible refine below_drewN ?_ _) | (with_reducible refine Below.alloc ?_ (by (first | omega | (simp only [World.size_alloc, World.size_drew]; done) | (simp only [World.size_alloc, World.size_drew]; omega))) _) | (refine Below.trans ?_ (Below.mono (by with_reducible assumption) (by (first | omega | (simp only [World.size_alloc, World.size_drew]; done) | (simp only [World.size_alloc, World.size_drew]; omega))))))) : Below _ _ w2))
    replace hb := As.mk hb
    have hbf : (b && decide (l.length ≤ 12)) = false := by
      cases b with
      | false => rfl
      | true =>
        have h40 := of_decide_eq_true hb0.symm
        simp only [Bool.true_and, decide_eq_false_iff_not]
        exact fun h12 => hf ⟨h12, h40⟩
    obtain ⟨m, hm2⟩ : ∃ m, (if b = true then l.length else 0) = m := ⟨_, rfl⟩
    rw [hbf, hm2] at he
    subst he
    clear hS hb0 hbf hm2
    go_wp2
    go_ret
    exact ⟨rfl, hB.out⟩
end Go.Proofs.YtdiljmhikajjiaaGreat
