/- The walk of the law EngineSame. -/
import Derived.Test.YtdiljmhikajjiaaGreatM12
set_option linter.unusedVariables false
set_option linter.unusedSimpArgs false
namespace Go.Proofs.YtdiljmhikajjiaaGreat
open Go.RowKit Go.Maps Seine.Trie Seine.Eng
open Seine.Sort (sortP)


theorem wrongF_small {tag : Int} {l : List Txt} (h0 : 0 ≤ tag) (h1 : tag ≤ 3) : wrongF tag l = 0 ∨ wrongF tag l = 13 ∨ wrongF tag l = 14 := by
  unfold wrongF
  rw [if_neg (by omega)]
  split
  · exact .inr (.inl rfl)
  · split
    · exact .inr (.inr rfl)
    · exact .inl rfl
set_option maxRecDepth 100000 in
set_option maxHeartbeats 3200000 in
theorem same_walk (A : Option Addr) (c : Nat) (l : List Txt) (B : Option Addr) (d : Nat) (L : Txt) (a b : Int) (w : World) (hx : Txts w A l) (hc : l.length ≤ c) (hr : c * 24 ≤ 140737488351232) (hm : ∀ x ∈ l, x.length ≤ maxLen)
    (h1 : Byt w B L) (hd : L.length ≤ d) (hdm : d ≤ maxLen) (ha : (Lit.int .u8 a).wf = true) (hb : (Lit.int .u8 b).wf = true) :
    Calls Tryz.prog 3 #[.slice A l.length c, .slice B L.length d, .int .u8 a, .int .u8 b] w fun e w' => e = .returned (.bool true) ∧ Below w.heap.size w w' := by
  have HL := As.mk h1
  obtain ⟨x, rfl⟩ := u8_byte ha
  obtain ⟨y, rfl⟩ := u8_byte hb
  have hx4 : IntKind.i64.wrap ((x.toNat : Int) % 4) = (x.toNat : Int) % 4 := by rw [IntKind.wrap_i64]; omega
  have hy4 : IntKind.i64.wrap ((y.toNat : Int) % 4) = (y.toNat : Int) % 4 := by rw [IntKind.wrap_i64]; omega
  clear h1 ha hb
  unfold maxLen at hdm
  by_cases hf : Few l
  · --
    have hB := As.mk (Below.refl w.heap.size w)
    have HX := As.mk hx
    have HM := As.mk hm
    clear hx hm
    go_enter Tryz.func3, Tryz.ntmps3
    go_wp2_with fail
    refine Calls.mono (awake_calls _) ?_
    rintro e w1 ⟨rfl, hb⟩
    have hs := hb.size
    (try simp only [World.size_alloc, World.size_drew] at hs)
    replace hB := As.mk (belowNext hB.out (by (repeat (first | (with_reducible assumption) | (with_reducible exact Below.refl _ _) | (with_reducible refine Below.drew ?_) | (with_reducible refine below_drewN ?_ _) | (with_reducible refine Below.alloc ?_ (by (first | omega | (simp only [World.size_alloc, World.size_drew]; done) | (simp only [World.size_alloc, World.size_drew]; omega))) _) | (refine Below.trans ?_ (Below.mono (by with_reducible assumption) (by (first | omega | (simp only [World.size_alloc, World.size_drew]; done) | (simp only [World.size_alloc, World.size_drew]; omega))))))) : Below _ _ w1))
    replace HX := As.mk (HX.out.below (by (repeat (first | (with_reducible assumption) | (with_reducible exact Below.refl _ _) | (with_reducible refine Below.drew ?_) | (with_reducible refine below_drewN ?_ _) | (with_reducible refine Below.alloc ?_ (by (first | omega | (simp only [World.size_alloc, World.size_drew]; done) | (simp only [World.size_alloc, World.size_drew]; omega))) _) | (refine Below.trans ?_ (Below.mono (by with_reducible assumption) (by (first | omega | (simp only [World.size_alloc, World.size_drew]; done) | (simp only [World.size_alloc, World.size_drew]; omega))))))) : Below _ _ w1))
    replace HL := As.mk (HL.out.below (by (repeat (first | (with_reducible assumption) | (with_reducible exact Below.refl _ _) | (with_reducible refine Below.drew ?_) | (with_reducible refine below_drewN ?_ _) | (with_reducible refine Below.alloc ?_ (by (first | omega | (simp only [World.size_alloc, World.size_drew]; done) | (simp only [World.size_alloc, World.size_drew]; omega))) _) | (refine Below.trans ?_ (Below.mono (by with_reducible assumption) (by (first | omega | (simp only [World.size_alloc, World.size_drew]; done) | (simp only [World.size_alloc, World.size_drew]; omega))))))) : Below _ _ w1))
    replace hb := As.mk hb
    go_wp2_with fail
    refine Calls.mono (texts_calls _ A c l HX.out hc hr HM.out) ?_
    rintro e w2 ⟨⟨A2, c2, b, he, hb0, hS⟩, hb⟩; clear hr
    have hs := hb.size
    (try simp only [World.size_alloc, World.size_drew] at hs)
    replace hB := As.mk (belowNext hB.out (by (repeat (first | (with_reducible assumption) | (with_reducible exact Below.refl _ _) | (with_reducible refine Below.drew ?_) | (with_reducible refine below_drewN ?_ _) | (with_reducible refine Below.alloc ?_ (by (first | omega | (simp only [World.size_alloc, World.size_drew]; done) | (simp only [World.size_alloc, World.size_drew]; omega))) _) | (refine Below.trans ?_ (Below.mono (by with_reducible assumption) (by (first | omega | (simp only [World.size_alloc, World.size_drew]; done) | (simp only [World.size_alloc, World.size_drew]; omega))))))) : Below _ _ w2))
    replace HX := As.mk (HX.out.below (by (repeat (first | (with_reducible assumption) | (with_reducible exact Below.refl _ _) | (with_reducible refine Below.drew ?_) | (with_reducible refine below_drewN ?_ _) | (with_reducible refine Below.alloc ?_ (by (first | omega | (simp only [World.size_alloc, World.size_drew]; done) | (simp only [World.size_alloc, World.size_drew]; omega))) _) | (refine Below.trans ?_ (Below.mono (by with_reducible assumption) (by (first | omega | (simp only [World.size_alloc, World.size_drew]; done) | (simp only [World.size_alloc, World.size_drew]; omega))))))) : Below _ _ w2))
    replace HL := As.mk (HL.out.below (by (repeat (first | (with_reducible assumption) | (with_reducible exact Below.refl _ _) | (with_reducible refine Below.drew ?_) | (with_reducible refine below_drewN ?_ _) | (with_reducible refine Below.alloc ?_ (by (first | omega | (simp only [World.size_alloc, World.size_drew]; done) | (simp only [World.size_alloc, World.size_drew]; omega))) _) | (refine Below.trans ?_ (Below.mono (by with_reducible assumption) (by (first | omega | (simp only [World.size_alloc, World.size_drew]; done) | (simp only [World.size_alloc, World.size_drew]; omega))))))) : Below _ _ w2))
    replace hb := As.mk hb
    obtain rfl : b = true := by rw [hb0]; exact decide_eq_true hf.short
    have hd12 : decide (l.length ≤ 12) = true := decide_eq_true hf.len
    rw [Bool.true_and, hd12, if_pos rfl] at he
    subst he
    obtain ⟨hc2, hS2⟩ := hS rfl
    clear hS
    have hS := As.mk hS2
    clear hS2 hb0 hd12
    have htot := As.mk hf.tot
    have hl12 := hf.len
    have hF := As.mk hf
    clear hf
    by_cases hg : L.length ≤ 300
    · have hg1 : decide ((300 : Int) < (L.length : Int)) = false := decide_eq_false (by omega)
      have hs60 : ∀ t ∈ l, t.length ≤ 60 := fun t ht => by have := hF.out.short t ht; omega
      go_wp2_with fail
      refine Calls.mono (pof_calls _ A c l HX.out (fun t ht => by have := hF.out.short t ht; omega) (by omega)) ?_
      rintro e w3 ⟨V, rfl, hP, hb⟩
      have hs := hb.size
      (try simp only [World.size_alloc, World.size_drew] at hs)
      replace hB := As.mk (belowNext hB.out (by (repeat (first | (with_reducible assumption) | (with_reducible exact Below.refl _ _) | (with_reducible refine Below.drew ?_) | (with_reducible refine below_drewN ?_ _) | (with_reducible refine Below.alloc ?_ (by (first | omega | (simp only [World.size_alloc, World.size_drew]; done) | (simp only [World.size_alloc, World.size_drew]; omega))) _) | (refine Below.trans ?_ (Below.mono (by with_reducible assumption) (by (first | omega | (simp only [World.size_alloc, World.size_drew]; done) | (simp only [World.size_alloc, World.size_drew]; omega))))))) : Below _ _ w3))
      replace HL := As.mk (HL.out.below (by (repeat (first | (with_reducible assumption) | (with_reducible exact Below.refl _ _) | (with_reducible refine Below.drew ?_) | (with_reducible refine below_drewN ?_ _) | (with_reducible refine Below.alloc ?_ (by (first | omega | (simp only [World.size_alloc, World.size_drew]; done) | (simp only [World.size_alloc, World.size_drew]; omega))) _) | (refine Below.trans ?_ (Below.mono (by with_reducible assumption) (by (first | omega | (simp only [World.size_alloc, World.size_drew]; done) | (simp only [World.size_alloc, World.size_drew]; omega))))))) : Below _ _ w3))
      replace hb := As.mk hb
      obtain ⟨A1, c1, mb, rfl⟩ := hP.open_
      obtain ⟨pn, hpn⟩ : ∃ k, (pset l).length = k := ⟨_, rfl⟩
      obtain ⟨e0, he0⟩ : ∃ e, decide (([] : Txt) ∈ l) = e := ⟨_, rfl⟩
      rw [hpn, he0] at hP ⊢
      replace hpn := As.mk hpn
      replace he0 := As.mk he0
      have hz1 := heap_alloc_new w3 (.cells #[.slice A1 pn c1, .map (some mb), .bool e0] 30)
      have hPs := As.mk (hP.below ((Below.refl _ _).alloc (Nat.le_refl _) (.cells #[.slice A1 pn c1, .map (some mb), .bool e0] 30)))
      have hBs : Below w3.heap.size w3 (w3.alloc (.cells #[.slice A1 pn c1, .map (some mb), .bool e0] 30)) := (Below.refl _ _).alloc (Nat.le_refl _) _
      obtain ⟨b1, hb1e⟩ : ∃ g, w3.heap.size = g := ⟨_, rfl⟩
      obtain ⟨W1, hW1⟩ : ∃ W, w3.alloc (.cells #[.slice A1 pn c1, .map (some mb), .bool e0] 30) = W := ⟨_, rfl⟩
      rw [hb1e] at hz1
      rw [hW1] at hz1 hPs hBs
      have q0 : ∀ v, Below W1.heap.size W1 v → v.cell? ⟨b1, 0, none⟩ = some (.slice A1 pn c1) := fun v hv => cell_of_blk (blkBelow hv hz1) 0
      have q1 : ∀ v, Below W1.heap.size W1 v → v.cell? ⟨b1, 1, none⟩ = some (.map (some mb)) := fun v hv => cell_of_blk (blkBelow hv hz1) 1
      have q2 : ∀ v, Below W1.heap.size W1 v → v.cell? ⟨b1, 2, none⟩ = some (.bool e0) := fun v hv => cell_of_blk (blkBelow hv hz1) 2
      have hWr : Below W1.heap.size W1 W1 := Below.refl _ _
      replace hz1 := As.mk hz1
      clear hP
      have hB1 := As.mk (belowNext hB.out hBs)
      have HL1 := As.mk (fun (v : World) (hv : Below W1.heap.size W1 v) => Row.below (Row.below HL.out hBs) hv)
      have hwx := wrongF_small (l := l) (tag := (x.toNat : Int) % 4) (by omega) (by omega)
      have hll : l.length ≤ 1000 := by omega
      have hs60' := As.mk hs60
      have hfl : (findF l L).length ≤ 1000000 := by
        have h1 := findF_len l L
        have h2 : L.length * L.length ≤ 300 * 300 := Nat.mul_le_mul hg hg
        omega
      have cy := As.mk (fun (v : World) (hv : Below W1.heap.size W1 v) => enew_calls v ((y.toNat : Int) % 4) _ _ l (hPs.out.below hv) hs60 hll)
      by_cases h0 : wrongF ((x.toNat : Int) % 4) l = 0
      · have cx := As.mk (fun (v : World) (hv : Below W1.heap.size W1 v) => enew_yes v ((x.toNat : Int) % 4) _ _ l (hPs.out.below hv) hs60 hll h0)
        by_cases h9 : wrongF ((y.toNat : Int) % 4) l = 0
        · have cy0 := As.mk (fun (v : World) (hv : Below W1.heap.size W1 v) => enew_yes v ((y.toNat : Int) % 4) _ _ l (hPs.out.below hv) hs60 hll h9)
          obtain ⟨nL, hnL⟩ : ∃ k, L.length = k := ⟨_, rfl⟩
          have cfd := As.mk (fun (v : World) (g : Nat) (tag : Int) (hv : Below W1.heap.size W1 v) (hE : EngAt v g tag l) => efind0_calls v g tag l hE hs60'.out hll B d L (HL1.out v hv) (by omega))
          rw [hnL] at cfd hg1 ⊢
          obtain ⟨R, hR⟩ : ∃ R, findF l L = R := ⟨_, rfl⟩
          rw [hR] at cfd hfl
          obtain ⟨nR, hnR⟩ : ∃ k, R.length = k := ⟨_, rfl⟩
          replace hnL := As.mk hnL
          replace hR := As.mk hR
          replace hx4 := As.mk hx4
          replace hy4 := As.mk hy4
          have hx5 := hx4.out
          have hy5 := hy4.out
          clear hwx h0 h9 hs60 hb hS htot HM HX hBs hF hd hg
          go_wp2_with (first | (rw [hW1]) | (rw [hb1e]))
          refine Calls.mono (cx.out _ hWr) ?_
          rintro e w4 ⟨g1, rfl, hE1, hb4⟩
          have hk4 : Below W1.heap.size W1 w4 := hb4
          have hE1' := As.mk hE1
          clear hE1
          go_wp2_with fail
          refine Calls.mono (cy0.out _ hk4) ?_
          rintro e w5 ⟨g2, rfl, hE2, hb5⟩
          have hk5 : Below W1.heap.size W1 w5 := belowNext hk4 hb5
          have hE15 := As.mk (hE1'.out.below hb5)
          have hE2' := As.mk hE2
          clear hE2 hb4 hb5 hk4
          go_wp2_with fail
          refine Calls.mono (cfd.out _ _ _ hk5 hE15.out) ?_
          intro e w6 h6
          obtain ⟨A6, c6, he6, hc6, hr6, hb6⟩ := h6.row
          subst he6
          have hk6 : Below W1.heap.size W1 w6 := belowNext hk5 hb6
          have hE26 := As.mk (hE2'.out.below hb6)
          rw [hnR] at hc6 ⊢
          replace hr6 := As.mk hr6
          clear h6 hb6 hk5
          go_wp2_with fail
          refine Calls.mono (cfd.out _ _ _ hk6 hE26.out) ?_
          intro e w7 h7
          obtain ⟨A7, c7, he7, hc7, hr7, hb7⟩ := h7.row
          subst he7
          have cS := As.mk (same_calls A6 A7 c6 c7 R R w7 (Row.below hr6.out hb7) hr7 (by omega) (by omega))
          rw [decide_eq_true rfl] at cS
          rw [hnR] at hc7 cS ⊢
          have hB7 := As.mk (belowNext hB1.out (belowNext hk6 hb7))
          clear h7 hb7 hk6 hr7
          go_wp2_with fail
          refine Calls.mono cS.out ?_
          rintro e w8 ⟨rfl, nq, rfl⟩
          go_wp2_with fail
          go_ret
          exact ⟨rfl, below_drewN hB7.out _⟩
        · have cy0 := As.mk (fun (v : World) (hv : Below W1.heap.size W1 v) => enew_no v ((y.toNat : Int) % 4) _ _ l (hPs.out.below hv) hs60 hll h9)
          generalize wrongF ((y.toNat : Int) % 4) l = q at *
          have hq : (q != 0) = true := by simp; exact h9
          clear hwx h0 h9 hs60 hb hS htot HM HX hBs hF hd hg cy
          go_wp2_with (first | (rw [hW1]) | (rw [hb1e]))
          refine Calls.mono (cx.out _ hWr) ?_
          rintro e w4 ⟨g1, rfl, hE1, hb4⟩
          have hk4 : Below W1.heap.size W1 w4 := hb4
          go_wp2_with fail
          refine Calls.mono (cy0.out _ hk4) ?_
          rintro e w5 ⟨rfl, hb5⟩
          have hk5 := As.mk (belowNext hk4 hb5)
          clear hb4 hb5 hk4 hE1
          go_wp2_with fail
          go_ret
          exact ⟨rfl, belowNext hB1.out hk5.out⟩
      · have cx := As.mk (fun (v : World) (hv : Below W1.heap.size W1 v) => enew_no v ((x.toNat : Int) % 4) _ _ l (hPs.out.below hv) hs60 hll h0)
        by_cases h9 : wrongF ((y.toNat : Int) % 4) l = 0
        · have cy0 := As.mk (fun (v : World) (hv : Below W1.heap.size W1 v) => enew_yes v ((y.toNat : Int) % 4) _ _ l (hPs.out.below hv) hs60 hll h9)
          rcases hwx with hq | hq | hq
          · exact absurd hq h0
          · rw [hq] at cx
            clear h0 h9 hq hs60 hb hS htot HM HX hBs hF hd hg cy
            go_wp2_with (first | (rw [hW1]) | (rw [hb1e]))
            refine Calls.mono (cx.out _ hWr) ?_
            rintro e w4 ⟨rfl, hb4⟩
            have hk4 : Below W1.heap.size W1 w4 := hb4
            go_wp2_with fail
            refine Calls.mono (cy0.out _ hk4) ?_
            rintro e w5 ⟨g2,rfl,hE2,hb5⟩
            have hk5 := As.mk (belowNext hk4 hb5)
            clear hb4 hb5 hk4
            go_wp2_with fail
            go_ret
            exact ⟨rfl, belowNext hB1.out hk5.out⟩
          · rw [hq] at cx
            clear h0 h9 hq hs60 hb hS htot HM HX hBs hF hd hg cy
            go_wp2_with (first | (rw [hW1]) | (rw [hb1e]))
            refine Calls.mono (cx.out _ hWr) ?_
            rintro e w4 ⟨rfl, hb4⟩
            have hk4 : Below W1.heap.size W1 w4 := hb4
            go_wp2_with fail
            refine Calls.mono (cy0.out _ hk4) ?_
            rintro e w5 ⟨g2,rfl,hE2,hb5⟩
            have hk5 := As.mk (belowNext hk4 hb5)
            clear hb4 hb5 hk4
            go_wp2_with fail
            go_ret
            exact ⟨rfl, belowNext hB1.out hk5.out⟩
        · have cy0 := As.mk (fun (v : World) (hv : Below W1.heap.size W1 v) => enew_no v ((y.toNat : Int) % 4) _ _ l (hPs.out.below hv) hs60 hll h9)
          generalize wrongF ((y.toNat : Int) % 4) l = q at *
          rcases hwx with hq | hq | hq
          · exact absurd hq h0
          · rw [hq] at cx
            clear h0 h9 hq hs60 hb hS htot HM HX hBs hF hd hg cy
            go_wp2_with (first | (rw [hW1]) | (rw [hb1e]))
            refine Calls.mono (cx.out _ hWr) ?_
            rintro e w4 ⟨rfl, hb4⟩
            have hk4 : Below W1.heap.size W1 w4 := hb4
            go_wp2_with fail
            refine Calls.mono (cy0.out _ hk4) ?_
            rintro e w5 ⟨rfl,hb5⟩
            have hk5 := As.mk (belowNext hk4 hb5)
            clear hb4 hb5 hk4
            go_wp2_with fail
            go_ret
            exact ⟨rfl, belowNext hB1.out hk5.out⟩
          · rw [hq] at cx
            clear h0 h9 hq hs60 hb hS htot HM HX hBs hF hd hg cy
            go_wp2_with (first | (rw [hW1]) | (rw [hb1e]))
            refine Calls.mono (cx.out _ hWr) ?_
            rintro e w4 ⟨rfl, hb4⟩
            have hk4 : Below W1.heap.size W1 w4 := hb4
            go_wp2_with fail
            refine Calls.mono (cy0.out _ hk4) ?_
            rintro e w5 ⟨rfl,hb5⟩
            have hk5 := As.mk (belowNext hk4 hb5)
            clear hb4 hb5 hk4
            go_wp2_with fail
            go_ret
            exact ⟨rfl, belowNext hB1.out hk5.out⟩
    · have hg1 : decide ((300 : Int) < (L.length : Int)) = true := decide_eq_true (by omega)
      go_wp2
      go_ret
      exact ⟨rfl, hB.out⟩
  · --
    have hB := As.mk (Below.refl w.heap.size w)
    have HX := As.mk hx
    have HM := As.mk hm
    clear hx hm
    go_enter Tryz.func3, Tryz.ntmps3
    go_wp2_with fail
    refine Calls.mono (awake_calls _) ?_
    rintro e w1 ⟨rfl, hb⟩
    have hs := hb.size
    (try simp only [World.size_alloc, World.size_drew] at hs)
    replace hB := As.mk (belowNext hB.out (by (repeat (first | (with_reducible assumption) | (with_reducible exact Below.refl _ _) | (with_reducible refine Below.drew ?_) | (with_reducible refine below_drewN ?_ _) | (with_reducible refine Below.alloc ?_ (by (first | omega | (simp only [World.size_alloc, World.size_drew]; done) | (simp only [World.size_alloc, World.size_drew]; omega))) _) | (refine Below.trans ?_ (Below.mono (by with_reducible assumption) (by (first | omega | (simp only [World.size_alloc, World.size_drew]; done) | (simp only [World.size_alloc, World.size_drew]; omega))))))) : Below _ _ w1))
    replace HX := As.mk (HX.out.below (by (repeat (first | (with_reducible assumption) | (with_reducible exact Below.refl _ _) | (with_reducible refine Below.drew ?_) | (with_reducible refine below_drewN ?_ _) | (with_reducible refine Below.alloc ?_ (by (first | omega | (simp only [World.size_alloc, World.size_drew]; done) | (simp only [World.size_alloc, World.size_drew]; omega))) _) | (refine Below.trans ?_ (Below.mono (by with_reducible assumption) (by (first | omega | (simp only [World.size_alloc, World.size_drew]; done) | (simp only [World.size_alloc, World.size_drew]; omega))))))) : Below _ _ w1))
    replace HL := As.mk (HL.out.below (by (repeat (first | (with_reducible assumption) | (with_reducible exact Below.refl _ _) | (with_reducible refine Below.drew ?_) | (with_reducible refine below_drewN ?_ _) | (with_reducible refine Below.alloc ?_ (by (first | omega | (simp only [World.size_alloc, World.size_drew]; done) | (simp only [World.size_alloc, World.size_drew]; omega))) _) | (refine Below.trans ?_ (Below.mono (by with_reducible assumption) (by (first | omega | (simp only [World.size_alloc, World.size_drew]; done) | (simp only [World.size_alloc, World.size_drew]; omega))))))) : Below _ _ w1))
    replace hb := As.mk hb
    go_wp2_with fail
    refine Calls.mono (texts_calls _ A c l HX.out hc hr HM.out) ?_
    rintro e w2 ⟨⟨A2, c2, b, he, hb0, hS⟩, hb⟩; clear hr
    have hs := hb.size
    (try simp only [World.size_alloc, World.size_drew] at hs)
    replace hB := As.mk (belowNext hB.out (by (repeat (first | (with_reducible assumption) | (with_reducible exact Below.refl _ _) | (with_reducible refine Below.drew ?_) | (with_reducible refine below_drewN ?_ _) | (with_reducible refine Below.alloc ?_ (by (first | omega | (simp only [World.size_alloc, World.size_drew]; done) | (simp only [World.size_alloc, World.size_drew]; omega))) _) | (refine Below.trans ?_ (Below.mono (by with_reducible assumption) (by (first | omega | (simp only [World.size_alloc, World.size_drew]; done) | (simp only [World.size_alloc, World.size_drew]; omega))))))) : Below _ _ w2))
    replace HX := As.mk (HX.out.below (by (repeat (first | (with_reducible assumption) | (with_reducible exact Below.refl _ _) | (with_reducible refine Below.drew ?_) | (with_reducible refine below_drewN ?_ _) | (with_reducible refine Below.alloc ?_ (by (first | omega | (simp only [World.size_alloc, World.size_drew]; done) | (simp only [World.size_alloc, World.size_drew]; omega))) _) | (refine Below.trans ?_ (Below.mono (by with_reducible assumption) (by (first | omega | (simp only [World.size_alloc, World.size_drew]; done) | (simp only [World.size_alloc, World.size_drew]; omega))))))) : Below _ _ w2))
    replace HL := As.mk (HL.out.below (by (repeat (first | (with_reducible assumption) | (with_reducible exact Below.refl _ _) | (with_reducible refine Below.drew ?_) | (with_reducible refine below_drewN ?_ _) | (with_reducible refine Below.alloc ?_ (by (first | omega | (simp only [World.size_alloc, World.size_drew]; done) | (simp only [World.size_alloc, World.size_drew]; omega))) _) | (refine Below.trans ?_ (Below.mono (by with_reducible assumption) (by (first | omega | (simp only [World.size_alloc, World.size_drew]; done) | (simp only [World.size_alloc, World.size_drew]; omega))))))) : Below _ _ w2))
    replace hb := As.mk hb
    have hbf : (b && decide (l.length ≤ 12)) = false := by
      cases b with
      | false => rfl
      | true =>
        have h40 := of_decide_eq_true hb0.symm
        simp only [Bool.true_and, decide_eq_false_iff_not]
        exact fun h12 => hf ⟨h12, h40⟩
    obtain ⟨m, hm2⟩ : ∃ m, (if b = true then l.length else 0) = m := ⟨_, rfl⟩
    rw [hbf, hm2] at he
    subst he
    clear hS hb0 hbf hm2
    go_wp2
    go_ret
    exact ⟨rfl, hB.out⟩
end Go.Proofs.YtdiljmhikajjiaaGreat
