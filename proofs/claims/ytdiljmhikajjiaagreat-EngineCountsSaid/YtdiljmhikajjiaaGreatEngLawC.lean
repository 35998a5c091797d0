/- The walk of the law EngineCounts. -/
import Derived.Test.YtdiljmhikajjiaaGreatM19
set_option linter.unusedVariables false
set_option linter.unusedSimpArgs false
namespace Go.Proofs.YtdiljmhikajjiaaGreat
open Go.RowKit Go.Maps Seine.Trie Seine.Eng Seine.Links Seine.Sparse
attribute [local go_sem high] eqCn


theorem sumL_pos {l : List Txt} (h : pset l ≠ []) : 0 < sumL (pset l) := by
  have hne : ∀ t ∈ pset l, t ≠ [] := fun t ht => pset_ne ht
  generalize pset l = ps at h hne
  cases ps with
  | nil => exact absurd rfl h
  | cons t ts =>
    have h1 := List.length_pos_iff.2 (hne t (by simp))
    unfold sumL
    simp only [List.map_cons, List.sum_cons]
    omega
theorem look_none {tag : Int} {l : List Txt} {L : Txt} (h : pset l = [] ∨ 1 < tag) : scanN tag l L = 0 ∧ lookN tag l L = 0 := by
  unfold scanN lookN
  exact ⟨if_pos h, if_pos h⟩
theorem look_some {tag : Int} {l : List Txt} (L : Txt) (h : ¬ (pset l = [] ∨ 1 < tag)) : scanN tag l L = L.length ∧ L.length ≤ lookN tag l L ∧ lookN tag l L ≤ 2 * L.length ∧ (tag = 1 → lookN tag l L = L.length) := by
  have hc := looksTo_cost (paths_tree (pset l)) L L.length (Nat.le_refl _)
  unfold scanN lookN
  rw [if_neg h, if_neg h]
  refine ⟨rfl, ?_, ?_, fun h => if_pos h⟩
  · split <;> omega
  · split <;> omega
theorem scanN_le (tag : Int) (l : List Txt) (L : Txt) : scanN tag l L ≤ L.length := by
  unfold scanN; split <;> omega
theorem lookN_le (tag : Int) (l : List Txt) (L : Txt) : lookN tag l L ≤ 2 * L.length := by
  by_cases h : pset l = [] ∨ 1 < tag
  · rw [(look_none h).2]; omega
  · exact (look_some L h).2.2.1
set_option maxRecDepth 100000 in
set_option maxHeartbeats 6400000 in
theorem counts_walk (A : Option Addr) (c : Nat) (l : List Txt) (B : Option Addr) (d : Nat) (X : Txt) (E : Option Addr) (f : Nat) (Y : Txt) (a : Int) (w : World) (hx : Txts w A l) (hc : l.length ≤ c) (hr : c * 24 ≤ 140737488351232) (hm : ∀ x ∈ l, x.length ≤ maxLen)
    (h1 : Byt w B X) (hd : X.length ≤ d) (hdm : d ≤ maxLen) (h2 : Byt w E Y) (he : Y.length ≤ f) (hem : f ≤ maxLen) (ha : (Lit.int .u8 a).wf = true) :
    Calls Tryz.prog 7 #[.slice A l.length c, .slice B X.length d, .slice E Y.length f, .int .u8 a] w fun e w' => e = .returned (.bool true) ∧ Below w.heap.size w w' := by
  have H1 := As.mk h1
  have H2 := As.mk h2
  have hY := As.mk he
  obtain ⟨x, rfl⟩ := u8_byte ha
  have hx4 : IntKind.i64.wrap ((x.toNat : Int) % 4) = (x.toNat : Int) % 4 := by rw [IntKind.wrap_i64]; omega
  clear h1 h2 he ha
  unfold maxLen at hdm hem
  by_cases hf : Few l
  · --
    have hB := As.mk (Below.refl w.heap.size w)
    have HX := As.mk hx
    have HM := As.mk hm
    clear hx hm
    go_enter Tryz.func7, Tryz.ntmps7
    go_wp2_with fail
    refine Calls.mono (awake_calls _) ?_
    rintro e w1 ⟨rfl, hb⟩
    have hs := hb.size
    (try simp only [World.size_alloc, World.size_drew] at hs)
    replace hB := As.mk (belowNext hB.out (by (repeat (first | (with_reducible assumption) | (with_reducible exact Below.refl _ _) | (with_reducible refine Below.drew ?_) | (with_reducible refine below_drewN ?_ _) | (with_reducible refine Below.alloc ?_ (by (first | omega | (simp only [World.size_alloc, World.size_drew]; done) | (simp only [World.size_alloc, World.size_drew]; omega))) _) | (refine Below.trans ?_ (Below.mono (by with_reducible assumption) (by (first | omega | (simp only [World.size_alloc, World.size_drew]; done) | (simp only [World.size_alloc, World.size_drew]; omega))))))) : Below _ _ w1))
    replace HX := As.mk (HX.out.below (by (repeat (first | (with_reducible assumption) | (with_reducible exact Below.refl _ _) | (with_reducible refine Below.drew ?_) | (with_reducible refine below_drewN ?_ _) | (with_reducible refine Below.alloc ?_ (by (first | omega | (simp only [World.size_alloc, World.size_drew]; done) | (simp only [World.size_alloc, World.size_drew]; omega))) _) | (refine Below.trans ?_ (Below.mono (by with_reducible assumption) (by (first | omega | (simp only [World.size_alloc, World.size_drew]; done) | (simp only [World.size_alloc, World.size_drew]; omega))))))) : Below _ _ w1))
    replace H1 := As.mk (H1.out.below (by (repeat (first | (with_reducible assumption) | (with_reducible exact Below.refl _ _) | (with_reducible refine Below.drew ?_) | (with_reducible refine below_drewN ?_ _) | (with_reducible refine Below.alloc ?_ (by (first | omega | (simp only [World.size_alloc, World.size_drew]; done) | (simp only [World.size_alloc, World.size_drew]; omega))) _) | (refine Below.trans ?_ (Below.mono (by with_reducible assumption) (by (first | omega | (simp only [World.size_alloc, World.size_drew]; done) | (simp only [World.size_alloc, World.size_drew]; omega))))))) : Below _ _ w1))
    replace H2 := As.mk (H2.out.below (by (repeat (first | (with_reducible assumption) | (with_reducible exact Below.refl _ _) | (with_reducible refine Below.drew ?_) | (with_reducible refine below_drewN ?_ _) | (with_reducible refine Below.alloc ?_ (by (first | omega | (simp only [World.size_alloc, World.size_drew]; done) | (simp only [World.size_alloc, World.size_drew]; omega))) _) | (refine Below.trans ?_ (Below.mono (by with_reducible assumption) (by (first | omega | (simp only [World.size_alloc, World.size_drew]; done) | (simp only [World.size_alloc, World.size_drew]; omega))))))) : Below _ _ w1))
    replace hb := As.mk hb
    go_wp2_with fail
    refine Calls.mono (texts_calls _ A c l HX.out hc hr HM.out) ?_
    rintro e w2 ⟨⟨A2, c2, b, he, hb0, hS⟩, hb⟩; clear hr
    have hs := hb.size
    (try simp only [World.size_alloc, World.size_drew] at hs)
    replace hB := As.mk (belowNext hB.out (by (repeat (first | (with_reducible assumption) | (with_reducible exact Below.refl _ _) | (with_reducible refine Below.drew ?_) | (with_reducible refine below_drewN ?_ _) | (with_reducible refine Below.alloc ?_ (by (first | omega | (simp only [World.size_alloc, World.size_drew]; done) | (simp only [World.size_alloc, World.size_drew]; omega))) _) | (refine Below.trans ?_ (Below.mono (by with_reducible assumption) (by (first | omega | (simp only [World.size_alloc, World.size_drew]; done) | (simp only [World.size_alloc, World.size_drew]; omega))))))) : Below _ _ w2))
    replace HX := As.mk (HX.out.below (by (repeat (first | (with_reducible assumption) | (with_reducible exact Below.refl _ _) | (with_reducible refine Below.drew ?_) | (with_reducible refine below_drewN ?_ _) | (with_reducible refine Below.alloc ?_ (by (first | omega | (simp only [World.size_alloc, World.size_drew]; done) | (simp only [World.size_alloc, World.size_drew]; omega))) _) | (refine Below.trans ?_ (Below.mono (by with_reducible assumption) (by (first | omega | (simp only [World.size_alloc, World.size_drew]; done) | (simp only [World.size_alloc, World.size_drew]; omega))))))) : Below _ _ w2))
    replace H1 := As.mk (H1.out.below (by (repeat (first | (with_reducible assumption) | (with_reducible exact Below.refl _ _) | (with_reducible refine Below.drew ?_) | (with_reducible refine below_drewN ?_ _) | (with_reducible refine Below.alloc ?_ (by (first | omega | (simp only [World.size_alloc, World.size_drew]; done) | (simp only [World.size_alloc, World.size_drew]; omega))) _) | (refine Below.trans ?_ (Below.mono (by with_reducible assumption) (by (first | omega | (simp only [World.size_alloc, World.size_drew]; done) | (simp only [World.size_alloc, World.size_drew]; omega))))))) : Below _ _ w2))
    replace H2 := As.mk (H2.out.below (by (repeat (first | (with_reducible assumption) | (with_reducible exact Below.refl _ _) | (with_reducible refine Below.drew ?_) | (with_reducible refine below_drewN ?_ _) | (with_reducible refine Below.alloc ?_ (by (first | omega | (simp only [World.size_alloc, World.size_drew]; done) | (simp only [World.size_alloc, World.size_drew]; omega))) _) | (refine Below.trans ?_ (Below.mono (by with_reducible assumption) (by (first | omega | (simp only [World.size_alloc, World.size_drew]; done) | (simp only [World.size_alloc, World.size_drew]; omega))))))) : Below _ _ w2))
    replace hb := As.mk hb
    obtain rfl : b = true := by rw [hb0]; exact decide_eq_true hf.short
    have hd12 : decide (l.length ≤ 12) = true := decide_eq_true hf.len
    rw [Bool.true_and, hd12, if_pos rfl] at he
    subst he
    obtain ⟨hc2, hS2⟩ := hS rfl
    clear hS
    have hS := As.mk hS2
    clear hS2 hb0 hd12
    have htot := As.mk hf.tot
    have hl12 := hf.len
    have hF := As.mk hf
    clear hf
    by_cases hgx : X.length ≤ 400
    · have hg1 : decide ((400 : Int) < (X.length : Int)) = false := decide_eq_false (by omega)
      by_cases hgy : Y.length ≤ 400
      · have hg2 : decide ((400 : Int) < (Y.length : Int)) = false := decide_eq_false (by omega)
        have hs60 : ∀ t ∈ l, t.length ≤ 60 := fun t ht => by have := hF.out.short t ht; omega
        have hll : l.length ≤ 1000 := by omega
        have hsz0 := sumL_pset l
        have htt := htot.out
        go_wp2_with fail
        refine Calls.mono (pof_calls _ A c l HX.out (fun t ht => by have := hF.out.short t ht; omega) (by omega)) ?_
        rintro e w3 ⟨V, rfl, hP, hb⟩
        have hs := hb.size
        (try simp only [World.size_alloc, World.size_drew] at hs)
        replace hB := As.mk (belowNext hB.out (by (repeat (first | (with_reducible assumption) | (with_reducible exact Below.refl _ _) | (with_reducible refine Below.drew ?_) | (with_reducible refine below_drewN ?_ _) | (with_reducible refine Below.alloc ?_ (by (first | omega | (simp only [World.size_alloc, World.size_drew]; done) | (simp only [World.size_alloc, World.size_drew]; omega))) _) | (refine Below.trans ?_ (Below.mono (by with_reducible assumption) (by (first | omega | (simp only [World.size_alloc, World.size_drew]; done) | (simp only [World.size_alloc, World.size_drew]; omega))))))) : Below _ _ w3))
        replace H1 := As.mk (H1.out.below (by (repeat (first | (with_reducible assumption) | (with_reducible exact Below.refl _ _) | (with_reducible refine Below.drew ?_) | (with_reducible refine below_drewN ?_ _) | (with_reducible refine Below.alloc ?_ (by (first | omega | (simp only [World.size_alloc, World.size_drew]; done) | (simp only [World.size_alloc, World.size_drew]; omega))) _) | (refine Below.trans ?_ (Below.mono (by with_reducible assumption) (by (first | omega | (simp only [World.size_alloc, World.size_drew]; done) | (simp only [World.size_alloc, World.size_drew]; omega))))))) : Below _ _ w3))
        replace H2 := As.mk (H2.out.below (by (repeat (first | (with_reducible assumption) | (with_reducible exact Below.refl _ _) | (with_reducible refine Below.drew ?_) | (with_reducible refine below_drewN ?_ _) | (with_reducible refine Below.alloc ?_ (by (first | omega | (simp only [World.size_alloc, World.size_drew]; done) | (simp only [World.size_alloc, World.size_drew]; omega))) _) | (refine Below.trans ?_ (Below.mono (by with_reducible assumption) (by (first | omega | (simp only [World.size_alloc, World.size_drew]; done) | (simp only [World.size_alloc, World.size_drew]; omega))))))) : Below _ _ w3))
        replace hb := As.mk hb
        obtain ⟨A1, c1, mb, rfl⟩ := hP.open_
        obtain ⟨pn, hpn⟩ : ∃ k, (pset l).length = k := ⟨_, rfl⟩
        obtain ⟨e0, he0⟩ : ∃ e, decide (([] : Txt) ∈ l) = e := ⟨_, rfl⟩
        rw [hpn, he0] at hP ⊢
        replace hpn := As.mk hpn
        replace he0 := As.mk he0
        have hz1 := heap_alloc_new w3 (.cells #[.slice A1 pn c1, .map (some mb), .bool e0] 30)
        have hPs := As.mk (hP.below ((Below.refl _ _).alloc (Nat.le_refl _) (.cells #[.slice A1 pn c1, .map (some mb), .bool e0] 30)))
        have hBs : Below w3.heap.size w3 (w3.alloc (.cells #[.slice A1 pn c1, .map (some mb), .bool e0] 30)) := (Below.refl _ _).alloc (Nat.le_refl _) _
        obtain ⟨b1, hb1e⟩ : ∃ g, w3.heap.size = g := ⟨_, rfl⟩
        obtain ⟨W1, hW1⟩ : ∃ W, w3.alloc (.cells #[.slice A1 pn c1, .map (some mb), .bool e0] 30) = W := ⟨_, rfl⟩
        rw [hb1e] at hz1
        rw [hW1] at hz1 hPs hBs
        have q0 : ∀ v, Below W1.heap.size W1 v → v.cell? ⟨b1, 0, none⟩ = some (.slice A1 pn c1) := fun v hv => cell_of_blk (blkBelow hv hz1) 0
        have q1 : ∀ v, Below W1.heap.size W1 v → v.cell? ⟨b1, 1, none⟩ = some (.map (some mb)) := fun v hv => cell_of_blk (blkBelow hv hz1) 1
        have q2 : ∀ v, Below W1.heap.size W1 v → v.cell? ⟨b1, 2, none⟩ = some (.bool e0) := fun v hv => cell_of_blk (blkBelow hv hz1) 2
        have hWr : Below W1.heap.size W1 W1 := Below.refl _ _
        replace hz1 := As.mk hz1
        clear hP
        have hB1 := As.mk (belowNext hB.out hBs)
        have H11 := As.mk (fun (v : World) (hv : Below W1.heap.size W1 v) => Row.below (Row.below H1.out hBs) hv)
        have H21 := As.mk (fun (v : World) (hv : Below W1.heap.size W1 v) => Row.below (Row.below H2.out hBs) hv)
        have cSz := As.mk (fun (v : World) (hv : Below W1.heap.size W1 v) => psize_calls v _ _ l (hPs.out.below hv) (fun t ht => by have := hs60 t ht; omega) (by omega) (by omega))
        have hs60' := As.mk hs60
        have hsp := As.mk (fun (h : pset l ≠ []) => sumL_pos h)
        have hsn := As.mk (fun (h : pset l = []) => (by rw [h]; rfl : sumL (pset l) = 0))
        obtain ⟨sz, hsz⟩ : ∃ k, sumL (pset l) = k := ⟨_, rfl⟩
        rw [hsz] at cSz hsz0 hsp hsn
        by_cases h0 : wrongF ((x.toNat : Int) % 4) l = 0
        · have cx := As.mk (fun (v : World) (hv : Below W1.heap.size W1 v) => enew_yes v ((x.toNat : Int) % 4) _ _ l (hPs.out.below hv) hs60 hll h0)
          have csc := As.mk (fun (v : World) (g gm : Nat) (hv : Below W1.heap.size W1 v) (hE : EngAt v g ((x.toNat : Int) % 4) l) (cn : Cn) (hm : Mo v (some gm) cn) (hok : cn.room) => efind_calls v g _ l hE hs60'.out hll (some gm) cn hm hok B d X (H11.out v hv) (by omega))
          have csd := As.mk (fun (v : World) (g gm : Nat) (hv : Below W1.heap.size W1 v) (hE : EngAt v g ((x.toNat : Int) % 4) l) (cn : Cn) (hm : Mo v (some gm) cn) (hok : cn.room) => efind_calls v g _ l hE hs60'.out hll (some gm) cn hm hok E f Y (H21.out v hv) (by omega))
          have hsx := scanN_le ((x.toNat : Int) % 4) l X
          have hsy := scanN_le ((x.toNat : Int) % 4) l Y
          have hkx := lookN_le ((x.toNat : Int) % 4) l X
          have hky := lookN_le ((x.toNat : Int) % 4) l Y
          have hnone := As.mk (fun h => (⟨look_none (L := X) h, look_none (L := Y) h⟩ : (scanN ((x.toNat : Int) % 4) l X = 0 ∧ lookN ((x.toNat : Int) % 4) l X = 0) ∧ (scanN ((x.toNat : Int) % 4) l Y = 0 ∧ lookN ((x.toNat : Int) % 4) l Y = 0)))
          have hsx2 := As.mk (look_some (tag := (x.toNat : Int) % 4) (l := l) X)
          have hsy2 := As.mk (look_some (tag := (x.toNat : Int) % 4) (l := l) Y)
          generalize scanN ((x.toNat : Int) % 4) l X = sx at csc hsx hnone hsx2
          generalize scanN ((x.toNat : Int) % 4) l Y = sy at csd hsy hnone hsy2
          generalize lookN ((x.toNat : Int) % 4) l X = kx at csc hkx hnone hsx2
          generalize lookN ((x.toNat : Int) % 4) l Y = ky at csd hky hnone hsy2
          obtain ⟨nx, hnx⟩ : ∃ k, X.length = k := ⟨_, rfl⟩
          obtain ⟨ny, hny⟩ : ∃ k, Y.length = k := ⟨_, rfl⟩
          rw [hnx] at csc hg1 hgx hd hsx hkx hsx2 ⊢
          rw [hny] at csd hg2 hgy hsy hky hsy2 ⊢
          have hx5 := hx4
          replace hnx := As.mk hnx
          replace hny := As.mk hny
          replace hsz := As.mk hsz
          clear h0 hs60 hb hS htot HM HX hBs hF H1 H2 H11 H21 hY hx4
          go_wp2_with (first | (rw [hW1]) | (rw [hb1e]))
          refine Calls.mono (cx.out _ hWr) ?_
          rintro e w4 ⟨g, rfl, hE, hb4⟩
          have hk4 : Below W1.heap.size W1 w4 := hb4
          replace hE := As.mk hE
          go_wp2_with fail
          refine Calls.mono (mnew_calls _) ?_
          rintro e w5 ⟨rfl, hmt, hb5⟩
          have hmo := Mo.some_ hmt
          have hb15 := As.mk (belowNext hk4 hb5)
          replace hE := As.mk (hE.out.below hb5)
          have hzz := hk4.size
          obtain ⟨gm, hgm⟩ : ∃ g, w4.heap.size = g := ⟨_, rfl⟩
          rw [hgm] at hmo hmt hzz ⊢
          clear hmt hb5 hb4 hk4 cx hgm
          replace hmo := As.mk hmo
          go_wp2_with fail
          refine Calls.mono (csc.out w5 g gm hb15.out hE.out Cn.zero hmo.out Cn.zero_room) ?_
          rintro e w6 ⟨h6, hE6⟩
          have hb16 := As.mk (h6.young hb15.out hzz)
          obtain ⟨A6, c6, rfl, _, _, _, hm6, _, _⟩ := h6.out
          clear h6 hmo hb15 hE
          replace hm6 := As.mk hm6
          replace hE6 := As.mk hE6
          go_wp2_with fail
          refine Calls.mono (csd.out w6 g gm hb16.out hE6.out _ hm6.out (by unfold Cn.room Cn.more Cn.zero; simp only; omega)) ?_
          rintro e w7 ⟨h7, hE7⟩
          have hb17 := As.mk (h7.young hb16.out hzz)
          obtain ⟨A7, c7, rfl, _, _, _, hm7, _, _⟩ := h7.out
          clear h7 hm6 hb16 hE6 hE7 csc csd
          replace hm7 := As.mk hm7
          go_wp2_with fail
          refine Calls.mono (mcounts_calls _ gm _ (hm7.out gm rfl)) ?_
          rintro e w8 ⟨rfl, hb8⟩
          unfold cnCells Cn.more Cn.zero
          simp only [Int.zero_add]
          obtain ⟨S, hS⟩ : ∃ k : Int, (sx : Int) + (sy : Int) = k := ⟨_, rfl⟩
          obtain ⟨K, hK⟩ : ∃ k : Int, (kx : Int) + (ky : Int) = k := ⟨_, rfl⟩
          obtain ⟨N, hN⟩ : ∃ k : Int, (nx : Int) + (ny : Int) = k := ⟨_, rfl⟩
          rw [hS, hK]
          have i2 : IntKind.i64.wrap ((nx : Int) + (ny : Int)) = N := by rw [← hN]; exact IntWalk.i64_in _ (by omega)
          have i3 : IntKind.i64.wrap (2 * N) = 2 * N := IntWalk.i64_in _ (by omega)
          have hb18 := belowNext hb17.out hb8
          have hz2 := heap_alloc_new w8 (.cells #[.int .i64 S, .int .i64 K, .int .i64 0, .int .i64 0] 49)
          have hB2 : Below w8.heap.size w8 (w8.alloc (.cells #[.int .i64 S, .int .i64 K, .int .i64 0, .int .i64 0] 49)) := (Below.refl _ _).alloc (Nat.le_refl _) _
          obtain ⟨b2, hb2e⟩ : ∃ g, w8.heap.size = g := ⟨_, rfl⟩
          obtain ⟨W2, hW2⟩ : ∃ W, w8.alloc (.cells #[.int .i64 S, .int .i64 K, .int .i64 0, .int .i64 0] 49) = W := ⟨_, rfl⟩
          rw [hW2] at hz2 hB2
          have hb12 := As.mk (belowNext hb18 hB2)
          rw [hb2e] at hz2
          have u0 : ∀ v, Below W2.heap.size W2 v → v.cell? ⟨b2, 0, none⟩ = some (.int .i64 S) := fun v hv => cell_of_blk (blkBelow hv hz2) 0
          have u1 : ∀ v, Below W2.heap.size W2 v → v.cell? ⟨b2, 1, none⟩ = some (.int .i64 K) := fun v hv => cell_of_blk (blkBelow hv hz2) 1
          have u2 : ∀ v, Below W2.heap.size W2 v → v.cell? ⟨b2, 2, none⟩ = some (.int .i64 0) := fun v hv => cell_of_blk (blkBelow hv hz2) 2
          have u3 : ∀ v, Below W2.heap.size W2 v → v.cell? ⟨b2, 3, none⟩ = some (.int .i64 0) := fun v hv => cell_of_blk (blkBelow hv hz2) 3
          have v0 := q0 W2 hb12.out
          have v1 := q1 W2 hb12.out
          have v2 := q2 W2 hb12.out
          rw [← hW2] at v0 v1 v2
          clear hm7 hb17 hb8 hb18 hB2 q0 q1 q2 hz1
          replace hz2 := As.mk hz2
          replace hW2 := As.mk hW2
          replace hb2e := As.mk hb2e
          by_cases hp : pset l = []
          · have hn := hnone.out (.inl hp)
            have hS0 : S = 0 := by omega
            have hK0 : K = 0 := by omega
            have gz : ((sz : Int) == 0) = true := by rw [hsn.out hp]; rfl
            have gS0 : (S == 0) = true := by simp [hS0]
            have gK0 : (K == 0) = true := by simp [hK0]
            clear hS0 hK0
            clear hp hn hS hK hN hsp hsn hsx hsy hkx hky hsx2 hsy2 hnone
            go_wp2_with fail
            rw [hW2.out]
            refine Calls.mono (cSz.out _ hb12.out) ?_
            rintro e w9 ⟨rfl, hb9⟩
            have hb29 := As.mk (belowNext hb12.out hb9)
            have r0 := u0 w9 hb9
            have r1 := u1 w9 hb9
            have r2 := u2 w9 hb9
            have r3 := u3 w9 hb9
            clear hb9 u0 u1 u2 u3
            rw [hb2e.out]
            go_wp2_with fail
            all_goals first
              | (go_ret; exact ⟨rfl, belowNext hB1.out hb29.out⟩)
          · have hsp0 := hsp.out hp
            have gz : ((sz : Int) == 0) = false := by simp; omega
            by_cases ht : 1 < (x.toNat : Int) % 4
            · have hn := hnone.out (.inr ht)
              have hS0 : S = 0 := by omega
              have hK0 : K = 0 := by omega
              have gt : decide (1 < (x.toNat : Int) % 4) = true := decide_eq_true ht
              have gS0 : (S == 0) = true := by simp [hS0]
              have gK0 : (K == 0) = true := by simp [hK0]
              clear hS0 hK0
              clear hp hn hS hK hN hsp hsn hsx hsy hkx hky hsx2 hsy2 hnone
              go_wp2_with fail
              rw [hW2.out]
              refine Calls.mono (cSz.out _ hb12.out) ?_
              rintro e w9 ⟨rfl, hb9⟩
              have hb29 := As.mk (belowNext hb12.out hb9)
              have r0 := u0 w9 hb9
              have r1 := u1 w9 hb9
              have r2 := u2 w9 hb9
              have r3 := u3 w9 hb9
              clear hb9 u0 u1 u2 u3
              rw [hb2e.out]
              go_wp2_with fail
              all_goals first
                | (go_ret; exact ⟨rfl, belowNext hB1.out hb29.out⟩)
            · have gt : decide (1 < (x.toNat : Int) % 4) = false := decide_eq_false ht
              have hX := hsx2.out (fun h => h.elim hp ht)
              have hY := hsy2.out (fun h => h.elim hp ht)
              have hSN : S = N := by omega
              have p1 : decide (N ≤ K) = true := decide_eq_true (by omega)
              have p2 : decide (K ≤ 2 * N) = true := decide_eq_true (by omega)
              by_cases ht1 : (x.toNat : Int) % 4 = 1
              · have hKN : K = N := by have := hX.2.2.2 ht1; have := hY.2.2.2 ht1; omega
                have gt1 : ((x.toNat : Int) % 4 != 1) = false := by rw [ht1]; rfl
                subst hKN
                subst hSN
                replace ht1 := As.mk ht1
                clear hp hS hK hN hX hY hsp hsn hsx hsy hkx hky hsx2 hsy2 hnone
                go_wp2_with fail
                rw [hW2.out]
                refine Calls.mono (cSz.out _ hb12.out) ?_
                rintro e w9 ⟨rfl, hb9⟩
                have hb29 := As.mk (belowNext hb12.out hb9)
                have r0 := u0 w9 hb9
                have r1 := u1 w9 hb9
                have r2 := u2 w9 hb9
                have r3 := u3 w9 hb9
                clear hb9 u0 u1 u2 u3
                rw [hb2e.out]
                go_wp2_with fail
                all_goals first
                  | (go_ret; exact ⟨rfl, belowNext hB1.out hb29.out⟩)
              · have gt1 : ((x.toNat : Int) % 4 != 1) = true := by simp; exact ht1
                subst hSN
                replace ht1 := As.mk ht1
                clear hp hS hK hN hX hY hsp hsn hsx hsy hkx hky hsx2 hsy2 hnone
                go_wp2_with fail
                rw [hW2.out]
                refine Calls.mono (cSz.out _ hb12.out) ?_
                rintro e w9 ⟨rfl, hb9⟩
                have hb29 := As.mk (belowNext hb12.out hb9)
                have r0 := u0 w9 hb9
                have r1 := u1 w9 hb9
                have r2 := u2 w9 hb9
                have r3 := u3 w9 hb9
                clear hb9 u0 u1 u2 u3
                rw [hb2e.out]
                go_wp2_with fail
                all_goals first
                  | (go_ret; exact ⟨rfl, belowNext hB1.out hb29.out⟩)
        · have cx := As.mk (fun (v : World) (hv : Below W1.heap.size W1 v) => enew_no v ((x.toNat : Int) % 4) _ _ l (hPs.out.below hv) hs60 hll h0)
          generalize wrongF ((x.toNat : Int) % 4) l = q at *
          have hq : (q != 0) = true := by simp; exact h0
          clear h0 hs60 hb hS htot HM HX hBs hF
          go_wp2_with (first | (rw [hW1]) | (rw [hb1e]))
          refine Calls.mono (cx.out _ hWr) ?_
          rintro e w4 ⟨rfl, hb4⟩
          have hk4 : Below W1.heap.size W1 w4 := hb4
          go_wp2_with fail
          go_ret
          exact ⟨rfl, belowNext hB1.out hk4⟩
      · have hg2 : decide ((400 : Int) < (Y.length : Int)) = true := decide_eq_true (by omega)
        go_wp2
        go_ret
        exact ⟨rfl, hB.out⟩
    · have hg1 : decide ((400 : Int) < (X.length : Int)) = true := decide_eq_true (by omega)
      go_wp2
      go_ret
      exact ⟨rfl, hB.out⟩
  · --
    have hB := As.mk (Below.refl w.heap.size w)
    have HX := As.mk hx
    have HM := As.mk hm
    clear hx hm
    go_enter Tryz.func7, Tryz.ntmps7
    go_wp2_with fail
    refine Calls.mono (awake_calls _) ?_
    rintro e w1 ⟨rfl, hb⟩
    have hs := hb.size
    (try simp only [World.size_alloc, World.size_drew] at hs)
    replace hB := As.mk (belowNext hB.out (by (repeat (first | (with_reducible assumption) | (with_reducible exact Below.refl _ _) | (with_reducible refine Below.drew ?_) | (with_reducible refine below_drewN ?_ _) | (with_reducible refine Below.alloc ?_ (by (first | omega | (simp only [World.size_alloc, World.size_drew]; done) | (simp only [World.size_alloc, World.size_drew]; omega))) _) | (refine Below.trans ?_ (Below.mono (by with_reducible assumption) (by (first | omega | (simp only [World.size_alloc, World.size_drew]; done) | (simp only [World.size_alloc, World.size_drew]; omega))))))) : Below _ _ w1))
    replace HX := As.mk (HX.out.below (by (repeat (first | (with_reducible assumption) | (with_reducible exact Below.refl _ _) | (with_reducible refine Below.drew ?_) | (with_reducible refine below_drewN ?_ _) | (with_reducible refine Below.alloc ?_ (by (first | omega | (simp only [World.size_alloc, World.size_drew]; done) | (simp only [World.size_alloc, World.size_drew]; omega))) _) | (refine Below.trans ?_ (Below.mono (by with_reducible assumption) (by (first | omega | (simp only [World.size_alloc, World.size_drew]; done) | (simp only [World.size_alloc, World.size_drew]; omega))))))) : Below _ _ w1))
    replace H1 := As.mk (H1.out.below (by (repeat (first | (with_reducible assumption) | (with_reducible exact Below.refl _ _) | (with_reducible refine Below.drew ?_) | (with_reducible refine below_drewN ?_ _) | (with_reducible refine Below.alloc ?_ (by (first | omega | (simp only [World.size_alloc, World.size_drew]; done) | (simp only [World.size_alloc, World.size_drew]; omega))) _) | (refine Below.trans ?_ (Below.mono (by with_reducible assumption) (by (first | omega | (simp only [World.size_alloc, World.size_drew]; done) | (simp only [World.size_alloc, World.size_drew]; omega))))))) : Below _ _ w1))
    replace H2 := As.mk (H2.out.below (by (repeat (first | (with_reducible assumption) | (with_reducible exact Below.refl _ _) | (with_reducible refine Below.drew ?_) | (with_reducible refine below_drewN ?_ _) | (with_reducible refine Below.alloc ?_ (by (first | omega | (simp only [World.size_alloc, World.size_drew]; done) | (simp only [World.size_alloc, World.size_drew]; omega))) _) | (refine Below.trans ?_ (Below.mono (by with_reducible assumption) (by (first | omega | (simp only [World.size_alloc, World.size_drew]; done) | (simp only [World.size_alloc, World.size_drew]; omega))))))) : Below _ _ w1))
    replace hb := As.mk hb
    go_wp2_with fail
    refine Calls.mono (texts_calls _ A c l HX.out hc hr HM.out) ?_
    rintro e w2 ⟨⟨A2, c2, b, he, hb0, hS⟩, hb⟩; clear hr
    have hs := hb.size
    (try simp only [World.size_alloc, World.size_drew] at hs)
    replace hB := As.mk (belowNext hB.out (by (repeat (first | (with_reducible assumption) | (with_reducible exact Below.refl _ _) | (with_reducible refine Below.drew ?_) | (with_reducible refine below_drewN ?_ _) | (with_reducible refine Below.alloc ?_ (by (first | omega | (simp only [World.size_alloc, World.size_drew]; done) | (simp only [World.size_alloc, World.size_drew]; omega))) _) | (refine Below.trans ?_ (Below.mono (by with_reducible assumption) (by (first | omega | (simp only [World.size_alloc, World.size_drew]; done) | (simp only [World.size_alloc, World.size_drew]; omega))))))) : Below _ _ w2))
    replace HX := As.mk (HX.out.below (by (repeat (first | (with_reducible assumption) | (with_reducible exact Below.refl _ _) | (with_reducible refine Below.drew ?_) | (with_reducible refine below_drewN ?_ _) | (with_reducible refine Below.alloc ?_ (by (first | omega | (simp only [World.size_alloc, World.size_drew]; done) | (simp only [World.size_alloc, World.size_drew]; omega))) _) | (refine Below.trans ?_ (Below.mono (by with_reducible assumption) (by (first | omega | (simp only [World.size_alloc, World.size_drew]; done) | (simp only [World.size_alloc, World.size_drew]; omega))))))) : Below _ _ w2))
    replace H1 := As.mk (H1.out.below (by (repeat (first | (with_reducible assumption) | (with_reducible exact Below.refl _ _) | (with_reducible refine Below.drew ?_) | (with_reducible refine below_drewN ?_ _) | (with_reducible refine Below.alloc ?_ (by (first | omega | (simp only [World.size_alloc, World.size_drew]; done) | (simp only [World.size_alloc, World.size_drew]; omega))) _) | (refine Below.trans ?_ (Below.mono (by with_reducible assumption) (by (first | omega | (simp only [World.size_alloc, World.size_drew]; done) | (simp only [World.size_alloc, World.size_drew]; omega))))))) : Below _ _ w2))
    replace H2 := As.mk (H2.out.below (by (repeat (first | (with_reducible assumption) | (with_reducible exact Below.refl _ _) | (with_reducible refine Below.drew ?_) | (with_reducible refine below_drewN ?_ _) | (with_reducible refine Below.alloc ?_ (by (first | omega | (simp only [World.size_alloc, World.size_drew]; done) | (simp only [World.size_alloc, World.size_drew]; omega))) _) | (refine Below.trans ?_ (Below.mono (by with_reducible assumption) (by (first | omega | (simp only [World.size_alloc, World.size_drew]; done) | (simp only [World.size_alloc, World.size_drew]; omega))))))) : Below _ _ w2))
    replace hb := As.mk hb
    have hbf : (b && decide (l.length ≤ 12)) = false := by
      cases b with
      | false => rfl
      | true =>
        have h40 := of_decide_eq_true hb0.symm
        simp only [Bool.true_and, decide_eq_false_iff_not]
        exact fun h12 => hf ⟨h12, h40⟩
    obtain ⟨m, hm2⟩ : ∃ m, (if b = true then l.length else 0) = m := ⟨_, rfl⟩
    rw [hbf, hm2] at he
    subst he
    clear hS hb0 hbf hm2
    go_wp2
    go_ret
    exact ⟨rfl, hB.out⟩
end Go.Proofs.YtdiljmhikajjiaaGreat
