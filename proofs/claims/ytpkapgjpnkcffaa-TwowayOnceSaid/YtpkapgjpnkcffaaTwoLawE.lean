/- The walk of the law TwowayOnce. -/
import Derived.Test.YtpkapgjpnkcffaaTwoAwake
import Derived.Test.YtpkapgjpnkcffaaApp
import Derived.Deep.DrawnRows
import Derived.Deep.RegionHeld3
set_option linter.unusedVariables false
set_option linter.unusedSimpArgs false
namespace Go.Proofs.Ytpkapgjpnkcffaa
open Go.RowKit Seine.Trie Seine.Two Go.Proofs.YtpkapgjpnkcffaaW.PrintWords Go.Proofs.Ytpkapgjpnkcffaa.Ref
attribute [local go_sem ↓] Go.wp_at_zero Go.wp_at_succ


theorem nextF_at' {b l : Txt} {p : Nat} (h : isAt b l p = true) : nextF b l p = (p : Int) := by
  rcases Int.lt_or_le (nextF b l p) 0 with h0 | h0
  · have := (nextF_none h0).2 p (Nat.le_refl _)
    rw [this] at h; cases h
  · obtain ⟨i, h1, h2, h3, h4⟩ := nextF_some h0
    rcases Nat.eq_or_lt_of_le h2 with e | e
    · rw [h1, e]
    · have := h4 p (Nat.le_refl _) e
      rw [this] at h; cases h
theorem nextF_far {b l : Txt} {p : Nat} (h : l.length < p + b.length) : nextF b l p = -1 := by
  rcases Int.lt_or_le (nextF b l p) 0 with h0 | h0
  · exact (nextF_none h0).1
  · obtain ⟨i, h1, h2, h3, h4⟩ := nextF_some h0
    have := isAt_le h3
    omega
theorem keepsSet (w : World) (p : Addr) (u : Value) : Keeps (fun k => k = p.block) w (w.setCell p u) := ⟨rfl, rfl, rfl, by simp [World.setCell], fun i hi hn => Below.heap_setCell w p u i hn⟩
theorem TwoIn.far {w : World} {g : Nat} {b : Txt} {ad : Addr} {cb a s : Nat} {sm : Bool} (h : TwoIn w g b ad cb a s sm) {p : Addr} (h1 : g ≠ p.block) (h2 : ad.block ≠ p.block) (u : Value) : TwoIn (w.setCell p u) g b ad cb a s sm :=
  ⟨blk_far h.1 h1 u, h.2.1, h.2.2.1.keep (keepsSet w p u) (fun _ e _ => by injection e with e; subst e; exact h2), h.2.2.2⟩
theorem byt_one' {b : Txt} : ∀ u ∈ byCells b, u.oneCell' = true := fun u hu => by
  obtain ⟨x, _, rfl⟩ := List.mem_map.1 hu; rfl
theorem occ_step {b l : Txt} {p j : Nat} {R : List Pr} (h : occFrom b l p = R.drop j) (hj : j < R.length) : ∃ i : Nat, nextF b l p = (i : Int) ∧ p ≤ i ∧ isAt b l i = true ∧ R.getD j (0, 0) = ((i : Int), (i : Int) + (b.length : Int)) ∧ occFrom b l (i + 1) = R.drop (j + 1) := by
  rcases Int.lt_or_le (nextF b l p) 0 with h0 | h0
  · rw [occ_none h0] at h
    have := congrArg List.length h
    rw [List.length_drop] at this
    simp at this; omega
  · obtain ⟨i, h1, h2, h3, h4⟩ := nextF_some h0
    have := occ_some h1
    rw [h, List.drop_eq_getElem_cons hj] at this
    injection this with e1 e2
    refine ⟨i, h1, h2, h3, ?_, e2.symm⟩
    rw [List.getD_eq_getElem?_getD, List.getElem?_eq_getElem hj]; exact e1
set_option maxRecDepth 100000 in
set_option maxHeartbeats 1600000 in
theorem once_walk (A : Option Addr) (c : Nat) (b : Txt) (B : Option Addr) (d : Nat) (l : Txt) (w : World) (hb : Byt w A b) (hc : b.length ≤ c) (hcm : c ≤ maxLen) (hl : Byt w B l) (hd : l.length ≤ d) (hdm : d ≤ maxLen) :
    Calls Try.prog 6 #[.slice A b.length c, .slice B l.length d] w fun e w' => e = .returned (.bool true) ∧ Below w.heap.size w w' := by
  have hu25 := Try.underlying35
  by_cases hf : b.length ≤ 100 ∧ l.length ≤ 300
  · obtain ⟨hf1, hf2⟩ := hf
    by_cases hne : b = []
    · subst hne
      have hB := As.mk (Below.refl w.heap.size w)
      have HX := As.mk hb
      have HY := As.mk hl
      unfold maxLen at hcm hdm
      clear hb hl
      go_enter Try.func6, Try.ntmps6
      go_wp2_with fail
      refine Calls.mono (awake_calls _) ?_
      rintro e w1 ⟨rfl, hb⟩
      have hs := hb.size
      (try simp only [World.size_alloc, World.size_drew] at hs)
      replace hB := As.mk (belowNext hB.out (by (repeat (first | (with_reducible assumption) | (with_reducible exact Below.refl _ _) | (with_reducible refine Below.drew ?_) | (with_reducible refine below_drewN ?_ _) | (with_reducible refine Below.alloc ?_ (by (first | omega | (simp only [World.size_alloc, World.size_drew]; done) | (simp only [World.size_alloc, World.size_drew]; omega))) _) | (refine Below.trans ?_ (Below.mono (by with_reducible assumption) (by (first | omega | (simp only [World.size_alloc, World.size_drew]; done) | (simp only [World.size_alloc, World.size_drew]; omega))))))) : Below _ _ w1))
      replace HX := As.mk (HX.out.below (by (repeat (first | (with_reducible assumption) | (with_reducible exact Below.refl _ _) | (with_reducible refine Below.drew ?_) | (with_reducible refine below_drewN ?_ _) | (with_reducible refine Below.alloc ?_ (by (first | omega | (simp only [World.size_alloc, World.size_drew]; done) | (simp only [World.size_alloc, World.size_drew]; omega))) _) | (refine Below.trans ?_ (Below.mono (by with_reducible assumption) (by (first | omega | (simp only [World.size_alloc, World.size_drew]; done) | (simp only [World.size_alloc, World.size_drew]; omega))))))) : Below _ _ w1))
      replace HY := As.mk (HY.out.below (by (repeat (first | (with_reducible assumption) | (with_reducible exact Below.refl _ _) | (with_reducible refine Below.drew ?_) | (with_reducible refine below_drewN ?_ _) | (with_reducible refine Below.alloc ?_ (by (first | omega | (simp only [World.size_alloc, World.size_drew]; done) | (simp only [World.size_alloc, World.size_drew]; omega))) _) | (refine Below.trans ?_ (Below.mono (by with_reducible assumption) (by (first | omega | (simp only [World.size_alloc, World.size_drew]; done) | (simp only [World.size_alloc, World.size_drew]; omega))))))) : Below _ _ w1))
      replace hb := As.mk hb
      go_wp2_with fail
      refine Calls.mono (few_calls _ A B c d [] l HX.out HY.out hc hd (by omega) (by omega) true (decide_eq_true (And.intro hf1 hf2)).symm) ?_
      rintro e w2 ⟨rfl, hb⟩
      have hs := hb.size
      (try simp only [World.size_alloc, World.size_drew] at hs)
      replace hB := As.mk (belowNext hB.out (by (repeat (first | (with_reducible assumption) | (with_reducible exact Below.refl _ _) | (with_reducible refine Below.drew ?_) | (with_reducible refine below_drewN ?_ _) | (with_reducible refine Below.alloc ?_ (by (first | omega | (simp only [World.size_alloc, World.size_drew]; done) | (simp only [World.size_alloc, World.size_drew]; omega))) _) | (refine Below.trans ?_ (Below.mono (by with_reducible assumption) (by (first | omega | (simp only [World.size_alloc, World.size_drew]; done) | (simp only [World.size_alloc, World.size_drew]; omega))))))) : Below _ _ w2))
      replace HX := As.mk (HX.out.below (by (repeat (first | (with_reducible assumption) | (with_reducible exact Below.refl _ _) | (with_reducible refine Below.drew ?_) | (with_reducible refine below_drewN ?_ _) | (with_reducible refine Below.alloc ?_ (by (first | omega | (simp only [World.size_alloc, World.size_drew]; done) | (simp only [World.size_alloc, World.size_drew]; omega))) _) | (refine Below.trans ?_ (Below.mono (by with_reducible assumption) (by (first | omega | (simp only [World.size_alloc, World.size_drew]; done) | (simp only [World.size_alloc, World.size_drew]; omega))))))) : Below _ _ w2))
      replace HY := As.mk (HY.out.below (by (repeat (first | (with_reducible assumption) | (with_reducible exact Below.refl _ _) | (with_reducible refine Below.drew ?_) | (with_reducible refine below_drewN ?_ _) | (with_reducible refine Below.alloc ?_ (by (first | omega | (simp only [World.size_alloc, World.size_drew]; done) | (simp only [World.size_alloc, World.size_drew]; omega))) _) | (refine Below.trans ?_ (Below.mono (by with_reducible assumption) (by (first | omega | (simp only [World.size_alloc, World.size_drew]; done) | (simp only [World.size_alloc, World.size_drew]; omega))))))) : Below _ _ w2))
      replace hb := As.mk hb
      go_wp2
      go_ret
      exact ⟨rfl, hB.out⟩
    · --
      have hb0 : 0 < b.length := List.length_pos_iff.2 hne
      have hn0 : ((b.length : Int) == 0) = false := by simp; omega
      have hB := As.mk (Below.refl w.heap.size w)
      have HX := As.mk hb
      have HY := As.mk hl
      unfold maxLen at hcm hdm
      clear hb hl
      go_enter Try.func6, Try.ntmps6
      go_wp2_with fail
      refine Calls.mono (awake_calls _) ?_
      rintro e w1 ⟨rfl, hb⟩
      have hs := hb.size
      (try simp only [World.size_alloc, World.size_drew] at hs)
      replace hB := As.mk (belowNext hB.out (by (repeat (first | (with_reducible assumption) | (with_reducible exact Below.refl _ _) | (with_reducible refine Below.drew ?_) | (with_reducible refine below_drewN ?_ _) | (with_reducible refine Below.alloc ?_ (by (first | omega | (simp only [World.size_alloc, World.size_drew]; done) | (simp only [World.size_alloc, World.size_drew]; omega))) _) | (refine Below.trans ?_ (Below.mono (by with_reducible assumption) (by (first | omega | (simp only [World.size_alloc, World.size_drew]; done) | (simp only [World.size_alloc, World.size_drew]; omega))))))) : Below _ _ w1))
      replace HX := As.mk (HX.out.below (by (repeat (first | (with_reducible assumption) | (with_reducible exact Below.refl _ _) | (with_reducible refine Below.drew ?_) | (with_reducible refine below_drewN ?_ _) | (with_reducible refine Below.alloc ?_ (by (first | omega | (simp only [World.size_alloc, World.size_drew]; done) | (simp only [World.size_alloc, World.size_drew]; omega))) _) | (refine Below.trans ?_ (Below.mono (by with_reducible assumption) (by (first | omega | (simp only [World.size_alloc, World.size_drew]; done) | (simp only [World.size_alloc, World.size_drew]; omega))))))) : Below _ _ w1))
      replace HY := As.mk (HY.out.below (by (repeat (first | (with_reducible assumption) | (with_reducible exact Below.refl _ _) | (with_reducible refine Below.drew ?_) | (with_reducible refine below_drewN ?_ _) | (with_reducible refine Below.alloc ?_ (by (first | omega | (simp only [World.size_alloc, World.size_drew]; done) | (simp only [World.size_alloc, World.size_drew]; omega))) _) | (refine Below.trans ?_ (Below.mono (by with_reducible assumption) (by (first | omega | (simp only [World.size_alloc, World.size_drew]; done) | (simp only [World.size_alloc, World.size_drew]; omega))))))) : Below _ _ w1))
      replace hb := As.mk hb
      go_wp2_with fail
      refine Calls.mono (few_calls _ A B c d b l HX.out HY.out hc hd (by omega) (by omega) true (decide_eq_true (And.intro hf1 hf2)).symm) ?_
      rintro e w2 ⟨rfl, hb⟩
      have hs := hb.size
      (try simp only [World.size_alloc, World.size_drew] at hs)
      replace hB := As.mk (belowNext hB.out (by (repeat (first | (with_reducible assumption) | (with_reducible exact Below.refl _ _) | (with_reducible refine Below.drew ?_) | (with_reducible refine below_drewN ?_ _) | (with_reducible refine Below.alloc ?_ (by (first | omega | (simp only [World.size_alloc, World.size_drew]; done) | (simp only [World.size_alloc, World.size_drew]; omega))) _) | (refine Below.trans ?_ (Below.mono (by with_reducible assumption) (by (first | omega | (simp only [World.size_alloc, World.size_drew]; done) | (simp only [World.size_alloc, World.size_drew]; omega))))))) : Below _ _ w2))
      replace HX := As.mk (HX.out.below (by (repeat (first | (with_reducible assumption) | (with_reducible exact Below.refl _ _) | (with_reducible refine Below.drew ?_) | (with_reducible refine below_drewN ?_ _) | (with_reducible refine Below.alloc ?_ (by (first | omega | (simp only [World.size_alloc, World.size_drew]; done) | (simp only [World.size_alloc, World.size_drew]; omega))) _) | (refine Below.trans ?_ (Below.mono (by with_reducible assumption) (by (first | omega | (simp only [World.size_alloc, World.size_drew]; done) | (simp only [World.size_alloc, World.size_drew]; omega))))))) : Below _ _ w2))
      replace HY := As.mk (HY.out.below (by (repeat (first | (with_reducible assumption) | (with_reducible exact Below.refl _ _) | (with_reducible refine Below.drew ?_) | (with_reducible refine below_drewN ?_ _) | (with_reducible refine Below.alloc ?_ (by (first | omega | (simp only [World.size_alloc, World.size_drew]; done) | (simp only [World.size_alloc, World.size_drew]; omega))) _) | (refine Below.trans ?_ (Below.mono (by with_reducible assumption) (by (first | omega | (simp only [World.size_alloc, World.size_drew]; done) | (simp only [World.size_alloc, World.size_drew]; omega))))))) : Below _ _ w2))
      replace hb := As.mk hb
      obtain ⟨n, hn⟩ : ∃ n, b.length = n := ⟨_, rfl⟩
      obtain ⟨m, hm⟩ : ∃ m, l.length = m := ⟨_, rfl⟩
      have hn' := As.mk hn
      have hm' := As.mk hm
      rw [hn] at hb0 hn0 hf1 hc ⊢
      rw [hm] at hf2 hd ⊢
      clear hn hm hne
      go_wp2_with (at_builtin
                   refine wpList_apps _ rfl (.tmp 28) (.tmp 29) 22 rfl w2.heap.size 5 _ 1 1 Try.underlying22 info_u8 rfl (by decide) _ 0 [] rfl (World.ownsRow_nil _ _ _ _) _ n c (byCells b) HX.out (by rw [byCells_length, hn'.out, Nat.mul_one]) byt_one' rfl (by omega) (by decide) (Nat.le_refl _) ?_
                   intro v3 w3 ho3 hb3
                   rw [Nat.zero_add, List.nil_append] at ho3
                   obtain ⟨kb, c3, rfl, hkb, hkb2⟩ := ho3.form hb0
                   have hc3 : n ≤ c3 := by obtain ⟨A', c', e', h'⟩ := own_slice ho3; injection e' with _ _ e'; omega)
      have hl3 := Row.of_own ho3
      have cnw := As.mk (new_calls2 w3 ⟨kb, 0, none⟩ c3 b hl3 (by have := hn'.out; omega) (by have := hn'.out; omega) (by have := hn'.out; omega))
      rw [hn'.out] at cnw
      refine Calls.mono cnw.out ?_
      rintro e w4 ⟨g, ad, cq, a, s, sm, rfl, hT, ⟨hg1, hg2⟩, hb4⟩
      replace hT := As.mk hT
      have hown4 := As.mk (own_below ho3 hb4)
      have hbel4 := As.mk (hb3.trans (Below.mono hb4 (by have := hb3.size; omega)))
      have hgk : g ≠ kb := by omega
      have hak : ad.block ≠ kb := by omega
      have hc31 : (n : Int) ≤ (c3 : Int) := by omega
      clear hl3 cnw ho3 hb3 hb4 hg1 hg2 hkb2
      go_wp2
      go_loopg [10] (n + 1) (fun gk i wr => ∃ (j : Nat) (x : Txt), As (n + 1 ≤ gk + j) ∧ i = .int .i64 j ∧ j ≤ n ∧ As (x.length = n) ∧ As (wr.ownsRow w2.heap.size 5 1 (.slice (some ⟨kb, 0, none⟩) n c3) n (byCells x)) ∧ As (TwoIn wr g b ad cq a s sm) ∧ As (Below w2.heap.size w2 wr))
      case atStart => exact ⟨0, b, ⟨by omega⟩, rfl, Nat.zero_le _, hn', hown4, hT, hbel4⟩
      case round =>
        obtain ⟨j, x, hgk1, rfl, hj, hx, hown, hTr, hbel⟩ := hrel
        by_cases hlt : j < n
        · obtain ⟨gp, rfl⟩ : ∃ gp, gk = gp + 1 := ⟨gk - 1, by have := hgk1.out; omega⟩
          obtain ⟨ad', e', hcell⟩ := Byt.at_ (Row.of_own hown.out) (i := j) (by rw [hx.out]; exact hlt)
          injection e' with e'
          subst e'
          rw [show (⟨kb, 0, none⟩ : Addr).add j = ⟨kb, j, none⟩ from by unfold Addr.add; split <;> simp_all] at hcell
          have hfr : wr.frozen? ⟨kb, j, none⟩ = false := World.ownsRow.frozenAt hown.out _
          obtain ⟨v, hv⟩ : ∃ v, x.getD j 0 = v := ⟨_, rfl⟩
          rw [hv] at hcell
          have hwv : IntKind.u8.wrap ((v.toNat : Int) + 1) = ((v + 1).toNat : Int) := by
            rw [UInt8.toNat_add]
            simp [IntKind.wrap, IntKind.signed, IntKind.bits]
          have s1 := As.mk (World.ownsRow.stored hown.out j (.int .u8 ((v + 1).toNat : Int))).1
          have s2 := As.mk (hTr.out.far (p := ⟨kb, j, none⟩) hgk hak (.int .u8 ((v + 1).toNat : Int)))
          have s3 := As.mk (hbel.out.setCell (p := ⟨kb, j, none⟩) hkb (.int .u8 ((v + 1).toNat : Int)))
          have s4 : (byCells x).set j (.int .u8 ((v + 1).toNat : Int)) = byCells (x.set j (v + 1)) := by unfold byCells; rw [List.map_set]
          rw [s4] at s1
          clear hv s4
          go_wp2
          go_roundg gp
          case rel => exact ⟨j + 1, x.set j (v + 1), ⟨by have := hgk1.out; omega⟩, (by first | rfl | go_num | (congr 1; omega)), by omega, ⟨by rw [List.length_set]; exact hx.out⟩, s1, s2, s3⟩
          case measure => omega
        · obtain rfl : n = j := by omega
          have hL := As.mk (Row.below HY.out (Below.mono hbel.out (Nat.le_refl _)))
          have hBr := As.mk (belowNext hB.out hbel.out)
          have csc := As.mk (scan_calls wr g b ad cq a s sm hTr.out (by have := hn'.out; omega) B d l hL.out (by have := hm'.out; omega))
          rw [hm'.out] at csc
          clear hown
          go_wp2_with fail
          refine Calls.mono csc.out ?_
          intro e w5 h5
          obtain ⟨A5, c5, rfl, hc5, hr5, hb5⟩ := h5.row
          have hR0 : occFrom b l 0 = (occFrom b l 0).drop 0 := rfl
          have hRl := occ_length b l 0
          rw [hm'.out] at hRl
          obtain ⟨R, hR⟩ : ∃ R, occFrom b l 0 = R := ⟨_, rfl⟩
          rw [hR] at hc5 hr5 hRl ⊢
          have hR0 : As (occFrom b l 0 = R.drop 0) := ⟨hR⟩
          obtain ⟨rl, hrl⟩ : ∃ k, R.length = k := ⟨_, rfl⟩
          rw [hrl] at hc5 hRl ⊢
          replace hrl := As.mk hrl
          have hr5 := As.mk hr5
          have hT5 := As.mk (hTr.out.below hb5)
          have hL5 := As.mk (Row.below hL.out hb5)
          have hB5 := As.mk (belowNext hBr.out hb5)
          have cN := As.mk (fun (v : World) (hv : Below w5.heap.size w5 v) (z : Int) => (by have := next_calls v g b ad cq a s sm (hT5.out.below hv) (by have := hn'.out; omega) B d l (Row.below hL5.out hv) (by have := hm'.out; omega) z; rw [hm'.out] at this; exact this : Calls Try.prog 12 #[.pointer (some ⟨g, 0, none⟩), .slice B m d, .int .i64 z] v fun e w' => e = .returned (.int .i64 (nextF b l z.toNat)) ∧ Below v.heap.size v w'))
          clear h5 hb5 hBr hT hTr hown4 hbel4 hR hL hbel csc hb hx
          go_wp2_with fail
          go_loopg [12, 13] (rl + 1) (fun gk i q wr => ∃ (j f : Nat), As (rl + 1 ≤ gk + j) ∧ q = .int .i64 j ∧ j ≤ rl ∧ i = .int .i64 f ∧ f ≤ m + 1 ∧ As (occFrom b l f = R.drop j) ∧ As (Below w5.heap.size w5 wr))
          case atStart => exact ⟨0, 0, ⟨by omega⟩, rfl, Nat.zero_le _, rfl, by omega, hR0, ⟨Below.refl _ _⟩⟩
          case round =>
            obtain ⟨j, f, hgk2, rfl, hj, rfl, hfm, hocc, hbel⟩ := hrel
            have hBr := As.mk (belowNext hB5.out hbel.out)
            by_cases hlt : j < rl
            · obtain ⟨gp, rfl⟩ : ∃ gp, gk = gp + 1 := ⟨gk - 1, by have := hgk2.out; omega⟩
              obtain ⟨i, k1, k2, k3, k4, k5⟩ := occ_step hocc.out (by rw [hrl.out]; exact hlt)
              have hcl := As.mk (fun v (hv : Below w5.heap.size w5 v) => Prs.at_ (Row.below hr5.out hv) (i := j) (by rw [hrl.out]; exact hlt))
              rw [k4, hn'.out] at hcl
              have k6 := isAt_le k3
              rw [hn'.out, hm'.out] at k6
              have d1 := As.mk (cN.out wr hbel.out (f : Int))
              rw [Int.toNat_natCast, k1] at d1
              have d2 := As.mk (fun v hv => cN.out v hv (i : Int))
              rw [Int.toNat_natCast, nextF_at' k3] at d2
              replace k5 := As.mk k5
              clear k1 k3 k4
              go_wp2_with fail
              refine Calls.mono d1.out ?_
              rintro e w6 ⟨rfl, hb6⟩
              have hb56 := As.mk (belowNext hbel.out hb6)
              have hwr := As.mk hbel.out.size
              obtain ⟨ad5, rfl, a1, a2⟩ := hcl.out _ hb56.out
              go_wp2_with fail
              refine Calls.mono (d2.out _ hb56.out) ?_
              rintro e w7 ⟨rfl, hb7⟩
              have hb57 := As.mk (belowNext hb56.out hb7)
              clear a1 a2
              obtain ⟨ad5', e5, a1, a2⟩ := hcl.out _ hb57.out
              injection e5 with e5
              subst e5
              have hfi : decide ((i : Int) < (f : Int)) = false := decide_eq_false (by omega)
              clear hb6 hb7
              go_wp2
              go_roundg gp
              case rel => exact ⟨j + 1, i + 1, ⟨by have := hgk2.out; omega⟩, (by first | rfl | go_num | (congr 1; omega)), by omega, (by first | rfl | go_num | (congr 1; omega)), by omega, k5, hb57⟩
              case measure => omega
            · obtain rfl : rl = j := by omega
              have hno : nextF b l f = -1 := by
                rcases Int.lt_or_le (nextF b l f) 0 with h0 | h0
                · exact (nextF_none h0).1
                · obtain ⟨i, k1, _⟩ := nextF_some h0
                  have h2 := hocc.out
                  rw [occ_some k1, List.drop_of_length_le (by have := hrl.out; omega)] at h2
                  cases h2
              have e1 := As.mk (cN.out wr hbel.out (f : Int))
              rw [Int.toNat_natCast, hno] at e1
              have e2 := As.mk (fun v hv => cN.out v hv (m : Int))
              rw [Int.toNat_natCast, nextF_far (by have := hn'.out; have := hm'.out; omega)] at e2
              have e3 := As.mk (fun v hv => cN.out v hv ((m : Int) + 5))
              rw [show ((m : Int) + 5).toNat = m + 5 by omega, nextF_far (by have := hn'.out; have := hm'.out; omega)] at e3
              clear hno
              go_wp2_with fail
              refine Calls.mono e1.out ?_
              rintro e w6 ⟨rfl, hb6⟩
              have hb56 := As.mk (belowNext hbel.out hb6)
              go_wp2_with fail
              refine Calls.mono (e2.out _ hb56.out) ?_
              rintro e w7 ⟨rfl, hb7⟩
              have hb57 := As.mk (belowNext hb56.out hb7)
              go_wp2_with fail
              refine Calls.mono (e3.out _ hb57.out) ?_
              rintro e w8 ⟨rfl, hb8⟩
              have hb58 := As.mk (belowNext (belowNext hB5.out hb57.out) hb8)
              go_wp2
              go_ret
              exact ⟨rfl, hb58.out⟩
  · --
    have hB := As.mk (Below.refl w.heap.size w)
    have HX := As.mk hb
    have HY := As.mk hl
    unfold maxLen at hcm hdm
    clear hb hl
    go_enter Try.func6, Try.ntmps6
    go_wp2_with fail
    refine Calls.mono (awake_calls _) ?_
    rintro e w1 ⟨rfl, hb⟩
    have hs := hb.size
    (try simp only [World.size_alloc, World.size_drew] at hs)
    replace hB := As.mk (belowNext hB.out (by (repeat (first | (with_reducible assumption) | (with_reducible exact Below.refl _ _) | (with_reducible refine Below.drew ?_) | (with_reducible refine below_drewN ?_ _) | (with_reducible refine Below.alloc ?_ (by (first | omega | (simp only [World.size_alloc, World.size_drew]; done) | (simp only [World.size_alloc, World.size_drew]; omega))) _) | (refine Below.trans ?_ (Below.mono (by with_reducible assumption) (by (first | omega | (simp only [World.size_alloc, World.size_drew]; done) | (simp only [World.size_alloc, World.size_drew]; omega))))))) : Below _ _ w1))
    replace HX := As.mk (HX.out.below (by (repeat (first | (with_reducible assumption) | (with_reducible exact Below.refl _ _) | (with_reducible refine Below.drew ?_) | (with_reducible refine below_drewN ?_ _) | (with_reducible refine Below.alloc ?_ (by (first | omega | (simp only [World.size_alloc, World.size_drew]; done) | (simp only [World.size_alloc, World.size_drew]; omega))) _) | (refine Below.trans ?_ (Below.mono (by with_reducible assumption) (by (first | omega | (simp only [World.size_alloc, World.size_drew]; done) | (simp only [World.size_alloc, World.size_drew]; omega))))))) : Below _ _ w1))
    replace HY := As.mk (HY.out.below (by (repeat (first | (with_reducible assumption) | (with_reducible exact Below.refl _ _) | (with_reducible refine Below.drew ?_) | (with_reducible refine below_drewN ?_ _) | (with_reducible refine Below.alloc ?_ (by (first | omega | (simp only [World.size_alloc, World.size_drew]; done) | (simp only [World.size_alloc, World.size_drew]; omega))) _) | (refine Below.trans ?_ (Below.mono (by with_reducible assumption) (by (first | omega | (simp only [World.size_alloc, World.size_drew]; done) | (simp only [World.size_alloc, World.size_drew]; omega))))))) : Below _ _ w1))
    replace hb := As.mk hb
    go_wp2_with fail
    refine Calls.mono (few_calls _ A B c d b l HX.out HY.out hc hd (by omega) (by omega) false (decide_eq_false hf).symm) ?_
    rintro e w2 ⟨rfl, hb⟩
    have hs := hb.size
    (try simp only [World.size_alloc, World.size_drew] at hs)
    replace hB := As.mk (belowNext hB.out (by (repeat (first | (with_reducible assumption) | (with_reducible exact Below.refl _ _) | (with_reducible refine Below.drew ?_) | (with_reducible refine below_drewN ?_ _) | (with_reducible refine Below.alloc ?_ (by (first | omega | (simp only [World.size_alloc, World.size_drew]; done) | (simp only [World.size_alloc, World.size_drew]; omega))) _) | (refine Below.trans ?_ (Below.mono (by with_reducible assumption) (by (first | omega | (simp only [World.size_alloc, World.size_drew]; done) | (simp only [World.size_alloc, World.size_drew]; omega))))))) : Below _ _ w2))
    replace HX := As.mk (HX.out.below (by (repeat (first | (with_reducible assumption) | (with_reducible exact Below.refl _ _) | (with_reducible refine Below.drew ?_) | (with_reducible refine below_drewN ?_ _) | (with_reducible refine Below.alloc ?_ (by (first | omega | (simp only [World.size_alloc, World.size_drew]; done) | (simp only [World.size_alloc, World.size_drew]; omega))) _) | (refine Below.trans ?_ (Below.mono (by with_reducible assumption) (by (first | omega | (simp only [World.size_alloc, World.size_drew]; done) | (simp only [World.size_alloc, World.size_drew]; omega))))))) : Below _ _ w2))
    replace HY := As.mk (HY.out.below (by (repeat (first | (with_reducible assumption) | (with_reducible exact Below.refl _ _) | (with_reducible refine Below.drew ?_) | (with_reducible refine below_drewN ?_ _) | (with_reducible refine Below.alloc ?_ (by (first | omega | (simp only [World.size_alloc, World.size_drew]; done) | (simp only [World.size_alloc, World.size_drew]; omega))) _) | (refine Below.trans ?_ (Below.mono (by with_reducible assumption) (by (first | omega | (simp only [World.size_alloc, World.size_drew]; done) | (simp only [World.size_alloc, World.size_drew]; omega))))))) : Below _ _ w2))
    replace hb := As.mk hb
    go_wp2
    go_ret
    exact ⟨rfl, hB.out⟩
end Go.Proofs.Ytpkapgjpnkcffaa
