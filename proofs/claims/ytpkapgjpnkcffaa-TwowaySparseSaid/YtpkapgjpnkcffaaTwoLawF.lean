/- The walk of the law TwowaySparse. -/
import Derived.Test.YtpkapgjpnkcffaaM2
import Derived.Test.YtpkapgjpnkcffaaM3
import Derived.Test.YtpkapgjpnkcffaaM6
set_option linter.unusedVariables false
set_option linter.unusedSimpArgs false
namespace Go.Proofs.Ytpkapgjpnkcffaa
open Go.RowKit Seine.Trie Seine.Two Seine.Sparse Go.Proofs.YtpkapgjpnkcffaaW.PrintWords Go.Proofs.Ytpkapgjpnkcffaa.Ref
open Seine.Sort (occ occTo_len)

theorem RetPrsM.plain1 {w w' : World} {xs : List Pr} {cn : Cn} {e : Ending} (h : RetPrsM w none xs cn e w') : RetPrs w xs e w' := by
  obtain ⟨v, he, ho, _, hk⟩ := h
  exact ⟨v, he, ho, hk.below (fun k _ hS => by cases hS) (Nat.le_refl _)⟩
theorem txtsOne {w : World} {b t : Nat} {A : Option Addr} {x : Txt} {c : Nat} {fr : Nat × Nat} (h : w.heap[b]? = some (.cells #[.slice A x.length c] t fr)) (hc : x.length ≤ c) (hx : Byt w A x) : Txts w (some ⟨b, 0, none⟩) [x] :=
  ⟨[.slice A x.length c], rfl, rowOfBlk (cs := [.slice A x.length c]) h, fun i hi => by
    match i, hi with
    | 0, _ => exact ⟨A, c, rfl, hc, hx⟩⟩
theorem one_paths {b : Txt} : ∀ p ∈ paths [b], p.length ≤ b.length := fun p hp => by
  rcases mem_paths.1 hp with rfl | ⟨x, hx, k, hk, rfl⟩
  · simp
  · rw [List.mem_singleton] at hx; subst hx; rw [List.length_take]; omega
set_option maxRecDepth 100000 in
set_option maxHeartbeats 1600000 in
theorem tsparse_walk (A : Option Addr) (c : Nat) (b : Txt) (B : Option Addr) (d : Nat) (l : Txt) (w : World) (hb : Byt w A b) (hc : b.length ≤ c) (hcm : c ≤ maxLen) (hl : Byt w B l) (hd : l.length ≤ d) (hdm : d ≤ maxLen) :
    Calls Try.prog 8 #[.slice A b.length c, .slice B l.length d] w fun e w' => e = .returned (.bool true) ∧ Below w.heap.size w w' := by
  by_cases hf : b.length ≤ 100 ∧ l.length ≤ 300
  · obtain ⟨hf1, hf2⟩ := hf
    by_cases hne : b = []
    · subst hne
      have hB := As.mk (Below.refl w.heap.size w)
      have HX := As.mk hb
      have HY := As.mk hl
      unfold maxLen at hcm hdm
      clear hb hl
      go_enter Try.func8, Try.ntmps8
      go_wp2_with fail
      refine Calls.mono (awake_calls _) ?_
      rintro e w1 ⟨rfl, hb⟩
      have hs := hb.size
      (try simp only [World.size_alloc, World.size_drew] at hs)
      replace hB := As.mk (belowNext hB.out (by (repeat (first | (with_reducible assumption) | (with_reducible exact Below.refl _ _) | (with_reducible refine Below.drew ?_) | (with_reducible refine below_drewN ?_ _) | (with_reducible refine Below.alloc ?_ (by (first | omega | (simp only [World.size_alloc, World.size_drew]; done) | (simp only [World.size_alloc, World.size_drew]; omega))) _) | (refine Below.trans ?_ (Below.mono (by with_reducible assumption) (by (first | omega | (simp only [World.size_alloc, World.size_drew]; done) | (simp only [World.size_alloc, World.size_drew]; omega))))))) : Below _ _ w1))
      replace HX := As.mk (HX.out.below (by (repeat (first | (with_reducible assumption) | (with_reducible exact Below.refl _ _) | (with_reducible refine Below.drew ?_) | (with_reducible refine below_drewN ?_ _) | (with_reducible refine Below.alloc ?_ (by (first | omega | (simp only [World.size_alloc, World.size_drew]; done) | (simp only [World.size_alloc, World.size_drew]; omega))) _) | (refine Below.trans ?_ (Below.mono (by with_reducible assumption) (by (first | omega | (simp only [World.size_alloc, World.size_drew]; done) | (simp only [World.size_alloc, World.size_drew]; omega))))))) : Below _ _ w1))
      replace HY := As.mk (HY.out.below (by (repeat (first | (with_reducible assumption) | (with_reducible exact Below.refl _ _) | (with_reducible refine Below.drew ?_) | (with_reducible refine below_drewN ?_ _) | (with_reducible refine Below.alloc ?_ (by (first | omega | (simp only [World.size_alloc, World.size_drew]; done) | (simp only [World.size_alloc, World.size_drew]; omega))) _) | (refine Below.trans ?_ (Below.mono (by with_reducible assumption) (by (first | omega | (simp only [World.size_alloc, World.size_drew]; done) | (simp only [World.size_alloc, World.size_drew]; omega))))))) : Below _ _ w1))
      replace hb := As.mk hb
      go_wp2_with fail
      refine Calls.mono (few_calls _ A B c d [] l HX.out HY.out hc hd (by omega) (by omega) true (decide_eq_true (And.intro hf1 hf2)).symm) ?_
      rintro e w2 ⟨rfl, hb⟩
      have hs := hb.size
      (try simp only [World.size_alloc, World.size_drew] at hs)
      replace hB := As.mk (belowNext hB.out (by (repeat (first | (with_reducible assumption) | (with_reducible exact Below.refl _ _) | (with_reducible refine Below.drew ?_) | (with_reducible refine below_drewN ?_ _) | (with_reducible refine Below.alloc ?_ (by (first | omega | (simp only [World.size_alloc, World.size_drew]; done) | (simp only [World.size_alloc, World.size_drew]; omega))) _) | (refine Below.trans ?_ (Below.mono (by with_reducible assumption) (by (first | omega | (simp only [World.size_alloc, World.size_drew]; done) | (simp only [World.size_alloc, World.size_drew]; omega))))))) : Below _ _ w2))
      replace HX := As.mk (HX.out.below (by (repeat (first | (with_reducible assumption) | (with_reducible exact Below.refl _ _) | (with_reducible refine Below.drew ?_) | (with_reducible refine below_drewN ?_ _) | (with_reducible refine Below.alloc ?_ (by (first | omega | (simp only [World.size_alloc, World.size_drew]; done) | (simp only [World.size_alloc, World.size_drew]; omega))) _) | (refine Below.trans ?_ (Below.mono (by with_reducible assumption) (by (first | omega | (simp only [World.size_alloc, World.size_drew]; done) | (simp only [World.size_alloc, World.size_drew]; omega))))))) : Below _ _ w2))
      replace HY := As.mk (HY.out.below (by (repeat (first | (with_reducible assumption) | (with_reducible exact Below.refl _ _) | (with_reducible refine Below.drew ?_) | (with_reducible refine below_drewN ?_ _) | (with_reducible refine Below.alloc ?_ (by (first | omega | (simp only [World.size_alloc, World.size_drew]; done) | (simp only [World.size_alloc, World.size_drew]; omega))) _) | (refine Below.trans ?_ (Below.mono (by with_reducible assumption) (by (first | omega | (simp only [World.size_alloc, World.size_drew]; done) | (simp only [World.size_alloc, World.size_drew]; omega))))))) : Below _ _ w2))
      replace hb := As.mk hb
      go_wp2
      go_ret
      exact ⟨rfl, hB.out⟩
    · --
      have hB := As.mk (Below.refl w.heap.size w)
      have HX := As.mk hb
      have HY := As.mk hl
      unfold maxLen at hcm hdm
      clear hb hl
      go_enter Try.func8, Try.ntmps8
      go_wp2_with fail
      refine Calls.mono (awake_calls _) ?_
      rintro e w1 ⟨rfl, hb⟩
      have hs := hb.size
      (try simp only [World.size_alloc, World.size_drew] at hs)
      replace hB := As.mk (belowNext hB.out (by (repeat (first | (with_reducible assumption) | (with_reducible exact Below.refl _ _) | (with_reducible refine Below.drew ?_) | (with_reducible refine below_drewN ?_ _) | (with_reducible refine Below.alloc ?_ (by (first | omega | (simp only [World.size_alloc, World.size_drew]; done) | (simp only [World.size_alloc, World.size_drew]; omega))) _) | (refine Below.trans ?_ (Below.mono (by with_reducible assumption) (by (first | omega | (simp only [World.size_alloc, World.size_drew]; done) | (simp only [World.size_alloc, World.size_drew]; omega))))))) : Below _ _ w1))
      replace HX := As.mk (HX.out.below (by (repeat (first | (with_reducible assumption) | (with_reducible exact Below.refl _ _) | (with_reducible refine Below.drew ?_) | (with_reducible refine below_drewN ?_ _) | (with_reducible refine Below.alloc ?_ (by (first | omega | (simp only [World.size_alloc, World.size_drew]; done) | (simp only [World.size_alloc, World.size_drew]; omega))) _) | (refine Below.trans ?_ (Below.mono (by with_reducible assumption) (by (first | omega | (simp only [World.size_alloc, World.size_drew]; done) | (simp only [World.size_alloc, World.size_drew]; omega))))))) : Below _ _ w1))
      replace HY := As.mk (HY.out.below (by (repeat (first | (with_reducible assumption) | (with_reducible exact Below.refl _ _) | (with_reducible refine Below.drew ?_) | (with_reducible refine below_drewN ?_ _) | (with_reducible refine Below.alloc ?_ (by (first | omega | (simp only [World.size_alloc, World.size_drew]; done) | (simp only [World.size_alloc, World.size_drew]; omega))) _) | (refine Below.trans ?_ (Below.mono (by with_reducible assumption) (by (first | omega | (simp only [World.size_alloc, World.size_drew]; done) | (simp only [World.size_alloc, World.size_drew]; omega))))))) : Below _ _ w1))
      replace hb := As.mk hb
      go_wp2_with fail
      refine Calls.mono (few_calls _ A B c d b l HX.out HY.out hc hd (by omega) (by omega) true (decide_eq_true (And.intro hf1 hf2)).symm) ?_
      rintro e w2 ⟨rfl, hb⟩
      have hs := hb.size
      (try simp only [World.size_alloc, World.size_drew] at hs)
      replace hB := As.mk (belowNext hB.out (by (repeat (first | (with_reducible assumption) | (with_reducible exact Below.refl _ _) | (with_reducible refine Below.drew ?_) | (with_reducible refine below_drewN ?_ _) | (with_reducible refine Below.alloc ?_ (by (first | omega | (simp only [World.size_alloc, World.size_drew]; done) | (simp only [World.size_alloc, World.size_drew]; omega))) _) | (refine Below.trans ?_ (Below.mono (by with_reducible assumption) (by (first | omega | (simp only [World.size_alloc, World.size_drew]; done) | (simp only [World.size_alloc, World.size_drew]; omega))))))) : Below _ _ w2))
      replace HX := As.mk (HX.out.below (by (repeat (first | (with_reducible assumption) | (with_reducible exact Below.refl _ _) | (with_reducible refine Below.drew ?_) | (with_reducible refine below_drewN ?_ _) | (with_reducible refine Below.alloc ?_ (by (first | omega | (simp only [World.size_alloc, World.size_drew]; done) | (simp only [World.size_alloc, World.size_drew]; omega))) _) | (refine Below.trans ?_ (Below.mono (by with_reducible assumption) (by (first | omega | (simp only [World.size_alloc, World.size_drew]; done) | (simp only [World.size_alloc, World.size_drew]; omega))))))) : Below _ _ w2))
      replace HY := As.mk (HY.out.below (by (repeat (first | (with_reducible assumption) | (with_reducible exact Below.refl _ _) | (with_reducible refine Below.drew ?_) | (with_reducible refine below_drewN ?_ _) | (with_reducible refine Below.alloc ?_ (by (first | omega | (simp only [World.size_alloc, World.size_drew]; done) | (simp only [World.size_alloc, World.size_drew]; omega))) _) | (refine Below.trans ?_ (Below.mono (by with_reducible assumption) (by (first | omega | (simp only [World.size_alloc, World.size_drew]; done) | (simp only [World.size_alloc, World.size_drew]; omega))))))) : Below _ _ w2))
      replace hb := As.mk hb
      have hb0 : 0 < b.length := List.length_pos_iff.2 hne
      obtain ⟨ad0, rfl, _⟩ := Byt.at_ HX.out hb0
      have hn0 : ((b.length : Int) == 0) = false := by simp; omega
      go_wp2_with fail
      refine Calls.mono (new_calls _ ad0 c b HX.out (by omega) hb0 hc) ?_
      rintro e w3 ⟨g, ad, cb, a, s, sm, rfl, hT, hb⟩; replace hT := As.mk hT
      have hs := hb.size
      (try simp only [World.size_alloc, World.size_drew] at hs)
      replace hB := As.mk (belowNext hB.out (by (repeat (first | (with_reducible assumption) | (with_reducible exact Below.refl _ _) | (with_reducible refine Below.drew ?_) | (with_reducible refine below_drewN ?_ _) | (with_reducible refine Below.alloc ?_ (by (first | omega | (simp only [World.size_alloc, World.size_drew]; done) | (simp only [World.size_alloc, World.size_drew]; omega))) _) | (refine Below.trans ?_ (Below.mono (by with_reducible assumption) (by (first | omega | (simp only [World.size_alloc, World.size_drew]; done) | (simp only [World.size_alloc, World.size_drew]; omega))))))) : Below _ _ w3))
      replace HX := As.mk (HX.out.below (by (repeat (first | (with_reducible assumption) | (with_reducible exact Below.refl _ _) | (with_reducible refine Below.drew ?_) | (with_reducible refine below_drewN ?_ _) | (with_reducible refine Below.alloc ?_ (by (first | omega | (simp only [World.size_alloc, World.size_drew]; done) | (simp only [World.size_alloc, World.size_drew]; omega))) _) | (refine Below.trans ?_ (Below.mono (by with_reducible assumption) (by (first | omega | (simp only [World.size_alloc, World.size_drew]; done) | (simp only [World.size_alloc, World.size_drew]; omega))))))) : Below _ _ w3))
      replace HY := As.mk (HY.out.below (by (repeat (first | (with_reducible assumption) | (with_reducible exact Below.refl _ _) | (with_reducible refine Below.drew ?_) | (with_reducible refine below_drewN ?_ _) | (with_reducible refine Below.alloc ?_ (by (first | omega | (simp only [World.size_alloc, World.size_drew]; done) | (simp only [World.size_alloc, World.size_drew]; omega))) _) | (refine Below.trans ?_ (Below.mono (by with_reducible assumption) (by (first | omega | (simp only [World.size_alloc, World.size_drew]; done) | (simp only [World.size_alloc, World.size_drew]; omega))))))) : Below _ _ w3))
      replace hb := As.mk hb
      have hoc := occFrom_occ hb0 l
      have hrl : (occ [b] l).length ≤ 1000000 := by
        have := occTo_len [b] l l.length
        have h2 : l.length * l.length ≤ 300 * 300 := Nat.mul_le_mul hf2 hf2
        unfold occ; omega
      have cts := As.mk (scan_calls w3 g b ad cb a s sm hT.out (by omega) B d l HY.out (by omega))
      rw [hoc] at cts
      have csn := As.mk (fun (v : World) (A' : Option Addr) (h : Txts v A' [b]) => (snew_calls v A' 1 [b] h (by simp [tot]; omega) (by simp) : Calls Try.prog 16 #[.slice A' 1 1] v fun e w' => ∃ g, e = .returned (.pointer (some ⟨g, 0, none⟩)) ∧ AutoAt w' g (paths [b]) [b] ∧ Below v.heap.size v w'))
      have hpn := paths_len [b]
      have ht1 : tot [b] = b.length := by simp [tot]
      have css := As.mk (fun (v : World) (hv : Below w3.heap.size w3 v) (g2 : Nat) (h : AutoAt v g2 (paths [b]) [b]) => (by
        have := sscan_calls v g2 (paths [b]) [b] h none Cn.zero (Mo.none_ _ _) (by unfold Cn.room Cn.zero; decide) (paths_tree [b]) (fun x hx => text_mem_paths hx) 100 (fun p hp => Nat.le_trans (one_paths p hp) hf1) (by omega) (by omega) B d l (Row.below HY.out hv) (by omega) (by have := Nat.mul_le_mul hf2 (Nat.le_refl 100); omega)
        rw [hits_occ (paths_tree [b]) (fun x hx => text_mem_paths hx) l] at this
        exact this.mono fun _ _ h => h.plain1 : Calls Try.prog 17 #[.pointer (some ⟨g2, 0, none⟩), .pointer none, .slice B l.length d] v (RetPrs v (occ [b] l))))
      obtain ⟨R, hR⟩ : ∃ R, occ [b] l = R := ⟨_, rfl⟩
      rw [hR] at cts css hrl
      obtain ⟨rl, hrl2⟩ : ∃ k, R.length = k := ⟨_, rfl⟩
      rw [hrl2] at hrl
      replace hrl2 := As.mk hrl2
      have hc' := As.mk hc
      clear hoc hR hpn ht1 hne
      go_wp2_with fail
      refine Calls.mono cts.out ?_
      intro e w4 h4
      obtain ⟨A4, c4, he, hc4, hr4, hb4⟩ := h4.row
      subst he
      rw [hrl2.out] at hc4 ⊢
      have HX4 := As.mk (Row.below HX.out hb4)
      clear h4
      go_wp2_with fail
      refine Calls.mono (csn.out _ _ (txtsOne (heap_alloc_new _ _) hc'.out (HX4.out.alloc _))) ?_
      rintro e w5 ⟨g5, rfl, hA5, hb5⟩
      have hb45 : Below w4.heap.size w4 w5 := by (repeat (first | (with_reducible assumption) | (with_reducible exact Below.refl _ _) | (with_reducible refine Below.drew ?_) | (with_reducible refine below_drewN ?_ _) | (with_reducible refine Below.alloc ?_ (by (first | omega | (simp only [World.size_alloc, World.size_drew]; done) | (simp only [World.size_alloc, World.size_drew]; omega))) _) | (refine Below.trans ?_ (Below.mono (by with_reducible assumption) (by (first | omega | (simp only [World.size_alloc, World.size_drew]; done) | (simp only [World.size_alloc, World.size_drew]; omega)))))))
      have hb35 := belowNext hb4 hb45
      clear hb5
      go_wp2_with fail
      refine Calls.mono (css.out _ hb35 g5 hA5) ?_
      intro e w6 h6
      obtain ⟨A6, c6, he, hc6, hr6, hb6⟩ := h6.row
      subst he
      rw [hrl2.out] at hc6 ⊢
      have hb36 := belowNext hb35 hb6
      have hr46 := Row.below hr4 (belowNext hb45 hb6)
      have csm := As.mk (by have := same_calls A4 A6 c4 c6 R R w6 hr46 hr6 (by have := hrl2.out; omega) (by have := hrl2.out; omega); rw [decide_eq_true rfl, hrl2.out] at this; exact this : Calls Try.prog 15 #[.slice A4 rl c4, .slice A6 rl c6] w6 fun e w' => e = .returned (.bool true) ∧ ∃ n, w' = w6.drewN n)
      clear h6 hr46 hr4 hr6 hA5 hb45 hb35 hb6
      go_wp2_with (go_at_call 15; refine Calls.mono csm.out ?_; rintro e w9 ⟨rfl, nq, rfl⟩)
      go_ret
      exact ⟨rfl, below_drewN (belowNext hB.out hb36) _⟩
  · --
    have hB := As.mk (Below.refl w.heap.size w)
    have HX := As.mk hb
    have HY := As.mk hl
    unfold maxLen at hcm hdm
    clear hb hl
    go_enter Try.func8, Try.ntmps8
    go_wp2_with fail
    refine Calls.mono (awake_calls _) ?_
    rintro e w1 ⟨rfl, hb⟩
    have hs := hb.size
    (try simp only [World.size_alloc, World.size_drew] at hs)
    replace hB := As.mk (belowNext hB.out (by (repeat (first | (with_reducible assumption) | (with_reducible exact Below.refl _ _) | (with_reducible refine Below.drew ?_) | (with_reducible refine below_drewN ?_ _) | (with_reducible refine Below.alloc ?_ (by (first | omega | (simp only [World.size_alloc, World.size_drew]; done) | (simp only [World.size_alloc, World.size_drew]; omega))) _) | (refine Below.trans ?_ (Below.mono (by with_reducible assumption) (by (first | omega | (simp only [World.size_alloc, World.size_drew]; done) | (simp only [World.size_alloc, World.size_drew]; omega))))))) : Below _ _ w1))
    replace HX := As.mk (HX.out.below (by (repeat (first | (with_reducible assumption) | (with_reducible exact Below.refl _ _) | (with_reducible refine Below.drew ?_) | (with_reducible refine below_drewN ?_ _) | (with_reducible refine Below.alloc ?_ (by (first | omega | (simp only [World.size_alloc, World.size_drew]; done) | (simp only [World.size_alloc, World.size_drew]; omega))) _) | (refine Below.trans ?_ (Below.mono (by with_reducible assumption) (by (first | omega | (simp only [World.size_alloc, World.size_drew]; done) | (simp only [World.size_alloc, World.size_drew]; omega))))))) : Below _ _ w1))
    replace HY := As.mk (HY.out.below (by (repeat (first | (with_reducible assumption) | (with_reducible exact Below.refl _ _) | (with_reducible refine Below.drew ?_) | (with_reducible refine below_drewN ?_ _) | (with_reducible refine Below.alloc ?_ (by (first | omega | (simp only [World.size_alloc, World.size_drew]; done) | (simp only [World.size_alloc, World.size_drew]; omega))) _) | (refine Below.trans ?_ (Below.mono (by with_reducible assumption) (by (first | omega | (simp only [World.size_alloc, World.size_drew]; done) | (simp only [World.size_alloc, World.size_drew]; omega))))))) : Below _ _ w1))
    replace hb := As.mk hb
    go_wp2_with fail
    refine Calls.mono (few_calls _ A B c d b l HX.out HY.out hc hd (by omega) (by omega) false (decide_eq_false hf).symm) ?_
    rintro e w2 ⟨rfl, hb⟩
    have hs := hb.size
    (try simp only [World.size_alloc, World.size_drew] at hs)
    replace hB := As.mk (belowNext hB.out (by (repeat (first | (with_reducible assumption) | (with_reducible exact Below.refl _ _) | (with_reducible refine Below.drew ?_) | (with_reducible refine below_drewN ?_ _) | (with_reducible refine Below.alloc ?_ (by (first | omega | (simp only [World.size_alloc, World.size_drew]; done) | (simp only [World.size_alloc, World.size_drew]; omega))) _) | (refine Below.trans ?_ (Below.mono (by with_reducible assumption) (by (first | omega | (simp only [World.size_alloc, World.size_drew]; done) | (simp only [World.size_alloc, World.size_drew]; omega))))))) : Below _ _ w2))
    replace HX := As.mk (HX.out.below (by (repeat (first | (with_reducible assumption) | (with_reducible exact Below.refl _ _) | (with_reducible refine Below.drew ?_) | (with_reducible refine below_drewN ?_ _) | (with_reducible refine Below.alloc ?_ (by (first | omega | (simp only [World.size_alloc, World.size_drew]; done) | (simp only [World.size_alloc, World.size_drew]; omega))) _) | (refine Below.trans ?_ (Below.mono (by with_reducible assumption) (by (first | omega | (simp only [World.size_alloc, World.size_drew]; done) | (simp only [World.size_alloc, World.size_drew]; omega))))))) : Below _ _ w2))
    replace HY := As.mk (HY.out.below (by (repeat (first | (with_reducible assumption) | (with_reducible exact Below.refl _ _) | (with_reducible refine Below.drew ?_) | (with_reducible refine below_drewN ?_ _) | (with_reducible refine Below.alloc ?_ (by (first | omega | (simp only [World.size_alloc, World.size_drew]; done) | (simp only [World.size_alloc, World.size_drew]; omega))) _) | (refine Below.trans ?_ (Below.mono (by with_reducible assumption) (by (first | omega | (simp only [World.size_alloc, World.size_drew]; done) | (simp only [World.size_alloc, World.size_drew]; omega))))))) : Below _ _ w2))
    replace hb := As.mk hb
    go_wp2
    go_ret
    exact ⟨rfl, hB.out⟩
end Go.Proofs.Ytpkapgjpnkcffaa
