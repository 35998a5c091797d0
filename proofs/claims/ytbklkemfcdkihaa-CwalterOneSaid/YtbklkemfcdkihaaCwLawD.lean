/- The walk of the law CwalterOne. -/
import Derived.Test.YtbklkemfcdkihaaCwLawA
import Derived.Test.YtbklkemfcdkihaaM9
set_option linter.unusedVariables false
set_option linter.unusedSimpArgs false
namespace Go.Proofs.Ytbklkemfcdkihaa
open Go.RowKit Go.Maps Seine.Trie Seine.Links Seine.Cw
open Seine.Sort (occ occTo_len sortP)

theorem turnT_one {b : Txt} (h : 0 < b.length) : turnT [b] = [b.reverse] := by
  cases b with
  | nil => simp at h
  | cons a b => rfl
theorem least_one (b : Txt) : least [b] = b.length := by unfold least; simp
theorem endsFrom_len2 {T : List Txt} (hT : ∀ t ∈ T, t ≠ []) (hne : T ≠ []) (L : Txt) : ∀ f e, e ≤ L.length + 1 → (endsFrom T L f e).length + e ≤ L.length + 1
  | 0, e, h => by simpa [endsFrom] using h
  | f + 1, e, h => by
    have := (farAt_spec hT hne L e).1
    unfold endsFrom
    split
    · rename_i hle
      by_cases h2 : e + farAt T L e ≤ L.length + 1
      · have := endsFrom_len2 hT hne L f (e + farAt T L e) h2
        simp; omega
      · have : endsFrom T L f (e + farAt T L e) = [] := by
          cases f with
          | zero => rfl
          | succ f => rw [endsFrom, if_neg (by omega)]
        rw [this]; simp; omega
    · simpa using h
theorem ends_one {b : Txt} (h : 0 < b.length) (L : Txt) : (ends (turnT [b]) L).length ≤ L.length ∧ (0 < (ends (turnT [b]) L).length ↔ b.length ≤ L.length) := by
  have hne : turnT [b] ≠ [] := by rw [turnT_one h]; simp
  have hT := turnT_ne [b]
  have hl : least (turnT [b]) = b.length := by rw [turnT_one h, least_one, List.length_reverse]
  unfold ends
  rw [if_neg hne, hl]
  by_cases hb : b.length ≤ L.length
  · have := endsFrom_len2 hT hne L (L.length + 1) b.length (by omega)
    refine ⟨by omega, ⟨fun _ => hb, fun _ => ?_⟩⟩
    rw [endsFrom, if_pos hb]; simp
  · rw [endsFrom_stop hT hne L (by omega)]
    exact ⟨by simp, by simp; omega⟩
set_option maxRecDepth 100000 in
set_option maxHeartbeats 3200000 in
theorem one_walk (A : Option Addr) (c : Nat) (b : Txt) (B : Option Addr) (d : Nat) (L : Txt) (w : World) (hx : Byt w A b) (hc : b.length ≤ c) (hcm : c ≤ maxLen)
    (h1 : Byt w B L) (hd : L.length ≤ d) (hdm : d ≤ maxLen) :
    Calls Try.prog 7 #[.slice A b.length c, .slice B L.length d] w fun e w' => e = .returned (.bool true) ∧ Below w.heap.size w w' := by
  have hB := As.mk (Below.refl w.heap.size w)
  have HL := As.mk h1
  have HX := As.mk hx
  clear h1 hx
  unfold maxLen at hdm hcm
  go_enter Try.func7, Try.ntmps7
  go_wp2_with fail
  refine Calls.mono (awake_calls _) ?_
  rintro e w1 ⟨rfl, hb⟩
  have hs := hb.size
  (try simp only [World.size_alloc, World.size_drew] at hs)
  replace hB := As.mk (belowNext hB.out (by (repeat (first | (with_reducible assumption) | (with_reducible exact Below.refl _ _) | (with_reducible refine Below.drew ?_) | (with_reducible refine below_drewN ?_ _) | (with_reducible refine Below.alloc ?_ (by (first | omega | (simp only [World.size_alloc, World.size_drew]; done) | (simp only [World.size_alloc, World.size_drew]; omega))) _) | (refine Below.trans ?_ (Below.mono (by with_reducible assumption) (by (first | omega | (simp only [World.size_alloc, World.size_drew]; done) | (simp only [World.size_alloc, World.size_drew]; omega))))))) : Below _ _ w1))
  replace HX := As.mk (HX.out.below (by (repeat (first | (with_reducible assumption) | (with_reducible exact Below.refl _ _) | (with_reducible refine Below.drew ?_) | (with_reducible refine below_drewN ?_ _) | (with_reducible refine Below.alloc ?_ (by (first | omega | (simp only [World.size_alloc, World.size_drew]; done) | (simp only [World.size_alloc, World.size_drew]; omega))) _) | (refine Below.trans ?_ (Below.mono (by with_reducible assumption) (by (first | omega | (simp only [World.size_alloc, World.size_drew]; done) | (simp only [World.size_alloc, World.size_drew]; omega))))))) : Below _ _ w1))
  replace HL := As.mk (HL.out.below (by (repeat (first | (with_reducible assumption) | (with_reducible exact Below.refl _ _) | (with_reducible refine Below.drew ?_) | (with_reducible refine below_drewN ?_ _) | (with_reducible refine Below.alloc ?_ (by (first | omega | (simp only [World.size_alloc, World.size_drew]; done) | (simp only [World.size_alloc, World.size_drew]; omega))) _) | (refine Below.trans ?_ (Below.mono (by with_reducible assumption) (by (first | omega | (simp only [World.size_alloc, World.size_drew]; done) | (simp only [World.size_alloc, World.size_drew]; omega))))))) : Below _ _ w1))
  replace hb := As.mk hb
  by_cases hg : b.length ≤ 60 ∧ L.length ≤ 300 ∧ 0 < b.length
  · obtain ⟨k1, k2, k3⟩ := hg
    have z1 : decide ((60 : Int) < (b.length : Int)) = false := decide_eq_false (by omega)
    have z2 : decide ((300 : Int) < (L.length : Int)) = false := decide_eq_false (by omega)
    have z3 : ((b.length : Int) == 0) = false := by rw [beq_eq_false_iff_ne]; omega
    obtain ⟨ad, rfl, _⟩ := Byt.at_ HX.out (i := 0) k3
    have ct := As.mk (new_calls w1 ad c b HX.out (by omega) k3 hc)
    obtain ⟨y1, y2⟩ := ends_one k3 L
    have hoc := occFrom_occ k3 L
    have hrl := occ_few [b] L (by omega)
    have cnw := As.mk (fun (v : World) (A' : Option Addr) (h : Txts v A' [b]) => (cnew_calls v A' 1 [b] h (by simp [tot]; omega) (by simp) : Calls Try.prog 13 #[.slice A' 1 1] v fun e w' => ∃ g, e = .returned (.pointer (some ⟨g, 0, none⟩)) ∧ WalkAt w' g (turnT [b]) ∧ Below v.heap.size v w'))
    have cen := As.mk (fun (v : World) (hv : Below w1.heap.size w1 v) (g : Nat) (h : WalkAt v g (turnT [b])) => cends_calls v g [b] h (fun x hx => by rw [List.mem_singleton] at hx; subst hx; exact k1) (by simp) B d L (Row.below HL.out hv) (by omega))
    have csc := As.mk (fun (v : World) (hv : Below w1.heap.size w1 v) (g : Nat) (h : WalkAt v g (turnT [b])) => cscan_calls v g [b] h (fun x hx => by rw [List.mem_singleton] at hx; subst hx; exact k1) (by simp) B d L (Row.below HL.out hv) (by omega))
    have cts := As.mk (fun (v : World) (hv : Below w1.heap.size w1 v) (g : Nat) (ad' : Addr) (cb a s : Nat) (sm : Bool) (h : TwoIn v g b ad' cb a s sm) => scan_calls v g b ad' cb a s sm h (by omega) B d L (Row.below HL.out hv) (by omega))
    rw [hoc] at cts
    obtain ⟨R, hR⟩ : ∃ R, occ [b] L = R := ⟨_, rfl⟩
    rw [hR] at cts csc hrl
    rw [← natI_length] at y1 y2
    obtain ⟨E, hE⟩ : ∃ E, natI (ends (turnT [b]) L) = E := ⟨_, rfl⟩
    rw [hE] at y1 y2 cen
    obtain ⟨el, hel⟩ : ∃ k, E.length = k := ⟨_, rfl⟩
    rw [hel] at y1 y2
    replace hel := As.mk hel
    obtain ⟨rl, hrl2⟩ : ∃ k, R.length = k := ⟨_, rfl⟩
    rw [hrl2] at hrl
    replace hrl2 := As.mk hrl2
    obtain ⟨T, hT⟩ : ∃ T, turnT [b] = T := ⟨_, rfl⟩
    rw [hT] at cnw cen csc
    clear hT hR hE hoc HL
    have u1 : decide ((el : Int) ≤ (L.length : Int)) = true := decide_eq_true (by omega)
    have u2 : (decide ((0 : Int) < (el : Int)) == decide ((b.length : Int) ≤ (L.length : Int))) = true := by
      rw [beq_iff_eq, decide_eq_decide]; omega
    have u3 : (decide (0 < el) == decide (b.length ≤ L.length)) = true := by
      rw [beq_iff_eq, decide_eq_decide]; exact y2
    have u4 : decide ((b.length : Int) ≤ (L.length : Int)) = decide ((0 : Int) < (el : Int)) := by
      rw [decide_eq_decide]; omega
    obtain ⟨n, hn⟩ : ∃ k, L.length = k := ⟨_, rfl⟩
    obtain ⟨m, hm⟩ : ∃ k, b.length = k := ⟨_, rfl⟩
    have hm' := As.mk hm
    rw [hn] at z2 u1 u2 u3 u4 hd cts csc cen k2 ⊢
    rw [hm] at z1 z3 u2 u3 u4 hc ct k1 k3 ⊢
    have y3 : As (0 < el ↔ m ≤ n) := ⟨by rw [hn, hm] at y2; exact y2⟩
    have u5 : el ≤ n := by omega
    have u6 : decide (el ≤ n) = true := decide_eq_true u5
    clear hn hm y1 y2 u4
    go_wp2_with fail
    refine Calls.mono ct.out ?_
    rintro e w2 ⟨g2, ad2, cb2, a2, s2, sm2, rfl, ht, hb⟩
    have hs := hb.size
    have hB2 := hb
    replace HX := As.mk (HX.out.below hb)
    replace ht := As.mk ht
    go_wp2_with fail
    refine Calls.mono (cnw.out _ _ (txtsOfC (vs := [.slice (some ad) m c]) (heap_alloc_new _ _) rfl (fun i hi => by
      match i, hi with
      | 0, _ => exact ⟨_, c, by rw [← hm'.out]; rfl, by show b.length ≤ c; rw [hm'.out]; exact hc, HX.out.alloc _⟩))) ?_
    rintro e w3 ⟨g, rfl, hA, hb3⟩
    have hb23 : Below w2.heap.size w2 w3 := by (repeat (first | (with_reducible assumption) | (with_reducible exact Below.refl _ _) | (with_reducible refine Below.drew ?_) | (with_reducible refine below_drewN ?_ _) | (with_reducible refine Below.alloc ?_ (by (first | omega | (simp only [World.size_alloc, World.size_drew]; done) | (simp only [World.size_alloc, World.size_drew]; omega))) _) | (refine Below.trans ?_ (Below.mono (by with_reducible assumption) (by (first | omega | (simp only [World.size_alloc, World.size_drew]; done) | (simp only [World.size_alloc, World.size_drew]; omega)))))))
    have hb13 := belowNext hB2 hb23
    have ht3 := ht.out.below hb23
    clear hb3
    go_wp2_with fail
    refine Calls.mono (cen.out _ hb13 g hA) ?_
    intro e w4 h4
    obtain ⟨A4, c4, he, hc4, hr4, hb4⟩ := h4.row
    subst he
    rw [hel.out] at hc4 ⊢
    have hb14 := belowNext hb13 hb4
    have ht4 := ht3.below hb4
    have hA4 := hA.below hb4
    clear h4 hA ht3 hb4 hr4
    clear u2 u3
    rcases (show (0 < el ∧ m ≤ n) ∨ (¬ 0 < el ∧ ¬ m ≤ n) by have := y3.out; omega) with ⟨v1, v2⟩ | ⟨v1, v2⟩
    · have v3 : decide ((0 : Int) < (el : Int)) = true := decide_eq_true (by omega)
      have v4 : decide ((m : Int) ≤ (n : Int)) = true := decide_eq_true (by omega)
      have v5 : decide (0 < el) = true := decide_eq_true v1
      have v6 : decide (m ≤ n) = true := decide_eq_true v2
      have v7 : (decide (0 < el) == decide (m ≤ n)) = true := by rw [v5, v6]; rfl
      go_wp2_with (first
        | (go_at_call 14; refine Calls.mono (csc.out _ hb14 g hA4) ?_; intro e w5 h5; obtain ⟨A5, c5, he, hc5, hcm5, hr5, hb5⟩ := h5.row2; subst he; clear h5; rw [hrl2.out] at hc5 ⊢; have hb15 := belowNext hb14 hb5; have ht5 := ht4.below hb5)
        | (go_at_call 20; refine Calls.mono (cts.out _ hb15 g2 ad2 cb2 a2 s2 sm2 ht5) ?_; intro e w6 h6; obtain ⟨A6, c6, he, hc6, hr6, hb6⟩ := h6.row; subst he; clear h6; rw [hrl2.out] at hc6 ⊢; have hb16 := belowNext hb15 hb6)
        | (go_at_call 12; refine Calls.mono (by have := same_calls A5 A6 c5 c6 R R w6 (Row.below hr5 hb6) hr6 (by have := hrl2.out; omega) (by have := hrl2.out; omega); rw [decide_eq_true rfl, hrl2.out] at this; exact this) ?_; rintro e w9 ⟨rfl, nq, rfl⟩))
      go_ret
      exact ⟨rfl, below_drewN (belowNext hB.out hb16) _⟩
    · obtain rfl : el = 0 := by omega
      have v4 : decide ((m : Int) ≤ (n : Int)) = false := decide_eq_false (by omega)
      have v4' : decide (m ≤ n) = false := decide_eq_false v2
      go_wp2_with (first
        | (go_at_call 14; refine Calls.mono (csc.out _ hb14 g hA4) ?_; intro e w5 h5; obtain ⟨A5, c5, he, hc5, hcm5, hr5, hb5⟩ := h5.row2; subst he; clear h5; rw [hrl2.out] at hc5 ⊢; have hb15 := belowNext hb14 hb5; have ht5 := ht4.below hb5)
        | (go_at_call 20; refine Calls.mono (cts.out _ hb15 g2 ad2 cb2 a2 s2 sm2 ht5) ?_; intro e w6 h6; obtain ⟨A6, c6, he, hc6, hr6, hb6⟩ := h6.row; subst he; clear h6; rw [hrl2.out] at hc6 ⊢; have hb16 := belowNext hb15 hb6)
        | (go_at_call 12; refine Calls.mono (by have := same_calls A5 A6 c5 c6 R R w6 (Row.below hr5 hb6) hr6 (by have := hrl2.out; omega) (by have := hrl2.out; omega); rw [decide_eq_true rfl, hrl2.out] at this; exact this) ?_; rintro e w9 ⟨rfl, nq, rfl⟩))
      go_ret
      exact ⟨rfl, below_drewN (belowNext hB.out hb16) _⟩
  · rcases (show 60 < b.length ∨ (b.length ≤ 60 ∧ 300 < L.length) ∨ (b.length ≤ 60 ∧ L.length ≤ 300 ∧ b.length = 0) by omega) with h | ⟨h, h'⟩ | ⟨h, h', h0⟩
    · have z1 : decide ((60 : Int) < (b.length : Int)) = true := decide_eq_true (by omega)
      go_wp2
      go_ret
      exact ⟨rfl, hB.out⟩
    · have z1 : decide ((60 : Int) < (b.length : Int)) = false := decide_eq_false (by omega)
      have z2 : decide ((300 : Int) < (L.length : Int)) = true := decide_eq_true (by omega)
      go_wp2
      go_ret
      exact ⟨rfl, hB.out⟩
    · have z1 : decide ((60 : Int) < (b.length : Int)) = false := decide_eq_false (by omega)
      have z2 : decide ((300 : Int) < (L.length : Int)) = false := decide_eq_false (by omega)
      have z3 : ((b.length : Int) == 0) = true := by rw [h0]; rfl
      go_wp2
      go_ret
      exact ⟨rfl, hB.out⟩
end Go.Proofs.Ytbklkemfcdkihaa
