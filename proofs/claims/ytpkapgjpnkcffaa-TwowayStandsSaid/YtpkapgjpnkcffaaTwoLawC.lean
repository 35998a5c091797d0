/- The walk of the law TwowayStands. -/
import Derived.Test.YtpkapgjpnkcffaaTwoAwake
import Derived.Test.YtpkapgjpnkcffaaApp
import Derived.Deep.DrawnRows
import Derived.Deep.RegionHeld3
set_option linter.unusedVariables false
set_option linter.unusedSimpArgs false
namespace Go.Proofs.Ytpkapgjpnkcffaa
open Go.RowKit Seine.Trie Seine.Two Go.Proofs.YtpkapgjpnkcffaaW.PrintWords Go.Proofs.Ytpkapgjpnkcffaa.Ref
attribute [local go_sem ↓] Go.wp_at_zero Go.wp_at_succ


theorem isAt_put (x b y : Txt) : isAt b (x ++ (b ++ y)) x.length = true := by
  unfold isAt
  simp
theorem nextF_at {b l : Txt} {p : Nat} (h : isAt b l p = true) : nextF b l p = (p : Int) := by
  rcases Int.lt_or_le (nextF b l p) 0 with h0 | h0
  · have := (nextF_none h0).2 p (Nat.le_refl _)
    rw [this] at h; cases h
  · obtain ⟨i, h1, h2, h3, h4⟩ := nextF_some h0
    rcases Nat.eq_or_lt_of_le h2 with e | e
    · rw [h1, e]
    · have := h4 p (Nat.le_refl _) e
      rw [this] at h; cases h
theorem nextF_upto {b l : Txt} {p : Nat} (h : isAt b l p = true) : ∃ i : Nat, nextF b l 0 = (i : Int) ∧ i ≤ p ∧ isAt b l i = true := by
  rcases Int.lt_or_le (nextF b l 0) 0 with h0 | h0
  · have := (nextF_none h0).2 p (Nat.zero_le _)
    rw [this] at h; cases h
  · obtain ⟨i, h1, h2, h3, h4⟩ := nextF_some h0
    refine ⟨i, h1, ?_, h3⟩
    rcases Nat.lt_or_ge p i with e | e
    · have := h4 p (Nat.zero_le _) e
      rw [this] at h; cases h
    · exact e
theorem byt_one {b : Txt} : ∀ u ∈ byCells b, u.oneCell' = true := fun u hu => by
  obtain ⟨x, _, rfl⟩ := List.mem_map.1 hu; rfl
set_option maxRecDepth 100000 in
set_option maxHeartbeats 1600000 in
theorem stands_walk (A : Option Addr) (ca : Nat) (x : Txt) (B : Option Addr) (cb : Nat) (b : Txt) (C : Option Addr) (cc : Nat) (y : Txt) (w : World) (hx : Byt w A x) (hxc : x.length ≤ ca) (hxm : ca ≤ maxLen) (hb : Byt w B b) (hbc : b.length ≤ cb) (hbm : cb ≤ maxLen) (hy : Byt w C y) (hyc : y.length ≤ cc) (hym : cc ≤ maxLen) :
    Calls Try.prog 5 #[.slice A x.length ca, .slice B b.length cb, .slice C y.length cc] w fun e w' => e = .returned (.bool true) ∧ Below w.heap.size w w' := by
  by_cases h1 : x.length ≤ 100
  · by_cases h2 : b.length ≤ 100
    · by_cases h3 : y.length ≤ 100
      · by_cases h4 : b = []
        · subst h4
          have hB := As.mk (Below.refl w.heap.size w)
          have HX := As.mk hx
          have HB := As.mk hb
          have HY := As.mk hy
          unfold maxLen at hxm hbm hym
          clear hx hb hy
          go_enter Try.func5, Try.ntmps5
          go_wp2_with fail
          refine Calls.mono (awake_calls _) ?_
          rintro e w1 ⟨rfl, hb⟩
          have hs := hb.size
          (try simp only [World.size_alloc, World.size_drew] at hs)
          replace hB := As.mk (belowNext hB.out (by (repeat (first | (with_reducible assumption) | (with_reducible exact Below.refl _ _) | (with_reducible refine Below.drew ?_) | (with_reducible refine below_drewN ?_ _) | (with_reducible refine Below.alloc ?_ (by (first | omega | (simp only [World.size_alloc, World.size_drew]; done) | (simp only [World.size_alloc, World.size_drew]; omega))) _) | (refine Below.trans ?_ (Below.mono (by with_reducible assumption) (by (first | omega | (simp only [World.size_alloc, World.size_drew]; done) | (simp only [World.size_alloc, World.size_drew]; omega))))))) : Below _ _ w1))
          replace HX := As.mk (HX.out.below (by (repeat (first | (with_reducible assumption) | (with_reducible exact Below.refl _ _) | (with_reducible refine Below.drew ?_) | (with_reducible refine below_drewN ?_ _) | (with_reducible refine Below.alloc ?_ (by (first | omega | (simp only [World.size_alloc, World.size_drew]; done) | (simp only [World.size_alloc, World.size_drew]; omega))) _) | (refine Below.trans ?_ (Below.mono (by with_reducible assumption) (by (first | omega | (simp only [World.size_alloc, World.size_drew]; done) | (simp only [World.size_alloc, World.size_drew]; omega))))))) : Below _ _ w1))
          replace HB := As.mk (HB.out.below (by (repeat (first | (with_reducible assumption) | (with_reducible exact Below.refl _ _) | (with_reducible refine Below.drew ?_) | (with_reducible refine below_drewN ?_ _) | (with_reducible refine Below.alloc ?_ (by (first | omega | (simp only [World.size_alloc, World.size_drew]; done) | (simp only [World.size_alloc, World.size_drew]; omega))) _) | (refine Below.trans ?_ (Below.mono (by with_reducible assumption) (by (first | omega | (simp only [World.size_alloc, World.size_drew]; done) | (simp only [World.size_alloc, World.size_drew]; omega))))))) : Below _ _ w1))
          replace HY := As.mk (HY.out.below (by (repeat (first | (with_reducible assumption) | (with_reducible exact Below.refl _ _) | (with_reducible refine Below.drew ?_) | (with_reducible refine below_drewN ?_ _) | (with_reducible refine Below.alloc ?_ (by (first | omega | (simp only [World.size_alloc, World.size_drew]; done) | (simp only [World.size_alloc, World.size_drew]; omega))) _) | (refine Below.trans ?_ (Below.mono (by with_reducible assumption) (by (first | omega | (simp only [World.size_alloc, World.size_drew]; done) | (simp only [World.size_alloc, World.size_drew]; omega))))))) : Below _ _ w1))
          replace hb := As.mk hb
          go_wp2
          go_ret
          exact ⟨rfl, hB.out⟩
        · have hb0 : 0 < b.length := List.length_pos_iff.2 h4
          have hn0 : ((b.length : Int) == 0) = false := by simp; omega
          obtain ⟨ad0, rfl, _⟩ := Byt.at_ hb hb0
          obtain ⟨nx, hnx⟩ : ∃ n, x.length = n := ⟨_, rfl⟩
          obtain ⟨nb, hnb⟩ : ∃ n, b.length = n := ⟨_, rfl⟩
          obtain ⟨ny, hny⟩ : ∃ n, y.length = n := ⟨_, rfl⟩
          rw [hnx] at h1 hxc ⊢
          rw [hnb] at h2 hbc hb0 hn0 ⊢
          rw [hny] at h3 hyc ⊢
          have hnx := As.mk hnx
          have hnb := As.mk hnb
          have hny := As.mk hny
          obtain ⟨l, hl⟩ : ∃ l, x ++ (b ++ y) = l := ⟨_, rfl⟩
          have hat := isAt_put x b y
          have hll : l.length = nx + nb + ny := by rw [← hl, List.length_append, List.length_append, hnx.out, hnb.out, hny.out]; omega
          rw [hl, hnx.out] at hat
          obtain ⟨f, hf1, hf2, hf3⟩ := nextF_upto hat
          have hN := As.mk (nextF_at hat)
          have hF := As.mk hf1
          replace hll := As.mk hll
          replace hl := As.mk hl
          clear hat hf1 h4
          have hlc : byCells x ++ byCells b ++ byCells y = byCells l := by rw [← hl.out]; unfold byCells; simp
          replace hlc := As.mk hlc
          have hB := As.mk (Below.refl w.heap.size w)
          have HX := As.mk hx
          have HB := As.mk hb
          have HY := As.mk hy
          unfold maxLen at hxm hbm hym
          clear hx hb hy
          go_enter Try.func5, Try.ntmps5
          go_wp2_with fail
          refine Calls.mono (awake_calls _) ?_
          rintro e w1 ⟨rfl, hb⟩
          have hs := hb.size
          (try simp only [World.size_alloc, World.size_drew] at hs)
          replace hB := As.mk (belowNext hB.out (by (repeat (first | (with_reducible assumption) | (with_reducible exact Below.refl _ _) | (with_reducible refine Below.drew ?_) | (with_reducible refine below_drewN ?_ _) | (with_reducible refine Below.alloc ?_ (by (first | omega | (simp only [World.size_alloc, World.size_drew]; done) | (simp only [World.size_alloc, World.size_drew]; omega))) _) | (refine Below.trans ?_ (Below.mono (by with_reducible assumption) (by (first | omega | (simp only [World.size_alloc, World.size_drew]; done) | (simp only [World.size_alloc, World.size_drew]; omega))))))) : Below _ _ w1))
          replace HX := As.mk (HX.out.below (by (repeat (first | (with_reducible assumption) | (with_reducible exact Below.refl _ _) | (with_reducible refine Below.drew ?_) | (with_reducible refine below_drewN ?_ _) | (with_reducible refine Below.alloc ?_ (by (first | omega | (simp only [World.size_alloc, World.size_drew]; done) | (simp only [World.size_alloc, World.size_drew]; omega))) _) | (refine Below.trans ?_ (Below.mono (by with_reducible assumption) (by (first | omega | (simp only [World.size_alloc, World.size_drew]; done) | (simp only [World.size_alloc, World.size_drew]; omega))))))) : Below _ _ w1))
          replace HB := As.mk (HB.out.below (by (repeat (first | (with_reducible assumption) | (with_reducible exact Below.refl _ _) | (with_reducible refine Below.drew ?_) | (with_reducible refine below_drewN ?_ _) | (with_reducible refine Below.alloc ?_ (by (first | omega | (simp only [World.size_alloc, World.size_drew]; done) | (simp only [World.size_alloc, World.size_drew]; omega))) _) | (refine Below.trans ?_ (Below.mono (by with_reducible assumption) (by (first | omega | (simp only [World.size_alloc, World.size_drew]; done) | (simp only [World.size_alloc, World.size_drew]; omega))))))) : Below _ _ w1))
          replace HY := As.mk (HY.out.below (by (repeat (first | (with_reducible assumption) | (with_reducible exact Below.refl _ _) | (with_reducible refine Below.drew ?_) | (with_reducible refine below_drewN ?_ _) | (with_reducible refine Below.alloc ?_ (by (first | omega | (simp only [World.size_alloc, World.size_drew]; done) | (simp only [World.size_alloc, World.size_drew]; omega))) _) | (refine Below.trans ?_ (Below.mono (by with_reducible assumption) (by (first | omega | (simp only [World.size_alloc, World.size_drew]; done) | (simp only [World.size_alloc, World.size_drew]; omega))))))) : Below _ _ w1))
          replace hb := As.mk hb
          go_wp2_with (at_builtin
                       first
                         | (refine wpList_apps _ rfl (.tmp 33) (.tmp 34) 22 rfl w1.heap.size 5 _ 1 1 Try.underlying22 info_u8 rfl (by decide) _ 0 [] rfl (World.ownsRow_nil _ _ _ _) _ nx ca (byCells x) HX.out (by rw [byCells_length, hnx.out, Nat.mul_one]) byt_one rfl (by omega) (by decide) (Nat.le_refl _) ?_
                            intro v4 w4 ho4 hb4
                            rw [Nat.zero_add, List.nil_append] at ho4
                            obtain ⟨A4, c4, rfl, hc4⟩ := own_slice ho4)
                         | (refine wpList_apps _ rfl (.tmp 36) (.tmp 37) 22 rfl w1.heap.size 5 _ 1 1 Try.underlying22 info_u8 rfl (by decide) _ nx _ rfl ho4 _ nb cb (byCells b) (Row.below HB.out hb4) (by rw [byCells_length, hnb.out, Nat.mul_one]) byt_one rfl (by omega) (by decide) hb4.size ?_
                            intro v5 w5 ho5 hb5
                            replace hb5 := hb4.trans hb5
                            obtain ⟨A5, c5, rfl, hc5⟩ := own_slice ho5)
                         | (refine wpList_apps _ rfl (.tmp 39) (.tmp 40) 22 rfl w1.heap.size 5 _ 1 1 Try.underlying22 info_u8 rfl (by decide) _ (nx + nb) _ rfl ho5 _ ny cc (byCells y) (Row.below HY.out hb5) (by rw [byCells_length, hny.out, Nat.mul_one]) byt_one rfl (by omega) (by decide) hb5.size ?_
                            intro v6 w6 ho6 hb6
                            replace hb6 := hb5.trans hb6
                            obtain ⟨A6, c6, rfl, hc6⟩ := own_slice ho6
                            rw [hlc.out] at ho6))
          have cnw := As.mk (new_calls w6 ad0 cb b (Row.below HB.out hb6) (by have := hnb.out; omega) (by have := hnb.out; omega) (by have := hnb.out; omega))
          rw [hnb.out] at cnw
          refine Calls.mono cnw.out ?_
          rintro e w7 ⟨g, ad, cq, a, s, sm, rfl, hT, hb7⟩
          have HL := As.mk (Row.below (Row.of_own ho6) hb7)
          have hB7 := As.mk (belowNext (belowNext hB.out hb6) hb7)
          have HB7 := As.mk (Row.below (Row.below HB.out hb6) hb7)
          obtain ⟨ad6, rfl, _⟩ := Byt.at_ HL.out (i := 0) (by rw [hll.out]; omega)
          replace hT := As.mk hT
          clear ho4 ho5 ho6 hb4 hb5 hb6 hb7 HX HY HB hB hc4 hc5
          have hfl := isAt_le hf3
          rw [hnb.out, hll.out] at hfl
          have c0 := As.mk (next_calls w7 g b ad cq a s sm hT.out (by have := hnb.out; omega) (some ad6) c6 l HL.out (by have := hll.out; omega) 0)
          rw [show (0 : Int).toNat = 0 from rfl, hF.out, hll.out] at c0
          go_wp2_with fail
          refine Calls.mono c0.out ?_
          rintro e w8 ⟨rfl, hb8⟩
          have cN := As.mk (fun (v : World) (h : Below w8.heap.size w8 v) => (by have := next_calls v g b ad cq a s sm (hT.out.below (belowNext hb8 h)) (by have := hnb.out; omega) (some ad6) c6 l (Row.below (Row.below HL.out hb8) h) (by have := hll.out; omega) (nx : Int); rw [Int.toNat_natCast, hN.out, hll.out] at this; exact this : Calls Try.prog 12 #[.pointer (some ⟨g, 0, none⟩), .slice (some ad6) (nx + nb + ny) c6, .int .i64 (nx : Int)] v fun e w' => e = .returned (.int .i64 (nx : Int)) ∧ Below v.heap.size v w'))
          have hpc : (l.drop f).take nb = b := by rw [← hnb.out]; exact (of_decide_eq_true hf3).2
          have v1 : ∀ v, Below w8.heap.size w8 v → (convert 22 9 (.slice (some ad0) nb cb)).run Try.prog v = .ok (.string (bb b)) v := fun v h => by
            have := conv_byt (c := cb) Try.underlying22 (Row.below (Row.below HB7.out hb8) h) (by have := hnb.out; omega)
            rwa [hnb.out] at this
          have v2 : ∀ v, Below w8.heap.size w8 v → ∀ c', (convert 22 9 (.slice (some (ad6.add f)) nb c')).run Try.prog v = .ok (.string (bb b)) v := fun v h c' => by
            have := conv_byt (c := c') Try.underlying22 (Byt.piece (Row.below (Row.below HL.out hb8) h) f nb (by rw [hll.out]; omega)) (by rw [hpc, hnb.out]; omega)
            rwa [hpc, hnb.out] at this
          replace hpc := As.mk hpc
          replace hf3 := As.mk hf3
          have hB8 := As.mk (belowNext hB7.out hb8)
          clear hb8 hB7
          obtain ⟨sb, hsb⟩ : ∃ sb, bb b = sb := ⟨_, rfl⟩
          rw [hsb] at v1
          rw [hsb] at v2
          replace hsb := As.mk hsb
          have i1 : IntKind.i64.wrap ((f : Int) + (nb : Int)) = (f : Int) + (nb : Int) := IntWalk.i64_in _ (by omega)
          have j1 : 0 ≤ (f : Int) + (nb : Int) := by omega
          have k1 : ((f : Int) + (nb : Int)).toNat = f + nb := by omega
          have l1 : (f : Int) + (nb : Int) ≤ (c6 : Int) := by omega
          have l3 : (f : Int) ≤ (f : Int) + (nb : Int) := by omega
          have l2 : ¬ c6 = f := by omega
          have hbd : Below w8.heap.size w8 w8.drew := (Below.refl _ _).drew
          go_wp2_with fail
          go_region_held3 (fun w' => Below w8.heap.size w8 w')
            (first
              | go_keep
              | (exact belowNext (by with_reducible assumption) hb))
            (first
              | (go_at_call 12; refine Calls.mono (cN.out _ (by with_reducible assumption)) ?_; rintro e w' ⟨rfl, hb⟩))
          all_goals
            go_wp2
            go_ret
            exact ⟨rfl, belowNext hB8.out (by with_reducible assumption)⟩
      · have h3' : decide ((100 : Int) < (y.length : Int)) = true := by simp; omega
        have hB := As.mk (Below.refl w.heap.size w)
        have HX := As.mk hx
        have HB := As.mk hb
        have HY := As.mk hy
        unfold maxLen at hxm hbm hym
        clear hx hb hy
        go_enter Try.func5, Try.ntmps5
        go_wp2_with fail
        refine Calls.mono (awake_calls _) ?_
        rintro e w1 ⟨rfl, hb⟩
        have hs := hb.size
        (try simp only [World.size_alloc, World.size_drew] at hs)
        replace hB := As.mk (belowNext hB.out (by (repeat (first | (with_reducible assumption) | (with_reducible exact Below.refl _ _) | (with_reducible refine Below.drew ?_) | (with_reducible refine below_drewN ?_ _) | (with_reducible refine Below.alloc ?_ (by (first | omega | (simp only [World.size_alloc, World.size_drew]; done) | (simp only [World.size_alloc, World.size_drew]; omega))) _) | (refine Below.trans ?_ (Below.mono (by with_reducible assumption) (by (first | omega | (simp only [World.size_alloc, World.size_drew]; done) | (simp only [World.size_alloc, World.size_drew]; omega))))))) : Below _ _ w1))
        replace HX := As.mk (HX.out.below (by (repeat (first | (with_reducible assumption) | (with_reducible exact Below.refl _ _) | (with_reducible refine Below.drew ?_) | (with_reducible refine below_drewN ?_ _) | (with_reducible refine Below.alloc ?_ (by (first | omega | (simp only [World.size_alloc, World.size_drew]; done) | (simp only [World.size_alloc, World.size_drew]; omega))) _) | (refine Below.trans ?_ (Below.mono (by with_reducible assumption) (by (first | omega | (simp only [World.size_alloc, World.size_drew]; done) | (simp only [World.size_alloc, World.size_drew]; omega))))))) : Below _ _ w1))
        replace HB := As.mk (HB.out.below (by (repeat (first | (with_reducible assumption) | (with_reducible exact Below.refl _ _) | (with_reducible refine Below.drew ?_) | (with_reducible refine below_drewN ?_ _) | (with_reducible refine Below.alloc ?_ (by (first | omega | (simp only [World.size_alloc, World.size_drew]; done) | (simp only [World.size_alloc, World.size_drew]; omega))) _) | (refine Below.trans ?_ (Below.mono (by with_reducible assumption) (by (first | omega | (simp only [World.size_alloc, World.size_drew]; done) | (simp only [World.size_alloc, World.size_drew]; omega))))))) : Below _ _ w1))
        replace HY := As.mk (HY.out.below (by (repeat (first | (with_reducible assumption) | (with_reducible exact Below.refl _ _) | (with_reducible refine Below.drew ?_) | (with_reducible refine below_drewN ?_ _) | (with_reducible refine Below.alloc ?_ (by (first | omega | (simp only [World.size_alloc, World.size_drew]; done) | (simp only [World.size_alloc, World.size_drew]; omega))) _) | (refine Below.trans ?_ (Below.mono (by with_reducible assumption) (by (first | omega | (simp only [World.size_alloc, World.size_drew]; done) | (simp only [World.size_alloc, World.size_drew]; omega))))))) : Below _ _ w1))
        replace hb := As.mk hb
        go_wp2
        go_ret
        exact ⟨rfl, hB.out⟩
    · have h3' : decide ((100 : Int) < (b.length : Int)) = true := by simp; omega
      have hB := As.mk (Below.refl w.heap.size w)
      have HX := As.mk hx
      have HB := As.mk hb
      have HY := As.mk hy
      unfold maxLen at hxm hbm hym
      clear hx hb hy
      go_enter Try.func5, Try.ntmps5
      go_wp2_with fail
      refine Calls.mono (awake_calls _) ?_
      rintro e w1 ⟨rfl, hb⟩
      have hs := hb.size
      (try simp only [World.size_alloc, World.size_drew] at hs)
      replace hB := As.mk (belowNext hB.out (by (repeat (first | (with_reducible assumption) | (with_reducible exact Below.refl _ _) | (with_reducible refine Below.drew ?_) | (with_reducible refine below_drewN ?_ _) | (with_reducible refine Below.alloc ?_ (by (first | omega | (simp only [World.size_alloc, World.size_drew]; done) | (simp only [World.size_alloc, World.size_drew]; omega))) _) | (refine Below.trans ?_ (Below.mono (by with_reducible assumption) (by (first | omega | (simp only [World.size_alloc, World.size_drew]; done) | (simp only [World.size_alloc, World.size_drew]; omega))))))) : Below _ _ w1))
      replace HX := As.mk (HX.out.below (by (repeat (first | (with_reducible assumption) | (with_reducible exact Below.refl _ _) | (with_reducible refine Below.drew ?_) | (with_reducible refine below_drewN ?_ _) | (with_reducible refine Below.alloc ?_ (by (first | omega | (simp only [World.size_alloc, World.size_drew]; done) | (simp only [World.size_alloc, World.size_drew]; omega))) _) | (refine Below.trans ?_ (Below.mono (by with_reducible assumption) (by (first | omega | (simp only [World.size_alloc, World.size_drew]; done) | (simp only [World.size_alloc, World.size_drew]; omega))))))) : Below _ _ w1))
      replace HB := As.mk (HB.out.below (by (repeat (first | (with_reducible assumption) | (with_reducible exact Below.refl _ _) | (with_reducible refine Below.drew ?_) | (with_reducible refine below_drewN ?_ _) | (with_reducible refine Below.alloc ?_ (by (first | omega | (simp only [World.size_alloc, World.size_drew]; done) | (simp only [World.size_alloc, World.size_drew]; omega))) _) | (refine Below.trans ?_ (Below.mono (by with_reducible assumption) (by (first | omega | (simp only [World.size_alloc, World.size_drew]; done) | (simp only [World.size_alloc, World.size_drew]; omega))))))) : Below _ _ w1))
      replace HY := As.mk (HY.out.below (by (repeat (first | (with_reducible assumption) | (with_reducible exact Below.refl _ _) | (with_reducible refine Below.drew ?_) | (with_reducible refine below_drewN ?_ _) | (with_reducible refine Below.alloc ?_ (by (first | omega | (simp only [World.size_alloc, World.size_drew]; done) | (simp only [World.size_alloc, World.size_drew]; omega))) _) | (refine Below.trans ?_ (Below.mono (by with_reducible assumption) (by (first | omega | (simp only [World.size_alloc, World.size_drew]; done) | (simp only [World.size_alloc, World.size_drew]; omega))))))) : Below _ _ w1))
      replace hb := As.mk hb
      go_wp2
      go_ret
      exact ⟨rfl, hB.out⟩
  · have h3' : decide ((100 : Int) < (x.length : Int)) = true := by simp; omega
    have hB := As.mk (Below.refl w.heap.size w)
    have HX := As.mk hx
    have HB := As.mk hb
    have HY := As.mk hy
    unfold maxLen at hxm hbm hym
    clear hx hb hy
    go_enter Try.func5, Try.ntmps5
    go_wp2_with fail
    refine Calls.mono (awake_calls _) ?_
    rintro e w1 ⟨rfl, hb⟩
    have hs := hb.size
    (try simp only [World.size_alloc, World.size_drew] at hs)
    replace hB := As.mk (belowNext hB.out (by (repeat (first | (with_reducible assumption) | (with_reducible exact Below.refl _ _) | (with_reducible refine Below.drew ?_) | (with_reducible refine below_drewN ?_ _) | (with_reducible refine Below.alloc ?_ (by (first | omega | (simp only [World.size_alloc, World.size_drew]; done) | (simp only [World.size_alloc, World.size_drew]; omega))) _) | (refine Below.trans ?_ (Below.mono (by with_reducible assumption) (by (first | omega | (simp only [World.size_alloc, World.size_drew]; done) | (simp only [World.size_alloc, World.size_drew]; omega))))))) : Below _ _ w1))
    replace HX := As.mk (HX.out.below (by (repeat (first | (with_reducible assumption) | (with_reducible exact Below.refl _ _) | (with_reducible refine Below.drew ?_) | (with_reducible refine below_drewN ?_ _) | (with_reducible refine Below.alloc ?_ (by (first | omega | (simp only [World.size_alloc, World.size_drew]; done) | (simp only [World.size_alloc, World.size_drew]; omega))) _) | (refine Below.trans ?_ (Below.mono (by with_reducible assumption) (by (first | omega | (simp only [World.size_alloc, World.size_drew]; done) | (simp only [World.size_alloc, World.size_drew]; omega))))))) : Below _ _ w1))
    replace HB := As.mk (HB.out.below (by (repeat (first | (with_reducible assumption) | (with_reducible exact Below.refl _ _) | (with_reducible refine Below.drew ?_) | (with_reducible refine below_drewN ?_ _) | (with_reducible refine Below.alloc ?_ (by (first | omega | (simp only [World.size_alloc, World.size_drew]; done) | (simp only [World.size_alloc, World.size_drew]; omega))) _) | (refine Below.trans ?_ (Below.mono (by with_reducible assumption) (by (first | omega | (simp only [World.size_alloc, World.size_drew]; done) | (simp only [World.size_alloc, World.size_drew]; omega))))))) : Below _ _ w1))
    replace HY := As.mk (HY.out.below (by (repeat (first | (with_reducible assumption) | (with_reducible exact Below.refl _ _) | (with_reducible refine Below.drew ?_) | (with_reducible refine below_drewN ?_ _) | (with_reducible refine Below.alloc ?_ (by (first | omega | (simp only [World.size_alloc, World.size_drew]; done) | (simp only [World.size_alloc, World.size_drew]; omega))) _) | (refine Below.trans ?_ (Below.mono (by with_reducible assumption) (by (first | omega | (simp only [World.size_alloc, World.size_drew]; done) | (simp only [World.size_alloc, World.size_drew]; omega))))))) : Below _ _ w1))
    replace hb := As.mk hb
    go_wp2
    go_ret
    exact ⟨rfl, hB.out⟩
end Go.Proofs.Ytpkapgjpnkcffaa
