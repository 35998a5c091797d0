/- The walk of the law PrintBack. -/
import Derived.Test.YtcapmihfhioafaaDoorPrintAwake
import Derived.Test.YtcapmihfhioafaaDoorPrintWalk3
import Derived.Test.YtcapmihfhioafaaDoorBackPure
set_option linter.unusedVariables false
set_option linter.unusedSimpArgs false
namespace Go.Proofs.YtcapmihfhioafaaDoor
open Go.RowKit Seine.Trie Seine.Back Go.Shelf Go.Proofs.YtcapmihfhioafaaDoorW.PrintWords

theorem getD_left {a b : Txt} {i : Nat} (h : i < a.length) : (a ++ b).getD i 0 = a.getD i 0 := by
  rw [List.getD_eq_getElem?_getD, List.getElem?_append_left h, ← List.getD_eq_getElem?_getD]
theorem getD_right {a b : Txt} {i : Nat} (h : a.length ≤ i) : (a ++ b).getD i 0 = b.getD (i - a.length) 0 := by
  rw [List.getD_eq_getElem?_getD, List.getElem?_append_right h, ← List.getD_eq_getElem?_getD]
set_option maxRecDepth 100000 in
set_option maxHeartbeats 3200000 in
theorem back_walk (off : Int) (A : Option Addr) (c : Nat) (x : Txt) (w : World) (ho : (Lit.int .i64 off).wf = true) (hx : Byt w A x) (hxc : x.length ≤ c) (hcm : c ≤ maxLen) (ht : Tab w) :
    Calls Tryd.prog 5 #[.int .i64 off, .slice A x.length c] w fun e w' => e = .returned (.bool true) ∧ Below w.heap.size w w' := by
  have hB := As.mk (Below.refl w.heap.size w)
  have HT := As.mk ht
  have HX := As.mk hx
  unfold maxLen at hcm
  have hob : -9223372036854775808 ≤ off ∧ off ≤ 9223372036854775807 := by
    have := ho
    simp [Lit.wf, IntKind.min, IntKind.max, IntKind.signed, IntKind.bits] at this; omega
  have hD := As.mk (digits_of off hob.1 hob.2)
  clear hx ht
  by_cases hf : x.length ≤ 300
  · have hg1 : decide ((300 : Int) < (x.length : Int)) = false := decide_eq_false (by omega)
    go_enter Tryd.func5, Tryd.ntmps5
    go_wp2_with fail
    refine Calls.mono (awake_calls _ HT.out) ?_
    rintro e w1 ⟨rfl, hb⟩
    have hs := hb.size
    (try simp only [World.size_alloc, World.size_drew] at hs)
    replace hB := As.mk (belowNext hB.out (by (repeat (first | (with_reducible assumption) | (with_reducible exact Below.refl _ _) | (with_reducible refine Below.drew ?_) | (with_reducible refine below_drewN ?_ _) | (with_reducible refine Below.alloc ?_ (by (first | omega | (simp only [World.size_alloc, World.size_drew]; done) | (simp only [World.size_alloc, World.size_drew]; omega))) _) | (refine Below.trans ?_ (Below.mono (by with_reducible assumption) (by (first | omega | (simp only [World.size_alloc, World.size_drew]; done) | (simp only [World.size_alloc, World.size_drew]; omega))))))) : Below _ _ w1))
    replace HT := As.mk (HT.out.below (by (repeat (first | (with_reducible assumption) | (with_reducible exact Below.refl _ _) | (with_reducible refine Below.drew ?_) | (with_reducible refine below_drewN ?_ _) | (with_reducible refine Below.alloc ?_ (by (first | omega | (simp only [World.size_alloc, World.size_drew]; done) | (simp only [World.size_alloc, World.size_drew]; omega))) _) | (refine Below.trans ?_ (Below.mono (by with_reducible assumption) (by (first | omega | (simp only [World.size_alloc, World.size_drew]; done) | (simp only [World.size_alloc, World.size_drew]; omega))))))) : Below _ _ w1))
    replace HX := As.mk (HX.out.below (by (repeat (first | (with_reducible assumption) | (with_reducible exact Below.refl _ _) | (with_reducible refine Below.drew ?_) | (with_reducible refine below_drewN ?_ _) | (with_reducible refine Below.alloc ?_ (by (first | omega | (simp only [World.size_alloc, World.size_drew]; done) | (simp only [World.size_alloc, World.size_drew]; omega))) _) | (refine Below.trans ?_ (Below.mono (by with_reducible assumption) (by (first | omega | (simp only [World.size_alloc, World.size_drew]; done) | (simp only [World.size_alloc, World.size_drew]; omega))))))) : Below _ _ w1))
    replace hb := As.mk hb
    go_wp2_with fail
    refine Calls.mono (line_calls off ho A c x true _ HX.out (by omega) HT.out) ?_
    intro e w2 h2; obtain ⟨A2, c2, he, hc2, hr2, hb⟩ := h2.rowc; subst he; clear h2
    have hs := hb.size
    (try simp only [World.size_alloc, World.size_drew] at hs)
    replace hB := As.mk (belowNext hB.out (by (repeat (first | (with_reducible assumption) | (with_reducible exact Below.refl _ _) | (with_reducible refine Below.drew ?_) | (with_reducible refine below_drewN ?_ _) | (with_reducible refine Below.alloc ?_ (by (first | omega | (simp only [World.size_alloc, World.size_drew]; done) | (simp only [World.size_alloc, World.size_drew]; omega))) _) | (refine Below.trans ?_ (Below.mono (by with_reducible assumption) (by (first | omega | (simp only [World.size_alloc, World.size_drew]; done) | (simp only [World.size_alloc, World.size_drew]; omega))))))) : Below _ _ w2))
    replace HT := As.mk (HT.out.below (by (repeat (first | (with_reducible assumption) | (with_reducible exact Below.refl _ _) | (with_reducible refine Below.drew ?_) | (with_reducible refine below_drewN ?_ _) | (with_reducible refine Below.alloc ?_ (by (first | omega | (simp only [World.size_alloc, World.size_drew]; done) | (simp only [World.size_alloc, World.size_drew]; omega))) _) | (refine Below.trans ?_ (Below.mono (by with_reducible assumption) (by (first | omega | (simp only [World.size_alloc, World.size_drew]; done) | (simp only [World.size_alloc, World.size_drew]; omega))))))) : Below _ _ w2))
    replace HX := As.mk (HX.out.below (by (repeat (first | (with_reducible assumption) | (with_reducible exact Below.refl _ _) | (with_reducible refine Below.drew ?_) | (with_reducible refine below_drewN ?_ _) | (with_reducible refine Below.alloc ?_ (by (first | omega | (simp only [World.size_alloc, World.size_drew]; done) | (simp only [World.size_alloc, World.size_drew]; omega))) _) | (refine Below.trans ?_ (Below.mono (by with_reducible assumption) (by (first | omega | (simp only [World.size_alloc, World.size_drew]; done) | (simp only [World.size_alloc, World.size_drew]; omega))))))) : Below _ _ w2))
    replace hb := As.mk hb
    obtain ⟨ds, hds⟩ : ∃ ds, Lib.decDigits off.natAbs = ds := ⟨_, rfl⟩
    obtain ⟨s, hs⟩ : ∃ s : Nat, (if off < 0 then 1 else 0) = s := ⟨_, rfl⟩
    rw [hds, hs] at hD
    obtain ⟨D, hDD⟩ : ∃ D, Lib.itoa off = D := ⟨_, rfl⟩
    rw [hDD] at hD
    have hline : lineF off x true = D ++ (58 :: (x ++ [10])) := by
      unfold lineF aheadF dig
      rw [if_pos rfl, hDD, List.append_assoc]; rfl
    obtain ⟨n, hn⟩ : ∃ n, x.length = n := ⟨_, rfl⟩
    obtain ⟨dl, hdl⟩ : ∃ n, D.length = n := ⟨_, rfl⟩
    obtain ⟨bt, hbt⟩ : ∃ b, lineF off x true = b := ⟨_, rfl⟩
    have hbl : bt.length = dl + 1 + n + 1 := by rw [← hbt, hline, List.length_append, List.length_cons, List.length_append, hn, hdl]; simp; omega
    rw [hbt] at hc2 hr2 hline ⊢
    obtain ⟨bl, hbll⟩ : ∃ n, bt.length = n := ⟨_, rfl⟩
    have hs1 : s ≤ 1 := by rw [← hs]; split <;> omega
    have hdl2 : dl = s + ds.length := by
      rw [← hdl, hD.out.eq, hD.out.sg, List.length_append]; congr 1; split <;> rfl
    have hdsl := hD.out.len
    have hdsp := hD.out.pos
    have h58 : ∀ i, i < dl → (bt.getD i 0).toNat ≠ 58 := fun i hi => by
      rw [hline, getD_left (by rw [hdl]; exact hi)]
      have hm : D.getD i 0 ∈ D := by rw [List.getD_eq_getElem?_getD, List.getElem?_eq_getElem (by rw [hdl]; exact hi)]; exact List.getElem_mem _
      generalize D.getD i 0 = q at *
      rw [hD.out.eq, List.mem_append] at hm
      rcases hm with hm | hm
      · split at hm
        · rw [List.mem_singleton] at hm; rw [hm]; decide
        · cases hm
      · have := hD.out.dig _ hm; omega
    have hcol : (bt.getD dl 0).toNat = 58 := by rw [hline, getD_right (by rw [hdl]; exact Nat.le_refl _), hdl, Nat.sub_self]; rfl
    have hend : (bt.getD (dl + 1 + n) 0).toNat = 10 := by
      rw [hline, getD_right (by rw [hdl]; omega), hdl, show dl + 1 + n - dl = n + 1 by omega, List.getD_cons_succ, getD_right (by rw [hn]; exact Nat.le_refl _), hn, Nat.sub_self]; rfl
    have hmid : (bt.drop (dl + 1)).take n = x := by
      rw [hline, List.drop_append, List.drop_of_length_le (by rw [hdl]; omega), hdl, show dl + 1 - dl = 1 by omega]
      simp [← hn]
    obtain ⟨ad, rfl, _⟩ := Byt.at_ hr2 (i := 0) (by omega)
    have hcell : ∀ v, Below w2.heap.size w2 v → ∀ i, i < bl → v.cell? (ad.add i) = some (.int .u8 ((bt.getD i 0).toNat : Int)) := fun v hv i hi => by
      obtain ⟨ad', e, h⟩ := Byt.at_ (Row.below hr2 hv) (i := i) (by omega)
      injection e with e; subst e; exact h
    rw [hbll] at hc2 hbl ⊢
    have hcell := As.mk hcell
    replace hr2 := As.mk hr2
    have h58 := As.mk h58
    rw [hn] at hg1 hxc ⊢
    have hbD : As (∀ i, i < ds.length → bt.getD (s + i) 0 = ds.getD i 0) := ⟨fun i hi => by
      rw [hline, getD_left (by rw [hdl]; omega), hD.out.eq, getD_right (by rw [hD.out.sg]; split <;> simp)]
      congr 1
      rw [hD.out.sg]; split <;> simp⟩
    have hb0 : As (s = 1 → (bt.getD 0 0).toNat = 45) := ⟨fun h => by
      rw [hline, getD_left (by rw [hdl]; omega), hD.out.eq]
      have h2 := hD.out.sg
      by_cases h3 : off < 0
      · rw [if_pos h3]; rfl
      · rw [if_neg h3] at h2; omega⟩
    have hsn : As (s = 1 ↔ off < 0) := ⟨by rw [hD.out.sg]; split <;> simp [*]⟩
    have hnum := As.mk hD.out.num
    have hdig := As.mk hD.out.dig
    have hhead := As.mk hD.out.head
    have hdl3 := As.mk hdl2
    have hbl3 := As.mk hbl
    have hn3 := As.mk hn
    have hblb : bl ≤ 400 := by omega
    have hdlb : dl ≤ 20 := by omega
    clear hds hs hDD hline hbt hdl2 hbl hn hbll hdl
    go_wp2_with fail
    go_loopw [7] (fun v wr => ∃ k : Nat, k ≤ dl ∧ v = .int .i64 k ∧ As (Below w2.heap.size w2 wr)) (fun v _ => dl - (intOf v).toNat)
    case atStart => exact ⟨0, Nat.zero_le _, rfl, ⟨Below.refl _ _⟩⟩
    case round =>
      obtain ⟨k, hk, rfl, hbel⟩ := hrel
      have hkb0 : k < bl := by have := hbl3.out; omega
      have hck := hcell.out _ hbel.out k hkb0
      have hkb : (k : Int) < (bl : Int) := by omega
      by_cases hlt : k < dl
      · have h5 := h58.out k hlt
        have h5' : (((bt.getD k 0).toNat : Int) == 58) = false := by rw [beq_eq_false_iff_ne]; omega
        generalize (bt.getD k 0).toNat = q at *
        go_wp2
        go_roundw
        case rel => exact ⟨k + 1, by omega, (by first | rfl | go_num | (congr 1; omega)), hbel⟩
        case measure => simp [intOf]; omega
      · obtain rfl : k = dl := by omega
        rw [hcol] at hck
        obtain ⟨m, hm⟩ : ∃ m, k + 1 + n = m := ⟨_, rfl⟩
        rw [hm] at hend
        have hm3 := As.mk hm
        have hmb0 : m < bl := by have := hbl3.out; omega
        have hcm2 := hcell.out _ hbel.out m hmb0
        rw [hend] at hcm2
        have hk0 : ((k : Int) == 0) = false := by rw [beq_eq_false_iff_ne]; have := hdl3.out; omega
        have i1 : IntKind.i64.wrap ((bl : Int) - 1) = (m : Int) := by rw [IntWalk.i64_in _ (by omega)]; have := hbl3.out; omega
        have hkm : decide ((m : Int) ≤ (k : Int)) = false := decide_eq_false (by omega)
        have hmb : (m : Int) < (bl : Int) := by omega
        have hkmN : ¬ m ≤ k := by omega
        have hkmD : decide (m ≤ k) = false := decide_eq_false hkmN
        have i2 : IntKind.i64.wrap ((k : Int) + 1) = (k : Int) + 1 := IntWalk.i64_in _ (by omega)
        have i3 : ((k : Int) + 1).toNat = k + 1 := by omega
        have i4 : m - (k + 1) = n := by omega
        have j1 : k + 1 ≤ m := by omega
        have j2 : m ≤ c2 := by omega
        have j3 : 0 ≤ (k : Int) + 1 := by omega
        have hkk : (k : Int) + 1 ≤ (m : Int) := by omega
        have hmc : (m : Int) ≤ (c2 : Int) := by omega
        have KX : ∀ v (c' : Nat), Below w2.heap.size w2 v → (convert 24 9 (.slice (some (ad.add (k + 1))) n c')).run Tryd.prog v = .ok (.string (bb x)) v := fun v c' hv => by
          have h0 := Byt.piece2 (b := bt) (Row.below hr2.out hv) (k + 1) n
          rw [hmid] at h0
          have := conv_byt (c := c') Tryd.underlying24 h0 (by have := hn3.out; omega)
          rwa [hn3.out] at this
        have KY : ∀ v, Below w2.heap.size w2 v → (convert 24 9 (.slice A n c)).run Tryd.prog v = .ok (.string (bb x)) v := fun v hv => by
          have := conv_byt (c := c) Tryd.underlying24 (Row.below HX.out hv) (by have := hn3.out; omega)
          rwa [hn3.out] at this
        have KX0 := fun j c' => KX (wr.drewN j) c' (below_drewN hbel.out j)
        have KX1 : ∀ j c', (convert 24 9 (.slice (some { block := ad.block, off := ad.off + (k + 1) }) n c')).run Tryd.prog (wr.drewN j) = .ok (.string (bb x)) (wr.drewN j) := fun j c' => KX0 j c'
        have hcne : ¬ c2 = k + 1 := by omega
        have KY0 := fun j => KY (wr.drewN j) (below_drewN hbel.out j)
        clear hm KX KY
        generalize bb x = sx at *
        go_wp2
        go_quiet (fail)
        have hbelq := As.mk (below_drewN hbel.out nq)
        clear KX0 KX1 KY0 hck hcm2 hbel hkm hkmN hkmD i1 i2 i3 i4 j1 j2 j3 hmid hend
        generalize wr.drewN nq = wq at *
        have hq0 := hcell.out _ hbelq.out 0 (by omega)
        rw [show ad.add 0 = ad from (by unfold Addr.add; simp)] at hq0
        rcases (show s = 1 ∨ s = 0 by omega) with hs | hs
        · --
          have hneg := hsn.out.1 hs
          rw [hb0.out hs] at hq0
          have hnegD : decide (off < 0) = true := decide_eq_true hneg
          subst hs
          go_wp2_with fail
          go_loopw [8, 10] (fun v8 v10 wz => ∃ p : Nat, 1 ≤ p ∧ p ≤ k ∧ v10 = .int .i64 (p : Int) ∧ v8 = .int .u64 (num (ds.take (p - 1)) : Int) ∧ As (Below w2.heap.size w2 wz)) (fun _ v10 _ => k - (intOf v10).toNat)
          case atStart => exact ⟨1, Nat.le_refl _, by have := hdl3.out; omega, rfl, by rw [Nat.sub_self]; rfl, hbelq⟩
          case round =>
            obtain ⟨p, hp0, hpk, rfl, rfl, hbz⟩ := hrel
            have hkd := hdl3.out
            by_cases hlt : p < k
            · have hcp := hcell.out _ hbz.out p (by omega)
              have hpb : (p : Int) < (bl : Int) := by omega
              have hbp := hbD.out (p - 1) (by omega)
              rw [show 1 + (p - 1) = p by omega] at hbp
              rw [hbp] at hcp
              have hdp := hdig.out (ds.getD (p - 1) 0) (by rw [List.getD_eq_getElem?_getD, List.getElem?_eq_getElem (by omega)]; exact List.getElem_mem _)
              have hsuc := As.mk (num_take_succ ds (p - 1) (by omega))
              have hle := num_take ds (p - 1 + 1)
              rw [hnum.out, hsuc.out] at hle
              generalize (ds.getD (p - 1) 0).toNat = q at *
              generalize num (ds.take (p - 1)) = N at *
              have hN1 : ¬ q < 48 := by omega
              have hN2 : ¬ 57 < q := by omega
              have hD1 : decide ((q : Int) < 48) = false := decide_eq_false (by omega)
              have hD2 : decide ((57 : Int) < (q : Int)) = false := decide_eq_false (by omega)
              have i1 : IntKind.u64.wrap ((N : Int) * 10) = (N : Int) * 10 := IntWalk.u64_in _ (by omega)
              have i2 : IntKind.u8.wrap ((q : Int) - 48) = (q : Int) - 48 := IntWalk.u8_in _ (by omega)
              have i3 : IntKind.u64.wrap ((q : Int) - 48) = (q : Int) - 48 := IntWalk.u64_in _ (by omega)
              have i4 : IntKind.u64.wrap ((N : Int) * 10 + ((q : Int) - 48)) = (N : Int) * 10 + ((q : Int) - 48) := IntWalk.u64_in _ (by omega)
              clear hle hkd
              go_wp2
              go_roundw
              case rel => exact ⟨p + 1, by omega, by omega, (by first | rfl | go_num | (congr 1; omega)), by rw [show p + 1 - 1 = p - 1 + 1 by omega, hsuc.out]; congr 1; omega, hbz⟩
              case measure => simp [intOf]; omega
            · obtain rfl : p = k := by omega
              have hz0 := hcell.out _ hbz.out 1 (by omega)
              have hb1 := hbD.out 0 hdsp
              rw [Nat.add_zero] at hb1
              rw [hb1] at hz0
              have hz1 := hz0
              try change wr.cell? { block := ad.block, off := ad.off + 1 } = _ at hz1
              try rw [show ad.add 0 = ad from (by unfold Addr.add; simp)] at hz0
              have hh := hhead.out
              obtain ⟨q1, hq1⟩ : ∃ q, (ds.getD 0 0).toNat = q := ⟨_, rfl⟩
              rw [hq1] at hz0 hz1 hh
              rw [show p - 1 = ds.length by omega, List.take_length, hnum.out]
              obtain ⟨u, hu⟩ : ∃ u, off.natAbs = u := ⟨_, rfl⟩
              rw [hu]
              have e1 : IntKind.u64.wrap (-(u : Int)) = if u = 0 then 0 else 18446744073709551616 - (u : Int) := by
                rw [IntKind.wrap_u64]; split <;> omega
              have e2 : IntKind.i64.wrap (if 1 = 0 then (u : Int) else 18446744073709551616 - (u : Int)) = off := by
                rw [IntKind.wrap_i64]; simp; omega
              try rw [if_neg (by omega)] at e1
              simp only [Nat.one_ne_zero, if_true, if_false, reduceIte] at e2
              have hlt1 : 1 < p := by omega
              have hltI : decide ((1 : Int) < (p : Int)) = true := decide_eq_true (by omega)
              have hp20 : p ≤ 20 := by omega
              have hpI : decide ((p : Int) ≤ 20) = true := decide_eq_true (by omega)
              have hub : u ≤ 9223372036854775808 := by omega
              by_cases h48 : q1 = 48
              · have hpI2 : (p : Int) = 1 + 1 := by omega
                clear hu hq1 hb1 hlt hnum hdig hhead hsn hbD hcell hq0 hkd hpk hdsl hdsp hdlb
                subst h48
                clear hh
                go_wp2
                go_ret
                exact ⟨rfl, belowNext hB.out hbz.out⟩
              · have h48' : ((q1 : Int) == 48) = false := by rw [beq_eq_false_iff_ne]; omega
                clear hu hq1 hb1 hlt hnum hdig hhead hsn hbD hcell hq0 hkd hpk hdsl hdsp hdlb
                clear hh
                go_wp2
                go_ret
                exact ⟨rfl, belowNext hB.out hbz.out⟩
        · --
          have hneg : ¬ off < 0 := fun h => by have := hsn.out.2 h; omega
          have hnegD : decide (off < 0) = false := decide_eq_false hneg
          have hd0 := hdig.out (ds.getD 0 0) (by rw [List.getD_eq_getElem?_getD, List.getElem?_eq_getElem hdsp]; exact List.getElem_mem _)
          have he0 := hbD.out 0 hdsp
          rw [hs, Nat.add_zero] at he0
          rw [he0] at hq0
          have hq45 : (((ds.getD 0 0).toNat : Int) == 45) = false := by rw [beq_eq_false_iff_ne]; omega
          obtain ⟨q0, hqe⟩ : ∃ q, (ds.getD 0 0).toNat = q := ⟨_, rfl⟩
          rw [hqe] at hq0 hq45
          clear hqe hd0 he0
          subst hs
          go_wp2_with fail
          go_loopw [8, 10] (fun v8 v10 wz => ∃ p : Nat, 0 ≤ p ∧ p ≤ k ∧ v10 = .int .i64 (p : Int) ∧ v8 = .int .u64 (num (ds.take (p - 0)) : Int) ∧ As (Below w2.heap.size w2 wz)) (fun _ v10 _ => k - (intOf v10).toNat)
          case atStart => exact ⟨0, Nat.le_refl _, by have := hdl3.out; omega, rfl, by rw [Nat.sub_self]; rfl, hbelq⟩
          case round =>
            obtain ⟨p, hp0, hpk, rfl, rfl, hbz⟩ := hrel
            have hkd := hdl3.out
            by_cases hlt : p < k
            · have hcp := hcell.out _ hbz.out p (by omega)
              have hpb : (p : Int) < (bl : Int) := by omega
              have hbp := hbD.out (p - 0) (by omega)
              rw [show 0 + (p - 0) = p by omega] at hbp
              rw [hbp] at hcp
              have hdp := hdig.out (ds.getD (p - 0) 0) (by rw [List.getD_eq_getElem?_getD, List.getElem?_eq_getElem (by omega)]; exact List.getElem_mem _)
              have hsuc := As.mk (num_take_succ ds (p - 0) (by omega))
              have hle := num_take ds (p - 0 + 1)
              rw [hnum.out, hsuc.out] at hle
              generalize (ds.getD (p - 0) 0).toNat = q at *
              generalize num (ds.take (p - 0)) = N at *
              have hN1 : ¬ q < 48 := by omega
              have hN2 : ¬ 57 < q := by omega
              have hD1 : decide ((q : Int) < 48) = false := decide_eq_false (by omega)
              have hD2 : decide ((57 : Int) < (q : Int)) = false := decide_eq_false (by omega)
              have i1 : IntKind.u64.wrap ((N : Int) * 10) = (N : Int) * 10 := IntWalk.u64_in _ (by omega)
              have i2 : IntKind.u8.wrap ((q : Int) - 48) = (q : Int) - 48 := IntWalk.u8_in _ (by omega)
              have i3 : IntKind.u64.wrap ((q : Int) - 48) = (q : Int) - 48 := IntWalk.u64_in _ (by omega)
              have i4 : IntKind.u64.wrap ((N : Int) * 10 + ((q : Int) - 48)) = (N : Int) * 10 + ((q : Int) - 48) := IntWalk.u64_in _ (by omega)
              clear hle hkd
              go_wp2
              go_roundw
              case rel => exact ⟨p + 1, by omega, by omega, (by first | rfl | go_num | (congr 1; omega)), by rw [show p + 1 - 0 = p - 0 + 1 by omega, hsuc.out]; congr 1; omega, hbz⟩
              case measure => simp [intOf]; omega
            · obtain rfl : p = k := by omega
              have hz0 := hcell.out _ hbz.out 0 (by omega)
              have hb1 := hbD.out 0 hdsp
              rw [Nat.add_zero] at hb1
              rw [hb1] at hz0
              have hz1 := hz0
              try change wr.cell? { block := ad.block, off := ad.off + 0 } = _ at hz1
              try rw [show ad.add 0 = ad from (by unfold Addr.add; simp)] at hz0
              have hh := hhead.out
              obtain ⟨q1, hq1⟩ : ∃ q, (ds.getD 0 0).toNat = q := ⟨_, rfl⟩
              rw [hq1] at hz0 hz1 hh
              rw [show p - 0 = ds.length by omega, List.take_length, hnum.out]
              obtain ⟨u, hu⟩ : ∃ u, off.natAbs = u := ⟨_, rfl⟩
              rw [hu]
              have e1 : IntKind.u64.wrap (-(u : Int)) = if u = 0 then 0 else 18446744073709551616 - (u : Int) := by
                rw [IntKind.wrap_u64]; split <;> omega
              have e2 : IntKind.i64.wrap (if 0 = 0 then (u : Int) else 18446744073709551616 - (u : Int)) = off := by
                rw [IntKind.wrap_i64]; simp; omega
              try rw [if_neg (by omega)] at e1
              simp only [Nat.one_ne_zero, if_true, if_false, reduceIte] at e2
              have hlt1 : 0 < p := by omega
              have hltI : decide ((0 : Int) < (p : Int)) = true := decide_eq_true (by omega)
              have hp20 : p ≤ 20 := by omega
              have hpI : decide ((p : Int) ≤ 20) = true := decide_eq_true (by omega)
              have hub : u ≤ 9223372036854775808 := by omega
              by_cases h48 : q1 = 48
              · have hpI2 : (p : Int) = 0 + 1 := by omega
                clear hu hq1 hb1 hlt hnum hdig hhead hsn hbD hcell hq0 hkd hpk hdsl hdsp hdlb
                subst h48
                clear hh
                go_wp2
                go_ret
                exact ⟨rfl, belowNext hB.out hbz.out⟩
              · have h48' : ((q1 : Int) == 48) = false := by rw [beq_eq_false_iff_ne]; omega
                clear hu hq1 hb1 hlt hnum hdig hhead hsn hbD hcell hq0 hkd hpk hdsl hdsp hdlb
                clear hh
                go_wp2
                go_ret
                exact ⟨rfl, belowNext hB.out hbz.out⟩
  · have hg1 : decide ((300 : Int) < (x.length : Int)) = true := decide_eq_true (by omega)
    clear hf
    go_enter Tryd.func5, Tryd.ntmps5
    go_wp2_with fail
    refine Calls.mono (awake_calls _ HT.out) ?_
    rintro e w1 ⟨rfl, hb⟩
    have hs := hb.size
    (try simp only [World.size_alloc, World.size_drew] at hs)
    replace hB := As.mk (belowNext hB.out (by (repeat (first | (with_reducible assumption) | (with_reducible exact Below.refl _ _) | (with_reducible refine Below.drew ?_) | (with_reducible refine below_drewN ?_ _) | (with_reducible refine Below.alloc ?_ (by (first | omega | (simp only [World.size_alloc, World.size_drew]; done) | (simp only [World.size_alloc, World.size_drew]; omega))) _) | (refine Below.trans ?_ (Below.mono (by with_reducible assumption) (by (first | omega | (simp only [World.size_alloc, World.size_drew]; done) | (simp only [World.size_alloc, World.size_drew]; omega))))))) : Below _ _ w1))
    replace HT := As.mk (HT.out.below (by (repeat (first | (with_reducible assumption) | (with_reducible exact Below.refl _ _) | (with_reducible refine Below.drew ?_) | (with_reducible refine below_drewN ?_ _) | (with_reducible refine Below.alloc ?_ (by (first | omega | (simp only [World.size_alloc, World.size_drew]; done) | (simp only [World.size_alloc, World.size_drew]; omega))) _) | (refine Below.trans ?_ (Below.mono (by with_reducible assumption) (by (first | omega | (simp only [World.size_alloc, World.size_drew]; done) | (simp only [World.size_alloc, World.size_drew]; omega))))))) : Below _ _ w1))
    replace hb := As.mk hb
    go_wp2
    go_ret
    exact ⟨rfl, hB.out⟩
end Go.Proofs.YtcapmihfhioafaaDoor
