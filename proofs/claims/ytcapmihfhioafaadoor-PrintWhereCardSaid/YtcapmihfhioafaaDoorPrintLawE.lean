/- The walk of the law PrintWhere. -/
import Derived.Test.YtcapmihfhioafaaDoorPrintLawE2
import Derived.Test.YtcapmihfhioafaaDoorPrintAwake
import Derived.Test.YtcapmihfhioafaaDoorPrintWalk3
import Derived.Deep.RegionHeld
set_option linter.unusedVariables false
set_option linter.unusedSimpArgs false
namespace Go.Proofs.YtcapmihfhioafaaDoor
open Go.RowKit Seine.Trie Go.Shelf Go.Proofs.YtcapmihfhioafaaDoorW.PrintWords


set_option maxRecDepth 100000 in
set_option maxHeartbeats 16000000 in
theorem where_some (off : Int) (A : Option Addr) (c : Nat) (x : Txt) (z y : Int) (w : World) (ho : (Lit.int .i16 off).wf = true) (hx : Byt w A x) (hxc : x.length ≤ c) (hcm : c ≤ maxLen) (hz : (Lit.int .u8 z).wf = true) (hy : (Lit.int .u8 y).wf = true) (ht : Tab w) (ad : Addr) (hA : A = some ad) (hcs : As (¬ c = z.toNat % (x.length + 1))) :
    Calls Tryd.prog 7 #[.int .i16 off, .slice A x.length c, .int .u8 z, .int .u8 y] w fun e w' => e = .returned (.bool true) ∧ Below w.heap.size w w' := by
  replace hA := As.mk hA
  have hB := As.mk (Below.refl w.heap.size w)
  have HT := As.mk ht
  have HX := As.mk hx
  unfold maxLen at hcm
  have hob : -32768 ≤ off ∧ off ≤ 32767 := by
    have := ho
    simp [Lit.wf, IntKind.min, IntKind.max, IntKind.signed, IntKind.bits] at this; omega
  have hzb : 0 ≤ z ∧ z ≤ 255 := by simp [Lit.wf, IntKind.min, IntKind.max, IntKind.signed, IntKind.bits] at hz; omega
  have hyb : 0 ≤ y ∧ y ≤ 255 := by simp [Lit.wf, IntKind.min, IntKind.max, IntKind.signed, IntKind.bits] at hy; omega
  obtain ⟨hob0, hob1⟩ := hob
  obtain ⟨hz0, hz1⟩ := hzb
  obtain ⟨hy0, hy1⟩ := hyb
  obtain ⟨zn, rfl⟩ := Int.eq_ofNat_of_zero_le hz0
  obtain ⟨yn, rfl⟩ := Int.eq_ofNat_of_zero_le hy0
  have how : (Lit.int .i64 off).wf = true := WalkArith.wf_i64 (by omega)
  clear hx ht hz hy hz0 hy0 ho
  by_cases hf : x.length ≤ 200
  · have hg1 : decide ((200 : Int) < (x.length : Int)) = false := decide_eq_false (by omega)
    go_enter Tryd.func7, Tryd.ntmps7
    go_wp2_with fail
    refine Calls.mono (awake_calls _ HT.out) ?_
    rintro e w1 ⟨rfl, hb⟩
    have hs := hb.size
    (try simp only [World.size_alloc, World.size_drew] at hs)
    replace hB := As.mk (belowNext hB.out (by (repeat (first | (with_reducible assumption) | (with_reducible exact Below.refl _ _) | (with_reducible refine Below.drew ?_) | (with_reducible refine below_drewN ?_ _) | (with_reducible refine Below.alloc ?_ (by (first | omega | (simp only [World.size_alloc, World.size_drew]; done) | (simp only [World.size_alloc, World.size_drew]; omega))) _) | (refine Below.trans ?_ (Below.mono (by with_reducible assumption) (by (first | omega | (simp only [World.size_alloc, World.size_drew]; done) | (simp only [World.size_alloc, World.size_drew]; omega))))))) : Below _ _ w1))
    replace HT := As.mk (HT.out.below (by (repeat (first | (with_reducible assumption) | (with_reducible exact Below.refl _ _) | (with_reducible refine Below.drew ?_) | (with_reducible refine below_drewN ?_ _) | (with_reducible refine Below.alloc ?_ (by (first | omega | (simp only [World.size_alloc, World.size_drew]; done) | (simp only [World.size_alloc, World.size_drew]; omega))) _) | (refine Below.trans ?_ (Below.mono (by with_reducible assumption) (by (first | omega | (simp only [World.size_alloc, World.size_drew]; done) | (simp only [World.size_alloc, World.size_drew]; omega))))))) : Below _ _ w1))
    replace HX := As.mk (HX.out.below (by (repeat (first | (with_reducible assumption) | (with_reducible exact Below.refl _ _) | (with_reducible refine Below.drew ?_) | (with_reducible refine below_drewN ?_ _) | (with_reducible refine Below.alloc ?_ (by (first | omega | (simp only [World.size_alloc, World.size_drew]; done) | (simp only [World.size_alloc, World.size_drew]; omega))) _) | (refine Below.trans ?_ (Below.mono (by with_reducible assumption) (by (first | omega | (simp only [World.size_alloc, World.size_drew]; done) | (simp only [World.size_alloc, World.size_drew]; omega))))))) : Below _ _ w1))
    replace hb := As.mk hb
    have ci : IntKind.i64.wrap off = off := IntWalk.i64_in _ (by omega)
    have hlen : ∀ o v, (Lit.int .i64 o).wf = true → ∀ t : Txt, t.length ≤ 200 → (lineF o t v).length ≤ 1000 := fun o v h t ht => by
      unfold lineF; rw [List.length_append, List.length_append]; have := ahead_length h v; simp; omega
    have hpl := As.mk (hlen off false how x hf)
    have htl := As.mk (hlen off true how x hf)
    have hnl := As.mk (dig_length how)
    have cN := As.mk (fun (v : World) (hv : Below w1.heap.size w1 v) => number_calls off how v (HT.out.below hv))
    have cL := As.mk (fun (b : Bool) (v : World) (hv : Below w1.heap.size w1 v) => line_calls off how A c x b v (Row.below HX.out hv) (by omega) (HT.out.below hv))
    have e1 : lineF off x true = (dig off ++ [58]) ++ (x ++ [10]) := by unfold lineF aheadF; simp
    have e2 : lineF off x false = x ++ [10] := by unfold lineF aheadF; simp
    have e3 := congrArg bb e1
    have e4 := congrArg bb e2
    rw [← bb_append, ← bb_append, ← bb_append] at e3
    rw [← bb_append] at e4
    have hcX : ∀ v, Below w1.heap.size w1 v → (convert 24 9 (.slice A x.length c)).run Tryd.prog v = .ok (.string (bb x)) v := fun v hv => conv_byt Tryd.underlying24 (Row.below HX.out hv) (by omega)
    have hzX : (bb x).size ≤ 200 := by rw [bb_size]; exact hf
    have hzN : (bb (dig off)).size ≤ 21 := by rw [bb_size]; exact hnl.out
    obtain ⟨D, hD⟩ : ∃ D, dig off = D := ⟨_, rfl⟩
    obtain ⟨P0, hP0⟩ : ∃ P, lineF off x false = P := ⟨_, rfl⟩
    obtain ⟨P1, hP1⟩ : ∃ P, lineF off x true = P := ⟨_, rfl⟩
    obtain ⟨sN, hsN⟩ : ∃ s, bb D = s := ⟨_, rfl⟩
    obtain ⟨sX, hsX⟩ : ∃ s, bb x = s := ⟨_, rfl⟩
    have cL0 := As.mk (cL.out false w1 (Below.refl _ _))
    have cL1 := As.mk (cL.out true)
    rw [hD] at cN hnl e3 hzN
    rw [hP0] at cL0 hpl e4
    rw [hP1] at cL1 htl e3
    rw [hsN] at hzN e3
    rw [hsX] at hcX hzX e3 e4
    change bb P1 = sN ++ (⟨#[58]⟩ : ByteArray) ++ (sX ++ (⟨#[10]⟩ : ByteArray)) at e3
    change bb P0 = sX ++ (⟨#[10]⟩ : ByteArray) at e4
    have hz1 : (sN ++ (⟨#[58]⟩ : ByteArray)).size ≤ 22 := by rw [ByteArray.size_append]; show sN.size + 1 ≤ 22; omega
    have hz2 : (sX ++ (⟨#[10]⟩ : ByteArray)).size ≤ 201 := by rw [ByteArray.size_append]; show sX.size + 1 ≤ 201; omega
    obtain ⟨n, hn⟩ : ∃ n, x.length = n := ⟨_, rfl⟩
    rw [hn] at cL0 cL1 hcX hg1 hxc hf ⊢
    replace e3 := As.mk e3
    replace e4 := As.mk e4
    replace hsN := As.mk hsN
    replace hsX := As.mk hsX
    replace hn := As.mk hn
    replace hD := As.mk hD
    have hcX := As.mk hcX
    clear hP0 hP1 e1 e2 cL
    go_wp2_with (go_at_call 12; refine Calls.mono cL0.out ?_; intro e w2 h2; obtain ⟨A2, c2, he, _, hr2, hb⟩ := h2.rowc; subst he; have K0 := strOf (c := c2) hr2 (by have := hpl.out; omega) e4.out; replace hb := As.mk hb; clear h2 hr2)
    replace hB := As.mk (belowNext hB.out hb.out)
    have hb12 := As.mk hb.out
    have hw2 : Below w2.heap.size w2 w2.drew := (Below.refl _ _).drew
    have KX : ∀ v, Below w2.heap.size w2 v → (convert 24 9 (.slice A n c)).run Tryd.prog v = .ok (.string sX) v := fun v hv => hcX.out v (hb12.out.trans (hv.mono hb12.out.size))
    go_cut [44] from 27 to 44 (fun v44 wx => v44 = .bool false ∧ As (Below w2.heap.size w2 wx))
    case first =>
      go_wp2_with fail
      go_region_held (fun w' => Below w2.heap.size w2 w')
        (first
          | go_keep
          | (exact belowNext (by with_reducible assumption) hb))
        (first
        | (go_at_call 12; refine Calls.mono (cL1.out _ (hb12.out.trans (Below.mono (by with_reducible assumption) hb12.out.size))) ?_; intro e w' h'; obtain ⟨A3, c3, he, _, hr3, hb⟩ := h'.rowc; subst he; have K1 : ∀ v, Below w'.heap.size w' v → (convert 24 9 (.slice A3 P1.length c3)).run Tryd.prog v = .ok (.string (sN ++ (⟨#[58]⟩ : ByteArray) ++ (sX ++ (⟨#[10]⟩ : ByteArray)))) v := (fun v hv => strOf (Row.below hr3 hv) (by have := htl.out; omega) e3.out); have hrf := Below.refl w'.heap.size w'; clear h' hr3)
        | (go_at_call 10; refine Calls.mono (cN.out _ (hb12.out.trans (Below.mono (by with_reducible assumption) hb12.out.size))) ?_; intro e w' h'; obtain ⟨A4, c4, he, _, hr4, hb⟩ := h'.rowc; subst he; have K2 : ∀ v, Below w'.heap.size w' v → (convert 24 9 (.slice A4 D.length c4)).run Tryd.prog v = .ok (.string sN) v := (fun v hv => strOf (Row.below hr4 hv) (by have := hnl.out; omega) hsN.out); have hrf2 := Below.refl w'.heap.size w'; clear h' hr4))
      all_goals
        go_wp2_with fail
        go_meet
        case rel => exact ⟨rfl, ⟨by with_reducible assumption⟩⟩
    case rest =>
      obtain ⟨rfl, hWb⟩ := hcut
      have hW1 := As.mk (hb12.out.trans (hWb.out.mono hb12.out.size))
      replace hB := As.mk (belowNext hB.out hWb.out)
      have hrm1 : (zn : Int).tmod ((n : Int) + 1) = ((zn % (n + 1) : Nat) : Int) := by
        rw [Int.tmod_eq_emod_of_nonneg (by omega)]; simp
      have hsn : zn % (n + 1) ≤ n := by have := Nat.mod_lt zn (show 0 < n + 1 by omega); omega
      obtain ⟨sn, hsn2⟩ : ∃ s, zn % (n + 1) = s := ⟨_, rfl⟩
      rw [hsn2] at hrm1 hsn
      have hrm2 : (yn : Int).tmod ((n : Int) + 1 - (sn : Int)) = ((yn % (n + 1 - sn) : Nat) : Int) := by
        rw [Int.tmod_eq_emod_of_nonneg (by omega), show (n : Int) + 1 - (sn : Int) = ((n + 1 - sn : Nat) : Int) by omega]; rfl
      have hqn : yn % (n + 1 - sn) ≤ n - sn := by have := Nat.mod_lt yn (show 0 < n + 1 - sn by omega); omega
      obtain ⟨q, hq2⟩ : ∃ s, yn % (n + 1 - sn) = s := ⟨_, rfl⟩
      rw [hq2] at hrm2 hqn
      obtain ⟨en, hen⟩ : ∃ e, sn + q = e := ⟨_, rfl⟩
      have hadd : (sn : Int) + (q : Int) = (en : Int) := by omega
      have hse : sn ≤ en := by omega
      have hee : en ≤ n := by omega
      have hnw : (Lit.int .i64 (off + (sn : Int))).wf = true := WalkArith.wf_i64 (by omega)
      have hwr : RowKit.wrap64 (off + (sn : Int)) = off + (sn : Int) := IntWalk.wrap64_in _ (by omega)
      have hxT : ((x.drop sn).take (en - sn)).length ≤ 200 := by rw [List.length_take, List.length_drop]; have := hn.out; omega
      have hxL : ((x.drop sn).take (en - sn)).length = en - sn := by rw [List.length_take, List.length_drop]; have := hn.out; omega
      obtain ⟨W1, hW2⟩ : ∃ V, wc.alloc (.cells #[.int .i64 (sn : Int), .int .i64 (en : Int)] 36) = V := ⟨_, rfl⟩
      have hq : W1.heap[wc.heap.size]? = some (.cells #[.int .i64 (sn : Int), .int .i64 (en : Int)] 36 (0, 0)) := by rw [← hW2]; exact heap_alloc_new _ _
      have hb11 : Below w1.heap.size w1 W1 := by rw [← hW2]; exact hW1.out.alloc hW1.out.size _
      have hb01 : Below wc.heap.size wc W1 := by rw [← hW2]; exact (Below.refl _ _).alloc (Nat.le_refl _) _
      have hpr : Prs W1 (some ⟨wc.heap.size, 0, none⟩) [((sn : Int), (en : Int))] := rowOfBlk hq
      have hB1 := As.mk (belowNext hB.out hb01)
      obtain ⟨bw, hbw⟩ : ∃ b, wc.heap.size = b := ⟨_, rfl⟩
      rw [hbw] at hpr
      have hpt := As.mk (hlen (off + (sn : Int)) true hnw _ hxT)
      have hpf := As.mk (hlen (off + (sn : Int)) false hnw _ hxT)
      have hn2 := As.mk (dig_length hnw)
      have cN2 := As.mk (fun (v : World) (hv : Below W1.heap.size W1 v) => number_calls (off + (sn : Int)) hnw v (HT.out.below (hb11.trans (hv.mono hb11.size))))
      have cP := As.mk (fun (b : Bool) (v : World) (hv : Below W1.heap.size W1 v) => (by have := pieces_calls off how A c x (some ⟨bw, 0, none⟩) 1 [((sn : Int), (en : Int))] b v (Row.below HX.out (hb11.trans (hv.mono hb11.size))) (by have := hn.out; omega) (by have := hn.out; omega) (Row.below hpr hv) (by simp) (HT.out.below (hb11.trans (hv.mono hb11.size))); rw [piece_one (off := 0) x b hse (by have := hn.out; omega), hwr, hn.out] at this; exact this : Calls Tryd.prog 14 #[.int .i64 off, .slice A n c, .slice (some ⟨bw, 0, none⟩) 1 1, .bool b] v (RetByt v (lineF (off + (sn : Int)) ((x.drop sn).take (en - sn)) b))))
      have f1 : lineF (off + (sn : Int)) ((x.drop sn).take (en - sn)) true = ((dig (off + (sn : Int)) ++ [58]) ++ ((x.drop sn).take (en - sn))) ++ [10] := by unfold lineF aheadF; simp
      have f2 : lineF (off + (sn : Int)) ((x.drop sn).take (en - sn)) false = ((x.drop sn).take (en - sn)) ++ [10] := by unfold lineF aheadF; simp
      have f3 := congrArg bb f1
      have f4 := congrArg bb f2
      rw [← bb_append, ← bb_append, ← bb_append] at f3
      rw [← bb_append] at f4
      obtain ⟨Y, hY⟩ : ∃ Y, (x.drop sn).take (en - sn) = Y := ⟨_, rfl⟩
      have hYb : ∀ v, Below W1.heap.size W1 v → ∀ ad : Addr, A = some ad → Byt v (some (ad.add sn)) Y := fun v hv ad e => by
        have h0 := Row.below HX.out (hb11.trans (hv.mono hb11.size))
        rw [e] at h0
        rw [← hY]; exact Byt.piece2 h0 sn (en - sn)
      rw [hY] at hpt hpf cP f3 f4 hxT hxL
      have hnx : As (A = none → n = 0) := ⟨fun e => by
        rcases HX.out with h | ⟨ad, h, _⟩
        · have := congrArg List.length h; rw [byCells_length, hn.out] at this; exact this
        · rw [e] at h; cases h⟩
      obtain ⟨D2, hD2⟩ : ∃ D, dig (off + (sn : Int)) = D := ⟨_, rfl⟩
      obtain ⟨PT, hPT⟩ : ∃ D, lineF (off + (sn : Int)) Y true = D := ⟨_, rfl⟩
      obtain ⟨PF, hPF⟩ : ∃ D, lineF (off + (sn : Int)) Y false = D := ⟨_, rfl⟩
      have cPT := As.mk (cP.out true)
      have cPF := As.mk (cP.out false)
      rw [hD2] at cN2 hn2 f3
      rw [hPT] at cPT hpt f3
      rw [hPF] at cPF hpf f4
      obtain ⟨sN2, hsN2⟩ : ∃ s, bb D2 = s := ⟨_, rfl⟩
      obtain ⟨sQ, hsQ⟩ : ∃ s, bb Y = s := ⟨_, rfl⟩
      have hzN2 : sN2.size ≤ 21 := by rw [← hsN2, bb_size]; exact hn2.out
      have hzQ : sQ.size ≤ 200 := by rw [← hsQ, bb_size]; exact hxT
      rw [hsN2] at f3
      rw [hsQ] at f3 f4
      change bb PT = sN2 ++ (⟨#[58]⟩ : ByteArray) ++ sQ ++ (⟨#[10]⟩ : ByteArray) at f3
      change bb PF = sQ ++ (⟨#[10]⟩ : ByteArray) at f4
      have hz3 : (sN2 ++ (⟨#[58]⟩ : ByteArray)).size ≤ 22 := by rw [ByteArray.size_append]; show sN2.size + 1 ≤ 22; omega
      have hz4 : (sN2 ++ (⟨#[58]⟩ : ByteArray) ++ sQ).size ≤ 222 := by rw [ByteArray.size_append]; omega
      replace f3 := As.mk f3
      replace f4 := As.mk f4
      replace hsN2 := As.mk hsN2
      replace hsQ := As.mk hsQ
      have hw1 : Below W1.heap.size W1 W1.drew := (Below.refl _ _).drew
      replace hW2 := As.mk hW2
      replace hbw := As.mk hbw
      replace hxL := As.mk hxL
      clear cP f1 f2 hY hD2 hPT hPF hq hpr hb01 cL0 cL1 cN hpl htl hnl e3 e4 hcX hz1 hz2 hzX hzN KX hw2 K0 HX HT hb12 hb hWb hW1 hB hnw hwr hxT
      have i9 : IntKind.i64.wrap (off + (sn : Int)) = off + (sn : Int) := IntWalk.i64_in _ (by omega)
      go_wp2_with fail
      rw [hW2.out, hbw.out]
      clear hW2 hbw
      have hA2 := hA.out
      subst hA2
      have hc3 : ¬ c = sn := by have := hcs.out; rw [Int.toNat_natCast, hn.out, hsn2] at this; exact this
      have hec : en ≤ c := by omega
      have KS : ∀ v, Below W1.heap.size W1 v → ∀ c', (convert 24 9 (.slice (some (ad.add sn)) (en - sn) c')).run Tryd.prog v = .ok (.string sQ) v := fun v hv c' => by
        have := strOf (c := c') (hYb v hv ad rfl) (by have := hxL.out; omega) hsQ.out
        rw [hxL.out] at this; exact this
      go_region_held (fun w' => Below W1.heap.size W1 w')
        (first
          | go_keep
          | (exact belowNext (by with_reducible assumption) hb))
        (first
        | (go_at_call 14; with_reducible refine Calls.mono (cPT.out _ (by with_reducible assumption)) ?_; intro e w' h'; obtain ⟨A3, c3, he, _, hr3, hb⟩ := h'.rowc; subst he; have K1 : ∀ v, Below w'.heap.size w' v → (convert 24 9 (.slice A3 PT.length c3)).run Tryd.prog v = .ok (.string (sN2 ++ (⟨#[58]⟩ : ByteArray) ++ sQ ++ (⟨#[10]⟩ : ByteArray))) v := (fun v hv => strOf (Row.below hr3 hv) (by have := hpt.out; omega) f3.out); have hrf := Below.refl w'.heap.size w'; clear h' hr3)
        | (go_at_call 14; with_reducible refine Calls.mono (cPF.out _ (by with_reducible assumption)) ?_; intro e w' h'; obtain ⟨A5, c5, he, _, hr5, hb⟩ := h'.rowc; subst he; have K3 : ∀ v, Below w'.heap.size w' v → (convert 24 9 (.slice A5 PF.length c5)).run Tryd.prog v = .ok (.string (sQ ++ (⟨#[10]⟩ : ByteArray))) v := (fun v hv => strOf (Row.below hr5 hv) (by have := hpf.out; omega) f4.out); have hrf3 := Below.refl w'.heap.size w'; clear h' hr5)
        | (go_at_call 10; refine Calls.mono (cN2.out _ (by with_reducible assumption)) ?_; intro e w' h'; obtain ⟨A4, c4, he, _, hr4, hb⟩ := h'.rowc; subst he; have K2 : ∀ v, Below w'.heap.size w' v → (convert 24 9 (.slice A4 D2.length c4)).run Tryd.prog v = .ok (.string sN2) v := (fun v hv => strOf (Row.below hr4 hv) (by have := hn2.out; omega) hsN2.out); have hrf2 := Below.refl w'.heap.size w'; clear h' hr4))
      all_goals
        go_wp2
        go_ret
        exact ⟨rfl, belowNext hB1.out (by with_reducible assumption)⟩
  · have hg1 : decide ((200 : Int) < (x.length : Int)) = true := decide_eq_true (by omega)
    clear hf
    go_enter Tryd.func7, Tryd.ntmps7
    go_wp2_with fail
    refine Calls.mono (awake_calls _ HT.out) ?_
    rintro e w1 ⟨rfl, hb⟩
    have hs := hb.size
    (try simp only [World.size_alloc, World.size_drew] at hs)
    replace hB := As.mk (belowNext hB.out (by (repeat (first | (with_reducible assumption) | (with_reducible exact Below.refl _ _) | (with_reducible refine Below.drew ?_) | (with_reducible refine below_drewN ?_ _) | (with_reducible refine Below.alloc ?_ (by (first | omega | (simp only [World.size_alloc, World.size_drew]; done) | (simp only [World.size_alloc, World.size_drew]; omega))) _) | (refine Below.trans ?_ (Below.mono (by with_reducible assumption) (by (first | omega | (simp only [World.size_alloc, World.size_drew]; done) | (simp only [World.size_alloc, World.size_drew]; omega))))))) : Below _ _ w1))
    replace HT := As.mk (HT.out.below (by (repeat (first | (with_reducible assumption) | (with_reducible exact Below.refl _ _) | (with_reducible refine Below.drew ?_) | (with_reducible refine below_drewN ?_ _) | (with_reducible refine Below.alloc ?_ (by (first | omega | (simp only [World.size_alloc, World.size_drew]; done) | (simp only [World.size_alloc, World.size_drew]; omega))) _) | (refine Below.trans ?_ (Below.mono (by with_reducible assumption) (by (first | omega | (simp only [World.size_alloc, World.size_drew]; done) | (simp only [World.size_alloc, World.size_drew]; omega))))))) : Below _ _ w1))
    replace hb := As.mk hb
    go_wp2
    go_ret
    exact ⟨rfl, hB.out⟩
theorem where_walk (off : Int) (A : Option Addr) (c : Nat) (x : Txt) (z y : Int) (w : World) (ho : (Lit.int .i16 off).wf = true) (hx : Byt w A x) (hxc : x.length ≤ c) (hcm : c ≤ maxLen) (hz : (Lit.int .u8 z).wf = true) (hy : (Lit.int .u8 y).wf = true) (ht : Tab w) :
    Calls Tryd.prog 7 #[.int .i16 off, .slice A x.length c, .int .u8 z, .int .u8 y] w fun e w' => e = .returned (.bool true) ∧ Below w.heap.size w w' := by
  cases A with
  | none => exact where_none off none c x z y w ho hx hxc hcm hz hy ht rfl
  | some ad =>
    by_cases hcs : c = z.toNat % (x.length + 1)
    · exact where_same off (some ad) c x z y w ho hx hxc hcm hz hy ht ad rfl ⟨hcs⟩
    · exact where_some off (some ad) c x z y w ho hx hxc hcm hz hy ht ad rfl ⟨hcs⟩
end Go.Proofs.YtcapmihfhioafaaDoor
