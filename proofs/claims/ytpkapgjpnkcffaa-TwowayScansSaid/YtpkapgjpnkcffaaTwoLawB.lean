/- The walk of the law TwowayScans. -/
import Derived.Test.YtpkapgjpnkcffaaTwoAwake
set_option linter.unusedVariables false
set_option linter.unusedSimpArgs false
namespace Go.Proofs.Ytpkapgjpnkcffaa
open Go.RowKit Seine.Trie Seine.Two Go.Proofs.YtpkapgjpnkcffaaW.PrintWords Go.Proofs.Ytpkapgjpnkcffaa.Ref


/-- The places ahead of k. -/
def occTo (b l : Txt) (k : Nat) : List Pr := ((List.range' 0 k).filter (isAt b l)).map fun (i : Nat) => ((i : Int), (i : Int) + (b.length : Int))
theorem occTo_succ (b l : Txt) (k : Nat) : occTo b l (k + 1) = occTo b l k ++ if isAt b l k = true then [((k : Int), (k : Int) + (b.length : Int))] else [] := by
  unfold occTo
  rw [List.range'_concat, List.filter_append, List.map_append, Nat.zero_add]
  congr 1
  simp only [Nat.one_mul, List.filter_cons, List.filter_nil]
  split <;> simp
theorem occTo_len (b l : Txt) (k : Nat) : (occTo b l k).length ≤ k := by
  unfold occTo
  rw [List.length_map]
  exact Nat.le_trans (List.length_filter_le _ _) (by simp)
theorem occTo_all {b l : Txt} {k : Nat} (h : l.length < k + b.length) (hk : k ≤ l.length + 1) : occTo b l k = occFrom b l 0 := by
  unfold occTo occFrom
  congr 1
  obtain ⟨j, hj⟩ : ∃ j, l.length + 1 = k + j := ⟨l.length + 1 - k, by omega⟩
  rw [Nat.sub_zero, hj, ← List.range'_append_1, List.filter_append]
  have : (List.range' (0 + k) j).filter (isAt b l) = [] := by
    rw [List.filter_eq_nil_iff]
    intro i hi
    obtain ⟨q, _, rfl⟩ := List.mem_range'.1 hi
    cases h2 : isAt b l (0 + k + 1 * q) with
    | false => simp
    | true => have := isAt_le h2; omega
  rw [this, List.append_nil]

set_option maxRecDepth 100000 in
set_option maxHeartbeats 1600000 in
theorem scans_walk (A : Option Addr) (c : Nat) (b : Txt) (B : Option Addr) (d : Nat) (l : Txt) (w : World) (hb : Byt w A b) (hc : b.length ≤ c) (hcm : c ≤ maxLen) (hl : Byt w B l) (hd : l.length ≤ d) (hdm : d ≤ maxLen) :
    Calls Try.prog 4 #[.slice A b.length c, .slice B l.length d] w fun e w' => e = .returned (.bool true) ∧ Below w.heap.size w w' := by
  by_cases hf : b.length ≤ 100 ∧ l.length ≤ 300
  · obtain ⟨hf1, hf2⟩ := hf
    by_cases hne : b = []
    · subst hne
      have hB := As.mk (Below.refl w.heap.size w)
      have HX := As.mk hb
      have HY := As.mk hl
      unfold maxLen at hcm hdm
      clear hb hl
      go_enter Try.func4, Try.ntmps4
      go_wp2_with fail
      refine Calls.mono (awake_calls _) ?_
      rintro e w1 ⟨rfl, hb⟩
      have hs := hb.size
      (try simp only [World.size_alloc, World.size_drew] at hs)
      replace hB := As.mk (belowNext hB.out (by (repeat (first | (with_reducible assumption) | (with_reducible exact Below.refl _ _) | (with_reducible refine Below.drew ?_) | (with_reducible refine below_drewN ?_ _) | (with_reducible refine Below.alloc ?_ (by (first | omega | (simp only [World.size_alloc, World.size_drew]; done) | (simp only [World.size_alloc, World.size_drew]; omega))) _) | (refine Below.trans ?_ (Below.mono (by with_reducible assumption) (by (first | omega | (simp only [World.size_alloc, World.size_drew]; done) | (simp only [World.size_alloc, World.size_drew]; omega))))))) : Below _ _ w1))
      replace HX := As.mk (HX.out.below (by (repeat (first | (with_reducible assumption) | (with_reducible exact Below.refl _ _) | (with_reducible refine Below.drew ?_) | (with_reducible refine below_drewN ?_ _) | (with_reducible refine Below.alloc ?_ (by (first | omega | (simp only [World.size_alloc, World.size_drew]; done) | (simp only [World.size_alloc, World.size_drew]; omega))) _) | (refine Below.trans ?_ (Below.mono (by with_reducible assumption) (by (first | omega | (simp only [World.size_alloc, World.size_drew]; done) | (simp only [World.size_alloc, World.size_drew]; omega))))))) : Below _ _ w1))
      replace HY := As.mk (HY.out.below (by (repeat (first | (with_reducible assumption) | (with_reducible exact Below.refl _ _) | (with_reducible refine Below.drew ?_) | (with_reducible refine below_drewN ?_ _) | (with_reducible refine Below.alloc ?_ (by (first | omega | (simp only [World.size_alloc, World.size_drew]; done) | (simp only [World.size_alloc, World.size_drew]; omega))) _) | (refine Below.trans ?_ (Below.mono (by with_reducible assumption) (by (first | omega | (simp only [World.size_alloc, World.size_drew]; done) | (simp only [World.size_alloc, World.size_drew]; omega))))))) : Below _ _ w1))
      replace hb := As.mk hb
      go_wp2_with fail
      refine Calls.mono (few_calls _ A B c d [] l HX.out HY.out hc hd (by omega) (by omega) true (decide_eq_true (And.intro hf1 hf2)).symm) ?_
      rintro e w2 ⟨rfl, hb⟩
      have hs := hb.size
      (try simp only [World.size_alloc, World.size_drew] at hs)
      replace hB := As.mk (belowNext hB.out (by (repeat (first | (with_reducible assumption) | (with_reducible exact Below.refl _ _) | (with_reducible refine Below.drew ?_) | (with_reducible refine below_drewN ?_ _) | (with_reducible refine Below.alloc ?_ (by (first | omega | (simp only [World.size_alloc, World.size_drew]; done) | (simp only [World.size_alloc, World.size_drew]; omega))) _) | (refine Below.trans ?_ (Below.mono (by with_reducible assumption) (by (first | omega | (simp only [World.size_alloc, World.size_drew]; done) | (simp only [World.size_alloc, World.size_drew]; omega))))))) : Below _ _ w2))
      replace HX := As.mk (HX.out.below (by (repeat (first | (with_reducible assumption) | (with_reducible exact Below.refl _ _) | (with_reducible refine Below.drew ?_) | (with_reducible refine below_drewN ?_ _) | (with_reducible refine Below.alloc ?_ (by (first | omega | (simp only [World.size_alloc, World.size_drew]; done) | (simp only [World.size_alloc, World.size_drew]; omega))) _) | (refine Below.trans ?_ (Below.mono (by with_reducible assumption) (by (first | omega | (simp only [World.size_alloc, World.size_drew]; done) | (simp only [World.size_alloc, World.size_drew]; omega))))))) : Below _ _ w2))
      replace HY := As.mk (HY.out.below (by (repeat (first | (with_reducible assumption) | (with_reducible exact Below.refl _ _) | (with_reducible refine Below.drew ?_) | (with_reducible refine below_drewN ?_ _) | (with_reducible refine Below.alloc ?_ (by (first | omega | (simp only [World.size_alloc, World.size_drew]; done) | (simp only [World.size_alloc, World.size_drew]; omega))) _) | (refine Below.trans ?_ (Below.mono (by with_reducible assumption) (by (first | omega | (simp only [World.size_alloc, World.size_drew]; done) | (simp only [World.size_alloc, World.size_drew]; omega))))))) : Below _ _ w2))
      replace hb := As.mk hb
      go_wp2
      go_ret
      exact ⟨rfl, hB.out⟩
    · --
      have hB := As.mk (Below.refl w.heap.size w)
      have HX := As.mk hb
      have HY := As.mk hl
      unfold maxLen at hcm hdm
      clear hb hl
      go_enter Try.func4, Try.ntmps4
      go_wp2_with fail
      refine Calls.mono (awake_calls _) ?_
      rintro e w1 ⟨rfl, hb⟩
      have hs := hb.size
      (try simp only [World.size_alloc, World.size_drew] at hs)
      replace hB := As.mk (belowNext hB.out (by (repeat (first | (with_reducible assumption) | (with_reducible exact Below.refl _ _) | (with_reducible refine Below.drew ?_) | (with_reducible refine below_drewN ?_ _) | (with_reducible refine Below.alloc ?_ (by (first | omega | (simp only [World.size_alloc, World.size_drew]; done) | (simp only [World.size_alloc, World.size_drew]; omega))) _) | (refine Below.trans ?_ (Below.mono (by with_reducible assumption) (by (first | omega | (simp only [World.size_alloc, World.size_drew]; done) | (simp only [World.size_alloc, World.size_drew]; omega))))))) : Below _ _ w1))
      replace HX := As.mk (HX.out.below (by (repeat (first | (with_reducible assumption) | (with_reducible exact Below.refl _ _) | (with_reducible refine Below.drew ?_) | (with_reducible refine below_drewN ?_ _) | (with_reducible refine Below.alloc ?_ (by (first | omega | (simp only [World.size_alloc, World.size_drew]; done) | (simp only [World.size_alloc, World.size_drew]; omega))) _) | (refine Below.trans ?_ (Below.mono (by with_reducible assumption) (by (first | omega | (simp only [World.size_alloc, World.size_drew]; done) | (simp only [World.size_alloc, World.size_drew]; omega))))))) : Below _ _ w1))
      replace HY := As.mk (HY.out.below (by (repeat (first | (with_reducible assumption) | (with_reducible exact Below.refl _ _) | (with_reducible refine Below.drew ?_) | (with_reducible refine below_drewN ?_ _) | (with_reducible refine Below.alloc ?_ (by (first | omega | (simp only [World.size_alloc, World.size_drew]; done) | (simp only [World.size_alloc, World.size_drew]; omega))) _) | (refine Below.trans ?_ (Below.mono (by with_reducible assumption) (by (first | omega | (simp only [World.size_alloc, World.size_drew]; done) | (simp only [World.size_alloc, World.size_drew]; omega))))))) : Below _ _ w1))
      replace hb := As.mk hb
      go_wp2_with fail
      refine Calls.mono (few_calls _ A B c d b l HX.out HY.out hc hd (by omega) (by omega) true (decide_eq_true (And.intro hf1 hf2)).symm) ?_
      rintro e w2 ⟨rfl, hb⟩
      have hs := hb.size
      (try simp only [World.size_alloc, World.size_drew] at hs)
      replace hB := As.mk (belowNext hB.out (by (repeat (first | (with_reducible assumption) | (with_reducible exact Below.refl _ _) | (with_reducible refine Below.drew ?_) | (with_reducible refine below_drewN ?_ _) | (with_reducible refine Below.alloc ?_ (by (first | omega | (simp only [World.size_alloc, World.size_drew]; done) | (simp only [World.size_alloc, World.size_drew]; omega))) _) | (refine Below.trans ?_ (Below.mono (by with_reducible assumption) (by (first | omega | (simp only [World.size_alloc, World.size_drew]; done) | (simp only [World.size_alloc, World.size_drew]; omega))))))) : Below _ _ w2))
      replace HX := As.mk (HX.out.below (by (repeat (first | (with_reducible assumption) | (with_reducible exact Below.refl _ _) | (with_reducible refine Below.drew ?_) | (with_reducible refine below_drewN ?_ _) | (with_reducible refine Below.alloc ?_ (by (first | omega | (simp only [World.size_alloc, World.size_drew]; done) | (simp only [World.size_alloc, World.size_drew]; omega))) _) | (refine Below.trans ?_ (Below.mono (by with_reducible assumption) (by (first | omega | (simp only [World.size_alloc, World.size_drew]; done) | (simp only [World.size_alloc, World.size_drew]; omega))))))) : Below _ _ w2))
      replace HY := As.mk (HY.out.below (by (repeat (first | (with_reducible assumption) | (with_reducible exact Below.refl _ _) | (with_reducible refine Below.drew ?_) | (with_reducible refine below_drewN ?_ _) | (with_reducible refine Below.alloc ?_ (by (first | omega | (simp only [World.size_alloc, World.size_drew]; done) | (simp only [World.size_alloc, World.size_drew]; omega))) _) | (refine Below.trans ?_ (Below.mono (by with_reducible assumption) (by (first | omega | (simp only [World.size_alloc, World.size_drew]; done) | (simp only [World.size_alloc, World.size_drew]; omega))))))) : Below _ _ w2))
      replace hb := As.mk hb
      have hb0 : 0 < b.length := List.length_pos_iff.2 hne
      obtain ⟨ad0, rfl, _⟩ := Byt.at_ HX.out hb0
      have hn0 : ((b.length : Int) == 0) = false := by simp; omega
      go_wp2_with fail
      refine Calls.mono (new_calls _ ad0 c b HX.out (by omega) hb0 hc) ?_
      rintro e w3 ⟨g, ad, cb, a, s, sm, rfl, hT, hb⟩; replace hT := As.mk hT
      have hs := hb.size
      (try simp only [World.size_alloc, World.size_drew] at hs)
      replace hB := As.mk (belowNext hB.out (by (repeat (first | (with_reducible assumption) | (with_reducible exact Below.refl _ _) | (with_reducible refine Below.drew ?_) | (with_reducible refine below_drewN ?_ _) | (with_reducible refine Below.alloc ?_ (by (first | omega | (simp only [World.size_alloc, World.size_drew]; done) | (simp only [World.size_alloc, World.size_drew]; omega))) _) | (refine Below.trans ?_ (Below.mono (by with_reducible assumption) (by (first | omega | (simp only [World.size_alloc, World.size_drew]; done) | (simp only [World.size_alloc, World.size_drew]; omega))))))) : Below _ _ w3))
      replace HX := As.mk (HX.out.below (by (repeat (first | (with_reducible assumption) | (with_reducible exact Below.refl _ _) | (with_reducible refine Below.drew ?_) | (with_reducible refine below_drewN ?_ _) | (with_reducible refine Below.alloc ?_ (by (first | omega | (simp only [World.size_alloc, World.size_drew]; done) | (simp only [World.size_alloc, World.size_drew]; omega))) _) | (refine Below.trans ?_ (Below.mono (by with_reducible assumption) (by (first | omega | (simp only [World.size_alloc, World.size_drew]; done) | (simp only [World.size_alloc, World.size_drew]; omega))))))) : Below _ _ w3))
      replace HY := As.mk (HY.out.below (by (repeat (first | (with_reducible assumption) | (with_reducible exact Below.refl _ _) | (with_reducible refine Below.drew ?_) | (with_reducible refine below_drewN ?_ _) | (with_reducible refine Below.alloc ?_ (by (first | omega | (simp only [World.size_alloc, World.size_drew]; done) | (simp only [World.size_alloc, World.size_drew]; omega))) _) | (refine Below.trans ?_ (Below.mono (by with_reducible assumption) (by (first | omega | (simp only [World.size_alloc, World.size_drew]; done) | (simp only [World.size_alloc, World.size_drew]; omega))))))) : Below _ _ w3))
      replace hb := As.mk hb
      obtain ⟨n, hn⟩ : ∃ n, b.length = n := ⟨_, rfl⟩
      obtain ⟨m, hm⟩ : ∃ m, l.length = m := ⟨_, rfl⟩
      have hn' := As.mk hn
      have hm' := As.mk hm
      rw [hn] at hb0 hn0 hf1 hc ⊢
      rw [hm] at hf2 hd ⊢
      clear hn hm hne
      have hc3 := HX.out
      go_wp2_with fail
      go_loopg [9, 10] (m + 2) (fun gk v i wr => ∃ k : Nat, As (m + 2 ≤ gk + k) ∧ i = .int .i64 k ∧ k ≤ m + 1 ∧ As (OwnPrs wr w3.heap.size v (occTo b l k)) ∧ As (Below w3.heap.size w3 wr))
      case atStart => exact ⟨0, ⟨by omega⟩, rfl, by omega, ⟨World.ownsRow_nil _ _ _ _⟩, ⟨Below.refl _ _⟩⟩
      case round =>
        obtain ⟨k, hgk, rfl, hk, hown, hbel⟩ := hrel
        have hBr := As.mk (belowNext hB.out hbel.out)
        by_cases hlt : k + n ≤ m
        · obtain ⟨gp, rfl⟩ : ∃ gp, gk = gp + 1 := ⟨gk - 1, by have := hgk.out; omega⟩
          have hlt' : decide ((k : Int) + (n : Int) ≤ (m : Int)) = true := by simp; omega
          obtain ⟨adl, rfl, _⟩ := Byt.at_ HY.out (i := 0) (by have := hm'.out; omega)
          have h1 : (k : Int) + (n : Int) ≤ (d : Int) := by omega
          have h2 : (k : Int) ≤ (k : Int) + (n : Int) := by omega
          have h3 : k < d := by omega
          have hcA : ∀ j c', (convert 22 9 (.slice (some (adl.add k)) n c')).run Try.prog (wr.drewN j) = .ok (.string (bb ((l.drop k).take n))) (wr.drewN j) := fun j c' => by
            have h0 := Byt.piece (b := l) ((Row.below HY.out hbel.out).drewN j) k n (by have := hm'.out; omega)
            have := conv_byt (c := c') Try.underlying22 h0 (by rw [List.length_take, List.length_drop]; have := hm'.out; omega)
            rwa [show ((l.drop k).take n).length = n by rw [List.length_take, List.length_drop]; have := hm'.out; omega] at this
          have hcB : ∀ j, (convert 22 9 (.slice (some ad0) n c)).run Try.prog (wr.drewN j) = .ok (.string (bb b)) (wr.drewN j) := fun j => by
            have := conv_byt (c := c) Try.underlying22 ((Row.below HX.out hbel.out).drewN j) (by have := hn'.out; omega)
            rwa [hn'.out] at this
          have hsucc := occTo_succ b l k
          have hol := occTo_len b l k
          have hat : isAt b l k = decide ((l.drop k).take n = b) := by
            unfold isAt
            rw [hn'.out, hm'.out, decide_eq_decide]
            exact ⟨fun h => h.2, fun h => ⟨hlt, h⟩⟩
          have hkd : (k : Int) < (d : Int) := by omega
          by_cases he : (l.drop k).take n = b
          · rw [hat, decide_eq_true he, if_pos rfl] at hsucc
            rw [he] at hcA
            replace hsucc := As.mk hsucc
            clear hat he
            generalize bb b = sb at *
            have hn1 := hn'.out
            replace hn1 := As.mk hn1
            generalize occTo b l k = acc at *
            go_wp2
            have i1 : IntKind.i64.wrap ((k : Int) + (n : Int)) = (k : Int) + (n : Int) := IntWalk.i64_in _ (by omega)
            have j1 : 0 ≤ (k : Int) + (n : Int) := by omega
            have k1 : ((k : Int) + (n : Int)).toNat = k + n := by omega
            go_quiet (fail)
            clear i1 j1 k1
            have hownq := As.mk (own_below hown.out (below_drewN (Below.refl _ _) nq))
            have hbelq := As.mk (below_drewN hbel.out nq)
            have hBq := As.mk (below_drewN hBr.out nq)
            clear hcA hcB hown hbel hBr
            generalize wr.drewN nq = wq at *
            go_wp2_with (at_builtin
                         refine wpList_app1 _ rfl (.tmp 49) (.tmp 56) 30 rfl w3.heap.size 35 _ 2 16 Try.underlying30 info_pr rfl (by decide) _ acc.length (prCells acc) rfl hownq.out [.int .i64 (k : Int), .int .i64 ((k : Int) + (n : Int))] rfl (by simp [Value.oneCell']) _ rfl (by simp) (by omega) (by decide) hbelq.out.size ?_
                         intro v' w4 hown4 hk4 hat4 hb4
                         replace hown4 := As.mk hown4
                         replace hk4 := As.mk hk4
                         replace hb4 := As.mk hb4)
            go_roundg gp
            case rel => exact ⟨k + 1, ⟨by have := hgk.out; omega⟩, (by first | rfl | go_num | (congr 1; omega)), by omega, ⟨by rw [hsucc.out, hn1.out]; exact ownPrs_snoc hown4.out⟩, ⟨hbelq.out.trans hb4.out⟩⟩
            case measure => omega
          · rw [hat, decide_eq_false he, if_neg (by simp), List.append_nil] at hsucc
            replace hsucc := As.mk hsucc
            have hne2 : ((bb ((l.drop k).take n)).toList == (bb b).toList) = false := by rw [bb_toList, bb_toList]; simpa using he
            clear hat he
            generalize bb b = sb at *
            generalize bb ((l.drop k).take n) = sl at *
            go_wp2
            have i1 : IntKind.i64.wrap ((k : Int) + (n : Int)) = (k : Int) + (n : Int) := IntWalk.i64_in _ (by omega)
            have j1 : 0 ≤ (k : Int) + (n : Int) := by omega
            have k1 : ((k : Int) + (n : Int)).toNat = k + n := by omega
            go_quiet (fail)
            clear i1 j1 k1
            go_wp2
            go_roundg gp
            case rel => exact ⟨k + 1, ⟨by have := hgk.out; omega⟩, (by first | rfl | go_num | (congr 1; omega)), by omega, ⟨by rw [hsucc.out]; exact own_below hown.out (below_drewN (Below.refl _ _) nq)⟩, ⟨below_drewN hbel.out _⟩⟩
            case measure => omega
        · have hlt' : decide ((k : Int) + (n : Int) ≤ (m : Int)) = false := by simp; omega
          have hall := occTo_all (b := b) (l := l) (k := k) (by have := hn'.out; have := hm'.out; omega) (by have := hm'.out; omega)
          have hTr := As.mk (hT.out.below hbel.out)
          have HYr := As.mk (Row.below HY.out hbel.out)
          have hRl := occ_length b l 0
          rw [hall] at hown
          obtain ⟨R, hR⟩ : ∃ R, occFrom b l 0 = R := ⟨_, rfl⟩
          rw [hR] at hown hRl
          replace hR := As.mk hR
          obtain ⟨A5, c5, rfl, hc5, hr5⟩ := OwnPrs.row hown.out
          replace hr5 := As.mk hr5
          have hRl2 : R.length ≤ 301 := by have := hm'.out; omega
          clear hall hRl hown
          have csc := As.mk (by have := scan_calls wr g b ad cb a s sm hTr.out (by have := hn'.out; omega) B d l HYr.out (by have := hm'.out; omega); rw [hR.out, hm'.out] at this; exact this : Calls Try.prog 13 #[.pointer (some ⟨g, 0, none⟩), .slice B m d] wr (RetPrs wr R))
          go_wp2_with fail
          refine Calls.mono (csc.out) ?_
          intro e w6 h6; obtain ⟨A6, c6, rfl, hc6, hr6, hb⟩ := h6.row; replace hr6 := As.mk hr6; clear h6
          have hs := hb.size
          (try simp only [World.size_alloc, World.size_drew] at hs)
          replace hBr := As.mk (belowNext hBr.out (by (repeat (first | (with_reducible assumption) | (with_reducible exact Below.refl _ _) | (with_reducible refine Below.drew ?_) | (with_reducible refine below_drewN ?_ _) | (with_reducible refine Below.alloc ?_ (by (first | omega | (simp only [World.size_alloc, World.size_drew]; done) | (simp only [World.size_alloc, World.size_drew]; omega))) _) | (refine Below.trans ?_ (Below.mono (by with_reducible assumption) (by (first | omega | (simp only [World.size_alloc, World.size_drew]; done) | (simp only [World.size_alloc, World.size_drew]; omega))))))) : Below _ _ w6))
          replace hr5 := As.mk (hr5.out.below (by (repeat (first | (with_reducible assumption) | (with_reducible exact Below.refl _ _) | (with_reducible refine Below.drew ?_) | (with_reducible refine below_drewN ?_ _) | (with_reducible refine Below.alloc ?_ (by (first | omega | (simp only [World.size_alloc, World.size_drew]; done) | (simp only [World.size_alloc, World.size_drew]; omega))) _) | (refine Below.trans ?_ (Below.mono (by with_reducible assumption) (by (first | omega | (simp only [World.size_alloc, World.size_drew]; done) | (simp only [World.size_alloc, World.size_drew]; omega))))))) : Below _ _ w6))
          replace hb := As.mk hb
          go_wp2_with fail
          refine Calls.mono (same_calls A6 A5 c6 c5 R R _ hr6.out hr5.out (by omega) (by omega)) ?_
          rintro e w7 ⟨he, nq7, rfl⟩; rw [decide_eq_true rfl] at he; subst he
          go_wp2
          go_ret
          exact ⟨rfl, below_drewN hBr.out _⟩
  · --
    have hB := As.mk (Below.refl w.heap.size w)
    have HX := As.mk hb
    have HY := As.mk hl
    unfold maxLen at hcm hdm
    clear hb hl
    go_enter Try.func4, Try.ntmps4
    go_wp2_with fail
    refine Calls.mono (awake_calls _) ?_
    rintro e w1 ⟨rfl, hb⟩
    have hs := hb.size
    (try simp only [World.size_alloc, World.size_drew] at hs)
    replace hB := As.mk (belowNext hB.out (by (repeat (first | (with_reducible assumption) | (with_reducible exact Below.refl _ _) | (with_reducible refine Below.drew ?_) | (with_reducible refine below_drewN ?_ _) | (with_reducible refine Below.alloc ?_ (by (first | omega | (simp only [World.size_alloc, World.size_drew]; done) | (simp only [World.size_alloc, World.size_drew]; omega))) _) | (refine Below.trans ?_ (Below.mono (by with_reducible assumption) (by (first | omega | (simp only [World.size_alloc, World.size_drew]; done) | (simp only [World.size_alloc, World.size_drew]; omega))))))) : Below _ _ w1))
    replace HX := As.mk (HX.out.below (by (repeat (first | (with_reducible assumption) | (with_reducible exact Below.refl _ _) | (with_reducible refine Below.drew ?_) | (with_reducible refine below_drewN ?_ _) | (with_reducible refine Below.alloc ?_ (by (first | omega | (simp only [World.size_alloc, World.size_drew]; done) | (simp only [World.size_alloc, World.size_drew]; omega))) _) | (refine Below.trans ?_ (Below.mono (by with_reducible assumption) (by (first | omega | (simp only [World.size_alloc, World.size_drew]; done) | (simp only [World.size_alloc, World.size_drew]; omega))))))) : Below _ _ w1))
    replace HY := As.mk (HY.out.below (by (repeat (first | (with_reducible assumption) | (with_reducible exact Below.refl _ _) | (with_reducible refine Below.drew ?_) | (with_reducible refine below_drewN ?_ _) | (with_reducible refine Below.alloc ?_ (by (first | omega | (simp only [World.size_alloc, World.size_drew]; done) | (simp only [World.size_alloc, World.size_drew]; omega))) _) | (refine Below.trans ?_ (Below.mono (by with_reducible assumption) (by (first | omega | (simp only [World.size_alloc, World.size_drew]; done) | (simp only [World.size_alloc, World.size_drew]; omega))))))) : Below _ _ w1))
    replace hb := As.mk hb
    go_wp2_with fail
    refine Calls.mono (few_calls _ A B c d b l HX.out HY.out hc hd (by omega) (by omega) false (decide_eq_false hf).symm) ?_
    rintro e w2 ⟨rfl, hb⟩
    have hs := hb.size
    (try simp only [World.size_alloc, World.size_drew] at hs)
    replace hB := As.mk (belowNext hB.out (by (repeat (first | (with_reducible assumption) | (with_reducible exact Below.refl _ _) | (with_reducible refine Below.drew ?_) | (with_reducible refine below_drewN ?_ _) | (with_reducible refine Below.alloc ?_ (by (first | omega | (simp only [World.size_alloc, World.size_drew]; done) | (simp only [World.size_alloc, World.size_drew]; omega))) _) | (refine Below.trans ?_ (Below.mono (by with_reducible assumption) (by (first | omega | (simp only [World.size_alloc, World.size_drew]; done) | (simp only [World.size_alloc, World.size_drew]; omega))))))) : Below _ _ w2))
    replace HX := As.mk (HX.out.below (by (repeat (first | (with_reducible assumption) | (with_reducible exact Below.refl _ _) | (with_reducible refine Below.drew ?_) | (with_reducible refine below_drewN ?_ _) | (with_reducible refine Below.alloc ?_ (by (first | omega | (simp only [World.size_alloc, World.size_drew]; done) | (simp only [World.size_alloc, World.size_drew]; omega))) _) | (refine Below.trans ?_ (Below.mono (by with_reducible assumption) (by (first | omega | (simp only [World.size_alloc, World.size_drew]; done) | (simp only [World.size_alloc, World.size_drew]; omega))))))) : Below _ _ w2))
    replace HY := As.mk (HY.out.below (by (repeat (first | (with_reducible assumption) | (with_reducible exact Below.refl _ _) | (with_reducible refine Below.drew ?_) | (with_reducible refine below_drewN ?_ _) | (with_reducible refine Below.alloc ?_ (by (first | omega | (simp only [World.size_alloc, World.size_drew]; done) | (simp only [World.size_alloc, World.size_drew]; omega))) _) | (refine Below.trans ?_ (Below.mono (by with_reducible assumption) (by (first | omega | (simp only [World.size_alloc, World.size_drew]; done) | (simp only [World.size_alloc, World.size_drew]; omega))))))) : Below _ _ w2))
    replace hb := As.mk hb
    go_wp2
    go_ret
    exact ⟨rfl, hB.out⟩
end Go.Proofs.Ytpkapgjpnkcffaa
