/- The walk of the law DfaCap. -/
import Derived.Test.YtglalojbdlepfaaM8
set_option linter.unusedVariables false
set_option linter.unusedSimpArgs false
namespace Go.Proofs.Ytglalojbdlepfaa
open Go.RowKit Go.Maps Seine.Trie Seine.Links Seine.Sparse Seine.Dfa
attribute [local go_sem high] eqCn
/-- A text's beginnings. -/
theorem paths_one (t : Txt) : (paths [t]).length = t.length + 1 := by
  have hn : ((List.range (t.length + 1)).map fun k => t.take k).Nodup := nodup_map' List.nodup_range fun x y hx hy h => by
    have hx := List.mem_range.1 hx
    have hy := List.mem_range.1 hy
    have := congrArg List.length h
    rw [List.length_take, List.length_take] at this
    omega
  have hm : ∀ p, p ∈ paths [t] ↔ p ∈ (List.range (t.length + 1)).map fun k => t.take k := fun p => by
    rw [(paths_spec [t]).2 p, List.mem_map]
    constructor
    · rintro (rfl | ⟨b, hb, k, hk, rfl⟩)
      · exact ⟨0, List.mem_range.2 (by omega), by simp⟩
      · obtain rfl : b = t := by simpa using hb
        exact ⟨k, List.mem_range.2 (by omega), rfl⟩
    · rintro ⟨k, hk, rfl⟩
      have hk := List.mem_range.1 hk
      exact .inr ⟨t, by simp, k, by omega, rfl⟩
  have h1 := nodup_len (paths_tree [t]).nodup fun x hx => (hm x).1 hx
  have h2 := nodup_len hn fun x hx => (hm x).2 hx
  rw [List.length_map, List.length_range] at h1 h2
  omega
theorem txtsOne {w : World} {b ty : Nat} {A : Option Addr} {t : Txt} {c : Nat} {fr : Nat × Nat} (h : w.heap[b]? = some (.cells #[.slice A t.length c] ty fr)) (hc : t.length ≤ c) (hx : Byt w A t) : Txts w (some ⟨b, 0, none⟩) [t] :=
  txtsOf (vs := [.slice A t.length c]) h rfl (fun i hi => by
    have hi : i < 1 := hi
    obtain rfl : i = 0 := by omega
    exact ⟨A, c, rfl, hc, hx⟩)
set_option maxRecDepth 100000 in
set_option maxHeartbeats 3200000 in
theorem cap_walk (B : Option Addr) (d : Nat) (L : Txt) (a : Int) (w : World) (h1 : Byt w B L) (hd : L.length ≤ d) (hdm : d ≤ maxLen) (ha : (Lit.int .u8 a).wf = true) :
    Calls Try.prog 7 #[.slice B L.length d, .int .u8 a] w fun e w' => e = .returned (.bool true) ∧ Below w.heap.size w w' := by
  obtain ⟨x, rfl⟩ := u8_byte ha
  clear ha
  have hx := x.toNat_lt
  unfold maxLen at hdm
  have HL := As.mk h1
  clear h1
  go_enter Try.func7, Try.ntmps7
  go_wp2_with fail
  refine Calls.mono (awake_calls _) ?_
  rintro e w1 ⟨rfl, hb1⟩
  have hB1 := As.mk hb1
  have HL1 := As.mk (Row.below HL.out hb1)
  obtain ⟨nl, hnl⟩ : ∃ k, L.length = k := ⟨_, rfl⟩
  rw [hnl] at hd ⊢
  have hnlm := As.mk (by rw [byCells_length, hnl, Nat.mul_one] : (byCells L).length = nl * 1)
  replace hnl := As.mk hnl
  clear hb1
  by_cases hg : nl ≤ 400
  · have hg1 : decide ((400 : Int) < (nl : Int)) = false := decide_eq_false (by omega)
    have hwx : IntKind.i64.wrap (x.toNat : Int) = (x.toNat : Int) := by rw [IntKind.wrap_i64]; omega
    obtain ⟨n, hn⟩ : ∃ n, x.toNat = n := ⟨_, rfl⟩
    rw [hn] at hx hwx ⊢
    go_wp2_with (at_builtin
                 refine wpList_apps _ rfl (.tmp 18) (.tmp 19) 23 rfl w1.heap.size 5 _ 1 1 Try.underlying23 info_u8 rfl (by decide) _ 0 [] rfl (World.ownsRow_nil _ _ _ _) B nl d (byCells L) HL1.out hnlm.out byt_one2 rfl (by omega) (by decide) (Nat.le_refl _) ?_
                 intro v2 w2 ho2 hb2)
    have h0 : As (OwnByt w2 w1.heap.size v2 (L ++ List.replicate 0 97)) := ⟨by
      show w2.ownsRow _ _ _ _ (L ++ List.replicate 0 97).length (byCells (L ++ List.replicate 0 97))
      rw [show L ++ List.replicate 0 (97 : UInt8) = L by simp, hnl.out]
      simpa using ho2⟩
    have hb2' := As.mk hb2
    clear ho2 hb2
    go_loopg [6, 7] (n + 1) (fun gk v6 v7 wr => ∃ (i : Nat) (u : Value), u = v6 ∧ As (n + 1 ≤ gk + i) ∧ i ≤ n ∧ v7 = .int .i64 i ∧ As (OwnByt wr w1.heap.size u (L ++ List.replicate i 97)) ∧ As (Below w1.heap.size w1 wr))
    case atStart => exact ⟨0, _, rfl, ⟨by omega⟩, Nat.zero_le _, rfl, h0, hb2'⟩
    case round =>
      obtain ⟨i, u, rfl, hgk, hi, rfl, ho, hbr⟩ := hrel
      have hTl : (L ++ List.replicate i (97 : UInt8)).length = nl + i := by rw [List.length_append, List.length_replicate, hnl.out]
      by_cases hlt : i < n
      · obtain ⟨gp, rfl⟩ : ∃ gp, gk = gp + 1 := ⟨gk - 1, by have := hgk.out; omega⟩
        have hsz := hbr.out.size
        have hnx : L ++ List.replicate (i + 1) (97 : UInt8) = (L ++ List.replicate i 97) ++ [97] := by rw [List.append_assoc, ← List.replicate_succ']
        replace hnx := As.mk hnx
        obtain ⟨acc, hacc⟩ : ∃ a, L ++ List.replicate i (97 : UInt8) = a := ⟨_, rfl⟩
        rw [hacc] at ho hnx hTl
        have hal : acc.length ≤ 700 := by omega
        replace hacc := As.mk hacc
        replace hTl := As.mk hTl
        go_wp2_with (at_builtin
                     refine wpList_app1 _ rfl (.tmp 27) (.tmp 28) 23 rfl w1.heap.size 5 _ 1 1 Try.underlying23 info_u8 rfl (by decide) _ acc.length (byCells acc) rfl ho.out [.int .u8 97] rfl (by simp [Value.oneCell']) _ rfl (by simp) (by omega) (by decide) (by first | omega | (simp; omega)) ?_
                     intro v' w3 ho3 hk3 hat3 hb3)
        go_roundg gp
        case rel => exact ⟨i + 1, _, rfl, ⟨by have := hgk.out; omega⟩, hlt, (by first | rfl | go_num | (congr 1; omega)), ⟨by rw [hnx.out]; exact ownByt_snoc ho3⟩, ⟨hbr.out.trans hb3⟩⟩
        case measure => exact Nat.lt_succ_self _
      · obtain rfl : i = n := by omega
        have hB2 := As.mk (belowNext hB1.out hbr.out)
        obtain ⟨T, hT⟩ : ∃ T, L ++ List.replicate i (97 : UInt8) = T := ⟨_, rfl⟩
        rw [hT] at ho hTl
        obtain ⟨AT, cT, rfl, hcT⟩ := own_slice ho.out
        have hrT := As.mk (Row.of_own ho.out)
        obtain ⟨m, hm⟩ : ∃ m, T.length = m := ⟨_, rfl⟩
        have hpl := paths_one T
        rw [hm] at hTl hcT hpl ⊢
        have hm2 : m ≤ 655 := by omega
        have htot : tot [T] = m := by simp [tot, hm]
        have cnew := As.mk (fun (v : World) (g : Nat) (hv : Below wr.heap.size wr v) (hg : v.heap[g]? = some (.cells #[.slice AT m cT] 23 (0, 0))) => dnew_calls v (some ⟨g, 0, none⟩) 1 [T] (txtsOne (by rw [hm]; exact hg) (by rw [hm]; exact hcT) (Row.below hrT.out hv)) (by omega) (by simp))
        have cbl := As.mk (fun (v : World) (g : Nat) (hv : Below wr.heap.size wr v) (hg : v.heap[g]? = some (.cells #[.slice AT m cT] 23 (0, 0))) => build_calls v (some ⟨g, 0, none⟩) 1 [T] (txtsOne (by rw [hm]; exact hg) (by rw [hm]; exact hcT) (Row.below hrT.out hv)) (by omega) (by simp))
        rw [hpl, show [T].length = 1 from rfl] at cnew
        have hg1 := heap_alloc_new wr (.cells #[.slice AT m cT] 23)
        have hbg1 : Below wr.heap.size wr (wr.alloc (.cells #[.slice AT m cT] 23)) := (Below.refl _ _).alloc (Nat.le_refl _) _
        have cn1 := As.mk (cnew.out _ _ hbg1 hg1)
        replace hT := As.mk hT
        replace hm := As.mk hm
        replace hbg1 := As.mk hbg1
        replace hg1 := As.mk hg1
        clear ho h0 hTl
        go_wp2_with fail
        refine Calls.mono cn1.out ?_
        by_cases h160 : m + 1 ≤ 160
        · simp only [if_pos h160]
          rintro e w4 ⟨⟨g, rfl, hD⟩, hb4⟩
          have hov : decide ((160 : Int) < (m : Int) + 1) = false := decide_eq_false (by omega)
          have hb04 := As.mk (hbg1.out.trans (hb4.mono (by simp)))
          have hg4 := heap_alloc_new w4 (.cells #[.slice AT m cT] 23)
          have hs4 := hb04.out.size
          have hbg4 := As.mk (hb04.out.alloc hs4 (.cells #[.slice AT m cT] 23))
          have cb4 := As.mk (cbl.out _ _ hbg4.out hg4)
          have hiw : IntKind.i64.wrap ((m : Int) + 1) = (m : Int) + 1 := by rw [IntKind.wrap_i64]; omega
          clear hg4
          go_wp2_with fail
          refine Calls.mono cb4.out ?_
          rintro e w5 ⟨tg, rfl, hTr, hb5⟩
          have hb45 : Below w4.heap.size w4 w5 := ((Below.refl _ _).alloc (Nat.le_refl _) _).trans (hb5.mono (by simp))
          have hb05 := As.mk (hb04.out.trans (hb45.mono hs4))
          have hBw5 := As.mk (belowNext hB2.out hb05.out)
          have cN := As.mk (nodes_calls w5 _ tg (paths [T]) (place [T]) hTr)
          rw [hpl, show ((m + 1 : Nat) : Int) = (m : Int) + 1 by push_cast; rfl] at cN
          clear hTr hb5
          have cst := As.mk (fun (v : World) (hv : Below w5.heap.size w5 v) => dastates_calls v g (paths [T]) [T] ((hD.below hb45).below hv))
          rw [hpl, show ((m + 1 : Nat) : Int) = (m : Int) + 1 by push_cast; rfl] at cst
          replace hpl := As.mk hpl
          clear hD hb45
          go_wp2_with (first
            | (go_at_call 29; refine Calls.mono cN.out ?_; rintro e w' ⟨rfl, rfl⟩)
            | (go_at_call 12; refine Calls.mono (mnew_calls _) ?_; rintro e w6 ⟨rfl, hmt, hb6⟩)
            | (go_at_call 21; refine Calls.mono (cst.out _ hb6) ?_; rintro e w' ⟨rfl, rfl⟩))
          go_ret
          exact ⟨rfl, belowNext hBw5.out hb6⟩
        · simp only [if_neg h160]
          rintro e w4 ⟨rfl, hb4⟩
          have hov : decide ((160 : Int) < (m : Int) + 1) = true := decide_eq_true (by omega)
          have hb04 := As.mk (hbg1.out.trans (hb4.mono (by simp)))
          have hg4 := heap_alloc_new w4 (.cells #[.slice AT m cT] 23)
          have hs4 := hb04.out.size
          have hbg4 := As.mk (hb04.out.alloc hs4 (.cells #[.slice AT m cT] 23))
          have cb4 := As.mk (cbl.out _ _ hbg4.out hg4)
          have hiw : IntKind.i64.wrap ((m : Int) + 1) = (m : Int) + 1 := by rw [IntKind.wrap_i64]; omega
          clear hg4
          go_wp2_with fail
          refine Calls.mono cb4.out ?_
          rintro e w5 ⟨tg, rfl, hTr, hb5⟩
          have hb45 : Below w4.heap.size w4 w5 := ((Below.refl _ _).alloc (Nat.le_refl _) _).trans (hb5.mono (by simp))
          have hb05 := As.mk (hb04.out.trans (hb45.mono hs4))
          have hBw5 := As.mk (belowNext hB2.out hb05.out)
          have cN := As.mk (nodes_calls w5 _ tg (paths [T]) (place [T]) hTr)
          rw [hpl, show ((m + 1 : Nat) : Int) = (m : Int) + 1 by push_cast; rfl] at cN
          clear hTr hb5
          replace hpl := As.mk hpl
          clear hb45
          go_wp2_with (first
            | (go_at_call 29; refine Calls.mono cN.out ?_; rintro e w' ⟨rfl, rfl⟩))
          refine Calls.mono (mnew_calls _) ?_
          rintro e w6 ⟨rfl, hmt, hb6⟩
          have hB6 := As.mk (belowNext hBw5.out hb6)
          have cM := As.mk (by have := mcounts_calls w6 _ _ hmt; unfold cnCells Cn.zero at this; exact this : Calls Try.prog 18 #[.pointer (some ⟨_, 0, none⟩)] w6 fun e w' => e = .returned (.agg #[.int .i64 0, .int .i64 0, .int .i64 0, .int .i64 0]) ∧ Below w6.heap.size w6 w')
          clear hmt hb6
          go_wp2_with fail
          refine Calls.mono (dscan_none _ _ _) ?_
          rintro e w7 ⟨rfl, rfl⟩
          go_wp2_with fail
          refine Calls.mono cM.out ?_
          rintro e w8 ⟨rfl, hb8⟩
          replace hB6 := As.mk (belowNext hB6.out hb8)
          clear cM hb8
          go_wp2_with fail
          refine Calls.mono (dstates_none _) ?_
          rintro e w7 ⟨rfl, rfl⟩
          go_wp2_with fail
          refine Calls.mono (dwidth_none _) ?_
          rintro e w7 ⟨rfl, rfl⟩
          go_wp2_with fail
          refine Calls.mono (dnext_none _ 0 97) ?_
          rintro e w7 ⟨rfl, rfl⟩
          go_wp2_with fail
          refine Calls.mono (dpath_none _ 0) ?_
          intro e w7 h7
          obtain ⟨A7, c7, he, _, _, hb⟩ := h7.rowc
          rw [List.length_nil] at he
          subst he
          replace hB6 := As.mk (belowNext hB6.out hb)
          clear h7 hb
          go_wp2_with fail
          go_ret
          exact ⟨rfl, hB6.out⟩
  · have hg1 : decide ((400 : Int) < (nl : Int)) = true := decide_eq_true (by omega)
    go_wp2
    go_ret
    exact ⟨rfl, hB1.out⟩
end Go.Proofs.Ytglalojbdlepfaa
