/- The walk of the reference's Pieces. -/
import Derived.Test.YtcapmihfhioafaaDoorPrintRef
import Derived.Test.YtcapmihfhioafaaDoorPrintWalk3
set_option linter.unusedVariables false
set_option linter.unusedSimpArgs false
namespace Go.Proofs.YtcapmihfhioafaaDoor
open Go.RowKit Seine.Trie Go.Shelf Go.Proofs.YtcapmihfhioafaaDoorW.PrintWords

set_option maxRecDepth 100000 in
set_option maxHeartbeats 1600000 in
theorem rpieces_calls (off : Int) (h : (Lit.int .i64 off).wf = true) (x : Txt) (B : Option Addr) (d : Nat) (l : List Pr) (b : Bool) (w : World) (hl : x.length ≤ 1000) (hp : Prs w B l) (hll : l.length ≤ 200) :
    Calls Tryd.prog 15 #[.int .i64 off, .string (bb x), .slice B l.length d, .bool b] w fun e w' => e = .returned (.string (bb (piecesF off x l b))) ∧ Below w.heap.size w w' := by
  have hu25 := Tryd.underlying36
  have HP := As.mk hp
  obtain ⟨m, hm⟩ : ∃ m, x.length = m := ⟨_, rfl⟩
  obtain ⟨n, hn⟩ : ∃ n, l.length = n := ⟨_, rfl⟩
  have hxs : (bb x).size = m := by rw [bb_size]; exact hm
  rw [hm] at hl
  rw [hn] at hll ⊢
  replace hm := As.mk hm
  replace hn := As.mk hn
  have hex := As.mk (fun s e => bb_extract x s e)
  obtain ⟨sx, hsx⟩ : ∃ sx, bb x = sx := ⟨_, rfl⟩
  rw [hsx] at hxs hex ⊢
  replace hsx := As.mk hsx
  clear hp
  go_enter Tryd.func15, Tryd.ntmps15
  go_wp2
  go_loopg [9, 10] (n + 1) (fun gk v i wr => ∃ k : Nat, As (n + 1 ≤ gk + k) ∧ k ≤ n ∧ i = .int .i64 k ∧ v = .string (bb (piecesF off x (l.take k) b)) ∧ As (Below w.heap.size w wr))
  case atStart => exact ⟨0, ⟨by omega⟩, Nat.zero_le _, rfl, rfl, ⟨Below.refl _ _⟩⟩
  case round =>
    obtain ⟨k, hgk, hk, rfl, rfl, hbel⟩ := hrel
    by_cases hlt : k < n
    · obtain ⟨gp, rfl⟩ : ∃ gp, gk = gp + 1 := ⟨gk - 1, by have := hgk.out; omega⟩
      obtain ⟨ad, rfl, a1, a2⟩ := Prs.at_ (Row.below HP.out hbel.out) (i := k) (by rw [hn.out]; exact hlt)
      have hsuc : piecesF off x (l.take (k + 1)) b = piecesF off x (l.take k) b ++ pieceOf off x b (l.getD k (0, 0)) := by
        unfold piecesF
        rw [List.take_succ_eq_append_getElem (by rw [hn.out]; exact hlt), List.getD_eq_getElem?_getD, List.getElem?_eq_getElem (by rw [hn.out]; exact hlt), List.map_append, List.flatten_append]
        simp only [List.map_cons, List.map_nil, List.flatten_cons, List.flatten_nil, List.append_nil]
        rfl
      have hle := pieces_length off x b (l.take k)
      have hle2 : (bb (piecesF off x (l.take k) b)).size ≤ 210000 := by
        have : (l.take k).length * (x.length + 23) ≤ 200 * 1023 := Nat.mul_le_mul (by rw [List.length_take]; omega) (by have := hm.out; omega)
        rw [bb_size]; omega
      have hcl := As.mk (fun v (hv : Below wr.heap.size wr v) => Prs.at_ (Row.below (Row.below HP.out hbel.out) hv) (i := k) (by rw [hn.out]; exact hlt))
      generalize l.getD k (0, 0) = p at *
      obtain ⟨s, e⟩ := p
      generalize hacc : piecesF off x (l.take k) b = acc at *
      clear hle hacc
      have hap := As.mk (fun t => bb_append acc t)
      have hop : pieceOk m (s, e) = (decide (0 ≤ s) && decide (s ≤ e) && decide (e ≤ (m : Int))) := rfl
      by_cases hok : pieceOk m (s, e) = true
      · rw [hop, Bool.and_eq_true, Bool.and_eq_true, decide_eq_true_eq, decide_eq_true_eq, decide_eq_true_eq] at hok
        obtain ⟨⟨o1, o2⟩, o3⟩ := hok
        obtain ⟨sn, rfl⟩ := Int.eq_ofNat_of_zero_le o1
        obtain ⟨en, rfl⟩ := Int.eq_ofNat_of_zero_le (Int.le_trans o1 o2)
        have hsn : sn ≤ en := by omega
        have hen : en ≤ m := by omega
        obtain ⟨L, hL⟩ : ∃ L, pieceOf off x b ((sn : Int), (en : Int)) = L := ⟨_, rfl⟩
        have hL2 : lineF (RowKit.wrap64 (off + (sn : Int))) ((x.drop sn).take (en - sn)) b = L := by
          rw [← hL]; unfold pieceOf; rw [hm.out, if_pos (by rw [hop]; simp; omega)]; rfl
        have hL1 : (bb L).size ≤ 1100 := by
          rw [← hL2, bb_size]; unfold lineF
          have := ahead_length (wf_wrap (off + (sn : Int))) b
          rw [List.length_append, List.length_append, List.length_take, List.length_drop, hm.out]; simp; omega
        rw [hL] at hsuc
        have crl := As.mk (fun v => rline_calls (RowKit.wrap64 (off + (sn : Int))) (wf_wrap _) ((x.drop sn).take (en - sn)) b (by rw [List.length_take, List.length_drop, hm.out]; omega) v)
        rw [hL2] at crl
        obtain ⟨z, hz⟩ : ∃ z, RowKit.wrap64 (off + (sn : Int)) = z := ⟨_, rfl⟩
        have hzw : IntKind.i64.wrap (off + (sn : Int)) = z := (IntWalk.i64_left _).trans hz
        rw [hz] at crl
        have hse := hex.out sn en
        have hpn : As (bb (piecesF off x (l.take (k + 1)) b) = bb acc ++ bb L) := ⟨by rw [hsuc, hap.out]⟩
        obtain ⟨sp, hsp⟩ : ∃ sp, bb ((x.drop sn).take (en - sn)) = sp := ⟨_, rfl⟩
        rw [hsp] at hse crl
        obtain ⟨sL, hsL⟩ : ∃ sL, bb L = sL := ⟨_, rfl⟩
        rw [hsL] at hL1 crl hpn
        obtain ⟨sa, hsa⟩ : ∃ sa, bb acc = sa := ⟨_, rfl⟩
        rw [hsa] at hle2 hpn ⊢
        clear hop hz hsp hsL hsa hL hL2 hsuc hap hcl
        go_wp2
        go_quiet (fail)
        go_wp2_with fail
        go_region_with (go_at_call 13; refine Calls.mono (crl.out _) ?_; rintro e w' ⟨rfl, hb⟩)
        all_goals
          have hb2 := belowNext ((below_drewN hbel.out nq).drew) hb
          go_wp2
          go_roundg gp
          case rel => exact ⟨k + 1, ⟨by have := hgk.out; omega⟩, by omega, (by first | rfl | go_num | (congr 1; omega)), by rw [hpn.out], ⟨hb2⟩⟩
          case measure => omega
      · have hsk : pieceOf off x b (s, e) = [] := by unfold pieceOf; rw [hm.out, if_neg hok]
        rw [hsk, List.append_nil] at hsuc
        replace hsuc := As.mk (congrArg bb hsuc)
        obtain ⟨sa, hsa⟩ : ∃ sa, bb acc = sa := ⟨_, rfl⟩
        rw [hsa] at hle2 hsuc ⊢
        have h3 : ¬ 0 ≤ s ∨ (0 ≤ s ∧ ¬ s ≤ e) ∨ (0 ≤ s ∧ s ≤ e ∧ ¬ e ≤ (m : Int)) := by
          rw [hop] at hok
          simp only [Bool.and_eq_true, decide_eq_true_eq] at hok
          omega
        clear hok hsk hop hsa
        rcases h3 with hx1 | ⟨hx1, hx2⟩ | ⟨hx1, hx2, hx3⟩
        · have hd1 : decide (0 ≤ s) = false := decide_eq_false hx1
          clear hx1
          go_wp2
          go_quiet (fail)
          go_wp2
          go_roundg gp
          case rel => exact ⟨k + 1, ⟨by have := hgk.out; omega⟩, by omega, (by first | rfl | go_num | (congr 1; omega)), by rw [hsuc.out], ⟨below_drewN hbel.out _⟩⟩
          case measure => omega
        · have hd1 : decide (s ≤ e) = false := decide_eq_false hx2
          clear hx2
          go_wp2
          go_quiet (fail)
          go_wp2
          go_roundg gp
          case rel => exact ⟨k + 1, ⟨by have := hgk.out; omega⟩, by omega, (by first | rfl | go_num | (congr 1; omega)), by rw [hsuc.out], ⟨below_drewN hbel.out _⟩⟩
          case measure => omega
        · have hd1 : decide (e ≤ (m : Int)) = false := decide_eq_false hx3
          clear hx3
          go_wp2
          go_quiet (fail)
          go_wp2
          go_roundg gp
          case rel => exact ⟨k + 1, ⟨by have := hgk.out; omega⟩, by omega, (by first | rfl | go_num | (congr 1; omega)), by rw [hsuc.out], ⟨below_drewN hbel.out _⟩⟩
          case measure => omega
    · obtain rfl : n = k := by omega
      rw [← hn.out, List.take_length]
      go_wp2
      go_ret
      exact ⟨rfl, hbel.out⟩
end Go.Proofs.YtcapmihfhioafaaDoor
