/- The walk of the reference's Number. -/
import Derived.Test.YtcapmihfhioafaaDoorPrintWalk2
set_option linter.unusedVariables false
set_option linter.unusedSimpArgs false
namespace Go.Proofs.YtcapmihfhioafaaDoor
open Go.RowKit Seine.Trie Go.Shelf Go.Proofs.YtcapmihfhioafaaDoorW.PrintWords

/-- What the reference's loop keeps. -/
def DigInv (U u : Nat) (t : Txt) : Prop := (t = [] ∧ u = U) ∨ (0 < u ∧ Lib.decDigits u ++ t = Lib.decDigits U) ∨ (u = 0 ∧ t ≠ [] ∧ t = Lib.decDigits U)
theorem DigInv.next {U u : Nat} {t : Txt} (h : DigInv U u t) (hc : 0 < u ∨ t = []) : DigInv U (u / 10) (UInt8.ofNat (48 + u % 10) :: t) := by
  have key : Lib.decDigits u ++ t = Lib.decDigits U → DigInv U (u / 10) (UInt8.ofNat (48 + u % 10) :: t) := by
    intro e
    by_cases h10 : u < 10
    · refine .inr (.inr ⟨by omega, by simp, ?_⟩)
      rw [← e, Lib.decDigits_one h10, Nat.mod_eq_of_lt h10]; rfl
    · refine .inr (.inl ⟨by omega, ?_⟩)
      rw [← e]
      conv => rhs; rw [Lib.decDigits, dif_neg h10]
      simp
  rcases h with ⟨rfl, rfl⟩ | ⟨_, e⟩ | ⟨rfl, h2, _⟩
  · exact key (by simp)
  · exact key e
  · rcases hc with h | h
    · omega
    · exact absurd h h2
theorem DigInv.last {U u : Nat} {t : Txt} (h : DigInv U u t) (hc : ¬ (0 < u ∨ t = [])) : t = Lib.decDigits U := by
  rcases h with ⟨h, _⟩ | ⟨h, _⟩ | ⟨_, _, h⟩
  · exact absurd (.inr h) hc
  · exact absurd (.inl h) hc
  · exact h
theorem DigInv.len {U u : Nat} {t : Txt} (h : DigInv U u t) : t.length ≤ (Lib.decDigits U).length := by
  rcases h with ⟨rfl, _⟩ | ⟨_, h⟩ | ⟨_, _, h⟩
  · simp
  · rw [← h, List.length_append]; omega
  · rw [h]; omega
def bb_45 (s : ByteArray) : ByteArray := (⟨#[45]⟩ : ByteArray) ++ s
theorem u8_of_nat {k : Nat} (h : k < 256) : ((UInt8.ofNat k).toNat : Int) = (k : Int) := by
  rw [UInt8.toNat_ofNat']; simp; omega
set_option maxHeartbeats 1600000 in
theorem rloop (n : Int) (neg : Bool) (U : Nat) (hneg : decide (n < 0) = neg) (hd : dig n = (if neg = true then [45] else []) ++ Lib.decDigits U) (hU : (if neg = true then IntKind.u64.wrap (-IntKind.u64.wrap n) else IntKind.u64.wrap n) = (U : Int)) (hUm : U ≤ 9223372036854775808) (hl : (Lib.decDigits U).length ≤ 21) (w : World) :
    Calls Tryd.prog 9 #[.int .i64 n] w fun e w' => e = .returned (.string (bb (dig n))) ∧ Below w.heap.size w w' := by
  have hdg := As.mk hd
  have hl := As.mk hl
  clear hd
  cases neg with
  | true =>
    rw [if_pos rfl] at hU hdg
    go_enter Tryd.func9, Tryd.ntmps9
    go_wp2
    go_loopg [4, 5] (U + 2) (fun gk u v wr => ∃ (k : Nat) (t : Txt), u = .int .u64 (k : Int) ∧ v = .string (bb t) ∧ k ≤ U ∧ As (DigInv U k t) ∧ As (k + (if t = [] then 1 else 0) < gk) ∧ As (Below w.heap.size w wr))
    case atStart => exact ⟨U, [], rfl, rfl, Nat.le_refl _, ⟨.inl ⟨rfl, rfl⟩⟩, ⟨by rw [if_pos rfl]; omega⟩, ⟨Below.refl _ _⟩⟩
    case round =>
      obtain ⟨k, t, rfl, rfl, hk, hinv, hgk, hbel⟩ := hrel
      have hlen : (bb t).size ≤ 21 := by rw [bb_size]; have := hinv.out.len; have := hl.out; omega
      have hrm : (k : Int).tmod 10 = ((k % 10 : Nat) : Int) := by rw [Int.tmod_eq_emod_of_nonneg (by omega)]; simp
      have hqo : (k : Int).tdiv 10 = ((k / 10 : Nat) : Int) := by rw [Int.tdiv_eq_ediv_of_nonneg (by omega)]; simp
      by_cases hc : 0 < k ∨ t = []
      · have hnx := As.mk (hinv.out.next hc)
        obtain ⟨d, hd⟩ : ∃ d, 48 + k % 10 = d := ⟨_, rfl⟩
        obtain ⟨r, hr⟩ : ∃ r, k % 10 = r := ⟨_, rfl⟩
        have hdb : d < 58 := by omega
        have hd2 : (48 : Int) + (r : Int) = (d : Int) := by omega
        rw [hd] at hnx
        rw [hr] at hrm
        obtain ⟨c0, hc0⟩ : ∃ c0, UInt8.ofNat d = c0 := ⟨_, rfl⟩
        have hcd : ((c0.toNat : Nat) : Int) = (d : Int) := by rw [← hc0]; exact u8_of_nat (by omega)
        rw [hc0] at hnx
        have hcv := conv_byt (c := 1) Tryd.underlying24 (b := [c0]) (Row.new wr 5 (byCells [c0])) (by simp)
        rw [show byCells [c0] = [.int .u8 (d : Int)] by simp [byCells, hcd]] at hcv
        have hs1 : (bb [c0]).size = 1 := by rw [bb_size]; rfl
        have hap := As.mk (bb_append [c0] t)
        simp only [List.length_cons, List.length_nil, Nat.zero_add] at hcv
        have hgk2 := hgk.out
        obtain ⟨gp, rfl⟩ : ∃ gp, gk = gp + 1 := ⟨gk - 1, by omega⟩
        have hme : As (k / 10 + 0 < gp) := ⟨by
          rcases hc with h | h
          · split at hgk2 <;> omega
          · rw [if_pos h] at hgk2; omega⟩
        obtain ⟨k10, hk10⟩ : ∃ q, k / 10 = q := ⟨_, rfl⟩
        rw [hk10] at hqo hnx hme
        have hkk : k10 ≤ U := by omega
        replace hap : As (bb [c0] ++ bb t = bb (c0 :: t)) := hap
        have hb2 := As.mk (hbel.out.alloc hbel.out.size (.cells #[.int .u8 (d : Int)] 5))
        clear hd hr hc0 hcd hk10 hgk2 hgk hinv
        obtain ⟨s1, hsq⟩ : ∃ s1, bb [c0] = s1 := ⟨_, rfl⟩
        rw [hsq] at hcv hs1 hap
        clear hsq
        rcases (show 0 < k ∨ (k = 0 ∧ t = []) by rcases hc with h | h; exact .inl h; rcases Nat.eq_zero_or_pos k with h0 | h0; exact .inr ⟨h0, h⟩; exact .inl h0) with hk0 | ⟨hk00, ht00⟩
        · clear hc
          generalize hbt : bb t = bt at *
          replace hbt := As.mk hbt
          go_wp2
          go_roundg gp
          case rel => exact ⟨k10, c0 :: t, (by first | rfl | go_num | (congr 1; omega)), by rw [hap.out], hkk, hnx, ⟨by rw [if_neg (by simp)]; exact hme.out⟩, hb2⟩
          case measure => omega
        · have hkd : decide (0 < k) = false := decide_eq_false (by omega)
          have hie : (bb t).toList.isEmpty = true := by rw [bb_toList, ht00]; rfl
          replace hk00 := As.mk hk00
          replace ht00 := As.mk ht00
          clear hc
          generalize hbt : bb t = bt at *
          replace hbt := As.mk hbt
          go_wp2
          go_roundg gp
          case rel => exact ⟨k10, c0 :: t, (by first | rfl | go_num | (congr 1; omega)), by rw [hap.out], hkk, hnx, ⟨by rw [if_neg (by simp)]; exact hme.out⟩, hb2⟩
          case measure => omega
      · have hla := hinv.out.last hc
        have hk0 : k = 0 := by omega
        have ht0 : t ≠ [] := fun h => hc (.inr h)
        have hne : (bb t).toList.isEmpty = false := by rw [bb_toList]; cases t with
          | nil => exact absurd rfl ht0
          | cons a t => rfl
        have hkd : decide (0 < k) = false := decide_eq_false (by omega)
        rw [← hla] at hdg
        replace hk0 := As.mk hk0
        clear hc hla hinv hgk ht0 hrm hqo
        have hfin : As (bb (dig n) = bb_45 (bb t)) := ⟨by rw [hdg.out]; first | rfl | exact (bb_append _ _).symm⟩
        clear hdg
        generalize bb t = bt at *
        go_wp2
        go_ret
        refine ⟨?_, hbel.out⟩
        rw [hfin.out]; rfl
  | false =>
    rw [if_neg (by simp)] at hU hdg
    go_enter Tryd.func9, Tryd.ntmps9
    go_wp2
    go_loopg [4, 5] (U + 2) (fun gk u v wr => ∃ (k : Nat) (t : Txt), u = .int .u64 (k : Int) ∧ v = .string (bb t) ∧ k ≤ U ∧ As (DigInv U k t) ∧ As (k + (if t = [] then 1 else 0) < gk) ∧ As (Below w.heap.size w wr))
    case atStart => exact ⟨U, [], rfl, rfl, Nat.le_refl _, ⟨.inl ⟨rfl, rfl⟩⟩, ⟨by rw [if_pos rfl]; omega⟩, ⟨Below.refl _ _⟩⟩
    case round =>
      obtain ⟨k, t, rfl, rfl, hk, hinv, hgk, hbel⟩ := hrel
      have hlen : (bb t).size ≤ 21 := by rw [bb_size]; have := hinv.out.len; have := hl.out; omega
      have hrm : (k : Int).tmod 10 = ((k % 10 : Nat) : Int) := by rw [Int.tmod_eq_emod_of_nonneg (by omega)]; simp
      have hqo : (k : Int).tdiv 10 = ((k / 10 : Nat) : Int) := by rw [Int.tdiv_eq_ediv_of_nonneg (by omega)]; simp
      by_cases hc : 0 < k ∨ t = []
      · have hnx := As.mk (hinv.out.next hc)
        obtain ⟨d, hd⟩ : ∃ d, 48 + k % 10 = d := ⟨_, rfl⟩
        obtain ⟨r, hr⟩ : ∃ r, k % 10 = r := ⟨_, rfl⟩
        have hdb : d < 58 := by omega
        have hd2 : (48 : Int) + (r : Int) = (d : Int) := by omega
        rw [hd] at hnx
        rw [hr] at hrm
        obtain ⟨c0, hc0⟩ : ∃ c0, UInt8.ofNat d = c0 := ⟨_, rfl⟩
        have hcd : ((c0.toNat : Nat) : Int) = (d : Int) := by rw [← hc0]; exact u8_of_nat (by omega)
        rw [hc0] at hnx
        have hcv := conv_byt (c := 1) Tryd.underlying24 (b := [c0]) (Row.new wr 5 (byCells [c0])) (by simp)
        rw [show byCells [c0] = [.int .u8 (d : Int)] by simp [byCells, hcd]] at hcv
        have hs1 : (bb [c0]).size = 1 := by rw [bb_size]; rfl
        have hap := As.mk (bb_append [c0] t)
        simp only [List.length_cons, List.length_nil, Nat.zero_add] at hcv
        have hgk2 := hgk.out
        obtain ⟨gp, rfl⟩ : ∃ gp, gk = gp + 1 := ⟨gk - 1, by omega⟩
        have hme : As (k / 10 + 0 < gp) := ⟨by
          rcases hc with h | h
          · split at hgk2 <;> omega
          · rw [if_pos h] at hgk2; omega⟩
        obtain ⟨k10, hk10⟩ : ∃ q, k / 10 = q := ⟨_, rfl⟩
        rw [hk10] at hqo hnx hme
        have hkk : k10 ≤ U := by omega
        replace hap : As (bb [c0] ++ bb t = bb (c0 :: t)) := hap
        have hb2 := As.mk (hbel.out.alloc hbel.out.size (.cells #[.int .u8 (d : Int)] 5))
        clear hd hr hc0 hcd hk10 hgk2 hgk hinv
        obtain ⟨s1, hsq⟩ : ∃ s1, bb [c0] = s1 := ⟨_, rfl⟩
        rw [hsq] at hcv hs1 hap
        clear hsq
        rcases (show 0 < k ∨ (k = 0 ∧ t = []) by rcases hc with h | h; exact .inl h; rcases Nat.eq_zero_or_pos k with h0 | h0; exact .inr ⟨h0, h⟩; exact .inl h0) with hk0 | ⟨hk00, ht00⟩
        · clear hc
          generalize hbt : bb t = bt at *
          replace hbt := As.mk hbt
          go_wp2
          go_roundg gp
          case rel => exact ⟨k10, c0 :: t, (by first | rfl | go_num | (congr 1; omega)), by rw [hap.out], hkk, hnx, ⟨by rw [if_neg (by simp)]; exact hme.out⟩, hb2⟩
          case measure => omega
        · have hkd : decide (0 < k) = false := decide_eq_false (by omega)
          have hie : (bb t).toList.isEmpty = true := by rw [bb_toList, ht00]; rfl
          replace hk00 := As.mk hk00
          replace ht00 := As.mk ht00
          clear hc
          generalize hbt : bb t = bt at *
          replace hbt := As.mk hbt
          go_wp2
          go_roundg gp
          case rel => exact ⟨k10, c0 :: t, (by first | rfl | go_num | (congr 1; omega)), by rw [hap.out], hkk, hnx, ⟨by rw [if_neg (by simp)]; exact hme.out⟩, hb2⟩
          case measure => omega
      · have hla := hinv.out.last hc
        have hk0 : k = 0 := by omega
        have ht0 : t ≠ [] := fun h => hc (.inr h)
        have hne : (bb t).toList.isEmpty = false := by rw [bb_toList]; cases t with
          | nil => exact absurd rfl ht0
          | cons a t => rfl
        have hkd : decide (0 < k) = false := decide_eq_false (by omega)
        rw [← hla] at hdg
        replace hk0 := As.mk hk0
        clear hc hla hinv hgk ht0 hrm hqo
        have hfin : As (bb (dig n) = id (bb t)) := ⟨by rw [hdg.out]; first | rfl | exact (bb_append _ _).symm⟩
        clear hdg
        generalize bb t = bt at *
        go_wp2
        go_ret
        refine ⟨?_, hbel.out⟩
        rw [hfin.out]; rfl
theorem rnumber_calls (n : Int) (h : (Lit.int .i64 n).wf = true) (w : World) : Calls Tryd.prog 9 #[.int .i64 n] w fun e w' => e = .returned (.string (bb (dig n))) ∧ Below w.heap.size w w' := by
  have hdl := dig_length h
  simp [Lit.wf, IntKind.min, IntKind.max, IntKind.signed, IntKind.bits] at h
  by_cases hn : n < 0
  · have e : dig n = [45] ++ Lib.decDigits n.natAbs := by unfold dig Lib.itoa; rw [if_pos hn]; rfl
    refine rloop n true n.natAbs (decide_eq_true hn) (by rw [e]; rfl) ?_ (by omega) (by rw [e] at hdl; simp at hdl; omega) w
    rw [if_pos rfl]
    simp only [IntKind.wrap, IntKind.signed, IntKind.bits]
    simp
    omega
  · have e : dig n = Lib.decDigits n.toNat := by unfold dig Lib.itoa; rw [if_neg hn]
    refine rloop n false n.toNat (decide_eq_false hn) (by rw [e]; rfl) ?_ (by omega) (by rw [e] at hdl; exact hdl) w
    rw [if_neg (by simp)]
    simp only [IntKind.wrap, IntKind.signed, IntKind.bits]
    simp
    omega
theorem rline_calls (off : Int) (h : (Lit.int .i64 off).wf = true) (x : Txt) (b : Bool) (hl : x.length ≤ 900000) (w : World) : Calls Tryd.prog 13 #[.int .i64 off, .string (bb x), .bool b] w fun e w' => e = .returned (.string (bb (lineF off x b))) ∧ Below w.heap.size w w' := by
  have hn := As.mk (rnumber_calls off h w)
  have hds : (bb (dig off)).size ≤ 21 := by rw [bb_size]; exact dig_length h
  have hxs : (bb x).size ≤ 900000 := by rw [bb_size]; exact hl
  cases b with
  | true =>
    have hf : bb (lineF off x true) = bb (dig off) ++ (⟨#[58]⟩ : ByteArray) ++ bb x ++ (⟨#[10]⟩ : ByteArray) := by
      rw [show (⟨#[58]⟩ : ByteArray) = bb [58] from rfl, show (⟨#[10]⟩ : ByteArray) = bb [10] from rfl, bb_append, bb_append, bb_append]
      unfold lineF aheadF
      simp
    have hf := As.mk hf
    go_enter Tryd.func13, Tryd.ntmps13
    go_wp2_with (go_at_call 9; refine Calls.mono hn.out ?_; rintro e w1 ⟨rfl, hb1⟩)
    go_ret
    exact ⟨by rw [hf.out]; rfl, hb1⟩
  | false =>
    have hf : bb (lineF off x false) = bb x ++ (⟨#[10]⟩ : ByteArray) := by
      rw [show (⟨#[10]⟩ : ByteArray) = bb [10] from rfl, bb_append]
      unfold lineF aheadF
      simp
    have hf := As.mk hf
    go_enter Tryd.func13, Tryd.ntmps13
    go_wp2
    go_ret
    exact ⟨by rw [hf.out]; rfl, Below.refl _ _⟩
end Go.Proofs.YtcapmihfhioafaaDoor
