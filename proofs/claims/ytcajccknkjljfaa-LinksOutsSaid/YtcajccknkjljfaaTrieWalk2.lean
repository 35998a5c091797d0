/- The walks of package trie: what a tree is asked. -/
import Derived.Test.YtcajccknkjljfaaTrieWalk
set_option linter.unusedVariables false
set_option linter.unusedSimpArgs false
namespace Go.Proofs.Ytcajccknkjljfaa
open Go.RowKit Go.Maps Seine.Trie
attribute [local go_sem] max2_i min2_i max_two' min_two'

theorem TrieAt.below {w w' : World} {base g : Nat} {P : List Txt} {W : Txt → Int} (h : TrieAt w base g P W) (hb : Below w.heap.size w w') : TrieAt w' base g P W := by
  obtain ⟨v, mb, hg, h1, h2, ho, hm, hT⟩ := h
  exact ⟨v, mb, (hb.block g (block_lt hg)).trans hg, h1, h2, own_below ho hb, hm.below hb, hT⟩
theorem TrieAt.tree {w : World} {base g : Nat} {P : List Txt} {W : Txt → Int} (h : TrieAt w base g P W) : Tree P := by obtain ⟨v, mb, hg, h1, h2, ho, hm, hT⟩ := h; exact hT
theorem TrieAt.read {w : World} {base g : Nat} {P : List Txt} {W : Txt → Int} (h : TrieAt w base g P W) : ∃ ad cp mb, w.cell? ⟨g, 0, none⟩ = some (.slice (some ad) P.length cp) ∧ w.cell? ⟨g, 1, none⟩ = some (.map (some mb)) ∧ P.length ≤ cp ∧
    MapIs Try.prog 67 3 w mb P.length (edgeF P) ∧
    As (∀ i p, P[i]? = some p → w.cell? (ad.add (i * 4)) = some (.int .i64 (parent P p)) ∧ w.cell? ⟨(ad.add (i * 4)).block, (ad.add (i * 4)).off + 1, none⟩ = some (.int .i64 p.length) ∧
      w.cell? ⟨(ad.add (i * 4)).block, (ad.add (i * 4)).off + 2, none⟩ = some (.int .i64 (W p)) ∧ w.cell? ⟨(ad.add (i * 4)).block, (ad.add (i * 4)).off + 3, none⟩ = some (.int .u8 ((lastB p).toNat : Int))) := by
  obtain ⟨v, mb, hg, h1, h2, ho, hm, hT⟩ := h
  obtain ⟨A, cp, rfl, hcp⟩ := own_slice ho
  have hr := Row.of_own ho
  have hl := hT.len
  obtain ⟨ad, rfl, _⟩ := hr.at_ (j := 0) (by rw [nodeCells_length]; omega)
  refine ⟨ad, cp, mb, cell_of_blk hg 0, cell_of_blk hg 1, hcp, hm, ⟨fun i p hi => ?_⟩⟩
  have hil : i < P.length := (List.getElem?_eq_some_iff.1 hi).1
  have key : ∀ j, j < 4 → ∀ u, (tnode P W p)[j]? = some u → w.cell? (ad.add (i * 4 + j)) = some u := by
    intro j hj u hu
    obtain ⟨ad', e, hc⟩ := hr.at_ (j := i * 4 + j) (by rw [nodeCells_length]; omega)
    injection e with e
    subst e
    have := nodeCells_at P W hi j hj
    rw [List.getElem?_eq_getElem (by rw [nodeCells_length]; omega), hu] at this
    injection this with this
    rw [hc, this]
  exact ⟨key 0 (by omega) _ rfl, by rw [← Addr.add_field _ _ _ (by omega)]; exact key 1 (by omega) _ rfl, by rw [← Addr.add_field _ _ _ (by omega)]; exact key 2 (by omega) _ rfl, by rw [← Addr.add_field _ _ _ (by omega)]; exact key 3 (by omega) _ rfl⟩

section
variable (w : World) (base g : Nat) (P : List Txt) (W : Txt → Int)
theorem nodes_calls (ht : TrieAt w base g P W) : Calls Try.prog 22 #[.pointer (some ⟨g, 0, none⟩)] w fun e w' => e = .returned (.int .i64 (P.length : Int)) ∧ w = w' := by
  obtain ⟨ad, cp, mb, c0, c1, hcp, _, _⟩ := ht.read
  go_enter Try.func22, Try.ntmps22
  go_wp2
  go_ret
  exact ⟨rfl, rfl⟩
theorem is_calls (ht : TrieAt w base g P W) (n : Int) (b : Bool) (hb : b = true ↔ 0 ≤ n ∧ n < P.length) : Calls Try.prog 36 #[.pointer (some ⟨g, 0, none⟩), .int .i64 n] w fun e w' => e = .returned (.bool b) ∧ w = w' := by
  have hc := As.mk (nodes_calls w base g P W ht)
  by_cases h0 : 0 ≤ n
  · have h0b : decide (0 ≤ n) = true := decide_eq_true h0
    by_cases h1 : n < P.length
    · obtain rfl : b = true := hb.2 ⟨h0, h1⟩
      clear hb
      go_enter Try.func36, Try.ntmps36
      go_wp2_with (go_at_call 22; refine hc.out.mono ?_; rintro e w' ⟨rfl, rfl⟩)
      go_ret
      exact ⟨rfl, rfl⟩
    · obtain rfl : b = false := by cases b with
        | false => rfl
        | true => exact absurd (hb.1 rfl).2 h1
      clear hb
      have h1b : decide (n < (P.length : Int)) = false := decide_eq_false h1
      go_enter Try.func36, Try.ntmps36
      go_wp2_with (go_at_call 22; refine hc.out.mono ?_; rintro e w' ⟨rfl, rfl⟩)
      go_ret
      exact ⟨rfl, rfl⟩
  · obtain rfl : b = false := by cases b with
      | false => rfl
      | true => exact absurd (hb.1 rfl).1 h0
    clear hb
    have h0b : decide (0 ≤ n) = false := decide_eq_false h0
    go_enter Try.func36, Try.ntmps36
    go_wp2
    go_ret
    exact ⟨rfl, rfl⟩

/-- where a byte leads -/
def stepF (P : List Txt) (n : Int) (c : UInt8) : Int := if 0 ≤ n ∧ n < P.length then place P (P.getD n.toNat [] ++ [c]) else -1
theorem step_calls (ht : TrieAt w base g P W) (hl : P.length ≤ 1000000) (n x : Int) (c : UInt8) (hx : x = (c.toNat : Int)) : Calls Try.prog 29 #[.pointer (some ⟨g, 0, none⟩), .int .i64 n, .int .u8 x] w fun e w' => e = .returned (.int .i64 (stepF P n c)) ∧ w = w' := by
  subst hx
  by_cases hn : 0 ≤ n ∧ n < P.length
  · have hc := As.mk (is_calls w base g P W ht n true (by simp [hn]))
    obtain ⟨ad, cp, mb, c0, c1, hcp, hm, _⟩ := ht.read
    obtain ⟨a, rfl⟩ := Int.eq_ofNat_of_zero_le hn.1
    obtain ⟨kl, hkey⟩ := edge_key (a : Int) c (by omega) (by omega)
    have hlk := MapIs.look hm edge_law Try.underlying55 Try.underlying3 (zero_int _) hkey
    have hS : As (stepF P (a : Int) c = place P (P.getD a [] ++ [c])) := ⟨by unfold stepF; rw [if_pos hn, Int.toNat_natCast]⟩
    rw [hS.out]
    rw [edgeF_at P a c (by omega)] at hlk
    by_cases hq : P.getD a [] ++ [c] ∈ P
    · rw [if_pos hq] at hlk
      have hlk : (Instr.lookup 55 (.map (some mb)) (.agg #[.int .i64 (a : Int), .int .u8 (c.toNat : Int)]) true).run Try.prog w = .ok (.tuple #[.int .i64 (place P (P.getD a [] ++ [c])), .bool true]) w := hlk
      generalize place P (P.getD a [] ++ [c]) = r at *
      clear hq hn hm hkey
      go_enter Try.func29, Try.ntmps29
      go_wp2_with (go_at_call 36; refine hc.out.mono ?_; rintro e w' ⟨rfl, rfl⟩)
      go_ret
      exact ⟨rfl, rfl⟩
    · rw [if_neg hq] at hlk
      rw [place_none hq]
      have hlk : (Instr.lookup 55 (.map (some mb)) (.agg #[.int .i64 (a : Int), .int .u8 (c.toNat : Int)]) true).run Try.prog w = .ok (.tuple #[.int .i64 0, .bool false]) w := hlk
      clear hq hn hm hkey
      go_enter Try.func29, Try.ntmps29
      go_wp2_with (go_at_call 36; refine hc.out.mono ?_; rintro e w' ⟨rfl, rfl⟩)
      go_ret
      exact ⟨rfl, rfl⟩
  · have hc := As.mk (is_calls w base g P W ht n false (by simp only [Bool.false_eq_true, false_iff]; exact hn))
    have hS : stepF P n c = -1 := if_neg hn
    rw [hS]
    clear hS hn
    go_enter Try.func29, Try.ntmps29
    go_wp2_with (go_at_call 36; refine hc.out.mono ?_; rintro e w' ⟨rfl, rfl⟩)
    go_ret
    exact ⟨rfl, rfl⟩

/-- what a node tells, or a number that is none -/
def askF (P : List Txt) (f : Txt → Int) (d n : Int) : Int := if 0 ≤ n ∧ n < P.length then f (P.getD n.toNat []) else d
theorem get_at {P : List Txt} {a : Nat} (h : a < P.length) : P[a]? = some (P.getD a []) := by simp [List.getD_eq_getElem?_getD, h]
theorem word_calls (ht : TrieAt w base g P W) (n : Int) : Calls Try.prog 25 #[.pointer (some ⟨g, 0, none⟩), .int .i64 n] w fun e w' => e = .returned (.int .i64 (askF P W (-1) n)) ∧ w = w' := by
  by_cases hn : 0 ≤ n ∧ n < P.length
  · have hc := As.mk (is_calls w base g P W ht n true (by simp [hn]))
    obtain ⟨ad, cp, mb, c0, c1, hcp, _, hcell⟩ := ht.read
    obtain ⟨a, rfl⟩ := Int.eq_ofNat_of_zero_le hn.1
    have hal : a < P.length := by omega
    obtain ⟨d0, d1, d2, d3⟩ := hcell.out a _ (get_at hal)
    have hS : askF P W (-1) (a : Int) = W (P.getD a []) := by unfold askF; rw [if_pos hn, Int.toNat_natCast]
    rw [hS]
    clear hS hn
    generalize W (P.getD a []) = r at *
    go_enter Try.func25, Try.ntmps25
    go_wp2_with (go_at_call 36; refine hc.out.mono ?_; rintro e w' ⟨rfl, rfl⟩)
    go_ret
    exact ⟨rfl, rfl⟩
  · have hc := As.mk (is_calls w base g P W ht n false (by simp only [Bool.false_eq_true, false_iff]; exact hn))
    have hS : askF P W (-1) n = -1 := if_neg hn
    rw [hS]
    clear hS hn
    go_enter Try.func25, Try.ntmps25
    go_wp2_with (go_at_call 36; refine hc.out.mono ?_; rintro e w' ⟨rfl, rfl⟩)
    go_ret
    exact ⟨rfl, rfl⟩
theorem depth_calls (ht : TrieAt w base g P W) (n : Int) : Calls Try.prog 26 #[.pointer (some ⟨g, 0, none⟩), .int .i64 n] w fun e w' => e = .returned (.int .i64 (askF P (fun p => p.length) 0 n)) ∧ w = w' := by
  by_cases hn : 0 ≤ n ∧ n < P.length
  · have hc := As.mk (is_calls w base g P W ht n true (by simp [hn]))
    obtain ⟨ad, cp, mb, c0, c1, hcp, _, hcell⟩ := ht.read
    obtain ⟨a, rfl⟩ := Int.eq_ofNat_of_zero_le hn.1
    have hal : a < P.length := by omega
    obtain ⟨d0, d1, d2, d3⟩ := hcell.out a _ (get_at hal)
    have hS : askF P (fun p => p.length) 0 (a : Int) = ((P.getD a []).length : Int) := by unfold askF; rw [if_pos hn, Int.toNat_natCast]
    rw [hS]
    clear hS hn d0 d2 d3
    generalize P.getD a [] = r at *
    go_enter Try.func26, Try.ntmps26
    go_wp2_with (go_at_call 36; refine hc.out.mono ?_; rintro e w' ⟨rfl, rfl⟩)
    go_ret
    exact ⟨rfl, rfl⟩
  · have hc := As.mk (is_calls w base g P W ht n false (by simp only [Bool.false_eq_true, false_iff]; exact hn))
    have hS : askF P (fun p => p.length) 0 n = 0 := if_neg hn
    rw [hS]
    clear hS hn
    go_enter Try.func26, Try.ntmps26
    go_wp2_with (go_at_call 36; refine hc.out.mono ?_; rintro e w' ⟨rfl, rfl⟩)
    go_ret
    exact ⟨rfl, rfl⟩
theorem parent_calls (ht : TrieAt w base g P W) (n : Int) : Calls Try.prog 40 #[.pointer (some ⟨g, 0, none⟩), .int .i64 n] w fun e w' => e = .returned (.int .i64 (askF P (parent P) (-1) n)) ∧ w = w' := by
  by_cases hn : 0 ≤ n ∧ n < P.length
  · have hc := As.mk (is_calls w base g P W ht n true (by simp [hn]))
    obtain ⟨ad, cp, mb, c0, c1, hcp, _, hcell⟩ := ht.read
    obtain ⟨a, rfl⟩ := Int.eq_ofNat_of_zero_le hn.1
    have hal : a < P.length := by omega
    obtain ⟨d0, d1, d2, d3⟩ := hcell.out a _ (get_at hal)
    have hS : askF P (parent P) (-1) (a : Int) = parent P (P.getD a []) := by unfold askF; rw [if_pos hn, Int.toNat_natCast]
    rw [hS]
    clear hS hn
    generalize parent P (P.getD a []) = r at *
    go_enter Try.func40, Try.ntmps40
    go_wp2_with (go_at_call 36; refine hc.out.mono ?_; rintro e w' ⟨rfl, rfl⟩)
    go_ret
    exact ⟨rfl, rfl⟩
  · have hc := As.mk (is_calls w base g P W ht n false (by simp only [Bool.false_eq_true, false_iff]; exact hn))
    have hS : askF P (parent P) (-1) n = -1 := if_neg hn
    rw [hS]
    clear hS hn
    go_enter Try.func40, Try.ntmps40
    go_wp2_with (go_at_call 36; refine hc.out.mono ?_; rintro e w' ⟨rfl, rfl⟩)
    go_ret
    exact ⟨rfl, rfl⟩
end
end Go.Proofs.Ytcajccknkjljfaa
