/- The walks of package trie: Path, Find, Kids, Build. -/
import Derived.Test.YtcajccknkjljfaaTrieWalk2
import Derived.Test.YtcajccknkjljfaaBytes
set_option linter.unusedVariables false
set_option linter.unusedSimpArgs false
namespace Go.Proofs.Ytcajccknkjljfaa
open Go.RowKit Go.Maps Seine.Trie
attribute [local go_sem] max2_i min2_i max_two' min_two'

/-- It answers these bytes, in new memory. -/
def RetByt (w : World) (b : Txt) (e : Ending) (w' : World) : Prop := ∃ v, e = .returned v ∧ OwnByt w' w.heap.size v b ∧ Below w.heap.size w w'
theorem RetByt.row {w w' : World} {b : Txt} {e : Ending} (h : RetByt w b e w') : ∃ A c, e = .returned (.slice A b.length c) ∧ Byt w' A b ∧ Below w.heap.size w w' := by
  obtain ⟨v, rfl, ho, hb⟩ := h
  obtain ⟨A, c, rfl, hc, hr⟩ := OwnByt.row ho
  exact ⟨A, c, rfl, hr, hb⟩
def pathF (P : List Txt) (n : Int) : Txt := if 0 ≤ n ∧ n < P.length then P.getD n.toNat [] else []
theorem below_next' {w a b : World} (h : Below w.heap.size w a) (k : Below a.heap.size a b) : Below w.heap.size w b := h.trans (k.mono h.size)

theorem last_split {q : Txt} (h : q ≠ []) : q.dropLast ++ [lastB q] = q := by
  unfold lastB
  have := List.dropLast_concat_getLast h
  rw [List.getLast?_eq_some_getLast h]
  exact this

set_option maxRecDepth 100000 in
set_option maxHeartbeats 1600000 in
theorem path_calls (w : World) (base g : Nat) (P : List Txt) (W : Txt → Int) (ht : TrieAt w base g P W) (n : Int) (hd : ∀ p ∈ P, p.length ≤ 100000) :
    Calls Try.prog 23 #[.pointer (some ⟨g, 0, none⟩), .int .i64 n] w (RetByt w (pathF P n)) := by
  have hT := ht.tree
  have HT := As.mk ht
  by_cases hn : 0 ≤ n ∧ n < P.length
  · obtain ⟨a, rfl⟩ := Int.eq_ofNat_of_zero_le hn.1
    have hal : a < P.length := by omega
    obtain ⟨R, hR⟩ : ∃ R, pathF P (a : Int) = R := ⟨_, rfl⟩
    have hRa : P[a]? = some R := by rw [← hR]; unfold pathF; rw [if_pos hn, Int.toNat_natCast]; exact get_at hal
    rw [hR]
    have hRa := As.mk hRa
    have hd := As.mk hd
    have hT := As.mk hT
    clear hR hn
    go_enter Try.func23, Try.ntmps23
    go_wp2
    go_loopw [1, 5] (fun i v wr => ∃ (m : Nat) (q acc : Txt), i = .int .i64 m ∧ As (P[m]? = some q ∧ q ++ acc.reverse = R) ∧ As (OwnByt wr w.heap.size v acc) ∧ As (Below w.heap.size w wr)) (fun i _ _ => (P.getD (intOf i).toNat []).length)
    case atStart => exact ⟨a, R, [], rfl, ⟨hRa.out, by simp⟩, ⟨World.ownsRow_nil _ _ _ _⟩, ⟨Below.refl _ _⟩⟩
    case round =>
      obtain ⟨m, q, acc, rfl, hq, hown, hbel⟩ := hrel
      have hml : m < P.length := (List.getElem?_eq_some_iff.1 hq.out.1).1
      have HTr := As.mk (HT.out.below hbel.out)
      have hc := As.mk (is_calls wr base g P W HTr.out m true (by simp; omega))
      obtain ⟨ad, cp, mb, c0, c1, hcp, _, hcell⟩ := HTr.out.read
      obtain ⟨d0, d1, d2, d3⟩ := hcell.out m q hq.out.1
      have hsz := hbel.out.size
      by_cases hne : q = []
      · have hpar : parent P q = -1 := if_pos hne
        have hacc : As (acc.reverse = R) := ⟨by have := hq.out.2; rw [hne] at this; simpa using this⟩
        have hlacc : acc.length ≤ 1000000 := by
          have h1 := hd.out R (List.mem_of_getElem? hRa.out)
          have h2 := congrArg List.length hacc.out
          simp at h2; omega
        rw [hpar] at d0
        clear hne hpar d1 d2 d3
        go_wp2_with (go_at_call 36; refine hc.out.mono ?_; rintro e w' ⟨rfl, rfl⟩)
        refine (reverse_calls wr w.heap.size _ acc hown.out hlacc).mono ?_
        rintro e w2 ⟨rfl, ho2, hk2⟩
        go_wp2
        go_ret
        refine ⟨_, rfl, ?_, ?_⟩
        · rw [hacc.out] at ho2; exact ho2
        · exact hbel.out.trans (hk2.below (fun k hk hS => by have := own_blk hown.out hS; omega) hsz)
      · have hsp := last_split hne
        have hup := hT.out.up q (List.mem_of_getElem? hq.out.1) hne
        have hpar : parent P q = place P q.dropLast := if_neg hne
        have hpm := place_mem.2 hup
        obtain ⟨m2, hm2⟩ : ∃ m2 : Nat, place P q.dropLast = (m2 : Int) := ⟨(place P q.dropLast).toNat, by omega⟩
        have hg2 := place_get hup
        rw [hm2, Int.toNat_natCast] at hg2
        have hpar2 : As (parent P q = (m2 : Int)) := ⟨hpar.trans hm2⟩
        rw [hpar, hm2] at d0
        have hlen : acc.length ≤ 1000000 := by
          have h1 := hd.out R (List.mem_of_getElem? hRa.out)
          have h2 := congrArg List.length hq.out.2
          simp at h2; omega
        have hmeas : As ((P.getD m2 []).length < (P.getD m []).length) := ⟨by
          rw [List.getD_eq_getElem?_getD, List.getD_eq_getElem?_getD, hg2, hq.out.1]
          simp only [Option.getD_some, List.length_dropLast]
          have : 0 < q.length := List.length_pos_iff.2 hne
          omega⟩
        have hnew : As (P[m2]? = some q.dropLast ∧ q.dropLast ++ (acc ++ [lastB q]).reverse = R) := ⟨hg2, by
          rw [← hq.out.2, List.reverse_append, List.reverse_cons, List.reverse_nil, List.nil_append, ← List.append_assoc, hsp]⟩
        clear hpar hpm hm2 hg2 hup hsp hne d1 d2
        generalize lastB q = c at *
        generalize q.dropLast = q2 at *
        go_wp2_with (first
          | (go_at_call 36; refine hc.out.mono ?_; rintro e w' ⟨rfl, rfl⟩)
          | (at_builtin
             refine wpList_app1 _ rfl (.tmp 20) (.tmp 29) 44 rfl w.heap.size 5 _ 1 1 Try.underlying44 info_u8 rfl (by decide) _ acc.length (byCells acc) rfl hown.out [.int .u8 (c.toNat : Int)] rfl (by simp [Value.oneCell']) _ rfl (by simp) (by omega) (by decide) (by first | omega | (simp; omega)) ?_
             intro v' w2 ho2 hk2 hat2 hb2
             have hbel2 := As.mk (hbel.out.trans hb2)
             obtain ⟨ad2, cp2, mb2, c02, c12, hcp2, _, hcell2⟩ := (HT.out.below hbel2.out).read
             have ead := c02
             rw [(hb2.cell (p := ⟨g, 0, none⟩) (World.block_lt_of_cell? w _ (HT.out.read.choose_spec.choose_spec.choose_spec.1))).trans c0] at ead
             injection ead with ead
             injection ead with ead ead2 ead3
             injection ead with ead
             subst ead
             obtain ⟨e0, _, _, _⟩ := hcell2.out m q hq.out.1
             rw [hpar2.out] at e0
             clear ead2 ead3))
        go_roundw
        case rel => exact ⟨m2, q2, acc ++ [c], rfl, hnew, ⟨ownByt_snoc ho2⟩, hbel2⟩
        case measure => have := hmeas.out; simpa [intOf] using this
  · have hc := As.mk (is_calls w base g P W ht n false (by simp only [Bool.false_eq_true, false_iff]; exact hn))
    have hR : pathF P n = [] := if_neg hn
    rw [hR]
    clear hR hn
    go_enter Try.func23, Try.ntmps23
    go_wp2
    refine wp_loop_rounds 1 ?_
    rw [rounds_succ]
    go_wp2_with (go_at_call 36; refine hc.out.mono ?_; rintro e w' ⟨rfl, rfl⟩)
    refine (reverse_calls w w.heap.size (.slice none 0 0) [] (World.ownsRow_nil _ _ _ _) (by simp)).mono ?_
    rintro e w2 ⟨rfl, ho2, hk2⟩
    go_wp2
    go_ret
    exact ⟨_, rfl, ho2, hk2.below (fun k hk hS => by simp [Value.ownBlock] at hS) (Nat.le_refl _)⟩

/-- the bytes below k that lead on -/
def kidsF (P : List Txt) (n : Int) (k : Nat) : Txt := ((List.range k).map UInt8.ofNat).filter fun c => decide (0 ≤ stepF P n c)
theorem kidsF_succ (P : List Txt) (n : Int) (k : Nat) : kidsF P n (k + 1) = kidsF P n k ++ if 0 ≤ stepF P n (UInt8.ofNat k) then [UInt8.ofNat k] else [] := by
  unfold kidsF
  rw [List.range_succ, List.map_append, List.filter_append]
  congr 1
  by_cases h : 0 ≤ stepF P n (UInt8.ofNat k) <;> simp [h]
theorem kidsF_length (P : List Txt) (n : Int) (k : Nat) : (kidsF P n k).length ≤ k := by
  unfold kidsF
  have := List.length_filter_le (fun c => decide (0 ≤ stepF P n c)) ((List.range k).map UInt8.ofNat)
  simpa using this

set_option maxRecDepth 100000 in
set_option maxHeartbeats 800000 in
theorem kids_calls (w : World) (base g : Nat) (P : List Txt) (W : Txt → Int) (ht : TrieAt w base g P W) (hl : P.length ≤ 1000000) (n : Int) :
    Calls Try.prog 28 #[.pointer (some ⟨g, 0, none⟩), .int .i64 n] w (RetByt w (kidsF P n 256)) := by
  have HT := As.mk ht
  obtain ⟨R, hR⟩ : ∃ R, kidsF P n 256 = R := ⟨_, rfl⟩
  rw [hR]
  have hR := As.mk hR
  go_enter Try.func28, Try.ntmps28
  go_wp2
  go_loopw [5, 7] (fun v i wr => ∃ k : Nat, k ≤ 256 ∧ i = .int .i64 k ∧ As (OwnByt wr w.heap.size v (kidsF P n k)) ∧ As (Below w.heap.size w wr)) (fun _ i _ => 256 - (intOf i).toNat)
  case atStart => exact ⟨0, by omega, rfl, ⟨World.ownsRow_nil _ _ _ _⟩, ⟨Below.refl _ _⟩⟩
  case round =>
    obtain ⟨k, hk, rfl, hown, hbel⟩ := hrel
    have hsz := hbel.out.size
    by_cases hlt : k < 256
    · have hcb : ((UInt8.ofNat k).toNat : Int) = (k : Int) := by simp; omega
      have hc := As.mk (step_calls wr base g P W (HT.out.below hbel.out) hl n (k : Int) (UInt8.ofNat k) hcb.symm)
      have hs := As.mk (kidsF_succ P n k)
      have hlen := kidsF_length P n k
      generalize kidsF P n k = acc at *
      by_cases hst : 0 ≤ stepF P n (UInt8.ofNat k)
      · rw [if_pos hst] at hs
        have hcb := As.mk hcb
        generalize stepF P n (UInt8.ofNat k) = r at *
        go_wp2_with (first
          | (go_at_call 29; refine hc.out.mono ?_; rintro e w' ⟨rfl, rfl⟩)
          | (at_builtin
             refine wpList_app1 _ rfl (.tmp 16) (.tmp 19) 44 rfl w.heap.size 5 _ 1 1 Try.underlying44 info_u8 rfl (by decide) _ acc.length (byCells acc) rfl hown.out [.int .u8 (k : Int)] rfl (by simp [Value.oneCell']) _ rfl (by simp) (by omega) (by decide) (by first | omega | (simp; omega)) ?_
             intro v' w2 ho2 hk2 hat2 hb2))
        go_roundw
        case rel => exact ⟨k + 1, by omega, by go_num, ⟨by rw [hs.out]; refine ownByt_snoc ?_; rw [hcb.out]; exact ho2⟩, ⟨hbel.out.trans hb2⟩⟩
        case measure => simp [intOf]; omega
      · rw [if_neg hst, List.append_nil] at hs
        clear hcb
        generalize stepF P n (UInt8.ofNat k) = r at *
        go_wp2_with (go_at_call 29; refine hc.out.mono ?_; rintro e w' ⟨rfl, rfl⟩)
        go_roundw
        case rel => exact ⟨k + 1, by omega, by go_num, ⟨by rw [hs.out]; exact hown.out⟩, hbel⟩
        case measure => simp [intOf]; omega
    · have hk2 : k = 256 := by omega
      rw [hk2, hR.out] at hown
      clear hk2
      go_wp2
      go_ret
      exact ⟨_, rfl, hown.out, hbel.out⟩

theorem step_chain {P : List Txt} (hT : Tree P) (b : Txt) (k : Nat) (hk : k < b.length) : stepF P (place P (b.take k)) (b.getD k 0) = place P (b.take (k + 1)) := by
  have e : b.take (k + 1) = b.take k ++ [b.getD k 0] := by
    rw [List.take_succ_eq_append_getElem hk]; simp [hk]
  have hr := place_range P (b.take k)
  unfold stepF
  by_cases hm : b.take k ∈ P
  · have h0 := place_mem.2 hm
    rw [if_pos ⟨h0, hr.2⟩, List.getD_eq_getElem?_getD, place_get hm, Option.getD_some, e]
  · have hneg := place_neg.2 hm
    rw [if_neg (by omega)]
    symm
    apply place_none
    intro h
    rw [e] at h
    have := hT.up _ h (by simp)
    rw [List.dropLast_concat] at this
    exact hm this

theorem find_calls (w : World) (base g : Nat) (P : List Txt) (W : Txt → Int) (ht : TrieAt w base g P W) (hl : P.length ≤ 1000000) (A : Option Addr) (c : Nat) (b : Txt) (hb : Byt w A b) (hbl : b.length ≤ 1000000) :
    Calls Try.prog 24 #[.pointer (some ⟨g, 0, none⟩), .slice A b.length c] w fun e w' => e = .returned (.int .i64 (place P b)) ∧ w = w' := by
  have hT := As.mk ht.tree
  have hc := As.mk (nodes_calls w base g P W ht)
  have hcs := As.mk (fun n x c h => step_calls w base g P W ht hl n x c h)
  have HB := As.mk hb
  have hP := ht.tree.len
  clear hb ht
  obtain ⟨R, hR⟩ : ∃ R, place P b = R := ⟨_, rfl⟩
  rw [hR]
  have hR := As.mk hR
  have h00 : As ((0 : Int) = place P (b.take 0)) := ⟨by rw [List.take_zero, place_at hT.out.nodup hT.out.root]; rfl⟩
  go_enter Try.func24, Try.ntmps24
  have hmin : min (0 : Int) ((P.length : Int) - 1) = 0 := by omega
  go_wp2_with (go_at_call 22; refine hc.out.mono ?_; rintro e w' ⟨rfl, rfl⟩)
  clear hmin
  go_loop [5, 14] (fun v i => ∃ (k : Nat) (r : Int), k ≤ b.length ∧ i = .int .i64 k ∧ v = .int .i64 r ∧ As (r = place P (b.take k))) (fun _ i => b.length - (intOf i).toNat)
  case atStart => exact ⟨0, 0, Nat.zero_le _, rfl, rfl, h00⟩
  case round =>
    obtain ⟨k, r, hk, rfl, rfl, hr⟩ := hrel
    by_cases hlt : k < b.length
    · obtain ⟨ad, rfl, a1⟩ := Byt.at_ HB.out hlt
      have hch := step_chain hT.out b k hlt
      rw [← hr.out] at hch
      replace hch := As.mk hch
      generalize b.getD k 0 = x at *
      have hc2 := As.mk (hcs.out r (x.toNat : Int) x rfl)
      generalize stepF P r x = r2 at *
      go_wp2_with (go_at_call 29; refine hc2.out.mono ?_; rintro e w' ⟨rfl, rfl⟩)
      go_round
      case rel => exact ⟨k + 1, r2, by omega, by go_num, rfl, hch⟩
      case measure => simp [intOf]; omega
    · have hfin : As (r = R) := ⟨by rw [hr.out, List.take_of_length_le (by omega)]; exact hR.out⟩
      go_wp2
      go_ret
      exact ⟨ret_int hfin.out, rfl⟩
end Go.Proofs.Ytcajccknkjljfaa
