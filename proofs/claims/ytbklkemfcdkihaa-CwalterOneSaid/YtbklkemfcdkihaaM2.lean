/- Joined texts: TrieWalk3, TrieBuild, Args2, Args3, App, SortPure, CwPure, Meter. -/
import Derived.Test.YtbklkemfcdkihaaM1
import Derived.Deep.Matrix
import Derived.SizedLaws
import Derived.ArgAppend
import Derived.Deep.QuietTactic
import Derived.BigQuiet
import Derived.Laws.StructEq
import Derived.WalkSpells
section
/- The walks of package trie: Path, Find, Kids, Build. -/
set_option linter.unusedVariables false
set_option linter.unusedSimpArgs false
namespace Go.Proofs.Ytbklkemfcdkihaa
open Go.RowKit Go.Maps Seine.Trie
attribute [local go_sem] max2_i min2_i max_two' min_two'

/-- It answers these bytes, in new memory. -/
def pathF (P : List Txt) (n : Int) : Txt := if 0 ≤ n ∧ n < P.length then P.getD n.toNat [] else []
theorem below_next' {w a b : World} (h : Below w.heap.size w a) (k : Below a.heap.size a b) : Below w.heap.size w b := h.trans (k.mono h.size)

theorem last_split {q : Txt} (h : q ≠ []) : q.dropLast ++ [lastB q] = q := by
  unfold lastB
  have := List.dropLast_concat_getLast h
  rw [List.getLast?_eq_some_getLast h]
  exact this

set_option maxRecDepth 100000 in
set_option maxHeartbeats 1600000 in
theorem path_calls (w : World) (base g : Nat) (P : List Txt) (W : Txt → Int) (ht : TrieAt w base g P W) (n : Int) (hd : ∀ p ∈ P, p.length ≤ 100000) :
    Calls Try.prog 41 #[.pointer (some ⟨g, 0, none⟩), .int .i64 n] w (RetByt w (pathF P n)) := by
  have hT := ht.tree
  have HT := As.mk ht
  by_cases hn : 0 ≤ n ∧ n < P.length
  · obtain ⟨a, rfl⟩ := Int.eq_ofNat_of_zero_le hn.1
    have hal : a < P.length := by omega
    obtain ⟨R, hR⟩ : ∃ R, pathF P (a : Int) = R := ⟨_, rfl⟩
    have hRa : P[a]? = some R := by rw [← hR]; unfold pathF; rw [if_pos hn, Int.toNat_natCast]; exact get_at hal
    rw [hR]
    have hRa := As.mk hRa
    have hd := As.mk hd
    have hT := As.mk hT
    clear hR hn
    go_enter Try.func41, Try.ntmps41
    go_wp2
    go_loopw [1, 5] (fun i v wr => ∃ (m : Nat) (q acc : Txt), i = .int .i64 m ∧ As (P[m]? = some q ∧ q ++ acc.reverse = R) ∧ As (OwnByt wr w.heap.size v acc) ∧ As (Below w.heap.size w wr)) (fun i _ _ => (P.getD (intOf i).toNat []).length)
    case atStart => exact ⟨a, R, [], rfl, ⟨hRa.out, by simp⟩, ⟨World.ownsRow_nil _ _ _ _⟩, ⟨Below.refl _ _⟩⟩
    case round =>
      obtain ⟨m, q, acc, rfl, hq, hown, hbel⟩ := hrel
      have hml : m < P.length := (List.getElem?_eq_some_iff.1 hq.out.1).1
      have HTr := As.mk (HT.out.below hbel.out)
      have hc := As.mk (is_calls wr base g P W HTr.out m true (by simp; omega))
      obtain ⟨ad, cp, mb, c0, c1, hcp, _, hcell⟩ := HTr.out.read
      obtain ⟨d0, d1, d2, d3⟩ := hcell.out m q hq.out.1
      have hsz := hbel.out.size
      by_cases hne : q = []
      · have hpar : parent P q = -1 := if_pos hne
        have hacc : As (acc.reverse = R) := ⟨by have := hq.out.2; rw [hne] at this; simpa using this⟩
        have hlacc : acc.length ≤ 1000000 := by
          have h1 := hd.out R (List.mem_of_getElem? hRa.out)
          have h2 := congrArg List.length hacc.out
          simp at h2; omega
        rw [hpar] at d0
        clear hne hpar d1 d2 d3
        go_wp2_with (go_at_call 71; refine hc.out.mono ?_; rintro e w' ⟨rfl, rfl⟩)
        refine (reverse_calls wr w.heap.size _ acc hown.out hlacc).mono ?_
        rintro e w2 ⟨rfl, ho2, hk2⟩
        go_wp2
        go_ret
        refine ⟨_, rfl, ?_, ?_⟩
        · rw [hacc.out] at ho2; exact ho2
        · exact hbel.out.trans (hk2.below (fun k hk hS => by have := own_blk hown.out hS; omega) hsz)
      · have hsp := last_split hne
        have hup := hT.out.up q (List.mem_of_getElem? hq.out.1) hne
        have hpar : parent P q = place P q.dropLast := if_neg hne
        have hpm := place_mem.2 hup
        obtain ⟨m2, hm2⟩ : ∃ m2 : Nat, place P q.dropLast = (m2 : Int) := ⟨(place P q.dropLast).toNat, by omega⟩
        have hg2 := place_get hup
        rw [hm2, Int.toNat_natCast] at hg2
        have hpar2 : As (parent P q = (m2 : Int)) := ⟨hpar.trans hm2⟩
        rw [hpar, hm2] at d0
        have hlen : acc.length ≤ 1000000 := by
          have h1 := hd.out R (List.mem_of_getElem? hRa.out)
          have h2 := congrArg List.length hq.out.2
          simp at h2; omega
        have hmeas : As ((P.getD m2 []).length < (P.getD m []).length) := ⟨by
          rw [List.getD_eq_getElem?_getD, List.getD_eq_getElem?_getD, hg2, hq.out.1]
          simp only [Option.getD_some, List.length_dropLast]
          have : 0 < q.length := List.length_pos_iff.2 hne
          omega⟩
        have hnew : As (P[m2]? = some q.dropLast ∧ q.dropLast ++ (acc ++ [lastB q]).reverse = R) := ⟨hg2, by
          rw [← hq.out.2, List.reverse_append, List.reverse_cons, List.reverse_nil, List.nil_append, ← List.append_assoc, hsp]⟩
        clear hpar hpm hm2 hg2 hup hsp hne d1 d2
        generalize lastB q = c at *
        generalize q.dropLast = q2 at *
        go_wp2_with (first
          | (go_at_call 71; refine hc.out.mono ?_; rintro e w' ⟨rfl, rfl⟩)
          | (at_builtin
             refine wpList_app1 _ rfl (.tmp 20) (.tmp 29) 23 rfl w.heap.size 5 _ 1 1 Try.underlying23 info_u8 rfl (by decide) _ acc.length (byCells acc) rfl hown.out [.int .u8 (c.toNat : Int)] rfl (by simp [Value.oneCell']) _ rfl (by simp) (by omega) (by decide) (by first | omega | (simp; omega)) ?_
             intro v' w2 ho2 hk2 hat2 hb2
             have hbel2 := As.mk (hbel.out.trans hb2)
             obtain ⟨ad2, cp2, mb2, c02, c12, hcp2, _, hcell2⟩ := (HT.out.below hbel2.out).read
             have ead := c02
             rw [(hb2.cell (p := ⟨g, 0, none⟩) (World.block_lt_of_cell? w _ (HT.out.read.choose_spec.choose_spec.choose_spec.1))).trans c0] at ead
             injection ead with ead
             injection ead with ead ead2 ead3
             injection ead with ead
             subst ead
             obtain ⟨e0, _, _, _⟩ := hcell2.out m q hq.out.1
             rw [hpar2.out] at e0
             clear ead2 ead3))
        go_roundw
        case rel => exact ⟨m2, q2, acc ++ [c], rfl, hnew, ⟨ownByt_snoc ho2⟩, hbel2⟩
        case measure => have := hmeas.out; simpa [intOf] using this
  · have hc := As.mk (is_calls w base g P W ht n false (by simp only [Bool.false_eq_true, false_iff]; exact hn))
    have hR : pathF P n = [] := if_neg hn
    rw [hR]
    clear hR hn
    go_enter Try.func41, Try.ntmps41
    go_wp2
    refine wp_loop_rounds 1 ?_
    rw [rounds_succ]
    go_wp2_with (go_at_call 71; refine hc.out.mono ?_; rintro e w' ⟨rfl, rfl⟩)
    refine (reverse_calls w w.heap.size (.slice none 0 0) [] (World.ownsRow_nil _ _ _ _) (by simp)).mono ?_
    rintro e w2 ⟨rfl, ho2, hk2⟩
    go_wp2
    go_ret
    exact ⟨_, rfl, ho2, hk2.below (fun k hk hS => by simp [Value.ownBlock] at hS) (Nat.le_refl _)⟩

/-- the bytes below k that lead on -/
def kidsF (P : List Txt) (n : Int) (k : Nat) : Txt := ((List.range k).map UInt8.ofNat).filter fun c => decide (0 ≤ stepF P n c)
theorem kidsF_succ (P : List Txt) (n : Int) (k : Nat) : kidsF P n (k + 1) = kidsF P n k ++ if 0 ≤ stepF P n (UInt8.ofNat k) then [UInt8.ofNat k] else [] := by
  unfold kidsF
  rw [List.range_succ, List.map_append, List.filter_append]
  congr 1
  by_cases h : 0 ≤ stepF P n (UInt8.ofNat k) <;> simp [h]
theorem kidsF_length (P : List Txt) (n : Int) (k : Nat) : (kidsF P n k).length ≤ k := by
  unfold kidsF
  have := List.length_filter_le (fun c => decide (0 ≤ stepF P n c)) ((List.range k).map UInt8.ofNat)
  simpa using this

set_option maxRecDepth 100000 in
set_option maxHeartbeats 800000 in
theorem kids_calls (w : World) (base g : Nat) (P : List Txt) (W : Txt → Int) (ht : TrieAt w base g P W) (hl : P.length ≤ 1000000) (n : Int) :
    Calls Try.prog 68 #[.pointer (some ⟨g, 0, none⟩), .int .i64 n] w (RetByt w (kidsF P n 256)) := by
  have HT := As.mk ht
  obtain ⟨R, hR⟩ : ∃ R, kidsF P n 256 = R := ⟨_, rfl⟩
  rw [hR]
  have hR := As.mk hR
  go_enter Try.func68, Try.ntmps68
  go_wp2
  go_loopw [5, 7] (fun v i wr => ∃ k : Nat, k ≤ 256 ∧ i = .int .i64 k ∧ As (OwnByt wr w.heap.size v (kidsF P n k)) ∧ As (Below w.heap.size w wr)) (fun _ i _ => 256 - (intOf i).toNat)
  case atStart => exact ⟨0, by omega, rfl, ⟨World.ownsRow_nil _ _ _ _⟩, ⟨Below.refl _ _⟩⟩
  case round =>
    obtain ⟨k, hk, rfl, hown, hbel⟩ := hrel
    have hsz := hbel.out.size
    by_cases hlt : k < 256
    · have hcb : ((UInt8.ofNat k).toNat : Int) = (k : Int) := by simp; omega
      have hc := As.mk (step_calls wr base g P W (HT.out.below hbel.out) hl n (k : Int) (UInt8.ofNat k) hcb.symm)
      have hs := As.mk (kidsF_succ P n k)
      have hlen := kidsF_length P n k
      generalize kidsF P n k = acc at *
      by_cases hst : 0 ≤ stepF P n (UInt8.ofNat k)
      · rw [if_pos hst] at hs
        have hcb := As.mk hcb
        generalize stepF P n (UInt8.ofNat k) = r at *
        go_wp2_with (first
          | (go_at_call 69; refine hc.out.mono ?_; rintro e w' ⟨rfl, rfl⟩)
          | (at_builtin
             refine wpList_app1 _ rfl (.tmp 16) (.tmp 19) 23 rfl w.heap.size 5 _ 1 1 Try.underlying23 info_u8 rfl (by decide) _ acc.length (byCells acc) rfl hown.out [.int .u8 (k : Int)] rfl (by simp [Value.oneCell']) _ rfl (by simp) (by omega) (by decide) (by first | omega | (simp; omega)) ?_
             intro v' w2 ho2 hk2 hat2 hb2))
        go_roundw
        case rel => exact ⟨k + 1, by omega, by go_num, ⟨by rw [hs.out]; refine ownByt_snoc ?_; rw [hcb.out]; exact ho2⟩, ⟨hbel.out.trans hb2⟩⟩
        case measure => simp [intOf]; omega
      · rw [if_neg hst, List.append_nil] at hs
        clear hcb
        generalize stepF P n (UInt8.ofNat k) = r at *
        go_wp2_with (go_at_call 69; refine hc.out.mono ?_; rintro e w' ⟨rfl, rfl⟩)
        go_roundw
        case rel => exact ⟨k + 1, by omega, by go_num, ⟨by rw [hs.out]; exact hown.out⟩, hbel⟩
        case measure => simp [intOf]; omega
    · have hk2 : k = 256 := by omega
      rw [hk2, hR.out] at hown
      clear hk2
      go_wp2
      go_ret
      exact ⟨_, rfl, hown.out, hbel.out⟩

theorem step_chain {P : List Txt} (hT : Tree P) (b : Txt) (k : Nat) (hk : k < b.length) : stepF P (place P (b.take k)) (b.getD k 0) = place P (b.take (k + 1)) := by
  have e : b.take (k + 1) = b.take k ++ [b.getD k 0] := by
    rw [List.take_succ_eq_append_getElem hk]; simp [hk]
  have hr := place_range P (b.take k)
  unfold stepF
  by_cases hm : b.take k ∈ P
  · have h0 := place_mem.2 hm
    rw [if_pos ⟨h0, hr.2⟩, List.getD_eq_getElem?_getD, place_get hm, Option.getD_some, e]
  · have hneg := place_neg.2 hm
    rw [if_neg (by omega)]
    symm
    apply place_none
    intro h
    rw [e] at h
    have := hT.up _ h (by simp)
    rw [List.dropLast_concat] at this
    exact hm this

theorem find_calls (w : World) (base g : Nat) (P : List Txt) (W : Txt → Int) (ht : TrieAt w base g P W) (hl : P.length ≤ 1000000) (A : Option Addr) (c : Nat) (b : Txt) (hb : Byt w A b) (hbl : b.length ≤ 1000000) :
    Calls Try.prog 79 #[.pointer (some ⟨g, 0, none⟩), .slice A b.length c] w fun e w' => e = .returned (.int .i64 (place P b)) ∧ w = w' := by
  have hT := As.mk ht.tree
  have hc := As.mk (nodes_calls w base g P W ht)
  have hcs := As.mk (fun n x c h => step_calls w base g P W ht hl n x c h)
  have HB := As.mk hb
  have hP := ht.tree.len
  clear hb ht
  obtain ⟨R, hR⟩ : ∃ R, place P b = R := ⟨_, rfl⟩
  rw [hR]
  have hR := As.mk hR
  have h00 : As ((0 : Int) = place P (b.take 0)) := ⟨by rw [List.take_zero, place_at hT.out.nodup hT.out.root]; rfl⟩
  go_enter Try.func79, Try.ntmps79
  have hmin : min (0 : Int) ((P.length : Int) - 1) = 0 := by omega
  go_wp2_with (go_at_call 40; refine hc.out.mono ?_; rintro e w' ⟨rfl, rfl⟩)
  clear hmin
  go_loop [5, 14] (fun v i => ∃ (k : Nat) (r : Int), k ≤ b.length ∧ i = .int .i64 k ∧ v = .int .i64 r ∧ As (r = place P (b.take k))) (fun _ i => b.length - (intOf i).toNat)
  case atStart => exact ⟨0, 0, Nat.zero_le _, rfl, rfl, h00⟩
  case round =>
    obtain ⟨k, r, hk, rfl, rfl, hr⟩ := hrel
    by_cases hlt : k < b.length
    · obtain ⟨ad, rfl, a1⟩ := Byt.at_ HB.out hlt
      have hch := step_chain hT.out b k hlt
      rw [← hr.out] at hch
      replace hch := As.mk hch
      generalize b.getD k 0 = x at *
      have hc2 := As.mk (hcs.out r (x.toNat : Int) x rfl)
      generalize stepF P r x = r2 at *
      go_wp2_with (go_at_call 69; refine hc2.out.mono ?_; rintro e w' ⟨rfl, rfl⟩)
      go_round
      case rel => exact ⟨k + 1, r2, by omega, by go_num, rfl, hch⟩
      case measure => simp [intOf]; omega
    · have hfin : As (r = R) := ⟨by rw [hr.out, List.take_of_length_le (by omega)]; exact hR.out⟩
      go_wp2
      go_ret
      exact ⟨ret_int hfin.out, rfl⟩
end Go.Proofs.Ytbklkemfcdkihaa
end
section
/- The walk of trie.Build. -/
set_option linter.unusedVariables false
set_option linter.unusedSimpArgs false
namespace Go.Proofs.Ytbklkemfcdkihaa
open Go.RowKit Go.Maps Seine.Trie

/-- A slice of byte texts. -/
def Txts (w : World) (A : Option Addr) (l : List Txt) : Prop :=
  ∃ vs : List Value, vs.length = l.length ∧ Row w A vs ∧ ∀ i, i < l.length → ∃ A' c', vs[i]? = some (.slice A' (l.getD i []).length c') ∧ (l.getD i []).length ≤ c' ∧ Byt w A' (l.getD i [])
theorem Txts.below {w w' : World} {A : Option Addr} {l : List Txt} (h : Txts w A l) (hb : Below w.heap.size w w') : Txts w' A l := by
  obtain ⟨vs, h1, h2, h3⟩ := h
  refine ⟨vs, h1, h2.below hb, fun i hi => ?_⟩
  obtain ⟨A', c', a, b, c⟩ := h3 i hi
  exact ⟨A', c', a, b, Row.below c hb⟩
theorem Txts.at_ {w : World} {A : Option Addr} {l : List Txt} (h : Txts w A l) {i : Nat} (hi : i < l.length) : ∃ ad A' c', A = some ad ∧ w.cell? (ad.add i) = some (.slice A' (l.getD i []).length c') ∧ (l.getD i []).length ≤ c' ∧ Byt w A' (l.getD i []) := by
  obtain ⟨vs, h1, h2, h3⟩ := h
  obtain ⟨A', c', a, b, c⟩ := h3 i hi
  obtain ⟨ad, e1, e2⟩ := h2.at_ (j := i) (by omega)
  refine ⟨ad, A', c', e1, ?_, b, c⟩
  rw [e2]
  rw [List.getElem?_eq_getElem (by omega)] at a
  exact a

def tot (l : List Txt) : Nat := (l.map List.length).sum
theorem paths_len (l : List Txt) : (paths l).length ≤ 1 + tot l := by
  have H : ∀ n (l : List Txt), l.length = n → (paths l).length ≤ 1 + tot l := by
    intro n
    induction n with
    | zero => intro l hl; rw [List.eq_nil_of_length_eq_zero hl]; simp [paths, tot]
    | succ n ih =>
      intro l hl
      have hne : l ≠ [] := by intro h; simp [h] at hl
      obtain ⟨m, x, rfl⟩ : ∃ m x, l = m ++ [x] := ⟨l.dropLast, l.getLast hne, (List.dropLast_concat_getLast hne).symm⟩
      have h1 := ih m (by simp at hl; omega)
      have h2 := addTo_len (paths m) x x.length
      rw [paths_snoc]
      unfold addText tot at *
      simp only [List.map_append, List.sum_append, List.map_cons, List.map_nil, List.sum_cons, List.sum_nil]
      omega
  exact H _ l rfl
theorem tot_app (a b : List Txt) : tot (a ++ b) = tot a + tot b := by simp [tot]
theorem tot_take (l : List Txt) (k : Nat) (h : k < l.length) : tot (l.take k) + (l.getD k []).length ≤ tot l := by
  have h2 : tot l = tot (l.take k) + tot (l.drop k) := by rw [← tot_app, List.take_append_drop]
  have h3 : tot (l.drop k) = (l.getD k []).length + tot (l.drop (k + 1)) := by
    rw [List.drop_eq_getElem_cons h]
    simp only [tot, List.map_cons, List.sum_cons, List.getD_eq_getElem?_getD, List.getElem?_eq_getElem h, Option.getD_some]
  omega
theorem take_snoc_txt (l : List Txt) (k : Nat) (h : k < l.length) : l.take (k + 1) = l.take k ++ [l.getD k []] := by
  rw [List.take_succ_eq_append_getElem h]; simp [h]

/-- Another word of one node. -/
theorem flat_word (par : Txt → Int) (W W' : Txt → Int) (s : Txt) (x : Int) (hs : W' s = x) (ho : ∀ p, p ≠ s → W' p = W p) : ∀ (P : List Txt) (a : Nat), P.Nodup → P[a]? = some s →
    P.flatMap (fun p => [Value.int .i64 (par p), .int .i64 (p.length : Int), .int .i64 (W' p), .int .u8 ((lastB p).toNat : Int)]) =
      (P.flatMap (fun p => [Value.int .i64 (par p), .int .i64 (p.length : Int), .int .i64 (W p), .int .u8 ((lastB p).toNat : Int)])).set (a * 4 + 2) (.int .i64 x)
  | [], _, _, h => by simp at h
  | p :: P, 0, hn, h => by
    simp at h; subst h
    rw [List.flatMap_cons, List.flatMap_cons]
    have : P.flatMap (fun p => [Value.int .i64 (par p), .int .i64 (p.length : Int), .int .i64 (W' p), .int .u8 ((lastB p).toNat : Int)]) = P.flatMap (fun p => [Value.int .i64 (par p), .int .i64 (p.length : Int), .int .i64 (W p), .int .u8 ((lastB p).toNat : Int)]) :=
      fm_congr (fun q hq => by rw [ho q (fun e => by subst e; exact (List.nodup_cons.1 hn).1 hq)])
    rw [this, hs]
    rfl
  | p :: P, a + 1, hn, h => by
    have hmem : s ∈ P := List.mem_of_getElem? (by simpa using h : P[a]? = some s)
    have hne : p ≠ s := fun e => by subst e; exact (List.nodup_cons.1 hn).1 hmem
    rw [List.flatMap_cons, List.flatMap_cons, flat_word par W W' s x hs ho P a (List.nodup_cons.1 hn).2 (by simpa using h), ho p hne]
    rw [show (a + 1) * 4 + 2 = (a * 4 + 2) + 4 by omega]
    rfl
theorem nodeCells_word {P : List Txt} (hT : Tree P) {W W' : Txt → Int} {s : Txt} {x : Int} {a : Nat} (ha : P[a]? = some s) (hs : W' s = x) (ho : ∀ p, p ≠ s → W' p = W p) : nodeCells P W' = (nodeCells P W).set (a * 4 + 2) (.int .i64 x) :=
  flat_word (parent P) W W' s x hs ho P a hT.nodup ha

def RetTrie (w : World) (P : List Txt) (W : Txt → Int) (e : Ending) (w' : World) : Prop :=
  ∃ g, e = .returned (.pointer (some ⟨g, 0, none⟩)) ∧ TrieAt w' w.heap.size g P W ∧ Below w.heap.size w w'

theorem TrieAt.start (w : World) : TrieAt (((w.alloc (.cells #[.int .i64 (-1), .int .i64 0, .int .i64 (-1), .int .u8 0] 114)).alloc (.map #[] 0)).alloc (.cells #[.slice (some ⟨w.heap.size, 0, none⟩) 1 1, .map (some (w.heap.size + 1))] 118)) w.heap.size (w.heap.size + 2) [[]] (fun _ => -1) := by
  have h0 : (w.alloc (.cells #[.int .i64 (-1), .int .i64 0, .int .i64 (-1), .int .u8 0] 114)).heap[w.heap.size]? = some (.cells #[.int .i64 (-1), .int .i64 0, .int .i64 (-1), .int .u8 0] 114 (0, 0)) := heap_alloc_new _ _
  have hm := MapIs.made (w.alloc (.cells #[.int .i64 (-1), .int .i64 0, .int .i64 (-1), .int .u8 0] 114)) Try.prog 145 3
  have hs : (w.alloc (.cells #[.int .i64 (-1), .int .i64 0, .int .i64 (-1), .int .u8 0] 114)).heap.size = w.heap.size + 1 := World.size_alloc _ _
  rw [hs] at hm
  refine ⟨.slice (some ⟨w.heap.size, 0, none⟩) 1 1, w.heap.size + 1, ?_, by omega, by omega, ?_, ?_, Tree.start⟩
  · have := heap_alloc_new ((w.alloc (.cells #[.int .i64 (-1), .int .i64 0, .int .i64 (-1), .int .u8 0] 114)).alloc (.map #[] 0)) (.cells #[.slice (some ⟨w.heap.size, 0, none⟩) 1 1, .map (some (w.heap.size + 1))] 118)
    rw [World.size_alloc, hs] at this
    exact this
  · refine ⟨rfl, .inr ⟨w.heap.size, 1, _, rfl, Nat.le_refl _, blk_old (blk_old h0), Nat.le_refl _, by simp [maxLen], rfl, rfl⟩⟩
  · refine (MapIs.below (MapIs.mono ?_ (Nat.zero_le 1)) ((Below.refl _ _).alloc (Nat.le_refl _) _))
    obtain ⟨D, a, b, c⟩ := hm
    refine ⟨D, a, b, fun key kl hk => ?_⟩
    have := c key kl hk
    have he : edgeF [[]] key = none := by
      unfold edgeF
      split
      · rw [if_neg]
        rintro ⟨x1, x2, _, _, x5⟩
        have := place_mem.1 x5
        simp at this
      · rfl
    rw [he]
    exact this

theorem TrieAt.write {w : World} {base g : Nat} {P : List Txt} {W : Txt → Int} (h : TrieAt w base g P W) : ∃ b cp, w.cell? ⟨g, 0, none⟩ = some (.slice (some ⟨b, 0, none⟩) P.length cp) ∧ P.length ≤ cp ∧
    (∀ i p, P[i]? = some p → w.cell? ⟨b, i * 4 + 2, none⟩ = some (.int .i64 (W p)) ∧ w.frozen? ⟨b, i * 4 + 2, none⟩ = false) ∧
    ∀ i s x W', P[i]? = some s → W' s = x → (∀ p, p ≠ s → W' p = W p) → TrieAt (w.setCell ⟨b, i * 4 + 2, none⟩ (.int .i64 x)) base g P W' ∧ Below base w (w.setCell ⟨b, i * 4 + 2, none⟩ (.int .i64 x)) := by
  obtain ⟨v, mb, hg, h1, h2, ho, hm, hT⟩ := h
  have hl := hT.len
  obtain ⟨b, cp, rfl, hb, hcp⟩ : ∃ b cp, v = .slice (some ⟨b, 0, none⟩) P.length cp ∧ base ≤ b ∧ P.length ≤ cp := by
    rcases ho.2 with ⟨_, h⟩ | ⟨b, cap, cur, hv, hb, hh, hnc, _⟩
    · omega
    · exact ⟨b, cap, hv, hb, hnc⟩
  refine ⟨b, cp, cell_of_blk hg 0, hcp, fun i p hi => ⟨?_, World.ownsRow.frozenAt ho _⟩, fun i s x W' hi hs hW => ?_⟩
  · have hil : i < P.length := (List.getElem?_eq_some_iff.1 hi).1
    rw [World.ownsRow.cellAt ho (i * 4 + 2) (by omega), nodeCells_at P W hi 2 (by omega)]
    rfl
  · have s1 := World.ownsRow.stored ho (i * 4 + 2) (.int .i64 x)
    have hbg : g ≠ b := fun e => own_not_type ho hg (by decide) (by rw [e]; rfl)
    obtain ⟨es, cl, hmm⟩ := hm.is_map
    have hmb : mb ≠ b := fun e => own_not_map ho hmm (by rw [e]; rfl)
    refine ⟨⟨_, mb, (Below.heap_setCell _ _ _ _ hbg).trans hg, h1, h2, ?_, hm.keep (keeps_set w ⟨b, i * 4 + 2, none⟩ _) hmb, hT⟩, (Below.refl _ _).setCell hb _⟩
    rw [nodeCells_word hT hi hs hW]
    exact s1.1

theorem addTo_words {l : List Txt} {b : Txt} {m : Nat} {q : Txt} (h : q ∉ addTo (paths l) b m) : place l q = -1 := by
  refine place_none (fun hm => h ?_)
  obtain ⟨x, hx⟩ := addTo_mono (paths l) b m
  rw [hx]
  exact List.mem_append_left _ (text_mem_paths hm)
theorem place_nat {P : List Txt} {s : Txt} (h : s ∈ P) : ∃ a : Nat, place P s = (a : Int) ∧ P[a]? = some s := by
  have h1 := place_mem.2 h
  refine ⟨(place P s).toNat, by omega, place_get h⟩
theorem take_snoc_b (b : Txt) (m : Nat) (h : m < b.length) : b.take (m + 1) = b.take m ++ [b.getD m 0] := by
  rw [List.take_succ_eq_append_getElem h]; simp [h]

set_option maxRecDepth 100000 in
set_option maxHeartbeats 1600000 in
theorem build_calls (w : World) (A : Option Addr) (c : Nat) (l : List Txt) (htx : Txts w A l) (hl : tot l ≤ 900000) (hll : l.length ≤ 1000000) :
    Calls Try.prog 38 #[.slice A l.length c] w (RetTrie w (paths l) (place l)) := by
  have HX := As.mk htx
  have h00 := As.mk (TrieAt.start w)
  obtain ⟨n, hn⟩ : ∃ n, l.length = n := ⟨_, rfl⟩
  rw [hn] at hll
  rw [hn]
  have hn := As.mk hn
  have HL := As.mk hl
  have htot := As.mk (fun k h => tot_take l k h)
  have hpl := As.mk (fun k => paths_len (l.take k))
  clear htx hl
  generalize hB : w.heap.size = B at *
  have hst : As (∀ k, k < n → l.take (k + 1) = l.take k ++ [l.getD k []]) := ⟨fun k h => take_snoc_txt l k (by rw [hn.out]; exact h)⟩
  have hmm := @run_makeMap Try.prog
  go_enter Try.func38, Try.ntmps38
  go_wp2
  go_loopw [16] (fun i wr => ∃ k : Nat, k ≤ n ∧ i = .int .i64 k ∧ As (TrieAt wr B (B + 2) (paths (l.take k)) (place (l.take k))) ∧ As (Below B w wr)) (fun i _ => n - (intOf i).toNat)
  case atStart =>
    refine ⟨0, Nat.zero_le _, rfl, ⟨?_⟩, ⟨?_⟩⟩
    · have hp0 : place [] = fun _ => -1 := by funext x; rfl
      have hp1 : paths [] = [[]] := rfl
      rw [List.take_zero, hp0, hp1]
      simpa using h00.out
    · exact (((Below.refl _ _).alloc (by omega) _).alloc (by simp; omega) _).alloc (by simp; omega) _
  case round =>
    obtain ⟨k, hk, rfl, hta, hbel⟩ := hrel
    by_cases hlt : k < n
    · obtain ⟨b, hb⟩ : ∃ b, l.getD k [] = b := ⟨_, rfl⟩
      have hT0 := As.mk hta.out.tree
      obtain ⟨ad, A', c', rfl, a1, hc', hbyt⟩ := HX.out.at_ (i := k) (by rw [hn.out]; exact hlt)
      replace a1 := (hbel.out.cell (p := ad.add k) (by have := World.block_lt_of_cell? w _ a1; omega)).trans a1
      rw [hb] at a1 hc' hbyt
      have hLk : As ((l.take k).length = k) := ⟨by rw [List.length_take, hn.out]; omega⟩
      have hbyt := As.mk hbyt
      have hbl : b.length + tot (l.take k) ≤ 900000 := by
        have h1 := htot.out k (by rw [hn.out]; exact hlt)
        rw [hb] at h1
        have := HL.out
        omega
      have hPl := hpl.out k
      have hnext : As (l.take (k + 1) = l.take k ++ [b]) := ⟨by rw [hst.out k hlt, hb]⟩
      generalize hL : l.take k = L at *
      have hlen : As (∀ m, m ≤ b.length → (addTo (paths L) b m).length ≤ 900001) := ⟨fun m hm => by have := addTo_len (paths L) b m; omega⟩
      have hsp : As (∀ m, m ≤ b.length → Tree (addTo (paths L) b m) ∧ b.take m ∈ addTo (paths L) b m) := ⟨fun m hm => ⟨(addTo_spec hT0.out b m hm).1, (addTo_spec hT0.out b m hm).2.1⟩⟩
      have hstart : As ((0 : Int) = place (addTo (paths L) b 0) (b.take 0)) := ⟨by rw [List.take_zero]; exact (place_at hT0.out.nodup hT0.out.root).symm⟩
      obtain ⟨bl, hbL⟩ : ∃ bl, b.length = bl := ⟨_, rfl⟩
      rw [hbL] at a1 hc' hbl hlen hsp
      have hbL := As.mk hbL
      clear hPl hpl htot
      go_wp2
      go_loopw [6, 23] (fun at_ j wr2 => ∃ (m : Nat) (r : Int), m ≤ bl ∧ j = .int .i64 m ∧ at_ = .int .i64 r ∧ As (r = place (addTo (paths L) b m) (b.take m)) ∧ As (TrieAt wr2 B (B + 2) (addTo (paths L) b m) (place L)) ∧ As (Below B w wr2)) (fun _ j _ => bl - (intOf j).toNat)
      case atStart => exact ⟨0, 0, Nat.zero_le _, rfl, rfl, hstart, hta, hbel⟩
      case round =>
        obtain ⟨m, r, hm, rfl, rfl, hr, hta2, hbel2⟩ := hrel
        by_cases hmlt : m < bl
        · obtain ⟨ad2, rfl, a2⟩ := Byt.at_ (Row.below hbyt.out (hB.symm ▸ hbel2.out)) (i := m) (by rw [hbL.out]; exact hmlt)
          obtain ⟨x, hx⟩ : ∃ x, b.getD m 0 = x := ⟨_, rfl⟩
          rw [hx] at a2
          obtain ⟨a, ha1, ha2⟩ := place_nat (hsp.out m hm).2
          rw [← hr.out] at ha1
          subst ha1
          have hg := grow_calls wr B (B + 2) _ _ a (b.take m) x hta2.out ha2 (by have := hlen.out m hm; omega) (by rw [List.length_take, hbL.out]; omega) (fun h => addTo_words h)
          have htk : b.take m ++ [x] = b.take (m + 1) := by rw [← hx]; exact (take_snoc_b b m (by rw [hbL.out]; exact hmlt)).symm
          rw [htk] at hg
          replace hg := As.mk hg
          clear htk ha2
          go_wp2_with (go_at_call 66; refine hg.out.mono ?_; rintro e w' ⟨rfl, ht3, hb3⟩)
          go_roundw
          case rel => exact ⟨m + 1, _, by omega, by go_num, rfl, ⟨rfl⟩, ⟨ht3⟩, ⟨hbel2.out.trans hb3⟩⟩
          case measure => simp [intOf]; omega
        · obtain rfl : m = bl := by omega
          have htb : b.take m = b := List.take_of_length_le (by rw [hbL.out]; omega)
          obtain ⟨a, ha1, ha2⟩ := place_nat (hsp.out m hm).2
          rw [← hr.out] at ha1
          subst ha1
          rw [htb] at ha2
          have hpp : addTo (paths L) b m = paths (L ++ [b]) := by rw [paths_snoc]; unfold addText; rw [hbL.out]
          have ha3 := (List.getElem?_eq_some_iff.1 ha2).1
          have hPL := hlen.out m hm
          rw [hpp] at ha2 ha3 hPL
          have hta3 := hta2.out
          rw [hpp] at hta3
          replace hta3 := As.mk hta3
          obtain ⟨bb, cp, c0, hcp, hcell, hwr⟩ := hta3.out.write
          obtain ⟨d0, f0⟩ := hcell a b ha2
          generalize hQ : paths (L ++ [b]) = Q at *
          clear hcell hpp htb hta2 hlen hsp hstart
          by_cases hin : b ∈ L
          · have hge := place_mem.2 hin
            have hsame : place (L ++ [b]) = place L := by
              funext p
              rw [place_snoc]
              by_cases hp : p ∈ L
              · rw [if_pos hp]
              · rw [if_neg hp, if_neg (fun e : b = p => hp (e ▸ hin)), place_none hp]
            have hfin : As (TrieAt wr B (B + 2) (paths (l.take (k + 1))) (place (l.take (k + 1)))) := ⟨by rw [hnext.out, hsame, hQ]; exact hta3.out⟩
            clear hsame hwr hin
            generalize place L b = y at *
            go_wp2
            go_roundw
            case rel => exact ⟨k + 1, by omega, by go_num, hfin, hbel2⟩
            case measure => simp [intOf]; omega
          · have hy := place_none hin
            have hw2 := hwr a b (k : Int) (place (L ++ [b])) ha2 (by rw [place_snoc, if_neg hin, if_pos rfl, hLk.out]) (fun p hp => by
              rw [place_snoc]
              by_cases hp2 : p ∈ L
              · rw [if_pos hp2]
              · rw [if_neg hp2, if_neg (fun e => hp e.symm), place_none hp2])
            have hfin : As (TrieAt (wr.setCell ⟨bb, a * 4 + 2, none⟩ (.int .i64 (k : Int))) B (B + 2) (paths (l.take (k + 1))) (place (l.take (k + 1)))) := ⟨by rw [hnext.out, hQ]; exact hw2.1⟩
            have hbel3 := As.mk (hbel2.out.trans hw2.2)
            rw [hy] at d0
            clear hw2 hwr hin hy
            go_wp2
            go_roundw
            case rel => exact ⟨k + 1, by omega, by go_num, hfin, hbel3⟩
            case measure => simp [intOf]; omega
    · obtain rfl : k = n := by omega
      have hfin : As (TrieAt wr B (B + 2) (paths l) (place l)) := ⟨by
        have := hta.out
        rw [← hn.out, List.take_length] at this
        exact this⟩
      go_wp2
      go_ret
      exact ⟨B + 2, rfl, hB.symm ▸ hfin.out, hB.symm ▸ hbel.out⟩
end Go.Proofs.Ytbklkemfcdkihaa
end
section
/- What an argument of a law reads as: slices of byte texts, with the reach. -/
set_option linter.unusedVariables false
set_option linter.unusedSimpArgs false
namespace Go.Proofs.Ytbklkemfcdkihaa
open Go.ChangeShapes Go.WideShapes Go.Deep Go.RowKit Seine.Trie

theorem u8_of {n : Int} (h : (Lit.int .u8 n).wf = true) : ((UInt8.ofNat n.toNat).toNat : Int) = n := by
  simp only [Lit.wf, IntKind.min, IntKind.max, IntKind.signed, IntKind.bits, Bool.and_eq_true, decide_eq_true_eq] at h
  have h1 : n.toNat < 256 := by simp at h; omega
  simp only [UInt8.toNat_ofNat']
  have h0 : 0 ≤ n := by simp at h; omega
  omega
section
variable {H : Type} {enc : TypeId × Value → H} {w : World} {base : Nat}
set_option maxRecDepth 100000 in
theorem arg_bytes2 {t e q : TypeId} (ht : Try.prog.underlying t = some (.slice e)) (he : Try.prog.underlying e = some (.slice q)) (hq : Try.prog.underlying q = some (.int .u8)) (ce : Try.prog.cellsOf e = 1) (cq : Try.prog.cellsOf q = 1) (hB : Try.prog.bytesOf e = 24)
    {ts : List TypeId} {ds : List (DataW H)} {j : Nat} (hsz : (DataW.weightsEach Try.prog ts ds).all (· ≤ reachBytes) = true) {v : Value} {d : DataW H} {p : List MemPlace} (hts : ts[j]? = some t) (hds : ds[j]? = some d)
    (hv : Value.okWide Try.prog w .any base t v) (h : DataW.Trod enc Try.prog w 0 (fun _ => true) true t v d p) :
    ∃ (A : Option Addr) (c : Nat) (l : List Txt), v = .slice A l.length c ∧ Txts w A l ∧ l.length ≤ c ∧ c * 24 ≤ 140737488351232 ∧ ∀ x ∈ l, x.length ≤ maxLen := by
  obtain ⟨a0, len, cap, rfl⟩ := okWide_slice ht hv
  obtain ⟨fuel, hf⟩ := h
  rcases open_int_rows ht he hq ce cq hf with ⟨hcs, _⟩ | ⟨a, ln, cp, A, L, C, Z, hcs, _, hl, hm, hx, hr⟩
  · simp [Value.cells] at hcs
    obtain ⟨rfl, rfl, rfl⟩ := hcs
    exact ⟨none, 0, [], rfl, ⟨[], rfl, .inl rfl, fun i hi => by simp at hi⟩, Nat.le_refl _, by omega, by simp⟩
  · simp [Value.cells] at hcs
    obtain ⟨rfl, rfl, rfl⟩ := hcs
    obtain ⟨hx, _⟩ := Prod.mk.inj hx
    subst hx
    have z := sized_slice hsz hts hds ht
    rw [hB] at z
    simp only [List.length_map, List.length_range, reachBytes] at z
    have hz : (len + (cap - len)) * 24 ≤ 140737488351232 := z
    let tx : Nat → Txt := fun r => ((Z r).take (L r)).map fun n => UInt8.ofNat n.toNat
    have txl : ∀ r, r < cap → (tx r).length = L r := fun r h => by
      obtain ⟨_, h1, _, h2, _⟩ := hr r h
      simp only [tx, List.length_map, List.length_take]
      omega
    have hg : ∀ i, i < len → ((List.range len).map tx).getD i [] = tx i := fun i hi => by
      rw [List.getD_eq_getElem?_getD, List.getElem?_map, List.getElem?_range hi]; rfl
    refine ⟨some a, cap, (List.range len).map tx, by simp, ⟨(List.range len).map (fun r => .slice (A r) (L r) (C r)), by simp, row_of_cells (fun _ => ⟨a, rfl, fun j u hu => ?_⟩), fun i hi => ?_⟩, by simp; omega, by omega, fun x hx => ?_⟩
    · rw [List.getElem?_map, Option.map_eq_some_iff] at hu
      obtain ⟨y, hy, rfl⟩ := hu
      obtain ⟨hjl, hy⟩ := List.getElem?_eq_some_iff.1 hy
      simp at hjl hy
      subst hy
      exact (hr j (by omega)).1
    · have hil : i < len := by simpa using hi
      obtain ⟨h1, h2, h3, h4, h5, h6, h7⟩ := hr i (by omega)
      rw [hg i hil, txl i (by omega)]
      refine ⟨A i, C i, by rw [List.getElem?_map, List.getElem?_range hil]; rfl, h2, row_of_cells (fun h0 => ?_)⟩
      rw [byCells_length, txl i (by omega)] at h0
      cases hA : A i with
      | none => have := h6 hA; omega
      | some a' =>
        refine ⟨a', rfl, fun j u hu => ?_⟩
        obtain ⟨_, h8⟩ := h7 a' hA
        unfold byCells at hu
        rw [List.getElem?_map, Option.map_eq_some_iff] at hu
        obtain ⟨y, hy, rfl⟩ := hu
        simp only [tx] at hy
        rw [List.getElem?_map, Option.map_eq_some_iff] at hy
        obtain ⟨n, hn, rfl⟩ := hy
        have hj : j < L i := by
          have := (List.getElem?_eq_some_iff.1 hn).1
          rw [List.length_take] at this; omega
        rw [List.getElem?_take_of_lt hj] at hn
        rw [h8 j (by omega), List.getD_eq_getElem?_getD, hn, u8_of (h5 n (List.mem_of_getElem? hn))]
        rfl
    · obtain ⟨r, hr1, rfl⟩ := List.mem_map.1 hx
      have hrl := List.mem_range.1 hr1
      rw [txl r (by omega)]
      obtain ⟨_, h2, h3, _⟩ := hr r (by omega)
      omega
end
end Go.Proofs.Ytbklkemfcdkihaa
end
section
/- What an argument of a law reads as: a slice of bytes. -/
set_option linter.unusedVariables false
set_option linter.unusedSimpArgs false
set_option maxRecDepth 100000
namespace Go.Proofs.Ytbklkemfcdkihaa
open Go.ChangeShapes Go.WideShapes Go.Deep Go.RowKit Seine.Trie

theorem u8_in {n : Int} (h : (Lit.int .u8 n).wf = true) : ((UInt8.ofNat n.toNat).toNat : Int) = n := by
  simp only [Lit.wf, IntKind.min, IntKind.max, IntKind.signed, IntKind.bits, Bool.and_eq_true, decide_eq_true_eq] at h
  have h1 : n.toNat < 256 := by simp at h; omega
  simp only [UInt8.toNat_ofNat']
  have h0 : 0 ≤ n := by simp at h; omega
  omega
theorem arg_bytes {H : Type} {enc : TypeId × Value → H} {w : World} {base : Nat} {v : Value} {d : DataW H} {p : List MemPlace}
    (hv : Value.okWide Try.prog w .any base 23 v) (h : DataW.Trod enc Try.prog w 0 (fun _ => true) true 23 v d p) :
    ∃ (A : Option Addr) (c : Nat) (b : Txt), v = .slice A b.length c ∧ Byt w A b ∧ b.length ≤ c ∧ c ≤ maxLen ∧ True := by
  obtain ⟨A, c, xs, rfl, hr, h1, h2, h3⟩ := arg_ints Try.underlying23 Try.underlying5 (by kernel_rfl) hv h
  refine ⟨A, c, xs.map fun n => UInt8.ofNat n.toNat, by rw [List.length_map], ?_, by rw [List.length_map]; exact h1, h2, trivial⟩
  have : byCells (xs.map fun n => UInt8.ofNat n.toNat) = xs.map (Value.int .u8) := by
    unfold byCells
    rw [List.map_map]
    refine List.map_congr_left fun n hn => ?_
    show Value.int .u8 ((UInt8.ofNat n.toNat).toNat : Int) = _
    rw [u8_in (h3 n hn)]
  unfold Byt
  rw [this]
  exact hr
end Go.Proofs.Ytbklkemfcdkihaa
end
section
/- append of a slice's elements, whatever row they are. -/
set_option linter.unusedVariables false
namespace Go.Proofs.Ytbklkemfcdkihaa
open Go.RowKit
theorem wpList_app0 {P : Program} {ops : Array Oper} {rest : List Oper} {o : Oper} {a : Act} {Q : Exit → Act → World → Prop} (w : World) (hgd : o.guard = none) (s x : Operand) (t : TypeId)
    (ho : o.op = .call { callee := .builtin .append, args := #[s, x], argTypes := #[t, t] })
    (e : TypeId) (i : TypeInfo) (ht : P.underlying t = some (.slice e)) (hi : P.info? e = some i)
    (A B : Option Addr) (n c d : Nat) (hs : a.eval s = .slice A n c) (hn : n ≤ c) (hx : a.eval x = .slice B 0 d)
    (h : wpList P ops Q rest (a.put o.dst (.slice A n c)) w) :
    wpList P ops Q (o :: rest) a w := by
  refine wpList_plain hgd fun K hK => ?_
  have hr : (Builtin.append_ #[t, t] o.type #[.slice A n c, .slice B 0 d]).run P w = .ok (.slice A n c) w := by
    have hfc : (Builtin.firstCells i.size 0 (.slice B 0 d)).run P w = .ok #[] w := by
      cases B with
      | none => rfl
      | some b => exact run_firstCells_some (P := P) w i.size 0 b 0 d [] (by simp) (by simp)
    cases A <;> simp [Builtin.append_, run_underlying ht, sizeOf, typeInfo, hi, Builtin.lenOf, hn, hfc, storeCells]
  unfold Oper.wp execOp
  simp only [ho, resolve, invoke, builtin, Sem.run_bind, Sem.run_pure, Result.andThen_ok, List.map_toArray, List.map_cons, List.map_nil, hs, hx, hr]
  exact hK _ _ h
theorem wpList_apps {P : Program} {ops : Array Oper} {rest : List Oper} {o : Oper} {a : Act} {Q : Exit → Act → World → Prop} (w : World) (hgd : o.guard = none) (s x : Operand) (t : TypeId)
    (ho : o.op = .call { callee := .builtin .append, args := #[s, x], argTypes := #[t, t] })
    (base : Nat) (e : TypeId) (z : Value) (size bytes : Nat) (ht : P.underlying t = some (.slice e)) (hi : (P.info? e).map (fun i => (i.zero, i.size, i.bytes)) = some (some z, size, bytes))
    (hzs : z.cells.size = size) (hsz : 0 < size)
    (v : Value) (n : Nat) (xs : List Value) (hs : a.eval s = v) (hown : w.ownsRow base e size v n xs)
    (A : Option Addr) (m c : Nat) (cs : List Value) (hrow : Row w A cs) (hl : cs.length = m * size) (h1 : ∀ u ∈ cs, u.oneCell' = true) (hx : a.eval x = .slice A m c)
    (hlen : n + m ≤ 1000000000000) (hby : bytes ≤ 100) (hbase : base ≤ w.heap.size)
    (h : ∀ v' w', w'.ownsRow base e size v' (n + m) (xs ++ cs) → Below base w w' → wpList P ops Q rest (a.put o.dst v') w') :
    wpList P ops Q (o :: rest) a w := by
  obtain ⟨i, hi, hz, hsize, hbytes⟩ := info_parts hi
  rcases hrow with rfl | ⟨ad, rfl, hlt, hc⟩
  · obtain rfl : m = 0 := by
      have hl : 0 = m * size := by simpa using hl
      rcases Nat.mul_eq_zero.1 hl.symm with h | h
      · exact h
      · omega
    obtain ⟨A0, c0, rfl, hc0⟩ := own_slice hown
    refine wpList_app0 w hgd s x t ho e i ht hi A0 A n c0 c hs hc0 hx ?_
    exact h _ _ (by simpa using hown) (Below.refl _ _)
  · refine wpList_append_own_at w hgd s x t ho base e i z size bytes ht hi hz hsize hbytes hzs hsz v n xs hs hown ad m c cs hx hl hc h1
      (by simp only [maxLen]; omega) ?_ hbase ?_
    · have : (n + m) * bytes ≤ (n + m) * 100 := Nat.mul_le_mul_left _ hby
      omega
    · intro v' w' h2 h3 _ h5
      refine h v' w' h2 ((Below.refl base w).grown h3 hbase (fun k hk => ?_))
      rcases hown.2 with ⟨rfl, _⟩ | ⟨g, cap, cur, rfl, hg, _⟩
      · simp [Value.ownBlock] at hk
      · simp [Value.ownBlock] at hk; omega
end Go.Proofs.Ytbklkemfcdkihaa
end
section
/- Plain facts on lists of pairs in order, each once: putting in, joining two, what stands in a line. No program, no memory. -/
namespace Seine.Sort
open Seine.Trie
abbrev Pr := Int × Int
def lt (a b : Pr) : Prop := a.1 < b.1 ∨ (a.1 = b.1 ∧ a.2 < b.2)
instance : DecidableRel lt := fun a b => inferInstanceAs (Decidable (_ ∨ _))
theorem lt_trans {a b c : Pr} (h : lt a b) (k : lt b c) : lt a c := by unfold lt at *; omega
theorem lt_irr (a : Pr) : ¬ lt a a := by unfold lt; omega
theorem lt_tri (a b : Pr) : lt a b ∨ a = b ∨ lt b a := by
  obtain ⟨x, y⟩ := a
  obtain ⟨u, v⟩ := b
  simp only [lt, Prod.mk.injEq]
  omega
def Rise (l : List Pr) : Prop := l.Pairwise lt
theorem Rise.nil : Rise [] := List.Pairwise.nil
theorem rise_cons {x : Pr} {l : List Pr} : Rise (x :: l) ↔ (∀ y ∈ l, lt x y) ∧ Rise l := List.pairwise_cons
theorem rise_app {a b : List Pr} : Rise (a ++ b) ↔ Rise a ∧ Rise b ∧ ∀ x ∈ a, ∀ y ∈ b, lt x y := List.pairwise_append
/-- Two lists in order of the same things are one. -/
theorem rise_ext : ∀ {a b : List Pr}, Rise a → Rise b → (∀ x, x ∈ a ↔ x ∈ b) → a = b
  | [], [], _, _, _ => rfl
  | [], y :: b, _, _, h => by have := (h y).2 (by simp); simp at this
  | x :: a, [], _, _, h => by have := (h x).1 (by simp); simp at this
  | x :: a, y :: b, ha, hb, h => by
    obtain ⟨h1, ka⟩ := rise_cons.1 ha
    obtain ⟨h2, kb⟩ := rise_cons.1 hb
    have hxy : x = y := by
      have hx := (h x).1 (by simp)
      have hy := (h y).2 (by simp)
      rcases List.mem_cons.1 hx with e | e
      · exact e
      · rcases List.mem_cons.1 hy with f | f
        · exact f.symm
        · exact absurd (lt_trans (h1 y f) (h2 x e)) (lt_irr x)
    subst hxy
    have hz : ∀ z, z ∈ a ↔ z ∈ b := by
      intro z
      constructor
      · intro hz
        rcases List.mem_cons.1 ((h z).1 (List.mem_cons_of_mem _ hz)) with e | e
        · subst e; exact absurd (h1 _ hz) (lt_irr _)
        · exact e
      · intro hz
        rcases List.mem_cons.1 ((h z).2 (List.mem_cons_of_mem _ hz)) with e | e
        · subst e; exact absurd (h2 _ hz) (lt_irr _)
        · exact e
    rw [rise_ext ka kb hz]
/-- One thing more, in order, once. -/
def put : List Pr → Pr → List Pr
  | [], p => [p]
  | x :: l, p => if lt x p then x :: put l p else if x = p then x :: l else p :: x :: l
theorem mem_put {l : List Pr} {p x : Pr} : x ∈ put l p ↔ x ∈ l ∨ x = p := by
  induction l with
  | nil => simp [put]
  | cons y l ih =>
    unfold put
    by_cases h1 : lt y p
    · rw [if_pos h1]; simp only [List.mem_cons, ih]; exact or_assoc.symm
    · rw [if_neg h1]
      by_cases h2 : y = p
      · rw [if_pos h2]; subst h2
        constructor
        · exact .inl
        · rintro (h | rfl)
          · exact h
          · simp
      · rw [if_neg h2]; simp only [List.mem_cons]
        constructor
        · rintro (h | h | h)
          · exact .inr h
          · exact .inl (.inl h)
          · exact .inl (.inr h)
        · rintro ((h | h) | h)
          · exact .inr (.inl h)
          · exact .inr (.inr h)
          · exact .inl h
theorem rise_put {l : List Pr} {p : Pr} (h : Rise l) : Rise (put l p) := by
  induction l with
  | nil => simp [put, Rise]
  | cons y l ih =>
    obtain ⟨h1, h2⟩ := rise_cons.1 h
    unfold put
    by_cases k1 : lt y p
    · rw [if_pos k1]
      refine rise_cons.2 ⟨fun z hz => ?_, ih h2⟩
      rcases mem_put.1 hz with hz | rfl
      · exact h1 z hz
      · exact k1
    · rw [if_neg k1]
      by_cases k2 : y = p
      · rw [if_pos k2]; exact h
      · rw [if_neg k2]
        have hp : lt p y := by
          rcases lt_tri y p with e | e | e
          · exact absurd e k1
          · exact absurd e k2
          · exact e
        refine rise_cons.2 ⟨fun z hz => ?_, h⟩
        rcases List.mem_cons.1 hz with rfl | hz
        · exact hp
        · exact lt_trans hp (h1 z hz)
/-- In order, each once. -/
def sortP (l : List Pr) : List Pr := l.foldl put []
theorem foldl_put (l : List Pr) : ∀ (a : List Pr), Rise a → Rise (l.foldl put a) ∧ ∀ x, x ∈ l.foldl put a ↔ x ∈ a ∨ x ∈ l := by
  induction l with
  | nil => intro a h; exact ⟨h, fun x => by simp⟩
  | cons y l ih =>
    intro a h
    obtain ⟨h1, h2⟩ := ih (put a y) (rise_put h)
    refine ⟨h1, fun x => ?_⟩
    rw [List.foldl_cons, h2, mem_put, List.mem_cons, or_assoc]
theorem rise_sortP (l : List Pr) : Rise (sortP l) := (foldl_put l [] Rise.nil).1
theorem mem_sortP {l : List Pr} {x : Pr} : x ∈ sortP l ↔ x ∈ l := by rw [sortP, (foldl_put l [] Rise.nil).2]; simp
theorem sortP_ext {a b : List Pr} (h : ∀ x, x ∈ a ↔ x ∈ b) : sortP a = sortP b := rise_ext (rise_sortP a) (rise_sortP b) fun x => by rw [mem_sortP, mem_sortP, h]
theorem sortP_rise {a : List Pr} (h : Rise a) : sortP a = a := rise_ext (rise_sortP a) h fun x => mem_sortP
theorem sortP_eq {a b : List Pr} (hb : Rise b) (h : ∀ x, x ∈ a ↔ x ∈ b) : sortP a = b := (sortP_ext h).trans (sortP_rise hb)
theorem put_len (l : List Pr) (p : Pr) : (put l p).length ≤ l.length + 1 := by
  induction l with
  | nil => simp [put]
  | cons y l ih => unfold put; split <;> (try split) <;> simp <;> omega
theorem sortP_len (l : List Pr) : (sortP l).length ≤ l.length := by
  have : ∀ (l a : List Pr), (l.foldl put a).length ≤ a.length + l.length := by
    intro l
    induction l with
    | nil => intro a; simp
    | cons y l ih => intro a; rw [List.foldl_cons]; have := ih (put a y); have := put_len a y; simp; omega
  have := this l []
  simpa [sortP] using this
theorem sortP_short {l : List Pr} (h : l.length < 2) : sortP l = l := by
  match l, h with
  | [], _ => rfl
  | [x], _ => rfl
theorem sortP_split (l : List Pr) (m : Nat) : sortP (sortP (l.take m) ++ sortP (l.drop m)) = sortP l := by
  refine sortP_ext fun x => ?_
  rw [List.mem_append, mem_sortP, mem_sortP, ← List.mem_append, List.take_append_drop]

/-! ### two rows in order as one -/
def push (out : List Pr) (x : Pr) : List Pr := if out.getLast? = some x then out else out ++ [x]
theorem push_len (out : List Pr) (x : Pr) : (push out x).length ≤ out.length + 1 := by unfold push; split <;> simp
structure Join (A B a b out : List Pr) : Prop where
  ra : Rise a
  rb : Rise b
  ro : Rise out
  mem : ∀ z, (z ∈ out ∨ z ∈ a ∨ z ∈ b) ↔ (z ∈ A ∨ z ∈ B)
  le : ∀ x ∈ out, ∀ y, y ∈ a ∨ y ∈ b → lt x y ∨ x = y
theorem Join.start {A B : List Pr} (ha : Rise A) (hb : Rise B) : Join A B A B [] := ⟨ha, hb, Rise.nil, by simp, by simp⟩
theorem mem_push {out : List Pr} {x z : Pr} : z ∈ push out x ↔ z ∈ out ∨ z = x := by
  unfold push
  split
  · rename_i h
    have := List.mem_of_getLast? h
    constructor
    · exact .inl
    · rintro (h | rfl)
      · exact h
      · exact this
  · simp
theorem rise_push {out : List Pr} {x : Pr} (h : Rise out) (hx : ∀ o ∈ out, lt o x ∨ o = x) : Rise (push out x) := by
  unfold push
  split
  · exact h
  · rename_i hl
    refine rise_app.2 ⟨h, by simp [Rise], fun o ho y hy => ?_⟩
    rw [List.mem_singleton] at hy
    subst hy
    rcases hx o ho with e | e
    · exact e
    · subst e
      exfalso
      obtain ⟨pre, z, rfl⟩ : ∃ pre z, out = pre ++ [z] := ⟨out.dropLast, out.getLast (by intro e; rw [e] at ho; simp at ho), (List.dropLast_concat_getLast _).symm⟩
      rw [List.getLast?_concat] at hl
      have hz : z ≠ o := fun e => hl (by rw [e])
      obtain ⟨_, _, h3⟩ := rise_app.1 h
      have ho2 : o ∈ pre := by
        rcases List.mem_append.1 ho with e | e
        · exact e
        · rw [List.mem_singleton] at e; exact absurd e.symm hz
      have h4 := h3 o ho2 z (by simp)
      rcases hx z (by simp) with e | e
      · exact lt_irr _ (lt_trans h4 e)
      · exact hz e
theorem Join.takeA {A B a b out : List Pr} {x : Pr} (h : Join A B (x :: a) b out) (hb : ∀ y ∈ b, lt x y ∨ x = y) : Join A B a b (push out x) := by
  obtain ⟨h1, h2⟩ := rise_cons.1 h.ra
  refine ⟨h2, h.rb, rise_push h.ro fun o ho => h.le o ho x (.inl (by simp)), fun z => ?_, fun o ho y hy => ?_⟩
  · rw [← h.mem z, mem_push, List.mem_cons]
    constructor
    · rintro ((h | h) | h | h)
      · exact .inl h
      · exact .inr (.inl (.inl h))
      · exact .inr (.inl (.inr h))
      · exact .inr (.inr h)
    · rintro (h | (h | h) | h)
      · exact .inl (.inl h)
      · exact .inl (.inr h)
      · exact .inr (.inl h)
      · exact .inr (.inr h)
  · rcases mem_push.1 ho with ho | rfl
    · exact h.le o ho y (hy.imp (List.mem_cons_of_mem _) id)
    · rcases hy with hy | hy
      · exact .inl (h1 y hy)
      · exact hb y hy
theorem Join.swap {A B a b out : List Pr} (h : Join A B a b out) : Join B A b a out := by
  refine ⟨h.rb, h.ra, h.ro, fun z => ?_, fun x hx z hz => h.le x hx z hz.symm⟩
  have := h.mem z
  constructor
  · rintro (q | q | q)
    · exact (this.1 (.inl q)).symm
    · exact (this.1 (.inr (.inr q))).symm
    · exact (this.1 (.inr (.inl q))).symm
  · intro q
    rcases this.2 q.symm with q | q | q
    · exact .inl q
    · exact .inr (.inr q)
    · exact .inr (.inl q)
theorem Join.takeB {A B a b out : List Pr} {y : Pr} (h : Join A B a (y :: b) out) (ha : ∀ x ∈ a, lt y x ∨ y = x) : Join A B a b (push out y) := (h.swap.takeA ha).swap
theorem Join.done {A B out : List Pr} (h : Join A B [] [] out) : out = sortP (A ++ B) := by
  refine (sortP_eq h.ro fun x => ?_).symm
  rw [List.mem_append, ← h.mem x]; simp
/-- What stands ahead in a row in order. -/
theorem rise_head {x y : Pr} {l : List Pr} (h : Rise (x :: l)) (hy : lt y x ∨ y = x) : ∀ z ∈ x :: l, lt y z ∨ y = z := by
  obtain ⟨h1, _⟩ := rise_cons.1 h
  intro z hz
  rcases List.mem_cons.1 hz with e | hz
  · rw [e]; exact hy
  · rcases hy with hy | hy
    · exact .inl (lt_trans hy (h1 z hz))
    · rw [hy]; exact .inl (h1 z hz)

/-! ### what stands in a line -/
/-- A pair that is a piece of a line, not empty, which is one of some texts. -/
def Occ (T : List Txt) (L : Txt) (p : Pr) : Prop := ∃ i j : Nat, p = ((i : Int), (j : Int)) ∧ i < j ∧ j ≤ L.length ∧ (L.drop i).take (j - i) ∈ T
def occRow (T : List Txt) (L : Txt) (i k : Nat) : List Pr := ((List.range' (i + 1) k).filter fun j => decide ((L.drop i).take (j - i) ∈ T)).map fun (j : Nat) => ((i : Int), (j : Int))
def occTo (T : List Txt) (L : Txt) (n : Nat) : List Pr := (List.range n).flatMap fun i => occRow T L i (L.length - i)
def occ (T : List Txt) (L : Txt) : List Pr := occTo T L L.length
theorem mem_occRow {T : List Txt} {L : Txt} {i k : Nat} {p : Pr} : p ∈ occRow T L i k ↔ ∃ j : Nat, p = ((i : Int), (j : Int)) ∧ i < j ∧ j ≤ i + k ∧ (L.drop i).take (j - i) ∈ T := by
  unfold occRow
  simp only [List.mem_map, List.mem_filter, List.mem_range'_1, decide_eq_true_eq]
  constructor
  · rintro ⟨j, ⟨⟨h1, h2⟩, h3⟩, rfl⟩
    exact ⟨j, rfl, by omega, by omega, h3⟩
  · rintro ⟨j, rfl, h1, h2, h3⟩
    exact ⟨j, ⟨⟨by omega, by omega⟩, h3⟩, rfl⟩
theorem mem_occTo {T : List Txt} {L : Txt} {n : Nat} (hn : n ≤ L.length) {p : Pr} : p ∈ occTo T L n ↔ ∃ i j : Nat, p = ((i : Int), (j : Int)) ∧ i < n ∧ i < j ∧ j ≤ L.length ∧ (L.drop i).take (j - i) ∈ T := by
  unfold occTo
  simp only [List.mem_flatMap, List.mem_range, mem_occRow]
  constructor
  · rintro ⟨i, hi, j, rfl, h1, h2, h3⟩
    exact ⟨i, j, rfl, hi, h1, by omega, h3⟩
  · rintro ⟨i, j, rfl, hi, h1, h2, h3⟩
    exact ⟨i, hi, j, rfl, h1, by omega, h3⟩
theorem mem_occ {T : List Txt} {L : Txt} {p : Pr} : p ∈ occ T L ↔ Occ T L p := by
  rw [occ, mem_occTo (Nat.le_refl _)]
  constructor
  · rintro ⟨i, j, h1, _, h2, h3, h4⟩; exact ⟨i, j, h1, h2, h3, h4⟩
  · rintro ⟨i, j, h1, h2, h3, h4⟩; exact ⟨i, j, h1, by omega, h2, h3, h4⟩
theorem rise_occRow (T : List Txt) (L : Txt) (i k : Nat) : Rise (occRow T L i k) := by
  unfold occRow Rise
  rw [List.pairwise_map]
  refine List.Pairwise.filter _ ?_
  have : (List.range' (i + 1) k).Pairwise (· < ·) := List.pairwise_lt_range'
  exact this.imp fun h => .inr ⟨rfl, by simpa using h⟩
theorem occTo_succ (T : List Txt) (L : Txt) (n : Nat) : occTo T L (n + 1) = occTo T L n ++ occRow T L n (L.length - n) := by
  unfold occTo
  rw [List.range_succ, List.flatMap_append]; simp
theorem rise_occTo (T : List Txt) (L : Txt) : ∀ n, Rise (occTo T L n)
  | 0 => Rise.nil
  | n + 1 => by
    rw [occTo_succ]
    refine rise_app.2 ⟨rise_occTo T L n, rise_occRow T L n _, fun x hx y hy => ?_⟩
    obtain ⟨i, hi, h2⟩ := List.mem_flatMap.1 hx
    obtain ⟨j, rfl, _⟩ := mem_occRow.1 h2
    obtain ⟨k, rfl, _⟩ := mem_occRow.1 hy
    have := List.mem_range.1 hi
    exact .inl (by simp; omega)
theorem rise_occ (T : List Txt) (L : Txt) : Rise (occ T L) := rise_occTo T L _
theorem occ_ext {T T' : List Txt} {L : Txt} (h : ∀ x, x ≠ [] → (x ∈ T ↔ x ∈ T')) : occ T L = occ T' L :=
  rise_ext (rise_occ T L) (rise_occ T' L) fun p => by
    rw [mem_occ, mem_occ]
    constructor
    · rintro ⟨i, j, e, h1, h2, h3⟩
      refine ⟨i, j, e, h1, h2, (h _ fun e => ?_).1 h3⟩
      have := congrArg List.length e; rw [List.length_take, List.length_drop] at this; simp at this; omega
    · rintro ⟨i, j, e, h1, h2, h3⟩
      refine ⟨i, j, e, h1, h2, (h _ fun e => ?_).2 h3⟩
      have := congrArg List.length e; rw [List.length_take, List.length_drop] at this; simp at this; omega
/-- The pieces of a line's first bytes are those that end there. -/
theorem occ_take (T : List Txt) (L : Txt) (k : Nat) (hk : k ≤ L.length) : occ T (L.take k) = (occ T L).filter fun p => decide (p.2 ≤ (k : Int)) := by
  refine rise_ext (rise_occ T _) (List.Pairwise.filter _ (rise_occ T L)) fun p => ?_
  rw [List.mem_filter, mem_occ, mem_occ, decide_eq_true_eq]
  have key : ∀ i j : Nat, j ≤ k → ((L.take k).drop i).take (j - i) = (L.drop i).take (j - i) := by
    intro i j hj
    rw [List.drop_take, List.take_take]; congr 1; omega
  constructor
  · rintro ⟨i, j, rfl, h1, h2, h3⟩
    rw [List.length_take] at h2
    exact ⟨⟨i, j, rfl, h1, by omega, by rw [← key i j (by omega)]; exact h3⟩, by simp; omega⟩
  · rintro ⟨⟨i, j, rfl, h1, h2, h3⟩, h4⟩
    have h4 : j ≤ k := by simpa using h4
    exact ⟨i, j, rfl, h1, by rw [List.length_take]; omega, by rw [key i j h4]; exact h3⟩
theorem occRow_len (T : List Txt) (L : Txt) (i k : Nat) : (occRow T L i k).length ≤ k := by
  unfold occRow
  rw [List.length_map]
  exact Nat.le_trans (List.length_filter_le _ _) (by simp)
theorem occTo_len (T : List Txt) (L : Txt) : ∀ n, (occTo T L n).length ≤ n * L.length
  | 0 => by simp [occTo]
  | n + 1 => by
    rw [occTo_succ, List.length_append]
    have h1 := occTo_len T L n
    have h2 := occRow_len T L n (L.length - n)
    rw [Nat.succ_mul]; omega
end Seine.Sort
end
section
/- The plain law of packages back, shifts and cwalter: how far a window may be moved, and that nothing is passed over. No program, no memory. -/
set_option linter.unusedVariables false
namespace Seine.Cw
open Seine.Trie Seine.Sort

/-! ### the least of some numbers that hold -/
/-- The least of b and the numbers from 1 on, below b, that hold. -/
def leastN (q : Nat → Bool) (b : Nat) : Nat := ((List.range b).find? (fun n => decide (0 < n) && q n)).getD b
theorem find_range {q : Nat → Bool} : ∀ {b n : Nat}, (List.range b).find? q = some n → n < b ∧ q n = true ∧ ∀ j, j < n → q j = false := by
  intro b n h
  rw [List.find?_range_eq_some] at h
  exact ⟨List.mem_range.1 h.2.1, h.1, fun j hj => by have := h.2.2 j hj; simpa using this⟩
theorem leastN_spec (q : Nat → Bool) (b : Nat) (hb : 0 < b) : 0 < leastN q b ∧ leastN q b ≤ b ∧ (leastN q b < b → q (leastN q b) = true) ∧ ∀ j, 0 < j → j < leastN q b → q j = false := by
  unfold leastN
  cases h : (List.range b).find? (fun n => decide (0 < n) && q n) with
  | some n =>
    obtain ⟨h1, h2, h3⟩ := find_range h
    rw [Bool.and_eq_true, decide_eq_true_eq] at h2
    refine ⟨h2.1, by simp; omega, fun _ => h2.2, fun j a c => ?_⟩
    have := h3 j c
    rw [decide_eq_true a, Bool.true_and] at this
    exact this
  | none =>
    refine ⟨hb, Nat.le_refl _, fun h => by simp at h, fun j a c => ?_⟩
    have := List.find?_eq_none.1 h j (List.mem_range.2 (by simpa using c))
    rw [decide_eq_true a, Bool.true_and] at this
    simpa using this
theorem leastN_le {q : Nat → Bool} {b n : Nat} (hb : 0 < b) (hn : 0 < n) (h : q n = true) : leastN q b ≤ n := by
  rcases Nat.lt_or_ge n (leastN q b) with e | e
  · have := (leastN_spec q b hb).2.2.2 n hn e
    rw [h] at this; cases this
  · exact e
theorem leastN_eq {q : Nat → Bool} {b m : Nat} (hb : 0 < b) (h0 : 0 < m) (h1 : m ≤ b) (h2 : m < b → q m = true) (h3 : ∀ j, 0 < j → j < m → q j = false) : leastN q b = m := by
  obtain ⟨a1, a2, a3, a4⟩ := leastN_spec q b hb
  rcases Nat.lt_trichotomy (leastN q b) m with e | e | e
  · have := h3 _ a1 e; rw [a3 (by omega)] at this; cases this
  · exact e
  · have := a4 m h0 e; rw [h2 (by omega)] at this; cases this

/-! ### texts from their ends: T are the texts turned round -/
/-- How many bytes the shortest text has; 0: there are none. -/
def least (T : List Txt) : Nat := T.foldl (fun n t => if n = 0 then t.length else min n t.length) 0
theorem least_fold : ∀ (T : List Txt) (n : Nat), 0 < n → (∀ t ∈ T, t ≠ []) → 0 < T.foldl (fun n t => if n = 0 then t.length else min n t.length) n ∧ T.foldl (fun n t => if n = 0 then t.length else min n t.length) n ≤ n ∧ (∀ t ∈ T, T.foldl (fun n t => if n = 0 then t.length else min n t.length) n ≤ t.length) ∧
    (T.foldl (fun n t => if n = 0 then t.length else min n t.length) n = n ∨ ∃ t ∈ T, T.foldl (fun n t => if n = 0 then t.length else min n t.length) n = t.length)
  | [], n, hn, _ => ⟨hn, Nat.le_refl _, by simp, .inl rfl⟩
  | t :: T, n, hn, hT => by
    have ht : 0 < t.length := List.length_pos_iff.2 (hT t (by simp))
    obtain ⟨h1, h2, h3, h4⟩ := least_fold T (min n t.length) (by omega) (fun x hx => hT x (List.mem_cons_of_mem _ hx))
    rw [List.foldl_cons, if_neg (by omega)]
    refine ⟨h1, by omega, fun x hx => ?_, ?_⟩
    · rcases List.mem_cons.1 hx with rfl | hx
      · omega
      · exact h3 x hx
    · rcases h4 with h4 | ⟨x, hx, h4⟩
      · rw [h4]
        rcases Nat.le_total n t.length with e | e
        · exact .inl (by omega)
        · exact .inr ⟨t, by simp, by omega⟩
      · exact .inr ⟨x, List.mem_cons_of_mem _ hx, h4⟩
theorem least_spec {T : List Txt} (hT : ∀ t ∈ T, t ≠ []) (hne : T ≠ []) : 0 < least T ∧ (∀ t ∈ T, least T ≤ t.length) ∧ ∃ t ∈ T, least T = t.length := by
  cases T with
  | nil => exact absurd rfl hne
  | cons t T =>
    have ht : 0 < t.length := List.length_pos_iff.2 (hT t (by simp))
    unfold least
    rw [List.foldl_cons, if_pos rfl]
    obtain ⟨h1, h2, h3, h4⟩ := least_fold T t.length ht (fun x hx => hT x (List.mem_cons_of_mem _ hx))
    refine ⟨h1, fun x hx => ?_, ?_⟩
    · rcases List.mem_cons.1 hx with rfl | hx
      · exact h2
      · exact h3 x hx
    · rcases h4 with h4 | ⟨x, hx, h4⟩
      · exact ⟨t, by simp, h4⟩
      · exact ⟨x, List.mem_cons_of_mem _ hx, h4⟩
/-- How many bytes from a text's end a byte stands at the least; 0: nowhere. -/
def near (T : List Txt) (c : UInt8) : Nat := T.foldl (fun n t => if c ∈ t then (if n = 0 then t.idxOf c + 1 else min n (t.idxOf c + 1)) else n) 0
theorem near_spec (T : List Txt) (c : UInt8) : (near T c = 0 → ∀ t ∈ T, c ∉ t) ∧ (0 < near T c → ∃ t ∈ T, c ∈ t ∧ near T c = t.idxOf c + 1) ∧ ∀ t ∈ T, c ∈ t → 0 < near T c ∧ near T c ≤ t.idxOf c + 1 := by
  have H : ∀ (T : List Txt) (n : Nat), (T.foldl (fun n t => if c ∈ t then (if n = 0 then t.idxOf c + 1 else min n (t.idxOf c + 1)) else n) n = 0 → n = 0 ∧ ∀ t ∈ T, c ∉ t) ∧
      (T.foldl (fun n t => if c ∈ t then (if n = 0 then t.idxOf c + 1 else min n (t.idxOf c + 1)) else n) n = n ∨ ∃ t ∈ T, c ∈ t ∧ T.foldl (fun n t => if c ∈ t then (if n = 0 then t.idxOf c + 1 else min n (t.idxOf c + 1)) else n) n = t.idxOf c + 1) ∧
      (0 < n → 0 < T.foldl (fun n t => if c ∈ t then (if n = 0 then t.idxOf c + 1 else min n (t.idxOf c + 1)) else n) n ∧ T.foldl (fun n t => if c ∈ t then (if n = 0 then t.idxOf c + 1 else min n (t.idxOf c + 1)) else n) n ≤ n) ∧
      ∀ t ∈ T, c ∈ t → 0 < T.foldl (fun n t => if c ∈ t then (if n = 0 then t.idxOf c + 1 else min n (t.idxOf c + 1)) else n) n ∧ T.foldl (fun n t => if c ∈ t then (if n = 0 then t.idxOf c + 1 else min n (t.idxOf c + 1)) else n) n ≤ t.idxOf c + 1 := by
    intro T
    induction T with
    | nil => intro n; exact ⟨fun h => ⟨h, by simp⟩, .inl rfl, fun h => ⟨h, Nat.le_refl _⟩, by simp⟩
    | cons x T ih =>
      intro n
      rw [List.foldl_cons]
      by_cases hx : c ∈ x
      · rw [if_pos hx]
        obtain ⟨m, hm⟩ : ∃ m, (if n = 0 then x.idxOf c + 1 else min n (x.idxOf c + 1)) = m := ⟨_, rfl⟩
        have hm0 : 0 < m ∧ m ≤ x.idxOf c + 1 ∧ (0 < n → m ≤ n) ∧ (m = n ∨ m = x.idxOf c + 1) := by rw [← hm]; split <;> omega
        rw [hm]
        obtain ⟨h1, h2, h3, h4⟩ := ih m
        obtain ⟨h5, h6⟩ := h3 hm0.1
        refine ⟨fun h => by omega, ?_, fun h => ⟨h5, by have := hm0.2.2.1 h; omega⟩, fun t ht hc => ?_⟩
        · rcases h2 with h2 | ⟨t, ht, hc, h2⟩
          · rcases hm0.2.2.2 with e | e
            · exact .inl (by omega)
            · exact .inr ⟨x, by simp, hx, by omega⟩
          · exact .inr ⟨t, List.mem_cons_of_mem _ ht, hc, h2⟩
        · rcases List.mem_cons.1 ht with rfl | ht
          · exact ⟨h5, by omega⟩
          · exact h4 t ht hc
      · rw [if_neg hx]
        obtain ⟨h1, h2, h3, h4⟩ := ih n
        refine ⟨fun h => ?_, ?_, h3, fun t ht hc => ?_⟩
        · obtain ⟨a, b⟩ := h1 h
          refine ⟨a, fun t ht => ?_⟩
          rcases List.mem_cons.1 ht with rfl | ht
          · exact hx
          · exact b t ht
        · rcases h2 with h2 | ⟨t, ht, hc, h2⟩
          · exact .inl h2
          · exact .inr ⟨t, List.mem_cons_of_mem _ ht, hc, h2⟩
        · rcases List.mem_cons.1 ht with rfl | ht
          · exact absurd hc hx
          · exact h4 t ht hc
  obtain ⟨h1, h2, _, h4⟩ := H T 0
  refine ⟨fun h => (h1 h).2, fun h => ?_, h4⟩
  rcases h2 with h2 | h2
  · unfold near at h; omega
  · exact h2
/-- A node's path goes on another one's end, by so many bytes. -/
def goesB (w s : Txt) (n : Nat) : Bool := decide (n ≤ w.length) && decide (w.drop n = s)
theorem goesB_iff {w s : Txt} {n : Nat} : goesB w s n = true ↔ n ≤ w.length ∧ w.drop n = s := by unfold goesB; rw [Bool.and_eq_true, decide_eq_true_eq, decide_eq_true_eq]
def firstF (T : List Txt) (s : Txt) : Nat := leastN (fun n => (paths T).any fun w => goesB w s n) (least T)
def wholeF (T : List Txt) (s : Txt) : Nat := leastN (fun n => T.any fun w => goesB w s n) (least T)
def secondF (T : List Txt) (s : Txt) : Nat := leastN (fun n => (List.range (s.length + 1)).any fun k => T.any fun w => goesB w (s.take k) n) (least T)
def nearK (T : List Txt) (c : UInt8) : Nat := if 0 < near T c then min (least T + 1) (near T c) else least T + 1
def farF (T : List Txt) (s : Txt) (c : UInt8) : Nat := min (secondF T s) (max (firstF T s) (nearK T c - s.length - 1))

/-! ### a window -/
def fitR (P : List Txt) (L : Txt) : Nat → Txt → Txt
  | 0, s => s
  | i + 1, s => if s ++ [L.getD i 0] ∈ P then fitR P L i (s ++ [L.getD i 0]) else s
def fit (P : List Txt) (L : Txt) (e : Nat) : Txt := fitR P L e []
/-- A line's first bytes, turned round. -/
def rv (L : Txt) (e : Nat) : Txt := (L.take e).reverse
theorem rv_length {L : Txt} {e : Nat} (h : e ≤ L.length) : (rv L e).length = e := by simp [rv]; omega
theorem rv_get {L : Txt} {e k : Nat} (he : e ≤ L.length) (hk : k < e) : (rv L e).take (k + 1) = (rv L e).take k ++ [L.getD (e - k - 1) 0] := by
  rw [List.take_succ_eq_append_getElem (by rw [rv_length he]; exact hk)]
  congr 2
  unfold rv
  rw [List.getElem_reverse, List.getElem_take, List.getD_eq_getElem?_getD, List.getElem?_eq_getElem (by omega)]
  simp only [Option.getD_some]
  congr 1
  rw [List.length_take]; omega
theorem tree_take {P : List Txt} (hT : Tree P) {s : Txt} (h : s ∈ P) : ∀ k, s.take k ∈ P := by
  have H : ∀ (n : Nat) (s : Txt), s.length = n → s ∈ P → ∀ k, s.take k ∈ P := by
    intro n
    induction n with
    | zero => intro s hs hm k; rw [List.eq_nil_of_length_eq_zero hs]; simp; exact hT.nil_mem
    | succ n ih =>
      intro s hs hm k
      have hne : s ≠ [] := by intro e; rw [e] at hs; simp at hs
      by_cases hk : s.length ≤ k
      · rw [List.take_of_length_le hk]; exact hm
      · have := ih s.dropLast (by rw [List.length_dropLast]; omega) (hT.up s hm hne) k
        rw [List.dropLast_eq_take, List.take_take, Nat.min_eq_left (by omega)] at this
        exact this
  exact H _ s rfl h
theorem fitR_spec {P : List Txt} {L : Txt} {e : Nat} (he : e ≤ L.length) : ∀ (i k : Nat), i + k = e → (rv L e).take k ∈ P → ∃ d, k ≤ d ∧ d ≤ e ∧ fitR P L i ((rv L e).take k) = (rv L e).take d ∧ (rv L e).take d ∈ P ∧ (d < e → (rv L e).take (d + 1) ∉ P)
  | 0, k, h, hm => ⟨k, Nat.le_refl _, by omega, rfl, hm, fun h => by omega⟩
  | i + 1, k, h, hm => by
    have hg := rv_get he (k := k) (by omega)
    rw [show e - k - 1 = i by omega] at hg
    unfold fitR
    rw [← hg]
    by_cases hP : (rv L e).take (k + 1) ∈ P
    · rw [if_pos hP]
      obtain ⟨d, h1, h2, h3, h4, h5⟩ := fitR_spec he i (k + 1) (by omega) hP
      exact ⟨d, by omega, h2, h3, h4, h5⟩
    · rw [if_neg hP]
      exact ⟨k, Nat.le_refl _, by omega, rfl, hm, fun _ => hP⟩
theorem fit_spec {P : List Txt} (hT : Tree P) {L : Txt} {e : Nat} (he : e ≤ L.length) : ∃ d, d ≤ e ∧ fit P L e = (rv L e).take d ∧ (fit P L e).length = d ∧ (rv L e).take d ∈ P ∧ (d < e → (rv L e).take (d + 1) ∉ P) := by
  obtain ⟨d, _, h2, h3, h4, h5⟩ := fitR_spec (P := P) he e 0 (by omega) (by simp; exact hT.nil_mem)
  rw [List.take_zero] at h3
  refine ⟨d, h2, h3, ?_, h4, h5⟩
  unfold fit
  rw [h3, List.length_take, rv_length he]; omega
/-- A path that a window's end goes back to is among what fits. -/
theorem fit_all {P : List Txt} (hT : Tree P) {L : Txt} {e : Nat} (he : e ≤ L.length) {k : Nat} (hk : k ≤ e) (h : (rv L e).take k ∈ P) : k ≤ (fit P L e).length := by
  obtain ⟨d, h1, h2, h3, h4, h5⟩ := fit_spec hT he
  rw [h3]
  rcases Nat.lt_or_ge d k with c | c
  · have := tree_take hT h (d + 1)
    rw [List.take_take, Nat.min_eq_left (by omega)] at this
    exact absurd this (h5 (by omega))
  · exact c
/-- The pieces that end at a window's end. -/
def wins (T : List Txt) (L : Txt) (e : Nat) : Nat → List Pr
  | 0 => []
  | k + 1 => wins T L e k ++ if (rv L e).take (k + 1) ∈ T then [((e : Int) - ((k + 1 : Nat) : Int), (e : Int))] else []
theorem mem_wins {T : List Txt} {L : Txt} {e : Nat} {p : Pr} : ∀ {d : Nat}, p ∈ wins T L e d ↔ ∃ k, 0 < k ∧ k ≤ d ∧ p = ((e : Int) - (k : Int), (e : Int)) ∧ (rv L e).take k ∈ T
  | 0 => by simp only [wins, List.not_mem_nil, false_iff]; rintro ⟨k, h1, h2, _⟩; omega
  | d + 1 => by
    rw [wins, List.mem_append, mem_wins]
    constructor
    · rintro (⟨k, h1, h2, h3⟩ | h)
      · exact ⟨k, h1, by omega, h3⟩
      · split at h
        · rename_i hm
          rw [List.mem_singleton] at h
          exact ⟨d + 1, by omega, Nat.le_refl _, h, hm⟩
        · simp at h
    · rintro ⟨k, h1, h2, rfl, h3⟩
      by_cases e' : k = d + 1
      · subst e'; rw [if_pos h3]; exact .inr (by simp)
      · exact .inl ⟨k, h1, by omega, rfl, h3⟩
/-- How far the next window is. -/
def farAt (T : List Txt) (L : Txt) (e : Nat) : Nat := if (fit (paths T) L e).length < e then farF T (fit (paths T) L e) (L.getD (e - (fit (paths T) L e).length - 1) 0) else secondF T (fit (paths T) L e)

section
variable {T : List Txt} (hT : ∀ t ∈ T, t ≠ []) (hne : T ≠ [])
include hT hne
theorem first_spec (s : Txt) : 0 < firstF T s ∧ firstF T s ≤ least T := by
  have := leastN_spec (fun n => (paths T).any fun w => goesB w s n) (least T) (least_spec hT hne).1
  exact ⟨this.1, this.2.1⟩
theorem second_spec (s : Txt) : 0 < secondF T s ∧ secondF T s ≤ least T := by
  have := leastN_spec (fun n => (List.range (s.length + 1)).any fun k => T.any fun w => goesB w (s.take k) n) (least T) (least_spec hT hne).1
  exact ⟨this.1, this.2.1⟩
theorem far_spec (s : Txt) (c : UInt8) : 0 < farF T s c ∧ farF T s c ≤ least T := by
  have := first_spec hT hne s
  have := second_spec hT hne s
  unfold farF; omega
theorem farAt_spec (L : Txt) (e : Nat) : 0 < farAt T L e ∧ farAt T L e ≤ least T := by
  unfold farAt
  split
  · exact far_spec hT hne _ _
  · exact second_spec hT hne _
theorem first_le {s w : Txt} {n : Nat} (hn : 0 < n) (hw : w ∈ paths T) (h : n ≤ w.length) (e : w.drop n = s) : firstF T s ≤ n :=
  leastN_le (least_spec hT hne).1 hn (List.any_eq_true.2 ⟨w, hw, goesB_iff.2 ⟨h, e⟩⟩)
theorem second_le {s w : Txt} {n k : Nat} (hn : 0 < n) (hk : k ≤ s.length) (hw : w ∈ T) (h : n ≤ w.length) (e : w.drop n = s.take k) : secondF T s ≤ n :=
  leastN_le (least_spec hT hne).1 hn (List.any_eq_true.2 ⟨k, List.mem_range.2 (by omega), List.any_eq_true.2 ⟨w, hw, goesB_iff.2 ⟨h, e⟩⟩⟩)
theorem nearK_le {w : Txt} {c : UInt8} {k : Nat} (hw : w ∈ T) (hk : k < w.length) (h : w.getD k 0 = c) : nearK T c ≤ k + 1 := by
  have _u := And.intro hT hne
  have hc : w[k] = c := by rw [List.getD_eq_getElem?_getD, List.getElem?_eq_getElem hk] at h; exact h
  have hm : c ∈ w := by rw [← hc]; exact List.getElem_mem hk
  have hi : w.idxOf c ≤ k := by
    rcases Nat.lt_or_ge k (w.idxOf c) with e | e
    · have := List.not_of_lt_findIdx (p := (· == c)) (xs := w) (i := k) (by simpa [List.idxOf] using e)
      rw [hc] at this; simp at this
    · exact e
  have := (near_spec T c).2.2 w hw hm
  unfold nearK; split <;> omega
/-- No text's end is passed over: an occurrence that ends behind a window ends at the next one, or behind it. -/
theorem skip {L : Txt} {e i j : Nat} (he : e ≤ L.length) (hej : e < j) (hj : j ≤ L.length) (hij : i < j) (hx : ((L.drop i).take (j - i)).reverse ∈ T) : e + farAt T L e ≤ j := by
  obtain ⟨hl0, hl1, _⟩ := least_spec hT hne
  obtain ⟨f1, f2⟩ := farAt_spec hT hne L e
  obtain ⟨w, hw⟩ : ∃ w, ((L.drop i).take (j - i)).reverse = w := ⟨_, rfl⟩
  rw [hw] at hx
  have hwl : w.length = j - i := by rw [← hw]; simp; omega
  have hml := hl1 w hx
  by_cases hn : least T ≤ j - e
  · omega
  have hie : i < e := by omega
  have hwn : w.drop (j - e) = (rv L e).take (e - i) := by
    rw [← hw, List.drop_reverse, List.length_take, List.length_drop, List.take_take]
    unfold rv
    rw [List.take_reverse, List.length_take, List.drop_take]
    congr 1
    rw [show min ((min (j - i) (L.length - i)) - (j - e)) (j - i) = e - i by omega, show min e L.length - (e - i) = i by omega]
  obtain ⟨d, h1, h2, h3, h4, h5⟩ := fit_spec (paths_tree T) (L := L) he
  have hns : 0 < j - e := by omega
  unfold farAt
  rw [h3]
  by_cases hs : e - i ≤ d
  · have hs2 : secondF T (fit (paths T) L e) ≤ j - e := by
      refine second_le hT hne hns (k := e - i) (by omega) hx (by omega) ?_
      rw [hwn, h2, List.take_take, Nat.min_eq_left hs]
    split
    · unfold farF; omega
    · omega
  · rw [if_pos (by omega)]
    have hpw : w.take (d + (j - e)) ∈ paths T := tree_take (paths_tree T) (text_mem_paths hx) _
    have hf : firstF T (fit (paths T) L e) ≤ j - e := by
      refine first_le hT hne hns hpw (by rw [List.length_take]; omega) ?_
      rw [List.drop_take, hwn, h2, List.take_take]
      congr 1; omega
    have hk : nearK T (L.getD (e - d - 1) 0) ≤ d + (j - e) + 1 := by
      refine nearK_le hT hne hx (by omega) ?_
      have hg := rv_get he (k := d) (by omega)
      have : w.getD (d + (j - e)) 0 = ((rv L e).take (d + 1)).getD d 0 := by
        rw [List.getD_eq_getElem?_getD, List.getD_eq_getElem?_getD, show d + (j - e) = (j - e) + d by omega, ← List.getElem?_drop, hwn, List.getElem?_take_of_lt (by omega), List.getElem?_take_of_lt (by omega)]
      rw [this, hg, List.getD_eq_getElem?_getD, List.getElem?_append_right (by rw [List.length_take, rv_length he]; omega)]
      rw [List.length_take, rv_length he, Nat.min_eq_left (by omega)]; simp
    unfold farF; omega
end

/-! ### from window to window -/
def endsFrom (T : List Txt) (L : Txt) : Nat → Nat → List Nat
  | 0, _ => []
  | f + 1, e => if e ≤ L.length then e :: endsFrom T L f (e + farAt T L e) else []
def ends (T : List Txt) (L : Txt) : List Nat := if T = [] then [] else endsFrom T L (L.length + 1) (least T)
section
variable {T : List Txt} (hT : ∀ t ∈ T, t ≠ []) (hne : T ≠ [])
include hT hne
theorem endsFrom_more (L : Txt) : ∀ (f g e : Nat), L.length + 1 ≤ f + e → L.length + 1 ≤ g + e → endsFrom T L f e = endsFrom T L g e
  | 0, 0, _, _, _ => rfl
  | 0, g + 1, e, h, _ => by unfold endsFrom; rw [if_neg (by omega)]
  | f + 1, 0, e, _, h => by unfold endsFrom; rw [if_neg (by omega)]
  | f + 1, g + 1, e, h, k => by
    have := (farAt_spec hT hne L e).1
    unfold endsFrom
    split
    · rw [endsFrom_more L f g (e + farAt T L e) (by omega) (by omega)]
    · rfl
theorem endsFrom_step (L : Txt) {e : Nat} (he : e ≤ L.length) : endsFrom T L (L.length + 1) e = e :: endsFrom T L (L.length + 1) (e + farAt T L e) := by
  have := (farAt_spec hT hne L e).1
  rw [endsFrom, if_pos he, endsFrom_more hT hne L L.length (L.length + 1) (e + farAt T L e) (by omega) (by omega)]
theorem endsFrom_stop (L : Txt) {e : Nat} (he : L.length < e) : endsFrom T L (L.length + 1) e = [] := by
  have _u := And.intro hT hne
  rw [endsFrom, if_neg (by omega)]
theorem ends_mem (L : Txt) {i j : Nat} (hj : j ≤ L.length) (hij : i < j) (hx : ((L.drop i).take (j - i)).reverse ∈ T) : ∀ (n e : Nat), L.length + 1 ≤ n + e → e ≤ j → j ∈ endsFrom T L n e
  | 0, e, h, k => by omega
  | n + 1, e, h, k => by
    have h0 := (farAt_spec hT hne L e).1
    unfold endsFrom
    rw [if_pos (by omega)]
    rcases Nat.eq_or_lt_of_le k with c | c
    · rw [c]; simp
    · exact List.mem_cons_of_mem _ (ends_mem L hj hij hx n _ (by omega) (skip hT hne (by omega) c hj hij hx))
theorem ends_le (L : Txt) : ∀ (n e j : Nat), j ∈ endsFrom T L n e → e ≤ j ∧ j ≤ L.length
  | 0, e, j, h => by
    have _u := And.intro hT hne
    simp [endsFrom] at h
  | n + 1, e, j, h => by
    unfold endsFrom at h
    split at h
    · rename_i he
      rcases List.mem_cons.1 h with rfl | h
      · exact ⟨Nat.le_refl _, he⟩
      · have := ends_le L n _ j h; omega
    · simp at h
end
def hitsOf (T : List Txt) (L : Txt) (E : List Nat) : List Pr := E.flatMap fun e => wins T L e (fit (paths T) L e).length
theorem take_rev {L : Txt} {j k : Nat} (hk : k ≤ j) (hj : j ≤ L.length) : (rv L j).take k = ((L.drop (j - k)).take k).reverse := by
  unfold rv
  rw [List.take_reverse, List.length_take, Nat.min_eq_left hj, List.drop_take, show j - (j - k) = k by omega]
/-- What the windows find is what stands in the line. -/
theorem hits_occ {l T : List Txt} (hl : ∀ x, x ≠ [] → (x ∈ l ↔ x.reverse ∈ T)) (hT : ∀ t ∈ T, t ≠ []) (L : Txt) : sortP (hitsOf T L (ends T L)) = occ l L := by
  refine sortP_eq (rise_occ l L) fun p => ?_
  rw [mem_occ]
  unfold hitsOf
  rw [List.mem_flatMap]
  by_cases hne : T = []
  · subst hne
    simp only [ends, if_pos, List.not_mem_nil, false_and, exists_false, false_iff]
    rintro ⟨i, j, _, h1, h2, h3⟩
    have := (hl _ (fun e => by have := congrArg List.length e; rw [List.length_take, List.length_drop] at this; simp at this; omega)).1 h3
    simp at this
  · rw [ends, if_neg hne]
    constructor
    · rintro ⟨e, he, hp⟩
      obtain ⟨k, h1, h2, rfl, h3⟩ := mem_wins.1 hp
      obtain ⟨_, h4⟩ := ends_le hT hne L _ _ _ he
      obtain ⟨d, d1, d2, d3, _⟩ := fit_spec (paths_tree T) (L := L) h4
      rw [take_rev (by omega) h4] at h3
      refine ⟨e - k, e, by rw [Prod.mk.injEq]; exact ⟨by omega, rfl⟩, by omega, h4, (hl _ fun c => ?_).2 (by rw [show e - (e - k) = k by omega]; exact h3)⟩
      have := congrArg List.length c; rw [List.length_take, List.length_drop] at this; simp at this; omega
    · rintro ⟨i, j, rfl, h1, h2, h3⟩
      have h4 := (hl _ (fun e => by have := congrArg List.length e; rw [List.length_take, List.length_drop] at this; simp at this; omega)).1 h3
      have hj : least T ≤ j := by have := (least_spec hT hne).2.1 _ h4; simp at this; omega
      refine ⟨j, ends_mem hT hne L h2 h1 h4 _ _ (by omega) hj, mem_wins.2 ⟨j - i, by omega, ?_, by rw [Prod.mk.injEq]; exact ⟨by omega, rfl⟩, ?_⟩⟩
      · refine fit_all (paths_tree T) h2 (by omega) ?_
        rw [take_rev (by omega) h2, show j - (j - i) = i by omega]
        exact text_mem_paths h4
      · rw [take_rev (by omega) h2, show j - (j - i) = i by omega]
        exact h4
end Seine.Cw
end
section
/- The walks of package meter: what counts, a text that is scanned. -/
set_option linter.unusedVariables false
set_option linter.unusedSimpArgs false
namespace Go.Proofs.Ytbklkemfcdkihaa
open Go.RowKit Seine.Trie
/-- How often what was done. -/
structure Cn where
  s : Int
  l : Int
  h : Int
  m : Int
def Cn.zero : Cn := ⟨0, 0, 0, 0⟩
def Cn.ok (c : Cn) : Prop := 0 ≤ c.s ∧ c.s ≤ 1000000000000 ∧ 0 ≤ c.l ∧ c.l ≤ 1000000000000 ∧ 0 ≤ c.h ∧ c.h ≤ 1000000000000 ∧ 0 ≤ c.m ∧ c.m ≤ 1000000000000
def cnCells (c : Cn) : Array Value := #[.int .i64 c.s, .int .i64 c.l, .int .i64 c.h, .int .i64 c.m]
/-- Block g counts c. -/
def MtAt (w : World) (g : Nat) (c : Cn) : Prop := w.heap[g]? = some (.cells (cnCells c) 150 (0, 0))
/-- The meter, if there is one, counts c. -/
def Mo (w : World) (mo : Option Nat) (c : Cn) : Prop := ∀ g, mo = some g → MtAt w g c
def madr (mo : Option Nat) : Option Addr := mo.map fun g => ⟨g, 0, none⟩
def OnlyM (mo : Option Nat) (k : Nat) : Prop := mo = some k
theorem MtAt.below {w w' : World} {g : Nat} {c : Cn} (h : MtAt w g c) (hb : Below w.heap.size w w') : MtAt w' g c := (hb.block g (block_lt h)).trans h
theorem Mo.below {w w' : World} {mo : Option Nat} {c : Cn} (h : Mo w mo c) (hb : Below w.heap.size w w') : Mo w' mo c := fun g e => (h g e).below hb
theorem Mo.none_ (w : World) (c : Cn) : Mo w none c := fun g e => by cases e
theorem Mo.some_ {w : World} {g : Nat} {c : Cn} (h : MtAt w g c) : Mo w (some g) c := fun g' e => by injection e with e; subst e; exact h
/-- A block of another make is not the meter's. -/
theorem Mo.far {w : World} {mo : Option Nat} {c : Cn} (h : Mo w mo c) {b t : Nat} {cs : Array Value} {fr : Nat × Nat} (hb : w.heap[b]? = some (.cells cs t fr)) (hs : cs.size ≠ 4 ∨ t ≠ 150) : ¬ OnlyM mo b := fun e => by
  have := h b e
  unfold MtAt at this
  rw [hb] at this
  injection this with this
  injection this with e1 e2
  rcases hs with hs | hs
  · exact hs (by rw [e1]; rfl)
  · exact hs e2
theorem Mo.farMap {w : World} {mo : Option Nat} {c : Cn} (h : Mo w mo c) {b : Nat} {es : Array MapEntry} {cl : Nat} (hb : w.heap[b]? = some (.map es cl)) : ¬ OnlyM mo b := fun e => by
  have := h b e
  unfold MtAt at this
  rw [hb] at this
  injection this with this
  cases this
abbrev zeroCounts : Obj := .cells #[.int .i64 0, .int .i64 0, .int .i64 0, .int .i64 0] 136
theorem mcount_none (w : World) : Calls Try.prog 76 #[.pointer none] w fun e w' => e = .returned (.pointer (some ⟨w.heap.size, 0, none⟩)) ∧ w.alloc (.cells #[.int .i64 0, .int .i64 0, .int .i64 0, .int .i64 0] 136) = w' := by
  go_enter Try.func76, Try.ntmps76
  go_wp2
  go_ret
  exact ⟨rfl, rfl⟩
theorem mcount_some (w : World) (g : Nat) : Calls Try.prog 76 #[.pointer (some ⟨g, 0, none⟩)] w fun e w' => e = .returned (.pointer (some ⟨g, 0, none⟩)) ∧ w = w' := by
  go_enter Try.func76, Try.ntmps76
  go_wp2
  go_ret
  exact ⟨rfl, rfl⟩
theorem RetByt.rowg {w w' : World} {b : Txt} {e : Ending} (h : RetByt w b e w') : ∃ A c, e = .returned (.slice A b.length c) ∧ b.length ≤ c ∧ Byt w' A b ∧ (∀ ad, A = some ad → w.heap.size ≤ ad.block) ∧ Below w.heap.size w w' := by
  obtain ⟨v, rfl, ho, hb⟩ := h
  obtain ⟨A, c, rfl, hc, hr⟩ := ho.row
  refine ⟨A, c, rfl, hc, hr, fun ad e => ?_, hb⟩
  rcases own_addr ho with e' | ⟨g, e', hg⟩
  · rw [e] at e'; cases e'
  · rw [e] at e'
    injection e' with e'
    subst e'
    exact hg
/-- A text that is scanned through a meter. -/
def TextAt (w : World) (tb : Nat) (mo : Option Nat) (b : Txt) : Prop :=
  ∃ A c, w.heap[tb]? = some (.cells #[.pointer (madr mo), .slice A b.length c] 127 (0, 0)) ∧ Byt w A b ∧ ∀ ad, A = some ad → ¬ OnlyM mo ad.block
theorem TextAt.below {w w' : World} {tb : Nat} {mo : Option Nat} {b : Txt} (h : TextAt w tb mo b) (hb : Below w.heap.size w w') : TextAt w' tb mo b := by
  obtain ⟨A, c, h1, h2, h3⟩ := h
  exact ⟨A, c, (hb.block tb (block_lt h1)).trans h1, Row.below h2 hb, h3⟩
theorem TextAt.keep {w w' : World} {tb : Nat} {mo : Option Nat} {b : Txt} {c : Cn} (h : TextAt w tb mo b) (hm : Mo w mo c) (hk : Keeps (OnlyM mo) w w') : TextAt w' tb mo b := by
  obtain ⟨A, d, h1, h2, h3⟩ := h
  exact ⟨A, d, blk_keep h1 hk (hm.far h1 (.inl (by simp))), Row.keep h2 hk (fun ad e _ => h3 ad e), h3⟩
theorem cloneByt2_calls (w : World) (A : Option Addr) (c : Nat) (b : Txt) (h : Byt w A b) (hl : b.length ≤ 1000000) :
    Calls Try.prog 33 #[.slice A b.length c] w (RetByt w b) := by
  obtain ⟨n, hn⟩ : ∃ n, b.length = n := ⟨_, rfl⟩
  rw [hn] at hl ⊢
  replace hn := As.mk hn
  have H := As.mk h
  clear h
  cases A with
  | none =>
    have hl0 : b = [] := by
      rcases H.out with h | ⟨ad, e, _⟩
      · have := congrArg List.length h; rw [byCells_length] at this; exact List.eq_nil_of_length_eq_zero (by rw [List.length_nil] at this; omega)
      · cases e
    subst hl0
    have hnil : ∀ (w : World) (n c : Nat), (binOp .eql 23 (.slice none n c) (.slice none 0 0)).run Try.prog w = .ok (.bool true) w := fun w n c => Lib.run_eql_slice_nil w _ _ none n c 0 0 Try.underlying23
    go_enter Try.func33, Try.ntmps33
    go_wp2
    go_ret
    exact ⟨_, rfl, World.ownsRow_nil _ _ _ _, Below.refl _ _⟩
  | some ad =>
    have hown : As ((w.alloc (.cells #[] 5)).ownsRow w.heap.size 5 1 (.slice (some ⟨w.heap.size, 0, none⟩) 0 0) 0 []) := ⟨⟨rfl, .inr ⟨_, 0, #[], rfl, Nat.le_refl _, heap_alloc_new w _, Nat.le_refl _, Nat.zero_le _, rfl, rfl⟩⟩⟩
    have hrow := As.mk (Row.alloc H.out (.cells #[] 5))
    have hnl : As ((byCells b).length = n * 1) := ⟨by rw [byCells_length, hn.out, Nat.mul_one]⟩
    have hnil : ∀ (w : World) (a : Addr) (n c : Nat), (binOp .eql 23 (.slice (some a) n c) (.slice none 0 0)).run Try.prog w = .ok (.bool false) w := fun w a n c => Lib.run_eql_slice_nil w _ _ (some a) n c 0 0 Try.underlying23
    go_enter Try.func33, Try.ntmps33
    go_wp2_with (at_builtin
                 refine wpList_apps _ rfl (.tmp 5) (.tmp 6) 23 rfl w.heap.size 5 _ 1 1 Try.underlying23 info_u8 rfl (by decide) _ 0 [] rfl hown.out (some ad) n c (byCells b) hrow.out hnl.out byt_one2 rfl (by omega) (by decide) (by simp) ?_
                 intro v' w' h2 h3)
    go_ret
    exact ⟨v', rfl, by unfold OwnByt; rw [hn.out]; simpa using h2, ((Below.refl _ _).alloc (Nat.le_refl _) _).trans h3⟩
theorem mtext_calls (w : World) (mo : Option Nat) (cn : Cn) (hm : Mo w mo cn) (A : Option Addr) (c : Nat) (b : Txt) (h : Byt w A b) (hl : b.length ≤ 1000000) :
    Calls Try.prog 43 #[.pointer (madr mo), .slice A b.length c] w fun e w' => ∃ tb, e = .returned (.pointer (some ⟨tb, 0, none⟩)) ∧ TextAt w' tb mo b ∧ Below w.heap.size w w' := by
  have cc := As.mk (cloneByt2_calls w A c b h hl)
  have hmo := As.mk hm
  clear h hm
  go_enter Try.func43, Try.ntmps43
  go_wp2_with (go_at_call 33; refine Calls.mono cc.out ?_; intro e w1 h1; obtain ⟨A1, c1, he, hc1, hr1, hg1, hb⟩ := h1.rowg; subst he)
  go_ret
  refine ⟨_, rfl, ⟨A1, c1, heap_alloc_new _ _, Row.alloc hr1 _, fun ad e hk => ?_⟩, hb.alloc hb.size _⟩
  have h1 := block_lt (hmo.out _ hk)
  have h2 := hg1 ad e
  omega
theorem mlen_calls (w : World) (tb : Nat) (mo : Option Nat) (b : Txt) (h : TextAt w tb mo b) : Calls Try.prog 45 #[.pointer (some ⟨tb, 0, none⟩)] w fun e w' => e = .returned (.int .i64 (b.length : Int)) ∧ w = w' := by
  obtain ⟨A, c, h1, _, _⟩ := h
  have c1 : w.cell? ⟨tb, 1, none⟩ = some (.slice A b.length c) := cell_of_blk h1 1
  clear h1
  go_enter Try.func45, Try.ntmps45
  go_wp2
  go_ret
  exact ⟨rfl, rfl⟩
theorem mat_calls (w : World) (tb : Nat) (mo : Option Nat) (b : Txt) (h : TextAt w tb mo b) (cn : Cn) (hm : Mo w mo cn) (hok : cn.ok) (i : Nat) (hi : i < b.length) :
    Calls Try.prog 47 #[.pointer (some ⟨tb, 0, none⟩), .int .i64 (i : Int)] w fun e w' => e = .returned (.int .i64 ((b.getD i 0).toNat : Int)) ∧ Mo w' mo { cn with s := cn.s + 1 } ∧ Keeps (OnlyM mo) w w' := by
  have hlen := As.mk (mlen_calls w tb mo b h)
  have hk := As.mk (fun (w' : World) (k : Keeps (OnlyM mo) w w') => h.keep hm k)
  have hmo := As.mk hm
  obtain ⟨A, c, h1, h2, h3⟩ := h
  have c0 : w.cell? ⟨tb, 0, none⟩ = some (.pointer (madr mo)) := cell_of_blk h1 0
  have hlt := block_lt h1
  obtain ⟨s, l, hh, m⟩ := cn
  have hs1 : IntKind.i64.wrap (s + 1) = s + 1 := by have := hok.1; have := hok.2.1; simp only [IntKind.wrap, IntKind.signed, IntKind.bits] at *; simp; omega
  cases mo with
  | none =>
    have hB : Below w.heap.size w (w.alloc (.cells #[.int .i64 1, .int .i64 0, .int .i64 0, .int .i64 0] 136)) := (Below.refl _ _).alloc (Nat.le_refl _) _
    obtain ⟨ad, rfl, hc⟩ := Byt.at_ (Row.below h2 hB) hi
    have d1 := (hB.cell (p := ⟨tb, 1, none⟩) hlt).trans (cell_of_blk h1 1)
    unfold madr at c0
    simp only [Option.map_none, Option.map_some] at c0
    simp at d1
    generalize b.getD i 0 = x at *
    have hx : wrap64 (x.toNat : Int) = (x.toNat : Int) := by have := x.toNat_lt; unfold wrap64; omega
    generalize b.length = n at *
    clear h1 h2 h3 hk hmo hok
    go_enter Try.func47, Try.ntmps47
    go_wp2_with (first
      | (go_at_call 45; refine Calls.mono hlen.out ?_; rintro e w1 ⟨rfl, rfl⟩)
      | (go_at_call 76; refine Calls.mono (mcount_none _) ?_; rintro e w1 ⟨rfl, rfl⟩))
    go_ret
    exact ⟨ret_int hx, Mo.none_ _ _, Keeps.of_below hB _⟩
  | some g =>
    have hg := hmo.out g rfl
    have g0 : w.cell? ⟨g, 0, none⟩ = some (.int .i64 s) := cell_of_blk hg 0
    have f0 : w.frozen? ⟨g, 0, none⟩ = false := free_of_blk hg 0
    have hne : tb ≠ g := fun e => hmo.out.far h1 (.inl (by simp)) (by rw [e]; rfl)
    have hK : Keeps (OnlyM (some g)) w (w.setCell ⟨g, 0, none⟩ (.int .i64 (s + 1))) := (keepsSt w ⟨g, 0, none⟩ _).mono fun k _ e => by unfold OnlyM; exact congrArg some e.symm
    have hM : MtAt (w.setCell ⟨g, 0, none⟩ (.int .i64 (s + 1))) g ⟨s + 1, l, hh, m⟩ := by
      have := blk_set hg 0 (.int .i64 (s + 1))
      unfold MtAt
      rw [this]
      simp [cnCells]
    obtain ⟨A', c', k1, k2, _⟩ := hk.out _ hK
    have d1 : (w.setCell ⟨g, 0, none⟩ (.int .i64 (s + 1))).cell? ⟨tb, 1, none⟩ = some (.slice A' b.length c') := cell_of_blk k1 1
    obtain ⟨ad, rfl, hc⟩ := Byt.at_ k2 hi
    unfold madr at c0
    simp only [Option.map_none, Option.map_some] at c0
    generalize b.getD i 0 = x at *
    have hx : wrap64 (x.toNat : Int) = (x.toNat : Int) := by have := x.toNat_lt; unfold wrap64; omega
    generalize b.length = n at *
    replace hK := As.mk hK
    replace hM := As.mk hM
    clear h1 h2 h3 hk hmo hok k1 k2 hg
    go_enter Try.func47, Try.ntmps47
    go_wp2_with (first
      | (go_at_call 45; refine Calls.mono hlen.out ?_; rintro e w1 ⟨rfl, rfl⟩)
      | (go_at_call 76; refine Calls.mono (mcount_some _ _) ?_; rintro e w1 ⟨rfl, rfl⟩))
    go_ret
    exact ⟨ret_int hx, Mo.some_ hM.out, hK.out⟩
end Go.Proofs.Ytbklkemfcdkihaa
end
