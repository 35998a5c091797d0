/- Joined texts: TrieBuild, Args2, Args3, Str, App, Meter, SortPure, EngPure, MeterTab. -/
import Derived.Test.YtdiljmhikajjiaaGreatM1
import Derived.Deep.Matrix
import Derived.SizedLaws
import Derived.Test.YtdiljmhikajjiaaGreatWMore
import Derived.ArgAppend
import Derived.Deep.QuietTactic
import Derived.BigQuiet
import Derived.Laws.StructEq
import Derived.WalkSpells
import Derived.Laws.EntriesVeiled
section
set_option linter.unusedVariables false
set_option linter.unusedSimpArgs false
namespace Go.Proofs.YtdiljmhikajjiaaGreat
open Go.RowKit Go.Maps Seine.Trie
/-- A slice of byte texts. -/
def Txts (w : World) (A : Option Addr) (l : List Txt) : Prop :=
  ∃ vs : List Value, vs.length = l.length ∧ Row w A vs ∧ ∀ i, i < l.length → ∃ A' c', vs[i]? = some (.slice A' (l.getD i []).length c') ∧ (l.getD i []).length ≤ c' ∧ Byt w A' (l.getD i [])
theorem Txts.below {w w' : World} {A : Option Addr} {l : List Txt} (h : Txts w A l) (hb : Below w.heap.size w w') : Txts w' A l := by
  obtain ⟨vs, h1, h2, h3⟩ := h
  refine ⟨vs, h1, h2.below hb, fun i hi => ?_⟩
  obtain ⟨A', c', a, b, c⟩ := h3 i hi
  exact ⟨A', c', a, b, Row.below c hb⟩
theorem Txts.at_ {w : World} {A : Option Addr} {l : List Txt} (h : Txts w A l) {i : Nat} (hi : i < l.length) : ∃ ad A' c', A = some ad ∧ w.cell? (ad.add i) = some (.slice A' (l.getD i []).length c') ∧ (l.getD i []).length ≤ c' ∧ Byt w A' (l.getD i []) := by
  obtain ⟨vs, h1, h2, h3⟩ := h
  obtain ⟨A', c', a, b, c⟩ := h3 i hi
  obtain ⟨ad, e1, e2⟩ := h2.at_ (j := i) (by omega)
  refine ⟨ad, A', c', e1, ?_, b, c⟩
  rw [e2]
  rw [List.getElem?_eq_getElem (by omega)] at a
  exact a
def tot (l : List Txt) : Nat := (l.map List.length).sum
theorem paths_len (l : List Txt) : (paths l).length ≤ 1 + tot l := by
  have H : ∀ n (l : List Txt), l.length = n → (paths l).length ≤ 1 + tot l := by
    intro n
    induction n with
    | zero => intro l hl; rw [List.eq_nil_of_length_eq_zero hl]; simp [paths, tot]
    | succ n ih =>
      intro l hl
      have hne : l ≠ [] := by intro h; simp [h] at hl
      obtain ⟨m, x, rfl⟩ : ∃ m x, l = m ++ [x] := ⟨l.dropLast, l.getLast hne, (List.dropLast_concat_getLast hne).symm⟩
      have h1 := ih m (by simp at hl; omega)
      have h2 := addTo_len (paths m) x x.length
      rw [paths_snoc]
      unfold addText tot at *
      simp only [List.map_append, List.sum_append, List.map_cons, List.map_nil, List.sum_cons, List.sum_nil]
      omega
  exact H _ l rfl
theorem tot_app (a b : List Txt) : tot (a ++ b) = tot a + tot b := by simp [tot]
theorem tot_take (l : List Txt) (k : Nat) (h : k < l.length) : tot (l.take k) + (l.getD k []).length ≤ tot l := by
  have h2 : tot l = tot (l.take k) + tot (l.drop k) := by rw [← tot_app, List.take_append_drop]
  have h3 : tot (l.drop k) = (l.getD k []).length + tot (l.drop (k + 1)) := by
    rw [List.drop_eq_getElem_cons h]
    simp only [tot, List.map_cons, List.sum_cons, List.getD_eq_getElem?_getD, List.getElem?_eq_getElem h, Option.getD_some]
  omega
theorem take_snoc_txt (l : List Txt) (k : Nat) (h : k < l.length) : l.take (k + 1) = l.take k ++ [l.getD k []] := by
  rw [List.take_succ_eq_append_getElem h]; simp [h]
/-- Another word of one node. -/
theorem flat_word (par : Txt → Int) (W W' : Txt → Int) (s : Txt) (x : Int) (hs : W' s = x) (ho : ∀ p, p ≠ s → W' p = W p) : ∀ (P : List Txt) (a : Nat), P.Nodup → P[a]? = some s →
    P.flatMap (fun p => [Value.int .i64 (par p), .int .i64 (p.length : Int), .int .i64 (W' p), .int .u8 ((lastB p).toNat : Int)]) =
      (P.flatMap (fun p => [Value.int .i64 (par p), .int .i64 (p.length : Int), .int .i64 (W p), .int .u8 ((lastB p).toNat : Int)])).set (a * 4 + 2) (.int .i64 x)
  | [], _, _, h => by simp at h
  | p :: P, 0, hn, h => by
    simp at h; subst h
    rw [List.flatMap_cons, List.flatMap_cons]
    have : P.flatMap (fun p => [Value.int .i64 (par p), .int .i64 (p.length : Int), .int .i64 (W' p), .int .u8 ((lastB p).toNat : Int)]) = P.flatMap (fun p => [Value.int .i64 (par p), .int .i64 (p.length : Int), .int .i64 (W p), .int .u8 ((lastB p).toNat : Int)]) :=
      fm_congr (fun q hq => by rw [ho q (fun e => by subst e; exact (List.nodup_cons.1 hn).1 hq)])
    rw [this, hs]
    rfl
  | p :: P, a + 1, hn, h => by
    have hmem : s ∈ P := List.mem_of_getElem? (by simpa using h : P[a]? = some s)
    have hne : p ≠ s := fun e => by subst e; exact (List.nodup_cons.1 hn).1 hmem
    rw [List.flatMap_cons, List.flatMap_cons, flat_word par W W' s x hs ho P a (List.nodup_cons.1 hn).2 (by simpa using h), ho p hne]
    rw [show (a + 1) * 4 + 2 = (a * 4 + 2) + 4 by omega]
    rfl
theorem nodeCells_word {P : List Txt} (hT : Tree P) {W W' : Txt → Int} {s : Txt} {x : Int} {a : Nat} (ha : P[a]? = some s) (hs : W' s = x) (ho : ∀ p, p ≠ s → W' p = W p) : nodeCells P W' = (nodeCells P W).set (a * 4 + 2) (.int .i64 x) :=
  flat_word (parent P) W W' s x hs ho P a hT.nodup ha
def RetTrie (w : World) (P : List Txt) (W : Txt → Int) (e : Ending) (w' : World) : Prop :=
  ∃ g, e = .returned (.pointer (some ⟨g, 0, none⟩)) ∧ TrieAt w' w.heap.size g P W ∧ Below w.heap.size w w'
theorem TrieAt.start (w : World) : TrieAt (((w.alloc (.cells #[.int .i64 (-1), .int .i64 0, .int .i64 (-1), .int .u8 0] 129)).alloc (.map #[] 0)).alloc (.cells #[.slice (some ⟨w.heap.size, 0, none⟩) 1 1, .map (some (w.heap.size + 1))] 133)) w.heap.size (w.heap.size + 2) [[]] (fun _ => -1) := by
  have h0 : (w.alloc (.cells #[.int .i64 (-1), .int .i64 0, .int .i64 (-1), .int .u8 0] 129)).heap[w.heap.size]? = some (.cells #[.int .i64 (-1), .int .i64 0, .int .i64 (-1), .int .u8 0] 129 (0, 0)) := heap_alloc_new _ _
  have hm := MapIs.made (w.alloc (.cells #[.int .i64 (-1), .int .i64 0, .int .i64 (-1), .int .u8 0] 129)) Tryz.prog 164 3
  have hs : (w.alloc (.cells #[.int .i64 (-1), .int .i64 0, .int .i64 (-1), .int .u8 0] 129)).heap.size = w.heap.size + 1 := World.size_alloc _ _
  rw [hs] at hm
  refine ⟨.slice (some ⟨w.heap.size, 0, none⟩) 1 1, w.heap.size + 1, ?_, by omega, by omega, ?_, ?_, Tree.start⟩
  · have := heap_alloc_new ((w.alloc (.cells #[.int .i64 (-1), .int .i64 0, .int .i64 (-1), .int .u8 0] 129)).alloc (.map #[] 0)) (.cells #[.slice (some ⟨w.heap.size, 0, none⟩) 1 1, .map (some (w.heap.size + 1))] 133)
    rw [World.size_alloc, hs] at this
    exact this
  · refine ⟨rfl, .inr ⟨w.heap.size, 1, _, rfl, Nat.le_refl _, blk_old (blk_old h0), Nat.le_refl _, by simp [maxLen], rfl, rfl⟩⟩
  · refine (MapIs.below (MapIs.mono ?_ (Nat.zero_le 1)) ((Below.refl _ _).alloc (Nat.le_refl _) _))
    obtain ⟨D, a, b, c⟩ := hm
    refine ⟨D, a, b, fun key kl hk => ?_⟩
    have := c key kl hk
    have he : edgeF [[]] key = none := by
      unfold edgeF
      split
      · rw [if_neg]
        rintro ⟨x1, x2, _, _, x5⟩
        have := place_mem.1 x5
        simp at this
      · rfl
    rw [he]
    exact this
theorem TrieAt.write {w : World} {base g : Nat} {P : List Txt} {W : Txt → Int} (h : TrieAt w base g P W) : ∃ b cp, w.cell? ⟨g, 0, none⟩ = some (.slice (some ⟨b, 0, none⟩) P.length cp) ∧ P.length ≤ cp ∧
    (∀ i p, P[i]? = some p → w.cell? ⟨b, i * 4 + 2, none⟩ = some (.int .i64 (W p)) ∧ w.frozen? ⟨b, i * 4 + 2, none⟩ = false) ∧
    ∀ i s x W', P[i]? = some s → W' s = x → (∀ p, p ≠ s → W' p = W p) → TrieAt (w.setCell ⟨b, i * 4 + 2, none⟩ (.int .i64 x)) base g P W' ∧ Below base w (w.setCell ⟨b, i * 4 + 2, none⟩ (.int .i64 x)) := by
  obtain ⟨v, mb, hg, h1, h2, ho, hm, hT⟩ := h
  have hl := hT.len
  obtain ⟨b, cp, rfl, hb, hcp⟩ : ∃ b cp, v = .slice (some ⟨b, 0, none⟩) P.length cp ∧ base ≤ b ∧ P.length ≤ cp := by
    rcases ho.2 with ⟨_, h⟩ | ⟨b, cap, cur, hv, hb, hh, hnc, _⟩
    · omega
    · exact ⟨b, cap, hv, hb, hnc⟩
  refine ⟨b, cp, cell_of_blk hg 0, hcp, fun i p hi => ⟨?_, World.ownsRow.frozenAt ho _⟩, fun i s x W' hi hs hW => ?_⟩
  · have hil : i < P.length := (List.getElem?_eq_some_iff.1 hi).1
    rw [World.ownsRow.cellAt ho (i * 4 + 2) (by omega), nodeCells_at P W hi 2 (by omega)]
    rfl
  · have s1 := World.ownsRow.stored ho (i * 4 + 2) (.int .i64 x)
    have hbg : g ≠ b := fun e => own_not_type ho hg (by decide) (by rw [e]; rfl)
    obtain ⟨es, cl, hmm⟩ := hm.is_map
    have hmb : mb ≠ b := fun e => own_not_map ho hmm (by rw [e]; rfl)
    refine ⟨⟨_, mb, (Below.heap_setCell _ _ _ _ hbg).trans hg, h1, h2, ?_, hm.keep (keeps_set w ⟨b, i * 4 + 2, none⟩ _) hmb, hT⟩, (Below.refl _ _).setCell hb _⟩
    rw [nodeCells_word hT hi hs hW]
    exact s1.1
theorem addTo_words {l : List Txt} {b : Txt} {m : Nat} {q : Txt} (h : q ∉ addTo (paths l) b m) : place l q = -1 := by
  refine place_none (fun hm => h ?_)
  obtain ⟨x, hx⟩ := addTo_mono (paths l) b m
  rw [hx]
  exact List.mem_append_left _ (text_mem_paths hm)
theorem place_nat {P : List Txt} {s : Txt} (h : s ∈ P) : ∃ a : Nat, place P s = (a : Int) ∧ P[a]? = some s := by
  have h1 := place_mem.2 h
  refine ⟨(place P s).toNat, by omega, place_get h⟩
theorem take_snoc_b (b : Txt) (m : Nat) (h : m < b.length) : b.take (m + 1) = b.take m ++ [b.getD m 0] := by
  rw [List.take_succ_eq_append_getElem h]; simp [h]
set_option maxRecDepth 100000 in
set_option maxHeartbeats 1600000 in
theorem build_calls (w : World) (A : Option Addr) (c : Nat) (l : List Txt) (htx : Txts w A l) (hl : tot l ≤ 900000) (hll : l.length ≤ 1000000) :
    Calls Tryz.prog 41 #[.slice A l.length c] w (RetTrie w (paths l) (place l)) := by
  have HX := As.mk htx
  have h00 := As.mk (TrieAt.start w)
  obtain ⟨n, hn⟩ : ∃ n, l.length = n := ⟨_, rfl⟩
  rw [hn] at hll
  rw [hn]
  have hn := As.mk hn
  have HL := As.mk hl
  have htot := As.mk (fun k h => tot_take l k h)
  have hpl := As.mk (fun k => paths_len (l.take k))
  clear htx hl
  generalize hB : w.heap.size = B at *
  have hst : As (∀ k, k < n → l.take (k + 1) = l.take k ++ [l.getD k []]) := ⟨fun k h => take_snoc_txt l k (by rw [hn.out]; exact h)⟩
  have hmm := @run_makeMap Tryz.prog
  go_enter Tryz.func41, Tryz.ntmps41
  go_wp2
  go_loopw [16] (fun i wr => ∃ k : Nat, k ≤ n ∧ i = .int .i64 k ∧ As (TrieAt wr B (B + 2) (paths (l.take k)) (place (l.take k))) ∧ As (Below B w wr)) (fun i _ => n - (intOf i).toNat)
  case atStart =>
    refine ⟨0, Nat.zero_le _, rfl, ⟨?_⟩, ⟨?_⟩⟩
    · have hp0 : place [] = fun _ => -1 := by funext x; rfl
      have hp1 : paths [] = [[]] := rfl
      rw [List.take_zero, hp0, hp1]
      simpa using h00.out
    · exact (((Below.refl _ _).alloc (by omega) _).alloc (by simp; omega) _).alloc (by simp; omega) _
  case round =>
    obtain ⟨k, hk, rfl, hta, hbel⟩ := hrel
    by_cases hlt : k < n
    · obtain ⟨b, hb⟩ : ∃ b, l.getD k [] = b := ⟨_, rfl⟩
      have hT0 := As.mk hta.out.tree
      obtain ⟨ad, A', c', rfl, a1, hc', hbyt⟩ := HX.out.at_ (i := k) (by rw [hn.out]; exact hlt)
      replace a1 := (hbel.out.cell (p := ad.add k) (by have := World.block_lt_of_cell? w _ a1; omega)).trans a1
      rw [hb] at a1 hc' hbyt
      have hLk : As ((l.take k).length = k) := ⟨by rw [List.length_take, hn.out]; omega⟩
      have hbyt := As.mk hbyt
      have hbl : b.length + tot (l.take k) ≤ 900000 := by
        have h1 := htot.out k (by rw [hn.out]; exact hlt)
        rw [hb] at h1
        have := HL.out
        omega
      have hPl := hpl.out k
      have hnext : As (l.take (k + 1) = l.take k ++ [b]) := ⟨by rw [hst.out k hlt, hb]⟩
      generalize hL : l.take k = L at *
      have hlen : As (∀ m, m ≤ b.length → (addTo (paths L) b m).length ≤ 900001) := ⟨fun m hm => by have := addTo_len (paths L) b m; omega⟩
      have hsp : As (∀ m, m ≤ b.length → Tree (addTo (paths L) b m) ∧ b.take m ∈ addTo (paths L) b m) := ⟨fun m hm => ⟨(addTo_spec hT0.out b m hm).1, (addTo_spec hT0.out b m hm).2.1⟩⟩
      have hstart : As ((0 : Int) = place (addTo (paths L) b 0) (b.take 0)) := ⟨by rw [List.take_zero]; exact (place_at hT0.out.nodup hT0.out.root).symm⟩
      obtain ⟨bl, hbL⟩ : ∃ bl, b.length = bl := ⟨_, rfl⟩
      rw [hbL] at a1 hc' hbl hlen hsp
      have hbL := As.mk hbL
      clear hPl hpl htot
      go_wp2
      go_loopw [6, 23] (fun at_ j wr2 => ∃ (m : Nat) (r : Int), m ≤ bl ∧ j = .int .i64 m ∧ at_ = .int .i64 r ∧ As (r = place (addTo (paths L) b m) (b.take m)) ∧ As (TrieAt wr2 B (B + 2) (addTo (paths L) b m) (place L)) ∧ As (Below B w wr2)) (fun _ j _ => bl - (intOf j).toNat)
      case atStart => exact ⟨0, 0, Nat.zero_le _, rfl, rfl, hstart, hta, hbel⟩
      case round =>
        obtain ⟨m, r, hm, rfl, rfl, hr, hta2, hbel2⟩ := hrel
        by_cases hmlt : m < bl
        · obtain ⟨ad2, rfl, a2⟩ := Byt.at_ (Row.below hbyt.out (hB.symm ▸ hbel2.out)) (i := m) (by rw [hbL.out]; exact hmlt)
          obtain ⟨x, hx⟩ : ∃ x, b.getD m 0 = x := ⟨_, rfl⟩
          rw [hx] at a2
          obtain ⟨a, ha1, ha2⟩ := place_nat (hsp.out m hm).2
          rw [← hr.out] at ha1
          subst ha1
          have hg := grow_calls wr B (B + 2) _ _ a (b.take m) x hta2.out ha2 (by have := hlen.out m hm; omega) (by rw [List.length_take, hbL.out]; omega) (fun h => addTo_words h)
          have htk : b.take m ++ [x] = b.take (m + 1) := by rw [← hx]; exact (take_snoc_b b m (by rw [hbL.out]; exact hmlt)).symm
          rw [htk] at hg
          replace hg := As.mk hg
          clear htk ha2
          go_wp2_with (go_at_call 61; refine hg.out.mono ?_; rintro e w' ⟨rfl, ht3, hb3⟩)
          go_roundw
          case rel => exact ⟨m + 1, _, by omega, by go_num, rfl, ⟨rfl⟩, ⟨ht3⟩, ⟨hbel2.out.trans hb3⟩⟩
          case measure => simp [intOf]; omega
        · obtain rfl : m = bl := by omega
          have htb : b.take m = b := List.take_of_length_le (by rw [hbL.out]; omega)
          obtain ⟨a, ha1, ha2⟩ := place_nat (hsp.out m hm).2
          rw [← hr.out] at ha1
          subst ha1
          rw [htb] at ha2
          have hpp : addTo (paths L) b m = paths (L ++ [b]) := by rw [paths_snoc]; unfold addText; rw [hbL.out]
          have ha3 := (List.getElem?_eq_some_iff.1 ha2).1
          have hPL := hlen.out m hm
          rw [hpp] at ha2 ha3 hPL
          have hta3 := hta2.out
          rw [hpp] at hta3
          replace hta3 := As.mk hta3
          obtain ⟨bb, cp, c0, hcp, hcell, hwr⟩ := hta3.out.write
          obtain ⟨d0, f0⟩ := hcell a b ha2
          generalize hQ : paths (L ++ [b]) = Q at *
          clear hcell hpp htb hta2 hlen hsp hstart
          by_cases hin : b ∈ L
          · have hge := place_mem.2 hin
            have hsame : place (L ++ [b]) = place L := by
              funext p
              rw [place_snoc]
              by_cases hp : p ∈ L
              · rw [if_pos hp]
              · rw [if_neg hp, if_neg (fun e : b = p => hp (e ▸ hin)), place_none hp]
            have hfin : As (TrieAt wr B (B + 2) (paths (l.take (k + 1))) (place (l.take (k + 1)))) := ⟨by rw [hnext.out, hsame, hQ]; exact hta3.out⟩
            clear hsame hwr hin
            generalize place L b = y at *
            go_wp2
            go_roundw
            case rel => exact ⟨k + 1, by omega, by go_num, hfin, hbel2⟩
            case measure => simp [intOf]; omega
          · have hy := place_none hin
            have hw2 := hwr a b (k : Int) (place (L ++ [b])) ha2 (by rw [place_snoc, if_neg hin, if_pos rfl, hLk.out]) (fun p hp => by
              rw [place_snoc]
              by_cases hp2 : p ∈ L
              · rw [if_pos hp2]
              · rw [if_neg hp2, if_neg (fun e => hp e.symm), place_none hp2])
            have hfin : As (TrieAt (wr.setCell ⟨bb, a * 4 + 2, none⟩ (.int .i64 (k : Int))) B (B + 2) (paths (l.take (k + 1))) (place (l.take (k + 1)))) := ⟨by rw [hnext.out, hQ]; exact hw2.1⟩
            have hbel3 := As.mk (hbel2.out.trans hw2.2)
            rw [hy] at d0
            clear hw2 hwr hin hy
            go_wp2
            go_roundw
            case rel => exact ⟨k + 1, by omega, by go_num, hfin, hbel3⟩
            case measure => simp [intOf]; omega
    · obtain rfl : k = n := by omega
      have hfin : As (TrieAt wr B (B + 2) (paths l) (place l)) := ⟨by
        have := hta.out
        rw [← hn.out, List.take_length] at this
        exact this⟩
      go_wp2
      go_ret
      exact ⟨B + 2, rfl, hB.symm ▸ hfin.out, hB.symm ▸ hbel.out⟩
end Go.Proofs.YtdiljmhikajjiaaGreat
end
section
set_option linter.unusedVariables false
set_option linter.unusedSimpArgs false
namespace Go.Proofs.YtdiljmhikajjiaaGreat
open Go.ChangeShapes Go.WideShapes Go.Deep Go.RowKit Seine.Trie
theorem u8_of {n : Int} (h : (Lit.int .u8 n).wf = true) : ((UInt8.ofNat n.toNat).toNat : Int) = n := by
  simp only [Lit.wf, IntKind.min, IntKind.max, IntKind.signed, IntKind.bits, Bool.and_eq_true, decide_eq_true_eq] at h
  have h1 : n.toNat < 256 := by simp at h; omega
  simp only [UInt8.toNat_ofNat']
  have h0 : 0 ≤ n := by simp at h; omega
  omega
section
variable {H : Type} {enc : TypeId × Value → H} {w : World} {base : Nat}
set_option maxRecDepth 100000 in
theorem arg_bytes2 {t e q : TypeId} (ht : Tryz.prog.underlying t = some (.slice e)) (he : Tryz.prog.underlying e = some (.slice q)) (hq : Tryz.prog.underlying q = some (.int .u8)) (ce : Tryz.prog.cellsOf e = 1) (cq : Tryz.prog.cellsOf q = 1) (hB : Tryz.prog.bytesOf e = 24)
    {ts : List TypeId} {ds : List (DataW H)} {j : Nat} (hsz : (DataW.weightsEach Tryz.prog ts ds).all (· ≤ reachBytes) = true) {v : Value} {d : DataW H} {p : List MemPlace} (hts : ts[j]? = some t) (hds : ds[j]? = some d)
    (hv : Value.okWide Tryz.prog w .any base t v) (h : DataW.Trod enc Tryz.prog w 0 (fun _ => true) true t v d p) :
    ∃ (A : Option Addr) (c : Nat) (l : List Txt), v = .slice A l.length c ∧ Txts w A l ∧ l.length ≤ c ∧ c * 24 ≤ 140737488351232 ∧ ∀ x ∈ l, x.length ≤ maxLen := by
  obtain ⟨a0, len, cap, rfl⟩ := okWide_slice ht hv
  obtain ⟨fuel, hf⟩ := h
  rcases open_int_rows ht he hq ce cq hf with ⟨hcs, _⟩ | ⟨a, ln, cp, A, L, C, Z, hcs, _, hl, hm, hx, hr⟩
  · simp [Value.cells] at hcs
    obtain ⟨rfl, rfl, rfl⟩ := hcs
    exact ⟨none, 0, [], rfl, ⟨[], rfl, .inl rfl, fun i hi => by simp at hi⟩, Nat.le_refl _, by omega, by simp⟩
  · simp [Value.cells] at hcs
    obtain ⟨rfl, rfl, rfl⟩ := hcs
    obtain ⟨hx, _⟩ := Prod.mk.inj hx
    subst hx
    have z := sized_slice hsz hts hds ht
    rw [hB] at z
    simp only [List.length_map, List.length_range, reachBytes] at z
    have hz : (len + (cap - len)) * 24 ≤ 140737488351232 := z
    let tx : Nat → Txt := fun r => ((Z r).take (L r)).map fun n => UInt8.ofNat n.toNat
    have txl : ∀ r, r < cap → (tx r).length = L r := fun r h => by
      obtain ⟨_, h1, _, h2, _⟩ := hr r h
      simp only [tx, List.length_map, List.length_take]
      omega
    have hg : ∀ i, i < len → ((List.range len).map tx).getD i [] = tx i := fun i hi => by
      rw [List.getD_eq_getElem?_getD, List.getElem?_map, List.getElem?_range hi]; rfl
    refine ⟨some a, cap, (List.range len).map tx, by simp, ⟨(List.range len).map (fun r => .slice (A r) (L r) (C r)), by simp, row_of_cells (fun _ => ⟨a, rfl, fun j u hu => ?_⟩), fun i hi => ?_⟩, by simp; omega, by omega, fun x hx => ?_⟩
    · rw [List.getElem?_map, Option.map_eq_some_iff] at hu
      obtain ⟨y, hy, rfl⟩ := hu
      obtain ⟨hjl, hy⟩ := List.getElem?_eq_some_iff.1 hy
      simp at hjl hy
      subst hy
      exact (hr j (by omega)).1
    · have hil : i < len := by simpa using hi
      obtain ⟨h1, h2, h3, h4, h5, h6, h7⟩ := hr i (by omega)
      rw [hg i hil, txl i (by omega)]
      refine ⟨A i, C i, by rw [List.getElem?_map, List.getElem?_range hil]; rfl, h2, row_of_cells (fun h0 => ?_)⟩
      rw [byCells_length, txl i (by omega)] at h0
      cases hA : A i with
      | none => have := h6 hA; omega
      | some a' =>
        refine ⟨a', rfl, fun j u hu => ?_⟩
        obtain ⟨_, h8⟩ := h7 a' hA
        unfold byCells at hu
        rw [List.getElem?_map, Option.map_eq_some_iff] at hu
        obtain ⟨y, hy, rfl⟩ := hu
        simp only [tx] at hy
        rw [List.getElem?_map, Option.map_eq_some_iff] at hy
        obtain ⟨n, hn, rfl⟩ := hy
        have hj : j < L i := by
          have := (List.getElem?_eq_some_iff.1 hn).1
          rw [List.length_take] at this; omega
        rw [List.getElem?_take_of_lt hj] at hn
        rw [h8 j (by omega), List.getD_eq_getElem?_getD, hn, u8_of (h5 n (List.mem_of_getElem? hn))]
        rfl
    · obtain ⟨r, hr1, rfl⟩ := List.mem_map.1 hx
      have hrl := List.mem_range.1 hr1
      rw [txl r (by omega)]
      obtain ⟨_, h2, h3, _⟩ := hr r (by omega)
      omega
end
end Go.Proofs.YtdiljmhikajjiaaGreat
end
section
set_option linter.unusedVariables false
set_option linter.unusedSimpArgs false
set_option maxRecDepth 100000
namespace Go.Proofs.YtdiljmhikajjiaaGreat
open Go.ChangeShapes Go.WideShapes Go.Deep Go.RowKit Seine.Trie
theorem u8_in {n : Int} (h : (Lit.int .u8 n).wf = true) : ((UInt8.ofNat n.toNat).toNat : Int) = n := by
  simp only [Lit.wf, IntKind.min, IntKind.max, IntKind.signed, IntKind.bits, Bool.and_eq_true, decide_eq_true_eq] at h
  have h1 : n.toNat < 256 := by simp at h; omega
  simp only [UInt8.toNat_ofNat']
  have h0 : 0 ≤ n := by simp at h; omega
  omega
theorem arg_bytes {H : Type} {enc : TypeId × Value → H} {w : World} {base : Nat} {v : Value} {d : DataW H} {p : List MemPlace}
    (hv : Value.okWide Tryz.prog w .any base 23 v) (h : DataW.Trod enc Tryz.prog w 0 (fun _ => true) true 23 v d p) :
    ∃ (A : Option Addr) (c : Nat) (b : Txt), v = .slice A b.length c ∧ Byt w A b ∧ b.length ≤ c ∧ c ≤ maxLen ∧ True := by
  obtain ⟨A, c, xs, rfl, hr, h1, h2, h3⟩ := arg_ints Tryz.underlying23 Tryz.underlying5 (by kernel_rfl) hv h
  refine ⟨A, c, xs.map fun n => UInt8.ofNat n.toNat, by rw [List.length_map], ?_, by rw [List.length_map]; exact h1, h2, trivial⟩
  have : byCells (xs.map fun n => UInt8.ofNat n.toNat) = xs.map (Value.int .u8) := by
    unfold byCells
    rw [List.map_map]
    refine List.map_congr_left fun n hn => ?_
    show Value.int .u8 ((UInt8.ofNat n.toNat).toNat : Int) = _
    rw [u8_in (h3 n hn)]
  unfold Byt
  rw [this]
  exact hr
end Go.Proofs.YtdiljmhikajjiaaGreat
end
section
set_option linter.unusedVariables false
set_option linter.unusedSimpArgs false
namespace Go.Proofs.YtdiljmhikajjiaaGreat
open Go.RowKit Seine.Trie Go.Proofs.YtdiljmhikajjiaaGreatW.PrintWords
def bb (l : Txt) : ByteArray := ⟨l.toArray⟩
def nb (l : Txt) : List Int := l.map fun c => (c.toNat : Int)
theorem nb_length (l : Txt) : (nb l).length = l.length := by simp [nb]
theorem bb_data (l : Txt) : (bb l).data.toList = l := by simp [bb]
theorem bb_of (s : ByteArray) : bb s.data.toList = s := by cases s; simp [bb]
theorem bb_ext {a b : ByteArray} (h : a.data.toList = b.data.toList) : a = b := by rw [← bb_of a, ← bb_of b, h]
theorem bb_size (l : Txt) : (bb l).size = l.length := by simp [bb, ByteArray.size]
theorem bb_toList (l : Txt) : (bb l).toList = l := by rw [ByteArray.toList_eq, bb_data]
theorem bb_inj {a b : Txt} (h : bb a = bb b) : a = b := by rw [← bb_data a, h, bb_data]
theorem bb_nums (l : Txt) : strOfNums (nb l) = bb l := by
  apply bb_ext
  rw [bb_data]
  simp [strOfNums, nb, Function.comp_def]
theorem rdOf_bb (l : List Txt) (i : Nat) (h : i < l.length) : rdOf ByteArray.empty (l.map bb) (i : Int) = bb (l.getD i []) := by
  unfold rdOf
  rw [Int.toNat_natCast]
  simp [List.getD_eq_getElem?_getD, h]
theorem w64 {x : Int} (h0 : -9223372036854775808 ≤ x) (h1 : x < 9223372036854775808) : wrap64 x = x := by unfold wrap64; omega
/-- f answers r, with enough rounds. -/
def Evl {α : Type} (f : Nat → Option α) (r : α) : Prop := ∃ N, ∀ k, N ≤ k → f k = some r
theorem Evl.step {α : Type} {f g : Nat → Option α} {r : α} (h : Evl g r) (e : ∀ k, f (k + 1) = g k) : Evl f r := by
  obtain ⟨N, h⟩ := h
  exact ⟨N + 1, fun k hk => by obtain ⟨m, rfl⟩ : ∃ m, k = m + 1 := ⟨k - 1, by omega⟩; rw [e, h m (by omega)]⟩
theorem Evl.bind {α β : Type} {f : Nat → Option α} {g : Nat → α → Option β} {a : α} {r : β} (h : Evl f a) (k : Evl (fun n => g n a) r) : Evl (fun n => (f n).bind (g n)) r := by
  obtain ⟨N, h⟩ := h
  obtain ⟨M, k⟩ := k
  exact ⟨max N M, fun n hn => by
    show (f n).bind (g n) = some r
    rw [h n (by omega)]; exact k n (by omega)⟩
theorem Evl.of {α : Type} {f : Nat → Option α} {r : α} (h : ∀ k, f k = some r) : Evl f r := ⟨0, fun k _ => h k⟩
theorem Evl.congr {α : Type} {f g : Nat → Option α} {r : α} (h : Evl g r) (e : ∀ k, f k = g k) : Evl f r := by
  obtain ⟨N, h⟩ := h
  exact ⟨N, fun k hk => (e k).trans (h k hk)⟩
theorem Evl.get {α : Type} {f : Nat → Option α} {r : α} (h : Evl f r) : ∃ k, f k = some r := by
  obtain ⟨N, h⟩ := h
  exact ⟨N, h N (Nat.le_refl _)⟩
theorem kdU8 {w : World} {A : Option Addr} {b : Txt} (h : Byt w A b) (hl : b.length ≤ 9223372036854775807) : Kd.C (Kd.int .u8) w A b.length (nb b) := by
  refine ⟨nb_length b, hl, fun h0 => ?_⟩
  rcases h with h | ⟨ad, hA, _, hc⟩
  · have := congrArg List.length h; rw [byCells_length] at this; simp at this; simp [this] at h0
  · refine ⟨ad, hA, fun j p hp => ⟨[.int .u8 p], rfl, rfl, fun i u hu => ?_⟩⟩
    have hi : i = 0 := by
      have := (List.getElem?_eq_some_iff.1 hu).1
      simpa using this
    subst hi
    injection hu with hu
    subst hu
    have e : (Kd.int .u8).sz = 1 := rfl
    rw [e, Nat.mul_one, Nat.add_zero]
    refine hc j _ ?_
    unfold nb at hp
    unfold byCells
    rw [List.getElem?_map] at hp ⊢
    cases hb : b[j]? with
    | none => rw [hb] at hp; cases hp
    | some c => rw [hb] at hp; injection hp with hp; subst hp; rfl
/-- Rows of whole numbers. -/
def intVals (xs : List Int) : List Value := xs.map (Value.int .i64)
theorem intVals_length (xs : List Int) : (intVals xs).length = xs.length := by simp [intVals]
abbrev Ints (w : World) (A : Option Addr) (xs : List Int) : Prop := Row w A (intVals xs)
theorem conv_byt {w : World} {src : TypeId} {A : Option Addr} {b : Txt} {c : Nat} (hs : Tryz.prog.underlying src = some (.slice 5)) (h : Byt w A b) (hl : b.length ≤ 9223372036854775807) : (convert src 9 (.slice A b.length c)).run Tryz.prog w = .ok (.string (bb b)) w := by
  have := Kd.C_string (P := Tryz.prog) (src := src) (dst := 9) (c := c) hs Tryz.underlying5 Tryz.underlying9 (kdU8 h hl)
  rw [bb_nums] at this
  exact this
end Go.Proofs.YtdiljmhikajjiaaGreat
end
section
set_option linter.unusedVariables false
namespace Go.Proofs.YtdiljmhikajjiaaGreat
open Go.RowKit
theorem wpList_app0 {P : Program} {ops : Array Oper} {rest : List Oper} {o : Oper} {a : Act} {Q : Exit → Act → World → Prop} (w : World) (hgd : o.guard = none) (s x : Operand) (t : TypeId)
    (ho : o.op = .call { callee := .builtin .append, args := #[s, x], argTypes := #[t, t] })
    (e : TypeId) (i : TypeInfo) (ht : P.underlying t = some (.slice e)) (hi : P.info? e = some i)
    (A B : Option Addr) (n c d : Nat) (hs : a.eval s = .slice A n c) (hn : n ≤ c) (hx : a.eval x = .slice B 0 d)
    (h : wpList P ops Q rest (a.put o.dst (.slice A n c)) w) :
    wpList P ops Q (o :: rest) a w := by
  refine wpList_plain hgd fun K hK => ?_
  have hr : (Builtin.append_ #[t, t] o.type #[.slice A n c, .slice B 0 d]).run P w = .ok (.slice A n c) w := by
    have hfc : (Builtin.firstCells i.size 0 (.slice B 0 d)).run P w = .ok #[] w := by
      cases B with
      | none => rfl
      | some b => exact run_firstCells_some (P := P) w i.size 0 b 0 d [] (by simp) (by simp)
    cases A <;> simp [Builtin.append_, run_underlying ht, sizeOf, typeInfo, hi, Builtin.lenOf, hn, hfc, storeCells]
  unfold Oper.wp execOp
  simp only [ho, resolve, invoke, builtin, Sem.run_bind, Sem.run_pure, Result.andThen_ok, List.map_toArray, List.map_cons, List.map_nil, hs, hx, hr]
  exact hK _ _ h
theorem wpList_apps {P : Program} {ops : Array Oper} {rest : List Oper} {o : Oper} {a : Act} {Q : Exit → Act → World → Prop} (w : World) (hgd : o.guard = none) (s x : Operand) (t : TypeId)
    (ho : o.op = .call { callee := .builtin .append, args := #[s, x], argTypes := #[t, t] })
    (base : Nat) (e : TypeId) (z : Value) (size bytes : Nat) (ht : P.underlying t = some (.slice e)) (hi : (P.info? e).map (fun i => (i.zero, i.size, i.bytes)) = some (some z, size, bytes))
    (hzs : z.cells.size = size) (hsz : 0 < size)
    (v : Value) (n : Nat) (xs : List Value) (hs : a.eval s = v) (hown : w.ownsRow base e size v n xs)
    (A : Option Addr) (m c : Nat) (cs : List Value) (hrow : Row w A cs) (hl : cs.length = m * size) (h1 : ∀ u ∈ cs, u.oneCell' = true) (hx : a.eval x = .slice A m c)
    (hlen : n + m ≤ 1000000000000) (hby : bytes ≤ 100) (hbase : base ≤ w.heap.size)
    (h : ∀ v' w', w'.ownsRow base e size v' (n + m) (xs ++ cs) → Below base w w' → wpList P ops Q rest (a.put o.dst v') w') :
    wpList P ops Q (o :: rest) a w := by
  obtain ⟨i, hi, hz, hsize, hbytes⟩ := info_parts hi
  rcases hrow with rfl | ⟨ad, rfl, hlt, hc⟩
  · obtain rfl : m = 0 := by
      have hl : 0 = m * size := by simpa using hl
      rcases Nat.mul_eq_zero.1 hl.symm with h | h
      · exact h
      · omega
    obtain ⟨A0, c0, rfl, hc0⟩ := own_slice hown
    refine wpList_app0 w hgd s x t ho e i ht hi A0 A n c0 c hs hc0 hx ?_
    exact h _ _ (by simpa using hown) (Below.refl _ _)
  · refine wpList_append_own_at w hgd s x t ho base e i z size bytes ht hi hz hsize hbytes hzs hsz v n xs hs hown ad m c cs hx hl hc h1
      (by simp only [maxLen]; omega) ?_ hbase ?_
    · have : (n + m) * bytes ≤ (n + m) * 100 := Nat.mul_le_mul_left _ hby
      omega
    · intro v' w' h2 h3 _ h5
      refine h v' w' h2 ((Below.refl base w).grown h3 hbase (fun k hk => ?_))
      rcases hown.2 with ⟨rfl, _⟩ | ⟨g, cap, cur, rfl, hg, _⟩
      · simp [Value.ownBlock] at hk
      · simp [Value.ownBlock] at hk; omega
end Go.Proofs.YtdiljmhikajjiaaGreat
end
section
set_option linter.unusedVariables false
set_option linter.unusedSimpArgs false
namespace Go.Proofs.YtdiljmhikajjiaaGreat
open Go.RowKit Seine.Trie
/-- How often what was done. -/
structure Cn where
  s : Int
  l : Int
  h : Int
  m : Int
def Cn.zero : Cn := ⟨0, 0, 0, 0⟩
def Cn.ok (c : Cn) : Prop := 0 ≤ c.s ∧ c.s ≤ 1000000000000 ∧ 0 ≤ c.l ∧ c.l ≤ 1000000000000 ∧ 0 ≤ c.h ∧ c.h ≤ 1000000000000 ∧ 0 ≤ c.m ∧ c.m ≤ 1000000000000
def cnCells (c : Cn) : Array Value := #[.int .i64 c.s, .int .i64 c.l, .int .i64 c.h, .int .i64 c.m]
/-- Block g counts c. -/
def MtAt (w : World) (g : Nat) (c : Cn) : Prop := w.heap[g]? = some (.cells (cnCells c) 86 (0, 0))
/-- The meter, if there is one, counts c. -/
def Mo (w : World) (mo : Option Nat) (c : Cn) : Prop := ∀ g, mo = some g → MtAt w g c
def madr (mo : Option Nat) : Option Addr := mo.map fun g => ⟨g, 0, none⟩
def OnlyM (mo : Option Nat) (k : Nat) : Prop := mo = some k
theorem MtAt.below {w w' : World} {g : Nat} {c : Cn} (h : MtAt w g c) (hb : Below w.heap.size w w') : MtAt w' g c := (hb.block g (block_lt h)).trans h
theorem Mo.below {w w' : World} {mo : Option Nat} {c : Cn} (h : Mo w mo c) (hb : Below w.heap.size w w') : Mo w' mo c := fun g e => (h g e).below hb
theorem Mo.none_ (w : World) (c : Cn) : Mo w none c := fun g e => by cases e
theorem Mo.some_ {w : World} {g : Nat} {c : Cn} (h : MtAt w g c) : Mo w (some g) c := fun g' e => by injection e with e; subst e; exact h
/-- A block of another make is not the meter's. -/
theorem Mo.far {w : World} {mo : Option Nat} {c : Cn} (h : Mo w mo c) {b t : Nat} {cs : Array Value} {fr : Nat × Nat} (hb : w.heap[b]? = some (.cells cs t fr)) (hs : cs.size ≠ 4 ∨ t ≠ 86) : ¬ OnlyM mo b := fun e => by
  have := h b e
  unfold MtAt at this
  rw [hb] at this
  injection this with this
  injection this with e1 e2
  rcases hs with hs | hs
  · exact hs (by rw [e1]; rfl)
  · exact hs e2
theorem Mo.farMap {w : World} {mo : Option Nat} {c : Cn} (h : Mo w mo c) {b : Nat} {es : Array MapEntry} {cl : Nat} (hb : w.heap[b]? = some (.map es cl)) : ¬ OnlyM mo b := fun e => by
  have := h b e
  unfold MtAt at this
  rw [hb] at this
  injection this with this
  cases this
theorem mcount_none (w : World) : Calls Tryz.prog 132 #[.pointer none] w fun e w' => e = .returned (.pointer (some ⟨w.heap.size, 0, none⟩)) ∧ w.alloc (.cells #[.int .i64 0, .int .i64 0, .int .i64 0, .int .i64 0] 49) = w' := by
  go_enter Tryz.func132, Tryz.ntmps132
  go_wp2
  go_ret
  exact ⟨rfl, rfl⟩
theorem mcount_some (w : World) (g : Nat) : Calls Tryz.prog 132 #[.pointer (some ⟨g, 0, none⟩)] w fun e w' => e = .returned (.pointer (some ⟨g, 0, none⟩)) ∧ w = w' := by
  go_enter Tryz.func132, Tryz.ntmps132
  go_wp2
  go_ret
  exact ⟨rfl, rfl⟩
theorem RetByt.rowg {w w' : World} {b : Txt} {e : Ending} (h : RetByt w b e w') : ∃ A c, e = .returned (.slice A b.length c) ∧ b.length ≤ c ∧ Byt w' A b ∧ (∀ ad, A = some ad → w.heap.size ≤ ad.block) ∧ Below w.heap.size w w' := by
  obtain ⟨v, rfl, ho, hb⟩ := h
  obtain ⟨A, c, rfl, hc, hr⟩ := ho.row
  refine ⟨A, c, rfl, hc, hr, fun ad e => ?_, hb⟩
  rcases own_addr ho with e' | ⟨g, e', hg⟩
  · rw [e] at e'; cases e'
  · rw [e] at e'
    injection e' with e'
    subst e'
    exact hg
/-- A text that is scanned through a meter. -/
def TextAt (w : World) (tb : Nat) (mo : Option Nat) (b : Txt) : Prop :=
  ∃ A c, w.heap[tb]? = some (.cells #[.pointer (madr mo), .slice A b.length c] 205 (0, 0)) ∧ Byt w A b ∧ ∀ ad, A = some ad → ¬ OnlyM mo ad.block
theorem TextAt.below {w w' : World} {tb : Nat} {mo : Option Nat} {b : Txt} (h : TextAt w tb mo b) (hb : Below w.heap.size w w') : TextAt w' tb mo b := by
  obtain ⟨A, c, h1, h2, h3⟩ := h
  exact ⟨A, c, (hb.block tb (block_lt h1)).trans h1, Row.below h2 hb, h3⟩
theorem TextAt.keep {w w' : World} {tb : Nat} {mo : Option Nat} {b : Txt} {c : Cn} (h : TextAt w tb mo b) (hm : Mo w mo c) (hk : Keeps (OnlyM mo) w w') : TextAt w' tb mo b := by
  obtain ⟨A, d, h1, h2, h3⟩ := h
  exact ⟨A, d, blk_keep h1 hk (hm.far h1 (.inl (by simp))), Row.keep h2 hk (fun ad e _ => h3 ad e), h3⟩
theorem cloneByt2_calls (w : World) (A : Option Addr) (c : Nat) (b : Txt) (h : Byt w A b) (hl : b.length ≤ 1000000) :
    Calls Tryz.prog 26 #[.slice A b.length c] w (RetByt w b) := by
  obtain ⟨n, hn⟩ : ∃ n, b.length = n := ⟨_, rfl⟩
  rw [hn] at hl ⊢
  replace hn := As.mk hn
  have H := As.mk h
  clear h
  cases A with
  | none =>
    have hl0 : b = [] := by
      rcases H.out with h | ⟨ad, e, _⟩
      · have := congrArg List.length h; rw [byCells_length] at this; exact List.eq_nil_of_length_eq_zero (by rw [List.length_nil] at this; omega)
      · cases e
    subst hl0
    have hnil : ∀ (w : World) (n c : Nat), (binOp .eql 23 (.slice none n c) (.slice none 0 0)).run Tryz.prog w = .ok (.bool true) w := fun w n c => Lib.run_eql_slice_nil w _ _ none n c 0 0 Tryz.underlying23
    go_enter Tryz.func26, Tryz.ntmps26
    go_wp2
    go_ret
    exact ⟨_, rfl, World.ownsRow_nil _ _ _ _, Below.refl _ _⟩
  | some ad =>
    have hown : As ((w.alloc (.cells #[] 5)).ownsRow w.heap.size 5 1 (.slice (some ⟨w.heap.size, 0, none⟩) 0 0) 0 []) := ⟨⟨rfl, .inr ⟨_, 0, #[], rfl, Nat.le_refl _, heap_alloc_new w _, Nat.le_refl _, Nat.zero_le _, rfl, rfl⟩⟩⟩
    have hrow := As.mk (Row.alloc H.out (.cells #[] 5))
    have hnl : As ((byCells b).length = n * 1) := ⟨by rw [byCells_length, hn.out, Nat.mul_one]⟩
    have hnil : ∀ (w : World) (a : Addr) (n c : Nat), (binOp .eql 23 (.slice (some a) n c) (.slice none 0 0)).run Tryz.prog w = .ok (.bool false) w := fun w a n c => Lib.run_eql_slice_nil w _ _ (some a) n c 0 0 Tryz.underlying23
    go_enter Tryz.func26, Tryz.ntmps26
    go_wp2_with (at_builtin
                 refine wpList_apps _ rfl (.tmp 5) (.tmp 6) 23 rfl w.heap.size 5 _ 1 1 Tryz.underlying23 info_u8 rfl (by decide) _ 0 [] rfl hown.out (some ad) n c (byCells b) hrow.out hnl.out byt_one2 rfl (by omega) (by decide) (by simp) ?_
                 intro v' w' h2 h3)
    go_ret
    exact ⟨v', rfl, by unfold OwnByt; rw [hn.out]; simpa using h2, ((Below.refl _ _).alloc (Nat.le_refl _) _).trans h3⟩
theorem mtext_calls (w : World) (mo : Option Nat) (cn : Cn) (hm : Mo w mo cn) (A : Option Addr) (c : Nat) (b : Txt) (h : Byt w A b) (hl : b.length ≤ 1000000) :
    Calls Tryz.prog 124 #[.pointer (madr mo), .slice A b.length c] w fun e w' => ∃ tb, e = .returned (.pointer (some ⟨tb, 0, none⟩)) ∧ TextAt w' tb mo b ∧ Below w.heap.size w w' := by
  have cc := As.mk (cloneByt2_calls w A c b h hl)
  have hmo := As.mk hm
  clear h hm
  go_enter Tryz.func124, Tryz.ntmps124
  go_wp2_with (go_at_call 26; refine Calls.mono cc.out ?_; intro e w1 h1; obtain ⟨A1, c1, he, hc1, hr1, hg1, hb⟩ := h1.rowg; subst he)
  go_ret
  refine ⟨_, rfl, ⟨A1, c1, heap_alloc_new _ _, Row.alloc hr1 _, fun ad e hk => ?_⟩, hb.alloc hb.size _⟩
  have h1 := block_lt (hmo.out _ hk)
  have h2 := hg1 ad e
  omega
theorem mlen_calls (w : World) (tb : Nat) (mo : Option Nat) (b : Txt) (h : TextAt w tb mo b) : Calls Tryz.prog 126 #[.pointer (some ⟨tb, 0, none⟩)] w fun e w' => e = .returned (.int .i64 (b.length : Int)) ∧ w = w' := by
  obtain ⟨A, c, h1, _, _⟩ := h
  have c1 : w.cell? ⟨tb, 1, none⟩ = some (.slice A b.length c) := cell_of_blk h1 1
  clear h1
  go_enter Tryz.func126, Tryz.ntmps126
  go_wp2
  go_ret
  exact ⟨rfl, rfl⟩
theorem mat_calls (w : World) (tb : Nat) (mo : Option Nat) (b : Txt) (h : TextAt w tb mo b) (cn : Cn) (hm : Mo w mo cn) (hok : cn.ok) (i : Nat) (hi : i < b.length) :
    Calls Tryz.prog 128 #[.pointer (some ⟨tb, 0, none⟩), .int .i64 (i : Int)] w fun e w' => e = .returned (.int .i64 ((b.getD i 0).toNat : Int)) ∧ Mo w' mo { cn with s := cn.s + 1 } ∧ Keeps (OnlyM mo) w w' := by
  have hlen := As.mk (mlen_calls w tb mo b h)
  have hk := As.mk (fun (w' : World) (k : Keeps (OnlyM mo) w w') => h.keep hm k)
  have hmo := As.mk hm
  obtain ⟨A, c, h1, h2, h3⟩ := h
  have c0 : w.cell? ⟨tb, 0, none⟩ = some (.pointer (madr mo)) := cell_of_blk h1 0
  have hlt := block_lt h1
  obtain ⟨s, l, hh, m⟩ := cn
  have hs1 : IntKind.i64.wrap (s + 1) = s + 1 := by have := hok.1; have := hok.2.1; simp only [IntKind.wrap, IntKind.signed, IntKind.bits] at *; simp; omega
  cases mo with
  | none =>
    have hB : Below w.heap.size w (w.alloc (.cells #[.int .i64 1, .int .i64 0, .int .i64 0, .int .i64 0] 49)) := (Below.refl _ _).alloc (Nat.le_refl _) _
    obtain ⟨ad, rfl, hc⟩ := Byt.at_ (Row.below h2 hB) hi
    have d1 := (hB.cell (p := ⟨tb, 1, none⟩) hlt).trans (cell_of_blk h1 1)
    unfold madr at c0
    simp only [Option.map_none, Option.map_some] at c0
    simp at d1
    generalize b.getD i 0 = x at *
    have hx : wrap64 (x.toNat : Int) = (x.toNat : Int) := by have := x.toNat_lt; unfold wrap64; omega
    generalize b.length = n at *
    clear h1 h2 h3 hk hmo hok
    go_enter Tryz.func128, Tryz.ntmps128
    go_wp2_with (first
      | (go_at_call 126; refine Calls.mono hlen.out ?_; rintro e w1 ⟨rfl, rfl⟩)
      | (go_at_call 132; refine Calls.mono (mcount_none _) ?_; rintro e w1 ⟨rfl, rfl⟩))
    go_ret
    exact ⟨ret_int hx, Mo.none_ _ _, Keeps.of_below hB _⟩
  | some g =>
    have hg := hmo.out g rfl
    have g0 : w.cell? ⟨g, 0, none⟩ = some (.int .i64 s) := cell_of_blk hg 0
    have f0 : w.frozen? ⟨g, 0, none⟩ = false := free_of_blk hg 0
    have hne : tb ≠ g := fun e => hmo.out.far h1 (.inl (by simp)) (by rw [e]; rfl)
    have hK : Keeps (OnlyM (some g)) w (w.setCell ⟨g, 0, none⟩ (.int .i64 (s + 1))) := (keepsSt w ⟨g, 0, none⟩ _).mono fun k _ e => by unfold OnlyM; exact congrArg some e.symm
    have hM : MtAt (w.setCell ⟨g, 0, none⟩ (.int .i64 (s + 1))) g ⟨s + 1, l, hh, m⟩ := by
      have := blk_set hg 0 (.int .i64 (s + 1))
      unfold MtAt
      rw [this]
      simp [cnCells]
    obtain ⟨A', c', k1, k2, _⟩ := hk.out _ hK
    have d1 : (w.setCell ⟨g, 0, none⟩ (.int .i64 (s + 1))).cell? ⟨tb, 1, none⟩ = some (.slice A' b.length c') := cell_of_blk k1 1
    obtain ⟨ad, rfl, hc⟩ := Byt.at_ k2 hi
    unfold madr at c0
    simp only [Option.map_none, Option.map_some] at c0
    generalize b.getD i 0 = x at *
    have hx : wrap64 (x.toNat : Int) = (x.toNat : Int) := by have := x.toNat_lt; unfold wrap64; omega
    generalize b.length = n at *
    replace hK := As.mk hK
    replace hM := As.mk hM
    clear h1 h2 h3 hk hmo hok k1 k2 hg
    go_enter Tryz.func128, Tryz.ntmps128
    go_wp2_with (first
      | (go_at_call 126; refine Calls.mono hlen.out ?_; rintro e w1 ⟨rfl, rfl⟩)
      | (go_at_call 132; refine Calls.mono (mcount_some _ _) ?_; rintro e w1 ⟨rfl, rfl⟩))
    go_ret
    exact ⟨ret_int hx, Mo.some_ hM.out, hK.out⟩
end Go.Proofs.YtdiljmhikajjiaaGreat
end
section
namespace Seine.Sort
open Seine.Trie
abbrev Pr := Int × Int
def lt (a b : Pr) : Prop := a.1 < b.1 ∨ (a.1 = b.1 ∧ a.2 < b.2)
instance : DecidableRel lt := fun a b => inferInstanceAs (Decidable (_ ∨ _))
theorem lt_trans {a b c : Pr} (h : lt a b) (k : lt b c) : lt a c := by unfold lt at *; omega
theorem lt_irr (a : Pr) : ¬ lt a a := by unfold lt; omega
theorem lt_tri (a b : Pr) : lt a b ∨ a = b ∨ lt b a := by
  obtain ⟨x, y⟩ := a
  obtain ⟨u, v⟩ := b
  simp only [lt, Prod.mk.injEq]
  omega
def Rise (l : List Pr) : Prop := l.Pairwise lt
theorem Rise.nil : Rise [] := List.Pairwise.nil
theorem rise_cons {x : Pr} {l : List Pr} : Rise (x :: l) ↔ (∀ y ∈ l, lt x y) ∧ Rise l := List.pairwise_cons
theorem rise_app {a b : List Pr} : Rise (a ++ b) ↔ Rise a ∧ Rise b ∧ ∀ x ∈ a, ∀ y ∈ b, lt x y := List.pairwise_append
/-- Two lists in order of the same things are one. -/
theorem rise_ext : ∀ {a b : List Pr}, Rise a → Rise b → (∀ x, x ∈ a ↔ x ∈ b) → a = b
  | [], [], _, _, _ => rfl
  | [], y :: b, _, _, h => by have := (h y).2 (by simp); simp at this
  | x :: a, [], _, _, h => by have := (h x).1 (by simp); simp at this
  | x :: a, y :: b, ha, hb, h => by
    obtain ⟨h1, ka⟩ := rise_cons.1 ha
    obtain ⟨h2, kb⟩ := rise_cons.1 hb
    have hxy : x = y := by
      have hx := (h x).1 (by simp)
      have hy := (h y).2 (by simp)
      rcases List.mem_cons.1 hx with e | e
      · exact e
      · rcases List.mem_cons.1 hy with f | f
        · exact f.symm
        · exact absurd (lt_trans (h1 y f) (h2 x e)) (lt_irr x)
    subst hxy
    have hz : ∀ z, z ∈ a ↔ z ∈ b := by
      intro z
      constructor
      · intro hz
        rcases List.mem_cons.1 ((h z).1 (List.mem_cons_of_mem _ hz)) with e | e
        · subst e; exact absurd (h1 _ hz) (lt_irr _)
        · exact e
      · intro hz
        rcases List.mem_cons.1 ((h z).2 (List.mem_cons_of_mem _ hz)) with e | e
        · subst e; exact absurd (h2 _ hz) (lt_irr _)
        · exact e
    rw [rise_ext ka kb hz]
/-- One thing more, in order, once. -/
def put : List Pr → Pr → List Pr
  | [], p => [p]
  | x :: l, p => if lt x p then x :: put l p else if x = p then x :: l else p :: x :: l
theorem mem_put {l : List Pr} {p x : Pr} : x ∈ put l p ↔ x ∈ l ∨ x = p := by
  induction l with
  | nil => simp [put]
  | cons y l ih =>
    unfold put
    by_cases h1 : lt y p
    · rw [if_pos h1]; simp only [List.mem_cons, ih]; exact or_assoc.symm
    · rw [if_neg h1]
      by_cases h2 : y = p
      · rw [if_pos h2]; subst h2
        constructor
        · exact .inl
        · rintro (h | rfl)
          · exact h
          · simp
      · rw [if_neg h2]; simp only [List.mem_cons]
        constructor
        · rintro (h | h | h)
          · exact .inr h
          · exact .inl (.inl h)
          · exact .inl (.inr h)
        · rintro ((h | h) | h)
          · exact .inr (.inl h)
          · exact .inr (.inr h)
          · exact .inl h
theorem rise_put {l : List Pr} {p : Pr} (h : Rise l) : Rise (put l p) := by
  induction l with
  | nil => simp [put, Rise]
  | cons y l ih =>
    obtain ⟨h1, h2⟩ := rise_cons.1 h
    unfold put
    by_cases k1 : lt y p
    · rw [if_pos k1]
      refine rise_cons.2 ⟨fun z hz => ?_, ih h2⟩
      rcases mem_put.1 hz with hz | rfl
      · exact h1 z hz
      · exact k1
    · rw [if_neg k1]
      by_cases k2 : y = p
      · rw [if_pos k2]; exact h
      · rw [if_neg k2]
        have hp : lt p y := by
          rcases lt_tri y p with e | e | e
          · exact absurd e k1
          · exact absurd e k2
          · exact e
        refine rise_cons.2 ⟨fun z hz => ?_, h⟩
        rcases List.mem_cons.1 hz with rfl | hz
        · exact hp
        · exact lt_trans hp (h1 z hz)
/-- In order, each once. -/
def sortP (l : List Pr) : List Pr := l.foldl put []
theorem foldl_put (l : List Pr) : ∀ (a : List Pr), Rise a → Rise (l.foldl put a) ∧ ∀ x, x ∈ l.foldl put a ↔ x ∈ a ∨ x ∈ l := by
  induction l with
  | nil => intro a h; exact ⟨h, fun x => by simp⟩
  | cons y l ih =>
    intro a h
    obtain ⟨h1, h2⟩ := ih (put a y) (rise_put h)
    refine ⟨h1, fun x => ?_⟩
    rw [List.foldl_cons, h2, mem_put, List.mem_cons, or_assoc]
theorem rise_sortP (l : List Pr) : Rise (sortP l) := (foldl_put l [] Rise.nil).1
theorem mem_sortP {l : List Pr} {x : Pr} : x ∈ sortP l ↔ x ∈ l := by rw [sortP, (foldl_put l [] Rise.nil).2]; simp
theorem sortP_ext {a b : List Pr} (h : ∀ x, x ∈ a ↔ x ∈ b) : sortP a = sortP b := rise_ext (rise_sortP a) (rise_sortP b) fun x => by rw [mem_sortP, mem_sortP, h]
theorem sortP_rise {a : List Pr} (h : Rise a) : sortP a = a := rise_ext (rise_sortP a) h fun x => mem_sortP
theorem sortP_eq {a b : List Pr} (hb : Rise b) (h : ∀ x, x ∈ a ↔ x ∈ b) : sortP a = b := (sortP_ext h).trans (sortP_rise hb)
theorem put_len (l : List Pr) (p : Pr) : (put l p).length ≤ l.length + 1 := by
  induction l with
  | nil => simp [put]
  | cons y l ih => unfold put; split <;> (try split) <;> simp <;> omega
theorem sortP_len (l : List Pr) : (sortP l).length ≤ l.length := by
  have : ∀ (l a : List Pr), (l.foldl put a).length ≤ a.length + l.length := by
    intro l
    induction l with
    | nil => intro a; simp
    | cons y l ih => intro a; rw [List.foldl_cons]; have := ih (put a y); have := put_len a y; simp; omega
  have := this l []
  simpa [sortP] using this
theorem sortP_short {l : List Pr} (h : l.length < 2) : sortP l = l := by
  match l, h with
  | [], _ => rfl
  | [x], _ => rfl
theorem sortP_split (l : List Pr) (m : Nat) : sortP (sortP (l.take m) ++ sortP (l.drop m)) = sortP l := by
  refine sortP_ext fun x => ?_
  rw [List.mem_append, mem_sortP, mem_sortP, ← List.mem_append, List.take_append_drop]
def push (out : List Pr) (x : Pr) : List Pr := if out.getLast? = some x then out else out ++ [x]
theorem push_len (out : List Pr) (x : Pr) : (push out x).length ≤ out.length + 1 := by unfold push; split <;> simp
structure Join (A B a b out : List Pr) : Prop where
  ra : Rise a
  rb : Rise b
  ro : Rise out
  mem : ∀ z, (z ∈ out ∨ z ∈ a ∨ z ∈ b) ↔ (z ∈ A ∨ z ∈ B)
  le : ∀ x ∈ out, ∀ y, y ∈ a ∨ y ∈ b → lt x y ∨ x = y
theorem Join.start {A B : List Pr} (ha : Rise A) (hb : Rise B) : Join A B A B [] := ⟨ha, hb, Rise.nil, by simp, by simp⟩
theorem mem_push {out : List Pr} {x z : Pr} : z ∈ push out x ↔ z ∈ out ∨ z = x := by
  unfold push
  split
  · rename_i h
    have := List.mem_of_getLast? h
    constructor
    · exact .inl
    · rintro (h | rfl)
      · exact h
      · exact this
  · simp
theorem rise_push {out : List Pr} {x : Pr} (h : Rise out) (hx : ∀ o ∈ out, lt o x ∨ o = x) : Rise (push out x) := by
  unfold push
  split
  · exact h
  · rename_i hl
    refine rise_app.2 ⟨h, by simp [Rise], fun o ho y hy => ?_⟩
    rw [List.mem_singleton] at hy
    subst hy
    rcases hx o ho with e | e
    · exact e
    · subst e
      exfalso
      obtain ⟨pre, z, rfl⟩ : ∃ pre z, out = pre ++ [z] := ⟨out.dropLast, out.getLast (by intro e; rw [e] at ho; simp at ho), (List.dropLast_concat_getLast _).symm⟩
      rw [List.getLast?_concat] at hl
      have hz : z ≠ o := fun e => hl (by rw [e])
      obtain ⟨_, _, h3⟩ := rise_app.1 h
      have ho2 : o ∈ pre := by
        rcases List.mem_append.1 ho with e | e
        · exact e
        · rw [List.mem_singleton] at e; exact absurd e.symm hz
      have h4 := h3 o ho2 z (by simp)
      rcases hx z (by simp) with e | e
      · exact lt_irr _ (lt_trans h4 e)
      · exact hz e
theorem Join.takeA {A B a b out : List Pr} {x : Pr} (h : Join A B (x :: a) b out) (hb : ∀ y ∈ b, lt x y ∨ x = y) : Join A B a b (push out x) := by
  obtain ⟨h1, h2⟩ := rise_cons.1 h.ra
  refine ⟨h2, h.rb, rise_push h.ro fun o ho => h.le o ho x (.inl (by simp)), fun z => ?_, fun o ho y hy => ?_⟩
  · rw [← h.mem z, mem_push, List.mem_cons]
    constructor
    · rintro ((h | h) | h | h)
      · exact .inl h
      · exact .inr (.inl (.inl h))
      · exact .inr (.inl (.inr h))
      · exact .inr (.inr h)
    · rintro (h | (h | h) | h)
      · exact .inl (.inl h)
      · exact .inl (.inr h)
      · exact .inr (.inl h)
      · exact .inr (.inr h)
  · rcases mem_push.1 ho with ho | rfl
    · exact h.le o ho y (hy.imp (List.mem_cons_of_mem _) id)
    · rcases hy with hy | hy
      · exact .inl (h1 y hy)
      · exact hb y hy
theorem Join.swap {A B a b out : List Pr} (h : Join A B a b out) : Join B A b a out := by
  refine ⟨h.rb, h.ra, h.ro, fun z => ?_, fun x hx z hz => h.le x hx z hz.symm⟩
  have := h.mem z
  constructor
  · rintro (q | q | q)
    · exact (this.1 (.inl q)).symm
    · exact (this.1 (.inr (.inr q))).symm
    · exact (this.1 (.inr (.inl q))).symm
  · intro q
    rcases this.2 q.symm with q | q | q
    · exact .inl q
    · exact .inr (.inr q)
    · exact .inr (.inl q)
theorem Join.takeB {A B a b out : List Pr} {y : Pr} (h : Join A B a (y :: b) out) (ha : ∀ x ∈ a, lt y x ∨ y = x) : Join A B a b (push out y) := (h.swap.takeA ha).swap
theorem Join.done {A B out : List Pr} (h : Join A B [] [] out) : out = sortP (A ++ B) := by
  refine (sortP_eq h.ro fun x => ?_).symm
  rw [List.mem_append, ← h.mem x]; simp
/-- What stands ahead in a row in order. -/
theorem rise_head {x y : Pr} {l : List Pr} (h : Rise (x :: l)) (hy : lt y x ∨ y = x) : ∀ z ∈ x :: l, lt y z ∨ y = z := by
  obtain ⟨h1, _⟩ := rise_cons.1 h
  intro z hz
  rcases List.mem_cons.1 hz with e | hz
  · rw [e]; exact hy
  · rcases hy with hy | hy
    · exact .inl (lt_trans hy (h1 z hz))
    · rw [hy]; exact .inl (h1 z hz)
/-- A pair that is a piece of a line, not empty, which is one of some texts. -/
def Occ (T : List Txt) (L : Txt) (p : Pr) : Prop := ∃ i j : Nat, p = ((i : Int), (j : Int)) ∧ i < j ∧ j ≤ L.length ∧ (L.drop i).take (j - i) ∈ T
def occRow (T : List Txt) (L : Txt) (i k : Nat) : List Pr := ((List.range' (i + 1) k).filter fun j => decide ((L.drop i).take (j - i) ∈ T)).map fun (j : Nat) => ((i : Int), (j : Int))
def occTo (T : List Txt) (L : Txt) (n : Nat) : List Pr := (List.range n).flatMap fun i => occRow T L i (L.length - i)
def occ (T : List Txt) (L : Txt) : List Pr := occTo T L L.length
theorem mem_occRow {T : List Txt} {L : Txt} {i k : Nat} {p : Pr} : p ∈ occRow T L i k ↔ ∃ j : Nat, p = ((i : Int), (j : Int)) ∧ i < j ∧ j ≤ i + k ∧ (L.drop i).take (j - i) ∈ T := by
  unfold occRow
  simp only [List.mem_map, List.mem_filter, List.mem_range'_1, decide_eq_true_eq]
  constructor
  · rintro ⟨j, ⟨⟨h1, h2⟩, h3⟩, rfl⟩
    exact ⟨j, rfl, by omega, by omega, h3⟩
  · rintro ⟨j, rfl, h1, h2, h3⟩
    exact ⟨j, ⟨⟨by omega, by omega⟩, h3⟩, rfl⟩
theorem mem_occTo {T : List Txt} {L : Txt} {n : Nat} (hn : n ≤ L.length) {p : Pr} : p ∈ occTo T L n ↔ ∃ i j : Nat, p = ((i : Int), (j : Int)) ∧ i < n ∧ i < j ∧ j ≤ L.length ∧ (L.drop i).take (j - i) ∈ T := by
  unfold occTo
  simp only [List.mem_flatMap, List.mem_range, mem_occRow]
  constructor
  · rintro ⟨i, hi, j, rfl, h1, h2, h3⟩
    exact ⟨i, j, rfl, hi, h1, by omega, h3⟩
  · rintro ⟨i, j, rfl, hi, h1, h2, h3⟩
    exact ⟨i, hi, j, rfl, h1, by omega, h3⟩
theorem mem_occ {T : List Txt} {L : Txt} {p : Pr} : p ∈ occ T L ↔ Occ T L p := by
  rw [occ, mem_occTo (Nat.le_refl _)]
  constructor
  · rintro ⟨i, j, h1, _, h2, h3, h4⟩; exact ⟨i, j, h1, h2, h3, h4⟩
  · rintro ⟨i, j, h1, h2, h3, h4⟩; exact ⟨i, j, h1, by omega, h2, h3, h4⟩
theorem rise_occRow (T : List Txt) (L : Txt) (i k : Nat) : Rise (occRow T L i k) := by
  unfold occRow Rise
  rw [List.pairwise_map]
  refine List.Pairwise.filter _ ?_
  have : (List.range' (i + 1) k).Pairwise (· < ·) := List.pairwise_lt_range'
  exact this.imp fun h => .inr ⟨rfl, by simpa using h⟩
theorem occTo_succ (T : List Txt) (L : Txt) (n : Nat) : occTo T L (n + 1) = occTo T L n ++ occRow T L n (L.length - n) := by
  unfold occTo
  rw [List.range_succ, List.flatMap_append]; simp
theorem rise_occTo (T : List Txt) (L : Txt) : ∀ n, Rise (occTo T L n)
  | 0 => Rise.nil
  | n + 1 => by
    rw [occTo_succ]
    refine rise_app.2 ⟨rise_occTo T L n, rise_occRow T L n _, fun x hx y hy => ?_⟩
    obtain ⟨i, hi, h2⟩ := List.mem_flatMap.1 hx
    obtain ⟨j, rfl, _⟩ := mem_occRow.1 h2
    obtain ⟨k, rfl, _⟩ := mem_occRow.1 hy
    have := List.mem_range.1 hi
    exact .inl (by simp; omega)
theorem rise_occ (T : List Txt) (L : Txt) : Rise (occ T L) := rise_occTo T L _
theorem occ_ext {T T' : List Txt} {L : Txt} (h : ∀ x, x ≠ [] → (x ∈ T ↔ x ∈ T')) : occ T L = occ T' L :=
  rise_ext (rise_occ T L) (rise_occ T' L) fun p => by
    rw [mem_occ, mem_occ]
    constructor
    · rintro ⟨i, j, e, h1, h2, h3⟩
      refine ⟨i, j, e, h1, h2, (h _ fun e => ?_).1 h3⟩
      have := congrArg List.length e; rw [List.length_take, List.length_drop] at this; simp at this; omega
    · rintro ⟨i, j, e, h1, h2, h3⟩
      refine ⟨i, j, e, h1, h2, (h _ fun e => ?_).2 h3⟩
      have := congrArg List.length e; rw [List.length_take, List.length_drop] at this; simp at this; omega
theorem occRow_len (T : List Txt) (L : Txt) (i k : Nat) : (occRow T L i k).length ≤ k := by
  unfold occRow
  rw [List.length_map]
  exact Nat.le_trans (List.length_filter_le _ _) (by simp)
theorem occTo_len (T : List Txt) (L : Txt) : ∀ n, (occTo T L n).length ≤ n * L.length
  | 0 => by simp [occTo]
  | n + 1 => by
    rw [occTo_succ, List.length_append]
    have h1 := occTo_len T L n
    have h2 := occRow_len T L n (L.length - n)
    rw [Nat.succ_mul]; omega
end Seine.Sort
end
section
set_option linter.unusedVariables false
namespace Seine.Eng
open Seine.Trie Seine.Sort
/-- One text more. -/
def addP (acc : List Txt) (t : Txt) : List Txt := if t = [] ∨ t ∈ acc then acc else acc ++ [t]
/-- Patterns that aren't empty, each once, in the order in which they come. -/
def pset (l : List Txt) : List Txt := l.foldl addP []
theorem pset_nil : pset [] = [] := rfl
theorem pset_snoc (l : List Txt) (t : Txt) : pset (l ++ [t]) = addP (pset l) t := by unfold pset; rw [List.foldl_append]; rfl
theorem pset_take {l : List Txt} {k : Nat} (h : k < l.length) : pset (l.take (k + 1)) = addP (pset (l.take k)) (l.getD k []) := by
  rw [List.take_succ_eq_append_getElem h, pset_snoc]
  congr 1
  simp [h]
theorem mem_addP {acc : List Txt} {t x : Txt} : x ∈ addP acc t ↔ x ∈ acc ∨ (x = t ∧ t ≠ []) := by
  unfold addP
  split
  · rename_i h
    constructor
    · exact .inl
    · rintro (h' | ⟨rfl, h'⟩)
      · exact h'
      · exact h.elim (fun e => absurd e h') id
  · rename_i h
    rw [List.mem_append, List.mem_singleton]
    constructor
    · rintro (h' | rfl)
      · exact .inl h'
      · exact .inr ⟨rfl, fun e => h (.inl e)⟩
    · rintro (h' | ⟨rfl, _⟩)
      · exact .inl h'
      · exact .inr rfl
theorem mem_foldl : ∀ (l acc : List Txt) (x : Txt), x ∈ l.foldl addP acc ↔ x ∈ acc ∨ (x ∈ l ∧ x ≠ [])
  | [], acc, x => by simp
  | t :: l, acc, x => by
    rw [List.foldl_cons, mem_foldl l, mem_addP]
    constructor
    · rintro ((h | ⟨rfl, h⟩) | ⟨h, h'⟩)
      · exact .inl h
      · exact .inr ⟨by simp, h⟩
      · exact .inr ⟨by simp [h], h'⟩
    · rintro (h | ⟨h, h'⟩)
      · exact .inl (.inl h)
      · rcases List.mem_cons.1 h with rfl | h
        · exact .inl (.inr ⟨rfl, h'⟩)
        · exact .inr ⟨h, h'⟩
theorem mem_pset {l : List Txt} {x : Txt} : x ∈ pset l ↔ x ∈ l ∧ x ≠ [] := by unfold pset; rw [mem_foldl]; simp
theorem addP_len (acc : List Txt) (t : Txt) : (addP acc t).length ≤ acc.length + 1 := by unfold addP; split <;> simp
theorem foldl_len : ∀ (l acc : List Txt), (l.foldl addP acc).length ≤ acc.length + l.length
  | [], acc => by simp
  | t :: l, acc => by
    rw [List.foldl_cons]
    have := foldl_len l (addP acc t)
    have h2 := addP_len acc t
    simp only [List.length_cons]; omega
theorem pset_len (l : List Txt) : (pset l).length ≤ l.length := by have := foldl_len l []; simpa [pset] using this
theorem foldl_tot : ∀ (l acc : List Txt), ((l.foldl addP acc).map List.length).sum ≤ (acc.map List.length).sum + (l.map List.length).sum
  | [], acc => by simp
  | t :: l, acc => by
    rw [List.foldl_cons]
    have := foldl_tot l (addP acc t)
    have h2 : ((addP acc t).map List.length).sum ≤ (acc.map List.length).sum + t.length := by
      unfold addP; split
      · omega
      · simp
    simp only [List.map_cons, List.sum_cons]; omega
theorem occ_pset (l : List Txt) (L : Txt) : occ (pset l) L = occ l L := occ_ext fun x hx => by rw [mem_pset]; simp [hx]
theorem pset_ne {l : List Txt} {x : Txt} (h : x ∈ pset l) : x ≠ [] := (mem_pset.1 h).2
/-- How many bytes the shortest one has; 0: there is none. -/
def leastTo (acc : Nat) (t : Txt) : Nat := if acc = 0 ∨ t.length < acc then t.length else acc
def leastP (l : List Txt) : Nat := l.foldl leastTo 0
theorem leastP_snoc (l : List Txt) (t : Txt) : leastP (l ++ [t]) = leastTo (leastP l) t := by unfold leastP; rw [List.foldl_append]; rfl
theorem leastP_take {l : List Txt} {k : Nat} (h : k < l.length) : leastP (l.take (k + 1)) = leastTo (leastP (l.take k)) (l.getD k []) := by
  rw [List.take_succ_eq_append_getElem h, leastP_snoc]
  congr 1
  simp [h]
theorem leastTo_pos {acc : Nat} {t : Txt} (h : t ≠ []) : 0 < leastTo acc t := by
  have := List.length_pos_iff.2 h
  unfold leastTo
  split <;> omega
theorem foldl_least : ∀ (l : List Txt) (acc : Nat), 0 < acc → (∀ x ∈ l, x ≠ []) → 0 < l.foldl leastTo acc
  | [], acc, h, _ => h
  | t :: l, acc, _, hl => by
    rw [List.foldl_cons]
    exact foldl_least l _ (leastTo_pos (hl t (by simp))) fun x hx => hl x (by simp [hx])
theorem leastP_pos {l : List Txt} (h : l ≠ []) (hl : ∀ x ∈ l, x ≠ []) : 0 < leastP l := by
  cases l with
  | nil => exact absurd rfl h
  | cons t l =>
    unfold leastP
    rw [List.foldl_cons]
    exact foldl_least l _ (leastTo_pos (hl t (by simp))) fun x hx => hl x (by simp [hx])
theorem foldl_least_le : ∀ (l : List Txt) (acc m : Nat), acc ≤ m → (∀ x ∈ l, x.length ≤ m) → l.foldl leastTo acc ≤ m
  | [], acc, m, h, _ => h
  | t :: l, acc, m, h, hl => by
    rw [List.foldl_cons]
    refine foldl_least_le l _ m ?_ fun x hx => hl x (by simp [hx])
    have := hl t (by simp)
    unfold leastTo; split <;> omega
theorem leastP_le {l : List Txt} {m : Nat} (hl : ∀ x ∈ l, x.length ≤ m) : leastP l ≤ m := foldl_least_le l 0 m (Nat.zero_le _) hl
/-- All empty pieces of a line. -/
def empties (n : Nat) : List Pr := (List.range n).map fun (i : Nat) => ((i : Int), (i : Int))
theorem empties_succ (n : Nat) : empties (n + 1) = empties n ++ [((n : Int), (n : Int))] := by unfold empties; rw [List.range_succ, List.map_append]; rfl
theorem empties_length (n : Nat) : (empties n).length = n := by simp [empties]
/-- What is found. -/
def findF (l : List Txt) (L : Txt) : List Pr := if [] ∈ l then sortP (occ l L ++ empties (L.length + 1)) else occ l L
end Seine.Eng
end
section
set_option linter.unusedVariables false
set_option linter.unusedSimpArgs false
namespace Go.Proofs.YtdiljmhikajjiaaGreat
open Go.RowKit Go.Maps Seine.Trie
theorem medge_law : Keyed Tryz.prog 208 := Keyed.of_law (deep_law_laid laidOut' (m := 3) (by omega) (of_decide_eq_true (by kernel_rfl)) (by kernel_rfl) (by kernel_rfl))
theorem medge_key (a : Int) (c : UInt8) (h0 : -1000000000 ≤ a) (h1 : a ≤ 1000000000) : ∃ kl, keyOf Tryz.prog 208 (.agg #[.int .i64 a, .int .u8 (c.toNat : Int)]) = some kl := by
  have hc := c.toNat_lt
  have hs : Tryz.prog.types.size = (Tryz.prog.types.size - 1) + 1 := by decide +kernel
  have w1 : (Lit.int .i64 a).wf = true := by simp [Lit.wf, IntKind.min, IntKind.max, IntKind.signed, IntKind.bits]; omega
  have w2 : (Lit.int .u8 (c.toNat : Int)).wf = true := by simp [Lit.wf, IntKind.min, IntKind.max, IntKind.signed, IntKind.bits]; omega
  have hk : Tryz.prog.keyType 208 = true := by kernel_rfl
  have hf : (Value.agg #[.int .i64 a, .int .u8 (c.toNat : Int)]).formed Tryz.prog 208 = true := by
    simp only [Value.formed, Tryz.underlying208]; kernel_rfl
  unfold keyOf
  simp only [Tryz.underlying208, hk, hf, Bool.and_self, if_true]
  have h2 : Tryz.prog.keyLits (Tryz.prog.types.size + 1) 208 [.int .i64 a, .int .u8 (c.toNat : Int)] = some [.int .i64 a, .int .u8 (c.toNat : Int)] := by
    rw [hs]
    generalize Tryz.prog.types.size - 1 = n
    have c3 : Tryz.prog.cellsOf 3 = 1 := by kernel_rfl
    have c5 : Tryz.prog.cellsOf 5 = 1 := by kernel_rfl
    have c67 : Tryz.prog.cellsOf 208 = 2 := by kernel_rfl
    have k1 : Tryz.prog.keyLits (n + 1) 3 [.int .i64 a] = some [.int .i64 a] := by simp only [Program.keyLits, Tryz.underlying3, w1, and_self, if_true]
    have k2 : Tryz.prog.keyLits (n + 1) 5 [.int .u8 (c.toNat : Int)] = some [.int .u8 (c.toNat : Int)] := by simp only [Program.keyLits, Tryz.underlying5, w2, and_self, if_true]
    unfold Program.keyLits
    rw [Tryz.underlying208]
    simp [c67, c3, c5, k1, k2]
  simp only [Value.cells]
  show ∃ kl, Option.map _ (Tryz.prog.keyLits (Tryz.prog.types.size + 1) 208 [.int .i64 a, .int .u8 (c.toNat : Int)]) = some kl
  rw [h2]
  exact ⟨_, rfl⟩
theorem place_nat' {P : List Txt} {s : Txt} (h : s ∈ P) : ∃ a : Nat, place P s = (a : Int) ∧ P[a]? = some s := by
  have := place_mem.2 h
  exact ⟨(place P s).toNat, by omega, place_get h⟩
theorem last_split' {q : Txt} (h : q ≠ []) : q.dropLast ++ [lastB q] = q := by
  obtain ⟨m, x, rfl⟩ : ∃ m x, q = m ++ [x] := ⟨q.dropLast, q.getLast h, (List.dropLast_concat_getLast h).symm⟩
  simp [lastB]
/-- The edge by which a node is come to. -/
def rowKey (P : List Txt) (n : Nat) : Value := .agg #[.int .i64 (parent P (P.getD n [])), .int .u8 ((lastB (P.getD n [])).toNat : Int)]
def rowOf (P : List Txt) (n : Nat) : List Value := [.int .i64 (parent P (P.getD n [])), .int .u8 ((lastB (P.getD n [])).toNat : Int), .int .i64 (n : Int)]
def rowCells (P : List Txt) (k : Nat) : List Value := (List.range k).flatMap fun i => rowOf P (i + 1)
theorem rowCells_succ (P : List Txt) (k : Nat) : rowCells P (k + 1) = rowCells P k ++ rowOf P (k + 1) := by unfold rowCells; rw [List.range_succ, List.flatMap_append]; simp
theorem rowCells_length (P : List Txt) : ∀ k, (rowCells P k).length = k * 3
  | 0 => rfl
  | k + 1 => by rw [rowCells_succ, List.length_append, rowCells_length P k]; simp [rowOf]; omega
theorem rowCells_at (P : List Txt) : ∀ {k i : Nat}, i < k → ∀ j, j < 3 → (rowCells P k)[i * 3 + j]? = (rowOf P (i + 1))[j]?
  | 0, i, h, _, _ => by omega
  | k + 1, i, h, j, hj => by
    rw [rowCells_succ]
    rcases Nat.lt_or_ge i k with e | e
    · rw [List.getElem?_append_left (by rw [rowCells_length]; omega), rowCells_at P e j hj]
    · obtain rfl : i = k := by omega
      rw [List.getElem?_append_right (by rw [rowCells_length]; omega), rowCells_length, Nat.add_sub_cancel_left]
/-- What a map of the first k edges holds. -/
def EdgesTo (P : List Txt) (k : Nat) (f : Value → Option Int) : Prop := ∀ x v, f x = some v ↔ ∃ n, 1 ≤ n ∧ n ≤ k ∧ x = rowKey P n ∧ v = (n : Int)
theorem node_ne {P : List Txt} (hT : Tree P) {n : Nat} (h1 : 1 ≤ n) (h2 : n < P.length) : P.getD n [] ≠ [] := fun e => by
  have h3 := get_at h2
  rw [e] at h3
  have h4 := place_at hT.nodup h3
  rw [place_at hT.nodup hT.root] at h4
  omega
theorem parent_nat {P : List Txt} (hT : Tree P) {n : Nat} (h1 : 1 ≤ n) (h2 : n < P.length) : ∃ a : Nat, parent P (P.getD n []) = (a : Int) ∧ a < P.length ∧ P.getD a [] ++ [lastB (P.getD n [])] = P.getD n [] := by
  have hne := node_ne hT h1 h2
  have hm := hT.up _ (List.mem_of_getElem? (get_at h2)) hne
  obtain ⟨a, e, ha⟩ := place_nat' hm
  refine ⟨a, by unfold parent; rw [if_neg hne]; exact e, (List.getElem?_eq_some_iff.1 ha).1, ?_⟩
  have : P.getD a [] = (P.getD n []).dropLast := by rw [List.getD_eq_getElem?_getD, ha]; rfl
  rw [this, last_split' hne]
theorem edges_all {P : List Txt} (hT : Tree P) {f : Value → Option Int} (h : EdgesTo P (P.length - 1) f) : f = edgeF P := by
  funext x
  have key : ∀ v, f x = some v ↔ edgeF P x = some v := by
    intro v
    rw [h x v]
    constructor
    · rintro ⟨n, h1, h2, rfl, rfl⟩
      obtain ⟨a, e, ha, hq⟩ := parent_nat hT h1 (by omega)
      unfold rowKey
      rw [e, edgeF_at P a _ ha, hq, if_pos (List.mem_of_getElem? (get_at (by omega))), place_at hT.nodup (get_at (by omega))]
    · intro he
      unfold edgeF at he
      split at he
      · rename_i a c
        split at he
        · rename_i hc
          obtain ⟨h1, h2, h3, h4, h5⟩ := hc
          injection he with he
          obtain ⟨a, rfl⟩ := Int.eq_ofNat_of_zero_le h1
          obtain ⟨c, rfl⟩ := Int.eq_ofNat_of_zero_le h3
          simp only [Int.toNat_natCast] at he h5
          have hm := place_mem.1 h5
          obtain ⟨n, e1, e2⟩ := place_nat' hm
          have hg : P.getD n [] = P.getD a [] ++ [UInt8.ofNat c] := by rw [List.getD_eq_getElem?_getD, e2]; rfl
          have hn := (List.getElem?_eq_some_iff.1 e2).1
          refine ⟨n, ?_, by omega, ?_, by rw [← he, e1]⟩
          · rcases Nat.eq_zero_or_pos n with z | z
            · subst z
              rw [hT.root] at e2
              injection e2 with e2
              have := congrArg List.length e2
              simp at this
            · exact z
          · unfold rowKey parent lastB
            rw [hg, if_neg (by simp), List.dropLast_concat, List.getLast?_concat, place_at hT.nodup (get_at (by omega))]
            have : (UInt8.ofNat c).toNat = c := by simp; omega
            simp only [Option.getD_some, this]
        · cases he
      · cases he
  cases hf : f x with
  | none =>
    cases hg : edgeF P x with
    | none => rfl
    | some v => rw [(key v).2 hg] at hf; cases hf
  | some v => exact ((key v).1 hf).symm
theorem rowKey_inj {P : List Txt} (hT : Tree P) {n m : Nat} (h1 : 1 ≤ n) (h2 : n < P.length) (h3 : 1 ≤ m) (h4 : m < P.length) (h : rowKey P n = rowKey P m) : n = m := by
  unfold rowKey at h
  obtain ⟨a, ea, ha, hqa⟩ := parent_nat hT h1 h2
  obtain ⟨b, eb, hb, hqb⟩ := parent_nat hT h3 h4
  rw [ea, eb] at h
  simp only [Value.agg.injEq, Array.mk.injEq, List.cons.injEq, Value.int.injEq, and_true, true_and] at h
  obtain ⟨e1, e2⟩ := h
  have e1 : a = b := by omega
  have e2 : lastB (P.getD n []) = lastB (P.getD m []) := UInt8.toNat_inj.1 (by omega)
  subst e1
  have hnm : P.getD n [] = P.getD m [] := hqa.symm.trans (by rw [e2]; exact hqb)
  have p1 := place_at hT.nodup (get_at h2)
  have p2 := place_at hT.nodup (get_at h4)
  rw [hnm, p2] at p1
  omega
theorem EdgesTo.next {P : List Txt} (hT : Tree P) {k : Nat} (hk : k + 1 < P.length) {f f' : Value → Option Int} (h : EdgesTo P k f) (h1 : f' (rowKey P (k + 1)) = some ((k + 1 : Nat) : Int)) (h2 : ∀ x, x ≠ rowKey P (k + 1) → f' x = f x) : EdgesTo P (k + 1) f' := fun x v => by
  by_cases hx : x = rowKey P (k + 1)
  · subst hx
    rw [h1]
    constructor
    · intro e; injection e with e; exact ⟨k + 1, by omega, Nat.le_refl _, rfl, e.symm⟩
    · rintro ⟨n, a, b, e, rfl⟩
      rw [rowKey_inj hT (by omega) hk a (by omega) e]
  · rw [h2 x hx, h x v]
    constructor
    · rintro ⟨n, a, b, e, e'⟩; exact ⟨n, a, by omega, e, e'⟩
    · rintro ⟨n, a, b, e, e'⟩
      refine ⟨n, a, ?_, e, e'⟩
      rcases Nat.lt_or_ge k n with c | c
      · obtain rfl : n = k + 1 := by omega
        exact absurd e hx
      · exact c
/-- A table of a tree's edges. -/
def TabS (w : World) (eb : Nat) (mo : Option Nat) (P : List Txt) : Prop :=
  ∃ cb mb n, w.heap[eb]? = some (.cells #[.pointer (madr mo), .func (.func 130) #[] #[.pointer (some ⟨cb, 0, none⟩)]] 211 (0, 0)) ∧ w.heap[cb]? = some (.cells #[.map (some mb)] 206 (0, 0)) ∧ MapIs Tryz.prog 208 3 w mb n (edgeF P)
theorem TabS.below {w w' : World} {eb : Nat} {mo : Option Nat} {P : List Txt} (h : TabS w eb mo P) (hb : Below w.heap.size w w') : TabS w' eb mo P := by
  obtain ⟨cb, mb, n, h1, h2, h3⟩ := h
  exact ⟨cb, mb, n, blkBelow hb h1, blkBelow hb h2, h3.below hb⟩
theorem TabS.keep {w w' : World} {eb : Nat} {mo : Option Nat} {P : List Txt} {c : Cn} (h : TabS w eb mo P) (hm : Mo w mo c) (hk : Keeps (OnlyM mo) w w') : TabS w' eb mo P := by
  obtain ⟨cb, mb, n, h1, h2, h3⟩ := h
  obtain ⟨es, cl, h4⟩ := h3.is_map
  exact ⟨cb, mb, n, blk_keep h1 hk (hm.far h1 (.inl (by simp))), blk_keep h2 hk (hm.far h2 (.inl (by simp))), h3.keep hk (hm.farMap h4)⟩
set_option maxRecDepth 100000 in
set_option maxHeartbeats 1600000 in
theorem msparse_calls (w : World) (mo : Option Nat) (A : Option Addr) (c m : Nat) (P : List Txt) (hT : Tree P) (hl : P.length ≤ 1000000) (hr : Row w A (rowCells P m)) (hm : m = P.length - 1) :
    Calls Tryz.prog 125 #[.pointer (madr mo), .slice A m c] w fun e w' => ∃ eb, e = .returned (.pointer (some ⟨eb, 0, none⟩)) ∧ TabS w' eb mo P ∧ Below w.heap.size w w' := by
  have HX := As.mk hr
  have hTT := As.mk hT
  have hz : As (EdgesTo P 0 (fun _ => none)) := ⟨fun x v => by constructor; (· intro h; cases h); (· rintro ⟨n, a, b, _⟩; omega)⟩
  have hmm := @run_makeMap Tryz.prog
  have hmP := As.mk hm
  have hPm : m + 1 ≤ P.length ∨ P.length = 0 := by omega
  have hP0 := hT.len
  clear hr hm
  go_enter Tryz.func125, Tryz.ntmps125
  go_wp2
  go_loopg [11] (m + 1) (fun gk i wr => ∃ (k : Nat) (f : Value → Option Int), As (m + 1 ≤ gk + k) ∧ k ≤ m ∧ i = .int .i64 k ∧ As (MapIs Tryz.prog 208 3 wr w.heap.size k f) ∧ As (EdgesTo P k f) ∧ As (wr.heap[w.heap.size + 1]? = some (.cells #[.map (some w.heap.size)] 206 (0, 0))) ∧ As (Below w.heap.size w wr))
  case atStart =>
    refine ⟨0, fun _ => none, ⟨by omega⟩, Nat.zero_le _, rfl, ⟨(MapIs.made w _ _ _).below ((Below.refl _ _).alloc (Nat.le_refl _) _)⟩, hz, ⟨blk_new1 _ _ _⟩, ⟨((Below.refl _ _).alloc (Nat.le_refl _) _).alloc (by simp) _⟩⟩
  case round =>
    obtain ⟨k, f, hgk, hk, rfl, hmap, hed, hcb, hbel⟩ := hrel
    by_cases hlt : k < m
    · obtain ⟨gp, rfl⟩ : ∃ gp, gk = gp + 1 := ⟨gk - 1, by have := hgk.out; omega⟩
      have hkP : k + 1 < P.length := by have := hmP.out; omega
      obtain ⟨pa, e1, hpa, hpq⟩ := parent_nat hTT.out (n := k + 1) (by omega) hkP
      have hl3 : k * 3 + 2 < (rowCells P m).length := by rw [rowCells_length]; omega
      obtain ⟨ad, rfl, r0⟩ := Row.at_ (Row.below HX.out hbel.out) (j := k * 3) (by omega)
      obtain ⟨ad2, e2, r1⟩ := Row.at_ (Row.below HX.out hbel.out) (j := k * 3 + 1) (by omega)
      injection e2 with e2
      subst e2
      obtain ⟨ad3, e3, r2⟩ := Row.at_ (Row.below HX.out hbel.out) (j := k * 3 + 2) (by omega)
      injection e3 with e3
      subst e3
      rw [Addr.add_field _ _ _ (by omega)] at r1 r2
      have q0 := rowCells_at P hlt 0 (by omega)
      have q1 := rowCells_at P hlt 1 (by omega)
      have q2 := rowCells_at P hlt 2 (by omega)
      rw [Nat.add_zero] at q0
      rw [List.getElem?_eq_getElem (by omega)] at q0 q1 q2
      simp only [rowOf, List.getElem?_cons_zero, List.getElem?_cons_succ, Option.some.injEq] at q0 q1 q2
      rw [q0, e1] at r0
      rw [q1] at r1
      rw [q2] at r2
      have hkey : rowKey P (k + 1) = .agg #[.int .i64 (pa : Int), .int .u8 ((lastB (P.getD (k + 1) [])).toNat : Int)] := by unfold rowKey; rw [e1]
      generalize lastB (P.getD (k + 1) []) = x at *
      obtain ⟨kl, hkl⟩ := medge_key (pa : Int) x (by omega) (by omega)
      have hsz := hbel.out.size
      classical
      obtain ⟨w4, hrun, hm4, hg4⟩ := MapIs.put (w := wr.alloc (.cells #[.int .i64 (pa : Int), .int .u8 (x.toNat : Int), .int .i64 ((k : Int) + 1)] 100)) (hmap.out.below ((Below.refl _ _).alloc (Nat.le_refl _) _)) medge_law Tryz.underlying206 Tryz.underlying3 (by unfold maxLen; omega) hkl (v := (k : Int) + 1) (by simp [Lit.wf, IntKind.min, IntKind.max, IntKind.signed, IntKind.bits]; omega)
        (f' := fun y => if y = .agg #[.int .i64 (pa : Int), .int .u8 (x.toNat : Int)] then some ((k : Int) + 1) else f y) (if_pos rfl) (fun y hy => if_neg hy)
      have c5 : (wr.alloc (.cells #[.int .i64 (pa : Int), .int .u8 (x.toNat : Int), .int .i64 ((k : Int) + 1)] 100)).cell? ⟨w.heap.size + 1, 0, none⟩ = some (.map (some w.heap.size)) := cell_of_blk (blk_old hcb.out) 0
      have hne : w.heap.size + 1 ≠ w.heap.size := by omega
      have hed2 := As.mk (hed.out.next hTT.out hkP (f' := fun y => if y = .agg #[.int .i64 (pa : Int), .int .u8 (x.toNat : Int)] then some ((k : Int) + 1) else f y) (by rw [hkey]; exact if_pos rfl) (fun y hy => if_neg (by rw [hkey] at hy; exact hy)))
      have hcb4 : As (w4.heap[w.heap.size + 1]? = some (.cells #[.map (some w.heap.size)] 206 (0, 0))) := ⟨blk_keep (blk_old hcb.out) (Keeps.of_grown hg4) (fun e => by injection e with e; omega)⟩
      have hbel4 := As.mk ((hbel.out.alloc hbel.out.size (.cells #[.int .i64 (pa : Int), .int .u8 (x.toNat : Int), .int .i64 ((k : Int) + 1)] 100)).grown hg4 (by simp; omega) (fun q hq => by injection hq with hq; omega))
      replace hm4 := As.mk hm4
      replace hg4 := As.mk hg4
      clear q0 q1 q2 e1 hpq hkey
      go_wp2
      go_roundg gp
      case rel => exact ⟨k + 1, _, ⟨by have := hgk.out; omega⟩, by omega, (by first | rfl | go_num | (congr 1; omega)), hm4, hed2, hcb4, hbel4⟩
      case measure => omega
    · obtain rfl : m = k := by omega
      have he := As.mk (edges_all hTT.out (by rw [← hmP.out]; exact hed.out))
      rw [he.out] at hmap
      have hsz := hbel.out.size
      go_wp2
      go_ret
      exact ⟨_, rfl, ⟨_, _, _, heap_alloc_new _ _, blk_old hcb.out, hmap.out.below ((Below.refl _ _).alloc (Nat.le_refl _) _)⟩, hbel.out.alloc hbel.out.size _⟩
theorem mlookup_calls (w : World) (cb mb n : Nat) (P : List Txt) (hcb : w.heap[cb]? = some (.cells #[.map (some mb)] 206 (0, 0))) (hm : MapIs Tryz.prog 208 3 w mb n (edgeF P)) (a : Nat) (ha : a < P.length) (hl : P.length ≤ 1000000) (c : UInt8) :
    Calls Tryz.prog 130 #[.agg #[.int .i64 (a : Int), .int .u8 (c.toNat : Int)], .pointer (some ⟨cb, 0, none⟩)] w fun e w' => e = .returned (.int .i64 (place P (P.getD a [] ++ [c]))) ∧ Below w.heap.size w w' := by
  obtain ⟨kl, hkey⟩ := medge_key (a : Int) c (by omega) (by omega)
  have hB : Below w.heap.size w (w.alloc (.cells #[.int .i64 (a : Int), .int .u8 (c.toNat : Int)] 208)) := (Below.refl _ _).alloc (Nat.le_refl _) _
  have hlk := MapIs.look (hm.below hB) medge_law Tryz.underlying206 Tryz.underlying3 (zero_int _) hkey
  have c0 : (w.alloc (.cells #[.int .i64 (a : Int), .int .u8 (c.toNat : Int)] 208)).cell? ⟨cb, 0, none⟩ = some (.map (some mb)) := cell_of_blk (blk_old hcb) 0
  rw [edgeF_at P a c ha] at hlk
  replace hB := As.mk hB
  by_cases hq : P.getD a [] ++ [c] ∈ P
  · rw [if_pos hq] at hlk
    have hlk : (Instr.lookup 206 (.map (some mb)) (.agg #[.int .i64 (a : Int), .int .u8 (c.toNat : Int)]) true).run Tryz.prog (w.alloc (.cells #[.int .i64 (a : Int), .int .u8 (c.toNat : Int)] 208)) = .ok (.tuple #[.int .i64 (place P (P.getD a [] ++ [c])), .bool true]) (w.alloc (.cells #[.int .i64 (a : Int), .int .u8 (c.toNat : Int)] 208)) := hlk
    generalize place P (P.getD a [] ++ [c]) = r at *
    clear hq hm hkey hcb
    go_enter Tryz.func130, Tryz.ntmps130
    go_wp2
    go_ret
    exact ⟨rfl, hB.out⟩
  · rw [if_neg hq] at hlk
    rw [place_none hq]
    have hlk : (Instr.lookup 206 (.map (some mb)) (.agg #[.int .i64 (a : Int), .int .u8 (c.toNat : Int)]) true).run Tryz.prog (w.alloc (.cells #[.int .i64 (a : Int), .int .u8 (c.toNat : Int)] 208)) = .ok (.tuple #[.int .i64 0, .bool false]) (w.alloc (.cells #[.int .i64 (a : Int), .int .u8 (c.toNat : Int)] 208)) := hlk
    clear hq hm hkey hcb
    go_enter Tryz.func130, Tryz.ntmps130
    go_wp2
    go_ret
    exact ⟨rfl, hB.out⟩
theorem mlook_calls (w : World) (eb : Nat) (mo : Option Nat) (P : List Txt) (ht : TabS w eb mo P) (cn : Cn) (hm : Mo w mo cn) (hok : cn.ok) (a : Nat) (ha : a < P.length) (hl : P.length ≤ 1000000) (c : UInt8) :
    Calls Tryz.prog 131 #[.pointer (some ⟨eb, 0, none⟩), .int .i64 (a : Int), .int .u8 (c.toNat : Int)] w fun e w' => e = .returned (.int .i64 (place P (P.getD a [] ++ [c]))) ∧ Mo w' mo { cn with l := cn.l + 1 } ∧ Keeps (OnlyM mo) w w' := by
  have hk := As.mk (fun (w' : World) (k : Keeps (OnlyM mo) w w') => ht.keep hm k)
  have hmo := As.mk hm
  obtain ⟨cb, mb, n, h1, h2, h3⟩ := ht
  have c0 : w.cell? ⟨eb, 0, none⟩ = some (.pointer (madr mo)) := cell_of_blk h1 0
  have hlt := block_lt h1
  obtain ⟨s, l, hh, m⟩ := cn
  have hs1 : IntKind.i64.wrap (l + 1) = l + 1 := by have := hok.2.2.1; have := hok.2.2.2.1; simp only [IntKind.wrap, IntKind.signed, IntKind.bits] at *; simp; omega
  cases mo with
  | none =>
    have hB : Below w.heap.size w (w.alloc (.cells #[.int .i64 0, .int .i64 1, .int .i64 0, .int .i64 0] 49)) := (Below.refl _ _).alloc (Nat.le_refl _) _
    have d1 := (hB.cell (p := ⟨eb, 1, none⟩) hlt).trans (cell_of_blk h1 1)
    have cl := As.mk (mlookup_calls _ cb mb n P (blkBelow hB h2) (h3.below hB) a ha hl c)
    unfold madr at c0
    simp only [Option.map_none, Option.map_some] at c0
    simp at d1
    generalize place P (P.getD a [] ++ [c]) = r at *
    clear h1 h2 h3 hk hmo hok hm
    go_enter Tryz.func131, Tryz.ntmps131
    go_wp2_with (first
      | (go_at_call 130; refine Calls.mono cl.out ?_; rintro e w1 ⟨rfl, hb⟩)
      | (go_at_call 132; refine Calls.mono (mcount_none _) ?_; rintro e w1 ⟨rfl, rfl⟩))
    go_ret
    exact ⟨rfl, Mo.none_ _ _, (Keeps.of_below hB _).trans (Keeps.of_below hb _)⟩
  | some g =>
    have hg := hmo.out g rfl
    have g0 : w.cell? ⟨g, 1, none⟩ = some (.int .i64 l) := cell_of_blk hg 1
    have f0 : w.frozen? ⟨g, 1, none⟩ = false := free_of_blk hg 1
    have hK : Keeps (OnlyM (some g)) w (w.setCell ⟨g, 1, none⟩ (.int .i64 (l + 1))) := (keepsSt w ⟨g, 1, none⟩ _).mono fun k _ e => by unfold OnlyM; exact congrArg some e.symm
    have hM : MtAt (w.setCell ⟨g, 1, none⟩ (.int .i64 (l + 1))) g ⟨s, l + 1, hh, m⟩ := by
      have := blk_set hg 1 (.int .i64 (l + 1))
      unfold MtAt
      rw [this]
      simp [cnCells]
    obtain ⟨cb', mb', n', k1, k2, k3⟩ := hk.out _ hK
    have d1 : (w.setCell ⟨g, 1, none⟩ (.int .i64 (l + 1))).cell? ⟨eb, 1, none⟩ = some (.func (.func 130) #[] #[.pointer (some ⟨cb', 0, none⟩)]) := cell_of_blk k1 1
    have cl := As.mk (mlookup_calls _ cb' mb' n' P k2 k3 a ha hl c)
    unfold madr at c0
    simp only [Option.map_none, Option.map_some] at c0
    generalize place P (P.getD a [] ++ [c]) = r at *
    replace hK := As.mk hK
    replace hM := As.mk hM
    clear h1 h2 h3 hk hmo hok k1 k2 k3 hg hm
    go_enter Tryz.func131, Tryz.ntmps131
    go_wp2_with (first
      | (go_at_call 130; refine Calls.mono cl.out ?_; rintro e w1 ⟨rfl, hb⟩)
      | (go_at_call 132; refine Calls.mono (mcount_some _ _) ?_; rintro e w1 ⟨rfl, rfl⟩))
    go_ret
    exact ⟨rfl, Mo.some_ (hM.out.below hb), hK.out.trans (Keeps.of_below hb _)⟩
end Go.Proofs.YtdiljmhikajjiaaGreat
end
