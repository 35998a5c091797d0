/- Joined texts: TrieBuild, Args2, Args3, App, Meter, MeterTab, LinksPure, LinksOrder. -/
import Derived.Test.YtieelnpfpfiboaaM1
import Derived.Deep.Matrix
import Derived.SizedLaws
import Derived.ArgAppend
import Derived.Deep.QuietTactic
import Derived.BigQuiet
import Derived.Laws.StructEq
import Derived.WalkSpells
import Derived.Laws.EntriesVeiled
section
/- The walk of trie.Build. -/
set_option linter.unusedVariables false
set_option linter.unusedSimpArgs false
namespace Go.Proofs.Ytieelnpfpfiboaa
open Go.RowKit Go.Maps Seine.Trie

/-- A slice of byte texts. -/
def Txts (w : World) (A : Option Addr) (l : List Txt) : Prop :=
  ∃ vs : List Value, vs.length = l.length ∧ Row w A vs ∧ ∀ i, i < l.length → ∃ A' c', vs[i]? = some (.slice A' (l.getD i []).length c') ∧ (l.getD i []).length ≤ c' ∧ Byt w A' (l.getD i [])
theorem Txts.below {w w' : World} {A : Option Addr} {l : List Txt} (h : Txts w A l) (hb : Below w.heap.size w w') : Txts w' A l := by
  obtain ⟨vs, h1, h2, h3⟩ := h
  refine ⟨vs, h1, h2.below hb, fun i hi => ?_⟩
  obtain ⟨A', c', a, b, c⟩ := h3 i hi
  exact ⟨A', c', a, b, Row.below c hb⟩
theorem Txts.at_ {w : World} {A : Option Addr} {l : List Txt} (h : Txts w A l) {i : Nat} (hi : i < l.length) : ∃ ad A' c', A = some ad ∧ w.cell? (ad.add i) = some (.slice A' (l.getD i []).length c') ∧ (l.getD i []).length ≤ c' ∧ Byt w A' (l.getD i []) := by
  obtain ⟨vs, h1, h2, h3⟩ := h
  obtain ⟨A', c', a, b, c⟩ := h3 i hi
  obtain ⟨ad, e1, e2⟩ := h2.at_ (j := i) (by omega)
  refine ⟨ad, A', c', e1, ?_, b, c⟩
  rw [e2]
  rw [List.getElem?_eq_getElem (by omega)] at a
  exact a

def tot (l : List Txt) : Nat := (l.map List.length).sum
theorem paths_len (l : List Txt) : (paths l).length ≤ 1 + tot l := by
  have H : ∀ n (l : List Txt), l.length = n → (paths l).length ≤ 1 + tot l := by
    intro n
    induction n with
    | zero => intro l hl; rw [List.eq_nil_of_length_eq_zero hl]; simp [paths, tot]
    | succ n ih =>
      intro l hl
      have hne : l ≠ [] := by intro h; simp [h] at hl
      obtain ⟨m, x, rfl⟩ : ∃ m x, l = m ++ [x] := ⟨l.dropLast, l.getLast hne, (List.dropLast_concat_getLast hne).symm⟩
      have h1 := ih m (by simp at hl; omega)
      have h2 := addTo_len (paths m) x x.length
      rw [paths_snoc]
      unfold addText tot at *
      simp only [List.map_append, List.sum_append, List.map_cons, List.map_nil, List.sum_cons, List.sum_nil]
      omega
  exact H _ l rfl
theorem tot_app (a b : List Txt) : tot (a ++ b) = tot a + tot b := by simp [tot]
theorem tot_take (l : List Txt) (k : Nat) (h : k < l.length) : tot (l.take k) + (l.getD k []).length ≤ tot l := by
  have h2 : tot l = tot (l.take k) + tot (l.drop k) := by rw [← tot_app, List.take_append_drop]
  have h3 : tot (l.drop k) = (l.getD k []).length + tot (l.drop (k + 1)) := by
    rw [List.drop_eq_getElem_cons h]
    simp only [tot, List.map_cons, List.sum_cons, List.getD_eq_getElem?_getD, List.getElem?_eq_getElem h, Option.getD_some]
  omega
theorem take_snoc_txt (l : List Txt) (k : Nat) (h : k < l.length) : l.take (k + 1) = l.take k ++ [l.getD k []] := by
  rw [List.take_succ_eq_append_getElem h]; simp [h]

/-- Another word of one node. -/
theorem flat_word (par : Txt → Int) (W W' : Txt → Int) (s : Txt) (x : Int) (hs : W' s = x) (ho : ∀ p, p ≠ s → W' p = W p) : ∀ (P : List Txt) (a : Nat), P.Nodup → P[a]? = some s →
    P.flatMap (fun p => [Value.int .i64 (par p), .int .i64 (p.length : Int), .int .i64 (W' p), .int .u8 ((lastB p).toNat : Int)]) =
      (P.flatMap (fun p => [Value.int .i64 (par p), .int .i64 (p.length : Int), .int .i64 (W p), .int .u8 ((lastB p).toNat : Int)])).set (a * 4 + 2) (.int .i64 x)
  | [], _, _, h => by simp at h
  | p :: P, 0, hn, h => by
    simp at h; subst h
    rw [List.flatMap_cons, List.flatMap_cons]
    have : P.flatMap (fun p => [Value.int .i64 (par p), .int .i64 (p.length : Int), .int .i64 (W' p), .int .u8 ((lastB p).toNat : Int)]) = P.flatMap (fun p => [Value.int .i64 (par p), .int .i64 (p.length : Int), .int .i64 (W p), .int .u8 ((lastB p).toNat : Int)]) :=
      fm_congr (fun q hq => by rw [ho q (fun e => by subst e; exact (List.nodup_cons.1 hn).1 hq)])
    rw [this, hs]
    rfl
  | p :: P, a + 1, hn, h => by
    have hmem : s ∈ P := List.mem_of_getElem? (by simpa using h : P[a]? = some s)
    have hne : p ≠ s := fun e => by subst e; exact (List.nodup_cons.1 hn).1 hmem
    rw [List.flatMap_cons, List.flatMap_cons, flat_word par W W' s x hs ho P a (List.nodup_cons.1 hn).2 (by simpa using h), ho p hne]
    rw [show (a + 1) * 4 + 2 = (a * 4 + 2) + 4 by omega]
    rfl
theorem nodeCells_word {P : List Txt} (hT : Tree P) {W W' : Txt → Int} {s : Txt} {x : Int} {a : Nat} (ha : P[a]? = some s) (hs : W' s = x) (ho : ∀ p, p ≠ s → W' p = W p) : nodeCells P W' = (nodeCells P W).set (a * 4 + 2) (.int .i64 x) :=
  flat_word (parent P) W W' s x hs ho P a hT.nodup ha

def RetTrie (w : World) (P : List Txt) (W : Txt → Int) (e : Ending) (w' : World) : Prop :=
  ∃ g, e = .returned (.pointer (some ⟨g, 0, none⟩)) ∧ TrieAt w' w.heap.size g P W ∧ Below w.heap.size w w'

theorem TrieAt.start (w : World) : TrieAt (((w.alloc (.cells #[.int .i64 (-1), .int .i64 0, .int .i64 (-1), .int .u8 0] 76)).alloc (.map #[] 0)).alloc (.cells #[.slice (some ⟨w.heap.size, 0, none⟩) 1 1, .map (some (w.heap.size + 1))] 80)) w.heap.size (w.heap.size + 2) [[]] (fun _ => -1) := by
  have h0 : (w.alloc (.cells #[.int .i64 (-1), .int .i64 0, .int .i64 (-1), .int .u8 0] 76)).heap[w.heap.size]? = some (.cells #[.int .i64 (-1), .int .i64 0, .int .i64 (-1), .int .u8 0] 76 (0, 0)) := heap_alloc_new _ _
  have hm := MapIs.made (w.alloc (.cells #[.int .i64 (-1), .int .i64 0, .int .i64 (-1), .int .u8 0] 76)) Try.prog 103 3
  have hs : (w.alloc (.cells #[.int .i64 (-1), .int .i64 0, .int .i64 (-1), .int .u8 0] 76)).heap.size = w.heap.size + 1 := World.size_alloc _ _
  rw [hs] at hm
  refine ⟨.slice (some ⟨w.heap.size, 0, none⟩) 1 1, w.heap.size + 1, ?_, by omega, by omega, ?_, ?_, Tree.start⟩
  · have := heap_alloc_new ((w.alloc (.cells #[.int .i64 (-1), .int .i64 0, .int .i64 (-1), .int .u8 0] 76)).alloc (.map #[] 0)) (.cells #[.slice (some ⟨w.heap.size, 0, none⟩) 1 1, .map (some (w.heap.size + 1))] 80)
    rw [World.size_alloc, hs] at this
    exact this
  · refine ⟨rfl, .inr ⟨w.heap.size, 1, _, rfl, Nat.le_refl _, blk_old (blk_old h0), Nat.le_refl _, by simp [maxLen], rfl, rfl⟩⟩
  · refine (MapIs.below (MapIs.mono ?_ (Nat.zero_le 1)) ((Below.refl _ _).alloc (Nat.le_refl _) _))
    obtain ⟨D, a, b, c⟩ := hm
    refine ⟨D, a, b, fun key kl hk => ?_⟩
    have := c key kl hk
    have he : edgeF [[]] key = none := by
      unfold edgeF
      split
      · rw [if_neg]
        rintro ⟨x1, x2, _, _, x5⟩
        have := place_mem.1 x5
        simp at this
      · rfl
    rw [he]
    exact this

theorem TrieAt.write {w : World} {base g : Nat} {P : List Txt} {W : Txt → Int} (h : TrieAt w base g P W) : ∃ b cp, w.cell? ⟨g, 0, none⟩ = some (.slice (some ⟨b, 0, none⟩) P.length cp) ∧ P.length ≤ cp ∧
    (∀ i p, P[i]? = some p → w.cell? ⟨b, i * 4 + 2, none⟩ = some (.int .i64 (W p)) ∧ w.frozen? ⟨b, i * 4 + 2, none⟩ = false) ∧
    ∀ i s x W', P[i]? = some s → W' s = x → (∀ p, p ≠ s → W' p = W p) → TrieAt (w.setCell ⟨b, i * 4 + 2, none⟩ (.int .i64 x)) base g P W' ∧ Below base w (w.setCell ⟨b, i * 4 + 2, none⟩ (.int .i64 x)) := by
  obtain ⟨v, mb, hg, h1, h2, ho, hm, hT⟩ := h
  have hl := hT.len
  obtain ⟨b, cp, rfl, hb, hcp⟩ : ∃ b cp, v = .slice (some ⟨b, 0, none⟩) P.length cp ∧ base ≤ b ∧ P.length ≤ cp := by
    rcases ho.2 with ⟨_, h⟩ | ⟨b, cap, cur, hv, hb, hh, hnc, _⟩
    · omega
    · exact ⟨b, cap, hv, hb, hnc⟩
  refine ⟨b, cp, cell_of_blk hg 0, hcp, fun i p hi => ⟨?_, World.ownsRow.frozenAt ho _⟩, fun i s x W' hi hs hW => ?_⟩
  · have hil : i < P.length := (List.getElem?_eq_some_iff.1 hi).1
    rw [World.ownsRow.cellAt ho (i * 4 + 2) (by omega), nodeCells_at P W hi 2 (by omega)]
    rfl
  · have s1 := World.ownsRow.stored ho (i * 4 + 2) (.int .i64 x)
    have hbg : g ≠ b := fun e => own_not_type ho hg (by decide) (by rw [e]; rfl)
    obtain ⟨es, cl, hmm⟩ := hm.is_map
    have hmb : mb ≠ b := fun e => own_not_map ho hmm (by rw [e]; rfl)
    refine ⟨⟨_, mb, (Below.heap_setCell _ _ _ _ hbg).trans hg, h1, h2, ?_, hm.keep (keeps_set w ⟨b, i * 4 + 2, none⟩ _) hmb, hT⟩, (Below.refl _ _).setCell hb _⟩
    rw [nodeCells_word hT hi hs hW]
    exact s1.1

theorem addTo_words {l : List Txt} {b : Txt} {m : Nat} {q : Txt} (h : q ∉ addTo (paths l) b m) : place l q = -1 := by
  refine place_none (fun hm => h ?_)
  obtain ⟨x, hx⟩ := addTo_mono (paths l) b m
  rw [hx]
  exact List.mem_append_left _ (text_mem_paths hm)
theorem place_nat {P : List Txt} {s : Txt} (h : s ∈ P) : ∃ a : Nat, place P s = (a : Int) ∧ P[a]? = some s := by
  have h1 := place_mem.2 h
  refine ⟨(place P s).toNat, by omega, place_get h⟩
theorem take_snoc_b (b : Txt) (m : Nat) (h : m < b.length) : b.take (m + 1) = b.take m ++ [b.getD m 0] := by
  rw [List.take_succ_eq_append_getElem h]; simp [h]

set_option maxRecDepth 100000 in
set_option maxHeartbeats 1600000 in
theorem build_calls (w : World) (A : Option Addr) (c : Nat) (l : List Txt) (htx : Txts w A l) (hl : tot l ≤ 900000) (hll : l.length ≤ 1000000) :
    Calls Try.prog 26 #[.slice A l.length c] w (RetTrie w (paths l) (place l)) := by
  have HX := As.mk htx
  have h00 := As.mk (TrieAt.start w)
  obtain ⟨n, hn⟩ : ∃ n, l.length = n := ⟨_, rfl⟩
  rw [hn] at hll
  rw [hn]
  have hn := As.mk hn
  have HL := As.mk hl
  have htot := As.mk (fun k h => tot_take l k h)
  have hpl := As.mk (fun k => paths_len (l.take k))
  clear htx hl
  generalize hB : w.heap.size = B at *
  have hst : As (∀ k, k < n → l.take (k + 1) = l.take k ++ [l.getD k []]) := ⟨fun k h => take_snoc_txt l k (by rw [hn.out]; exact h)⟩
  have hmm := @run_makeMap Try.prog
  go_enter Try.func26, Try.ntmps26
  go_wp2
  go_loopw [16] (fun i wr => ∃ k : Nat, k ≤ n ∧ i = .int .i64 k ∧ As (TrieAt wr B (B + 2) (paths (l.take k)) (place (l.take k))) ∧ As (Below B w wr)) (fun i _ => n - (intOf i).toNat)
  case atStart =>
    refine ⟨0, Nat.zero_le _, rfl, ⟨?_⟩, ⟨?_⟩⟩
    · have hp0 : place [] = fun _ => -1 := by funext x; rfl
      have hp1 : paths [] = [[]] := rfl
      rw [List.take_zero, hp0, hp1]
      simpa using h00.out
    · exact (((Below.refl _ _).alloc (by omega) _).alloc (by simp; omega) _).alloc (by simp; omega) _
  case round =>
    obtain ⟨k, hk, rfl, hta, hbel⟩ := hrel
    by_cases hlt : k < n
    · obtain ⟨b, hb⟩ : ∃ b, l.getD k [] = b := ⟨_, rfl⟩
      have hT0 := As.mk hta.out.tree
      obtain ⟨ad, A', c', rfl, a1, hc', hbyt⟩ := HX.out.at_ (i := k) (by rw [hn.out]; exact hlt)
      replace a1 := (hbel.out.cell (p := ad.add k) (by have := World.block_lt_of_cell? w _ a1; omega)).trans a1
      rw [hb] at a1 hc' hbyt
      have hLk : As ((l.take k).length = k) := ⟨by rw [List.length_take, hn.out]; omega⟩
      have hbyt := As.mk hbyt
      have hbl : b.length + tot (l.take k) ≤ 900000 := by
        have h1 := htot.out k (by rw [hn.out]; exact hlt)
        rw [hb] at h1
        have := HL.out
        omega
      have hPl := hpl.out k
      have hnext : As (l.take (k + 1) = l.take k ++ [b]) := ⟨by rw [hst.out k hlt, hb]⟩
      generalize hL : l.take k = L at *
      have hlen : As (∀ m, m ≤ b.length → (addTo (paths L) b m).length ≤ 900001) := ⟨fun m hm => by have := addTo_len (paths L) b m; omega⟩
      have hsp : As (∀ m, m ≤ b.length → Tree (addTo (paths L) b m) ∧ b.take m ∈ addTo (paths L) b m) := ⟨fun m hm => ⟨(addTo_spec hT0.out b m hm).1, (addTo_spec hT0.out b m hm).2.1⟩⟩
      have hstart : As ((0 : Int) = place (addTo (paths L) b 0) (b.take 0)) := ⟨by rw [List.take_zero]; exact (place_at hT0.out.nodup hT0.out.root).symm⟩
      obtain ⟨bl, hbL⟩ : ∃ bl, b.length = bl := ⟨_, rfl⟩
      rw [hbL] at a1 hc' hbl hlen hsp
      have hbL := As.mk hbL
      clear hPl hpl htot
      go_wp2
      go_loopw [6, 23] (fun at_ j wr2 => ∃ (m : Nat) (r : Int), m ≤ bl ∧ j = .int .i64 m ∧ at_ = .int .i64 r ∧ As (r = place (addTo (paths L) b m) (b.take m)) ∧ As (TrieAt wr2 B (B + 2) (addTo (paths L) b m) (place L)) ∧ As (Below B w wr2)) (fun _ j _ => bl - (intOf j).toNat)
      case atStart => exact ⟨0, 0, Nat.zero_le _, rfl, rfl, hstart, hta, hbel⟩
      case round =>
        obtain ⟨m, r, hm, rfl, rfl, hr, hta2, hbel2⟩ := hrel
        by_cases hmlt : m < bl
        · obtain ⟨ad2, rfl, a2⟩ := Byt.at_ (Row.below hbyt.out (hB.symm ▸ hbel2.out)) (i := m) (by rw [hbL.out]; exact hmlt)
          obtain ⟨x, hx⟩ : ∃ x, b.getD m 0 = x := ⟨_, rfl⟩
          rw [hx] at a2
          obtain ⟨a, ha1, ha2⟩ := place_nat (hsp.out m hm).2
          rw [← hr.out] at ha1
          subst ha1
          have hg := grow_calls wr B (B + 2) _ _ a (b.take m) x hta2.out ha2 (by have := hlen.out m hm; omega) (by rw [List.length_take, hbL.out]; omega) (fun h => addTo_words h)
          have htk : b.take m ++ [x] = b.take (m + 1) := by rw [← hx]; exact (take_snoc_b b m (by rw [hbL.out]; exact hmlt)).symm
          rw [htk] at hg
          replace hg := As.mk hg
          clear htk ha2
          go_wp2_with (go_at_call 38; refine hg.out.mono ?_; rintro e w' ⟨rfl, ht3, hb3⟩)
          go_roundw
          case rel => exact ⟨m + 1, _, by omega, by go_num, rfl, ⟨rfl⟩, ⟨ht3⟩, ⟨hbel2.out.trans hb3⟩⟩
          case measure => simp [intOf]; omega
        · obtain rfl : m = bl := by omega
          have htb : b.take m = b := List.take_of_length_le (by rw [hbL.out]; omega)
          obtain ⟨a, ha1, ha2⟩ := place_nat (hsp.out m hm).2
          rw [← hr.out] at ha1
          subst ha1
          rw [htb] at ha2
          have hpp : addTo (paths L) b m = paths (L ++ [b]) := by rw [paths_snoc]; unfold addText; rw [hbL.out]
          have ha3 := (List.getElem?_eq_some_iff.1 ha2).1
          have hPL := hlen.out m hm
          rw [hpp] at ha2 ha3 hPL
          have hta3 := hta2.out
          rw [hpp] at hta3
          replace hta3 := As.mk hta3
          obtain ⟨bb, cp, c0, hcp, hcell, hwr⟩ := hta3.out.write
          obtain ⟨d0, f0⟩ := hcell a b ha2
          generalize hQ : paths (L ++ [b]) = Q at *
          clear hcell hpp htb hta2 hlen hsp hstart
          by_cases hin : b ∈ L
          · have hge := place_mem.2 hin
            have hsame : place (L ++ [b]) = place L := by
              funext p
              rw [place_snoc]
              by_cases hp : p ∈ L
              · rw [if_pos hp]
              · rw [if_neg hp, if_neg (fun e : b = p => hp (e ▸ hin)), place_none hp]
            have hfin : As (TrieAt wr B (B + 2) (paths (l.take (k + 1))) (place (l.take (k + 1)))) := ⟨by rw [hnext.out, hsame, hQ]; exact hta3.out⟩
            clear hsame hwr hin
            generalize place L b = y at *
            go_wp2
            go_roundw
            case rel => exact ⟨k + 1, by omega, by go_num, hfin, hbel2⟩
            case measure => simp [intOf]; omega
          · have hy := place_none hin
            have hw2 := hwr a b (k : Int) (place (L ++ [b])) ha2 (by rw [place_snoc, if_neg hin, if_pos rfl, hLk.out]) (fun p hp => by
              rw [place_snoc]
              by_cases hp2 : p ∈ L
              · rw [if_pos hp2]
              · rw [if_neg hp2, if_neg (fun e => hp e.symm), place_none hp2])
            have hfin : As (TrieAt (wr.setCell ⟨bb, a * 4 + 2, none⟩ (.int .i64 (k : Int))) B (B + 2) (paths (l.take (k + 1))) (place (l.take (k + 1)))) := ⟨by rw [hnext.out, hQ]; exact hw2.1⟩
            have hbel3 := As.mk (hbel2.out.trans hw2.2)
            rw [hy] at d0
            clear hw2 hwr hin hy
            go_wp2
            go_roundw
            case rel => exact ⟨k + 1, by omega, by go_num, hfin, hbel3⟩
            case measure => simp [intOf]; omega
    · obtain rfl : k = n := by omega
      have hfin : As (TrieAt wr B (B + 2) (paths l) (place l)) := ⟨by
        have := hta.out
        rw [← hn.out, List.take_length] at this
        exact this⟩
      go_wp2
      go_ret
      exact ⟨B + 2, rfl, hB.symm ▸ hfin.out, hB.symm ▸ hbel.out⟩
end Go.Proofs.Ytieelnpfpfiboaa
end
section
/- What an argument of a law reads as: slices of byte texts, with the reach. -/
set_option linter.unusedVariables false
set_option linter.unusedSimpArgs false
namespace Go.Proofs.Ytieelnpfpfiboaa
open Go.ChangeShapes Go.WideShapes Go.Deep Go.RowKit Seine.Trie

theorem u8_of {n : Int} (h : (Lit.int .u8 n).wf = true) : ((UInt8.ofNat n.toNat).toNat : Int) = n := by
  simp only [Lit.wf, IntKind.min, IntKind.max, IntKind.signed, IntKind.bits, Bool.and_eq_true, decide_eq_true_eq] at h
  have h1 : n.toNat < 256 := by simp at h; omega
  simp only [UInt8.toNat_ofNat']
  have h0 : 0 ≤ n := by simp at h; omega
  omega
section
variable {H : Type} {enc : TypeId × Value → H} {w : World} {base : Nat}
set_option maxRecDepth 100000 in
theorem arg_bytes2 {t e q : TypeId} (ht : Try.prog.underlying t = some (.slice e)) (he : Try.prog.underlying e = some (.slice q)) (hq : Try.prog.underlying q = some (.int .u8)) (ce : Try.prog.cellsOf e = 1) (cq : Try.prog.cellsOf q = 1) (hB : Try.prog.bytesOf e = 24)
    {ts : List TypeId} {ds : List (DataW H)} {j : Nat} (hsz : (DataW.weightsEach Try.prog ts ds).all (· ≤ reachBytes) = true) {v : Value} {d : DataW H} {p : List MemPlace} (hts : ts[j]? = some t) (hds : ds[j]? = some d)
    (hv : Value.okWide Try.prog w .any base t v) (h : DataW.Trod enc Try.prog w 0 (fun _ => true) true t v d p) :
    ∃ (A : Option Addr) (c : Nat) (l : List Txt), v = .slice A l.length c ∧ Txts w A l ∧ l.length ≤ c ∧ c * 24 ≤ 140737488351232 ∧ ∀ x ∈ l, x.length ≤ maxLen := by
  obtain ⟨a0, len, cap, rfl⟩ := okWide_slice ht hv
  obtain ⟨fuel, hf⟩ := h
  rcases open_int_rows ht he hq ce cq hf with ⟨hcs, _⟩ | ⟨a, ln, cp, A, L, C, Z, hcs, _, hl, hm, hx, hr⟩
  · simp [Value.cells] at hcs
    obtain ⟨rfl, rfl, rfl⟩ := hcs
    exact ⟨none, 0, [], rfl, ⟨[], rfl, .inl rfl, fun i hi => by simp at hi⟩, Nat.le_refl _, by omega, by simp⟩
  · simp [Value.cells] at hcs
    obtain ⟨rfl, rfl, rfl⟩ := hcs
    obtain ⟨hx, _⟩ := Prod.mk.inj hx
    subst hx
    have z := sized_slice hsz hts hds ht
    rw [hB] at z
    simp only [List.length_map, List.length_range, reachBytes] at z
    have hz : (len + (cap - len)) * 24 ≤ 140737488351232 := z
    let tx : Nat → Txt := fun r => ((Z r).take (L r)).map fun n => UInt8.ofNat n.toNat
    have txl : ∀ r, r < cap → (tx r).length = L r := fun r h => by
      obtain ⟨_, h1, _, h2, _⟩ := hr r h
      simp only [tx, List.length_map, List.length_take]
      omega
    have hg : ∀ i, i < len → ((List.range len).map tx).getD i [] = tx i := fun i hi => by
      rw [List.getD_eq_getElem?_getD, List.getElem?_map, List.getElem?_range hi]; rfl
    refine ⟨some a, cap, (List.range len).map tx, by simp, ⟨(List.range len).map (fun r => .slice (A r) (L r) (C r)), by simp, row_of_cells (fun _ => ⟨a, rfl, fun j u hu => ?_⟩), fun i hi => ?_⟩, by simp; omega, by omega, fun x hx => ?_⟩
    · rw [List.getElem?_map, Option.map_eq_some_iff] at hu
      obtain ⟨y, hy, rfl⟩ := hu
      obtain ⟨hjl, hy⟩ := List.getElem?_eq_some_iff.1 hy
      simp at hjl hy
      subst hy
      exact (hr j (by omega)).1
    · have hil : i < len := by simpa using hi
      obtain ⟨h1, h2, h3, h4, h5, h6, h7⟩ := hr i (by omega)
      rw [hg i hil, txl i (by omega)]
      refine ⟨A i, C i, by rw [List.getElem?_map, List.getElem?_range hil]; rfl, h2, row_of_cells (fun h0 => ?_)⟩
      rw [byCells_length, txl i (by omega)] at h0
      cases hA : A i with
      | none => have := h6 hA; omega
      | some a' =>
        refine ⟨a', rfl, fun j u hu => ?_⟩
        obtain ⟨_, h8⟩ := h7 a' hA
        unfold byCells at hu
        rw [List.getElem?_map, Option.map_eq_some_iff] at hu
        obtain ⟨y, hy, rfl⟩ := hu
        simp only [tx] at hy
        rw [List.getElem?_map, Option.map_eq_some_iff] at hy
        obtain ⟨n, hn, rfl⟩ := hy
        have hj : j < L i := by
          have := (List.getElem?_eq_some_iff.1 hn).1
          rw [List.length_take] at this; omega
        rw [List.getElem?_take_of_lt hj] at hn
        rw [h8 j (by omega), List.getD_eq_getElem?_getD, hn, u8_of (h5 n (List.mem_of_getElem? hn))]
        rfl
    · obtain ⟨r, hr1, rfl⟩ := List.mem_map.1 hx
      have hrl := List.mem_range.1 hr1
      rw [txl r (by omega)]
      obtain ⟨_, h2, h3, _⟩ := hr r (by omega)
      omega
end
end Go.Proofs.Ytieelnpfpfiboaa
end
section
/- What an argument of a law reads as: a slice of bytes. -/
set_option linter.unusedVariables false
set_option linter.unusedSimpArgs false
set_option maxRecDepth 100000
namespace Go.Proofs.Ytieelnpfpfiboaa
open Go.ChangeShapes Go.WideShapes Go.Deep Go.RowKit Seine.Trie

theorem u8_in {n : Int} (h : (Lit.int .u8 n).wf = true) : ((UInt8.ofNat n.toNat).toNat : Int) = n := by
  simp only [Lit.wf, IntKind.min, IntKind.max, IntKind.signed, IntKind.bits, Bool.and_eq_true, decide_eq_true_eq] at h
  have h1 : n.toNat < 256 := by simp at h; omega
  simp only [UInt8.toNat_ofNat']
  have h0 : 0 ≤ n := by simp at h; omega
  omega
theorem arg_bytes {H : Type} {enc : TypeId × Value → H} {w : World} {base : Nat} {v : Value} {d : DataW H} {p : List MemPlace}
    (hv : Value.okWide Try.prog w .any base 23 v) (h : DataW.Trod enc Try.prog w 0 (fun _ => true) true 23 v d p) :
    ∃ (A : Option Addr) (c : Nat) (b : Txt), v = .slice A b.length c ∧ Byt w A b ∧ b.length ≤ c ∧ c ≤ maxLen ∧ True := by
  obtain ⟨A, c, xs, rfl, hr, h1, h2, h3⟩ := arg_ints Try.underlying23 Try.underlying5 (by kernel_rfl) hv h
  refine ⟨A, c, xs.map fun n => UInt8.ofNat n.toNat, by rw [List.length_map], ?_, by rw [List.length_map]; exact h1, h2, trivial⟩
  have : byCells (xs.map fun n => UInt8.ofNat n.toNat) = xs.map (Value.int .u8) := by
    unfold byCells
    rw [List.map_map]
    refine List.map_congr_left fun n hn => ?_
    show Value.int .u8 ((UInt8.ofNat n.toNat).toNat : Int) = _
    rw [u8_in (h3 n hn)]
  unfold Byt
  rw [this]
  exact hr
end Go.Proofs.Ytieelnpfpfiboaa
end
section
/- append of a slice's elements, whatever row they are. -/
set_option linter.unusedVariables false
namespace Go.Proofs.Ytieelnpfpfiboaa
open Go.RowKit
theorem wpList_app0 {P : Program} {ops : Array Oper} {rest : List Oper} {o : Oper} {a : Act} {Q : Exit → Act → World → Prop} (w : World) (hgd : o.guard = none) (s x : Operand) (t : TypeId)
    (ho : o.op = .call { callee := .builtin .append, args := #[s, x], argTypes := #[t, t] })
    (e : TypeId) (i : TypeInfo) (ht : P.underlying t = some (.slice e)) (hi : P.info? e = some i)
    (A B : Option Addr) (n c d : Nat) (hs : a.eval s = .slice A n c) (hn : n ≤ c) (hx : a.eval x = .slice B 0 d)
    (h : wpList P ops Q rest (a.put o.dst (.slice A n c)) w) :
    wpList P ops Q (o :: rest) a w := by
  refine wpList_plain hgd fun K hK => ?_
  have hr : (Builtin.append_ #[t, t] o.type #[.slice A n c, .slice B 0 d]).run P w = .ok (.slice A n c) w := by
    have hfc : (Builtin.firstCells i.size 0 (.slice B 0 d)).run P w = .ok #[] w := by
      cases B with
      | none => rfl
      | some b => exact run_firstCells_some (P := P) w i.size 0 b 0 d [] (by simp) (by simp)
    cases A <;> simp [Builtin.append_, run_underlying ht, sizeOf, typeInfo, hi, Builtin.lenOf, hn, hfc, storeCells]
  unfold Oper.wp execOp
  simp only [ho, resolve, invoke, builtin, Sem.run_bind, Sem.run_pure, Result.andThen_ok, List.map_toArray, List.map_cons, List.map_nil, hs, hx, hr]
  exact hK _ _ h
theorem wpList_apps {P : Program} {ops : Array Oper} {rest : List Oper} {o : Oper} {a : Act} {Q : Exit → Act → World → Prop} (w : World) (hgd : o.guard = none) (s x : Operand) (t : TypeId)
    (ho : o.op = .call { callee := .builtin .append, args := #[s, x], argTypes := #[t, t] })
    (base : Nat) (e : TypeId) (z : Value) (size bytes : Nat) (ht : P.underlying t = some (.slice e)) (hi : (P.info? e).map (fun i => (i.zero, i.size, i.bytes)) = some (some z, size, bytes))
    (hzs : z.cells.size = size) (hsz : 0 < size)
    (v : Value) (n : Nat) (xs : List Value) (hs : a.eval s = v) (hown : w.ownsRow base e size v n xs)
    (A : Option Addr) (m c : Nat) (cs : List Value) (hrow : Row w A cs) (hl : cs.length = m * size) (h1 : ∀ u ∈ cs, u.oneCell' = true) (hx : a.eval x = .slice A m c)
    (hlen : n + m ≤ 1000000000000) (hby : bytes ≤ 100) (hbase : base ≤ w.heap.size)
    (h : ∀ v' w', w'.ownsRow base e size v' (n + m) (xs ++ cs) → Below base w w' → wpList P ops Q rest (a.put o.dst v') w') :
    wpList P ops Q (o :: rest) a w := by
  obtain ⟨i, hi, hz, hsize, hbytes⟩ := info_parts hi
  rcases hrow with rfl | ⟨ad, rfl, hlt, hc⟩
  · obtain rfl : m = 0 := by
      have hl : 0 = m * size := by simpa using hl
      rcases Nat.mul_eq_zero.1 hl.symm with h | h
      · exact h
      · omega
    obtain ⟨A0, c0, rfl, hc0⟩ := own_slice hown
    refine wpList_app0 w hgd s x t ho e i ht hi A0 A n c0 c hs hc0 hx ?_
    exact h _ _ (by simpa using hown) (Below.refl _ _)
  · refine wpList_append_own_at w hgd s x t ho base e i z size bytes ht hi hz hsize hbytes hzs hsz v n xs hs hown ad m c cs hx hl hc h1
      (by simp only [maxLen]; omega) ?_ hbase ?_
    · have : (n + m) * bytes ≤ (n + m) * 100 := Nat.mul_le_mul_left _ hby
      omega
    · intro v' w' h2 h3 _ h5
      refine h v' w' h2 ((Below.refl base w).grown h3 hbase (fun k hk => ?_))
      rcases hown.2 with ⟨rfl, _⟩ | ⟨g, cap, cur, rfl, hg, _⟩
      · simp [Value.ownBlock] at hk
      · simp [Value.ownBlock] at hk; omega
end Go.Proofs.Ytieelnpfpfiboaa
end
section
/- The walks of package meter: what counts, a text that is scanned. -/
set_option linter.unusedVariables false
set_option linter.unusedSimpArgs false
namespace Go.Proofs.Ytieelnpfpfiboaa
open Go.RowKit Seine.Trie
/-- How often what was done. -/
structure Cn where
  s : Int
  l : Int
  h : Int
  m : Int
def Cn.zero : Cn := ⟨0, 0, 0, 0⟩
def Cn.ok (c : Cn) : Prop := 0 ≤ c.s ∧ c.s ≤ 1000000000000 ∧ 0 ≤ c.l ∧ c.l ≤ 1000000000000 ∧ 0 ≤ c.h ∧ c.h ≤ 1000000000000 ∧ 0 ≤ c.m ∧ c.m ≤ 1000000000000
def cnCells (c : Cn) : Array Value := #[.int .i64 c.s, .int .i64 c.l, .int .i64 c.h, .int .i64 c.m]
/-- Block g counts c. -/
def MtAt (w : World) (g : Nat) (c : Cn) : Prop := w.heap[g]? = some (.cells (cnCells c) 56 (0, 0))
/-- The meter, if there is one, counts c. -/
def Mo (w : World) (mo : Option Nat) (c : Cn) : Prop := ∀ g, mo = some g → MtAt w g c
def madr (mo : Option Nat) : Option Addr := mo.map fun g => ⟨g, 0, none⟩
def OnlyM (mo : Option Nat) (k : Nat) : Prop := mo = some k
theorem MtAt.below {w w' : World} {g : Nat} {c : Cn} (h : MtAt w g c) (hb : Below w.heap.size w w') : MtAt w' g c := (hb.block g (block_lt h)).trans h
theorem Mo.below {w w' : World} {mo : Option Nat} {c : Cn} (h : Mo w mo c) (hb : Below w.heap.size w w') : Mo w' mo c := fun g e => (h g e).below hb
theorem Mo.none_ (w : World) (c : Cn) : Mo w none c := fun g e => by cases e
theorem Mo.some_ {w : World} {g : Nat} {c : Cn} (h : MtAt w g c) : Mo w (some g) c := fun g' e => by injection e with e; subst e; exact h
/-- A block of another make is not the meter's. -/
theorem Mo.far {w : World} {mo : Option Nat} {c : Cn} (h : Mo w mo c) {b t : Nat} {cs : Array Value} {fr : Nat × Nat} (hb : w.heap[b]? = some (.cells cs t fr)) (hs : cs.size ≠ 4 ∨ t ≠ 56) : ¬ OnlyM mo b := fun e => by
  have := h b e
  unfold MtAt at this
  rw [hb] at this
  injection this with this
  injection this with e1 e2
  rcases hs with hs | hs
  · exact hs (by rw [e1]; rfl)
  · exact hs e2
theorem Mo.farMap {w : World} {mo : Option Nat} {c : Cn} (h : Mo w mo c) {b : Nat} {es : Array MapEntry} {cl : Nat} (hb : w.heap[b]? = some (.map es cl)) : ¬ OnlyM mo b := fun e => by
  have := h b e
  unfold MtAt at this
  rw [hb] at this
  injection this with this
  cases this
abbrev zeroCounts : Obj := .cells #[.int .i64 0, .int .i64 0, .int .i64 0, .int .i64 0] 38
theorem mcount_none (w : World) : Calls Try.prog 49 #[.pointer none] w fun e w' => e = .returned (.pointer (some ⟨w.heap.size, 0, none⟩)) ∧ w.alloc (.cells #[.int .i64 0, .int .i64 0, .int .i64 0, .int .i64 0] 38) = w' := by
  go_enter Try.func49, Try.ntmps49
  go_wp2
  go_ret
  exact ⟨rfl, rfl⟩
theorem mcount_some (w : World) (g : Nat) : Calls Try.prog 49 #[.pointer (some ⟨g, 0, none⟩)] w fun e w' => e = .returned (.pointer (some ⟨g, 0, none⟩)) ∧ w = w' := by
  go_enter Try.func49, Try.ntmps49
  go_wp2
  go_ret
  exact ⟨rfl, rfl⟩
theorem mnew_calls (w : World) : Calls Try.prog 12 #[] w fun e w' => e = .returned (.pointer (some ⟨w.heap.size, 0, none⟩)) ∧ MtAt w' w.heap.size Cn.zero ∧ Below w.heap.size w w' := by
  go_enter Try.func12, Try.ntmps12
  go_wp2
  go_ret
  exact ⟨rfl, heap_alloc_new _ _, (Below.refl _ _).alloc (Nat.le_refl _) _⟩
theorem mcounts_calls (w : World) (g : Nat) (c : Cn) (h : MtAt w g c) : Calls Try.prog 17 #[.pointer (some ⟨g, 0, none⟩)] w fun e w' => e = .returned (.agg (cnCells c)) ∧ Below w.heap.size w w' := by
  have c0 : w.cell? ⟨g, 0, none⟩ = some (.int .i64 c.s) := cell_of_blk h 0
  have c1 : w.cell? ⟨g, 1, none⟩ = some (.int .i64 c.l) := cell_of_blk h 1
  have c2 : w.cell? ⟨g, 2, none⟩ = some (.int .i64 c.h) := cell_of_blk h 2
  have c3 : w.cell? ⟨g, 3, none⟩ = some (.int .i64 c.m) := cell_of_blk h 3
  have hlt := block_lt h
  obtain ⟨s, l, hh, m⟩ := c
  have hb : Below w.heap.size w (w.alloc (.cells #[.int .i64 s, .int .i64 l, .int .i64 hh, .int .i64 m] 38)) := (Below.refl _ _).alloc (Nat.le_refl _) _
  simp only at c0 c1 c2 c3
  have d0 := cell_of_blk (heap_alloc_new w (.cells #[.int .i64 s, .int .i64 l, .int .i64 hh, .int .i64 m] 38)) 0
  have d1 := cell_of_blk (heap_alloc_new w (.cells #[.int .i64 s, .int .i64 l, .int .i64 hh, .int .i64 m] 38)) 1
  have d2 := cell_of_blk (heap_alloc_new w (.cells #[.int .i64 s, .int .i64 l, .int .i64 hh, .int .i64 m] 38)) 2
  have d3 := cell_of_blk (heap_alloc_new w (.cells #[.int .i64 s, .int .i64 l, .int .i64 hh, .int .i64 m] 38)) 3
  simp at d0 d1 d2 d3
  clear h
  go_enter Try.func17, Try.ntmps17
  go_wp2
  refine bodyPost_ret (v := .agg (cnCells ⟨s, l, hh, m⟩)) (by simp [results, Try.results17, go_sem, d0, d1, d2, d3, cnCells]) rfl ⟨rfl, hb⟩
theorem RetByt.rowg {w w' : World} {b : Txt} {e : Ending} (h : RetByt w b e w') : ∃ A c, e = .returned (.slice A b.length c) ∧ b.length ≤ c ∧ Byt w' A b ∧ (∀ ad, A = some ad → w.heap.size ≤ ad.block) ∧ Below w.heap.size w w' := by
  obtain ⟨v, rfl, ho, hb⟩ := h
  obtain ⟨A, c, rfl, hc, hr⟩ := ho.row
  refine ⟨A, c, rfl, hc, hr, fun ad e => ?_, hb⟩
  rcases own_addr ho with e' | ⟨g, e', hg⟩
  · rw [e] at e'; cases e'
  · rw [e] at e'
    injection e' with e'
    subst e'
    exact hg
/-- A text that is scanned through a meter. -/
def TextAt (w : World) (tb : Nat) (mo : Option Nat) (b : Txt) : Prop :=
  ∃ A c, w.heap[tb]? = some (.cells #[.pointer (madr mo), .slice A b.length c] 90 (0, 0)) ∧ Byt w A b ∧ ∀ ad, A = some ad → ¬ OnlyM mo ad.block
theorem TextAt.below {w w' : World} {tb : Nat} {mo : Option Nat} {b : Txt} (h : TextAt w tb mo b) (hb : Below w.heap.size w w') : TextAt w' tb mo b := by
  obtain ⟨A, c, h1, h2, h3⟩ := h
  exact ⟨A, c, (hb.block tb (block_lt h1)).trans h1, Row.below h2 hb, h3⟩
theorem TextAt.keep {w w' : World} {tb : Nat} {mo : Option Nat} {b : Txt} {c : Cn} (h : TextAt w tb mo b) (hm : Mo w mo c) (hk : Keeps (OnlyM mo) w w') : TextAt w' tb mo b := by
  obtain ⟨A, d, h1, h2, h3⟩ := h
  exact ⟨A, d, blk_keep h1 hk (hm.far h1 (.inl (by simp))), Row.keep h2 hk (fun ad e _ => h3 ad e), h3⟩
theorem cloneByt2_calls (w : World) (A : Option Addr) (c : Nat) (b : Txt) (h : Byt w A b) (hl : b.length ≤ 1000000) :
    Calls Try.prog 45 #[.slice A b.length c] w (RetByt w b) := by
  obtain ⟨n, hn⟩ : ∃ n, b.length = n := ⟨_, rfl⟩
  rw [hn] at hl ⊢
  replace hn := As.mk hn
  have H := As.mk h
  clear h
  cases A with
  | none =>
    have hl0 : b = [] := by
      rcases H.out with h | ⟨ad, e, _⟩
      · have := congrArg List.length h; rw [byCells_length] at this; exact List.eq_nil_of_length_eq_zero (by rw [List.length_nil] at this; omega)
      · cases e
    subst hl0
    have hnil : ∀ (w : World) (n c : Nat), (binOp .eql 23 (.slice none n c) (.slice none 0 0)).run Try.prog w = .ok (.bool true) w := fun w n c => Lib.run_eql_slice_nil w _ _ none n c 0 0 Try.underlying23
    go_enter Try.func45, Try.ntmps45
    go_wp2
    go_ret
    exact ⟨_, rfl, World.ownsRow_nil _ _ _ _, Below.refl _ _⟩
  | some ad =>
    have hown : As ((w.alloc (.cells #[] 5)).ownsRow w.heap.size 5 1 (.slice (some ⟨w.heap.size, 0, none⟩) 0 0) 0 []) := ⟨⟨rfl, .inr ⟨_, 0, #[], rfl, Nat.le_refl _, heap_alloc_new w _, Nat.le_refl _, Nat.zero_le _, rfl, rfl⟩⟩⟩
    have hrow := As.mk (Row.alloc H.out (.cells #[] 5))
    have hnl : As ((byCells b).length = n * 1) := ⟨by rw [byCells_length, hn.out, Nat.mul_one]⟩
    have hnil : ∀ (w : World) (a : Addr) (n c : Nat), (binOp .eql 23 (.slice (some a) n c) (.slice none 0 0)).run Try.prog w = .ok (.bool false) w := fun w a n c => Lib.run_eql_slice_nil w _ _ (some a) n c 0 0 Try.underlying23
    go_enter Try.func45, Try.ntmps45
    go_wp2_with (at_builtin
                 refine wpList_apps _ rfl (.tmp 5) (.tmp 6) 23 rfl w.heap.size 5 _ 1 1 Try.underlying23 info_u8 rfl (by decide) _ 0 [] rfl hown.out (some ad) n c (byCells b) hrow.out hnl.out byt_one2 rfl (by omega) (by decide) (by simp) ?_
                 intro v' w' h2 h3)
    go_ret
    exact ⟨v', rfl, by unfold OwnByt; rw [hn.out]; simpa using h2, ((Below.refl _ _).alloc (Nat.le_refl _) _).trans h3⟩
theorem mtext_calls (w : World) (mo : Option Nat) (cn : Cn) (hm : Mo w mo cn) (A : Option Addr) (c : Nat) (b : Txt) (h : Byt w A b) (hl : b.length ≤ 1000000) :
    Calls Try.prog 31 #[.pointer (madr mo), .slice A b.length c] w fun e w' => ∃ tb, e = .returned (.pointer (some ⟨tb, 0, none⟩)) ∧ TextAt w' tb mo b ∧ Below w.heap.size w w' := by
  have cc := As.mk (cloneByt2_calls w A c b h hl)
  have hmo := As.mk hm
  clear h hm
  go_enter Try.func31, Try.ntmps31
  go_wp2_with (go_at_call 45; refine Calls.mono cc.out ?_; intro e w1 h1; obtain ⟨A1, c1, he, hc1, hr1, hg1, hb⟩ := h1.rowg; subst he)
  go_ret
  refine ⟨_, rfl, ⟨A1, c1, heap_alloc_new _ _, Row.alloc hr1 _, fun ad e hk => ?_⟩, hb.alloc hb.size _⟩
  have h1 := block_lt (hmo.out _ hk)
  have h2 := hg1 ad e
  omega
theorem mlen_calls (w : World) (tb : Nat) (mo : Option Nat) (b : Txt) (h : TextAt w tb mo b) : Calls Try.prog 33 #[.pointer (some ⟨tb, 0, none⟩)] w fun e w' => e = .returned (.int .i64 (b.length : Int)) ∧ w = w' := by
  obtain ⟨A, c, h1, _, _⟩ := h
  have c1 : w.cell? ⟨tb, 1, none⟩ = some (.slice A b.length c) := cell_of_blk h1 1
  clear h1
  go_enter Try.func33, Try.ntmps33
  go_wp2
  go_ret
  exact ⟨rfl, rfl⟩
theorem mat_calls (w : World) (tb : Nat) (mo : Option Nat) (b : Txt) (h : TextAt w tb mo b) (cn : Cn) (hm : Mo w mo cn) (hok : cn.ok) (i : Nat) (hi : i < b.length) :
    Calls Try.prog 35 #[.pointer (some ⟨tb, 0, none⟩), .int .i64 (i : Int)] w fun e w' => e = .returned (.int .i64 ((b.getD i 0).toNat : Int)) ∧ Mo w' mo { cn with s := cn.s + 1 } ∧ Keeps (OnlyM mo) w w' := by
  have hlen := As.mk (mlen_calls w tb mo b h)
  have hk := As.mk (fun (w' : World) (k : Keeps (OnlyM mo) w w') => h.keep hm k)
  have hmo := As.mk hm
  obtain ⟨A, c, h1, h2, h3⟩ := h
  have c0 : w.cell? ⟨tb, 0, none⟩ = some (.pointer (madr mo)) := cell_of_blk h1 0
  have hlt := block_lt h1
  obtain ⟨s, l, hh, m⟩ := cn
  have hs1 : IntKind.i64.wrap (s + 1) = s + 1 := by have := hok.1; have := hok.2.1; simp only [IntKind.wrap, IntKind.signed, IntKind.bits] at *; simp; omega
  cases mo with
  | none =>
    have hB : Below w.heap.size w (w.alloc (.cells #[.int .i64 1, .int .i64 0, .int .i64 0, .int .i64 0] 38)) := (Below.refl _ _).alloc (Nat.le_refl _) _
    obtain ⟨ad, rfl, hc⟩ := Byt.at_ (Row.below h2 hB) hi
    have d1 := (hB.cell (p := ⟨tb, 1, none⟩) hlt).trans (cell_of_blk h1 1)
    unfold madr at c0
    simp only [Option.map_none, Option.map_some] at c0
    simp at d1
    generalize b.getD i 0 = x at *
    have hx : wrap64 (x.toNat : Int) = (x.toNat : Int) := by have := x.toNat_lt; unfold wrap64; omega
    generalize b.length = n at *
    clear h1 h2 h3 hk hmo hok
    go_enter Try.func35, Try.ntmps35
    go_wp2_with (first
      | (go_at_call 33; refine Calls.mono hlen.out ?_; rintro e w1 ⟨rfl, rfl⟩)
      | (go_at_call 49; refine Calls.mono (mcount_none _) ?_; rintro e w1 ⟨rfl, rfl⟩))
    go_ret
    exact ⟨ret_int hx, Mo.none_ _ _, Keeps.of_below hB _⟩
  | some g =>
    have hg := hmo.out g rfl
    have g0 : w.cell? ⟨g, 0, none⟩ = some (.int .i64 s) := cell_of_blk hg 0
    have f0 : w.frozen? ⟨g, 0, none⟩ = false := free_of_blk hg 0
    have hne : tb ≠ g := fun e => hmo.out.far h1 (.inl (by simp)) (by rw [e]; rfl)
    have hK : Keeps (OnlyM (some g)) w (w.setCell ⟨g, 0, none⟩ (.int .i64 (s + 1))) := (keepsSt w ⟨g, 0, none⟩ _).mono fun k _ e => by unfold OnlyM; exact congrArg some e.symm
    have hM : MtAt (w.setCell ⟨g, 0, none⟩ (.int .i64 (s + 1))) g ⟨s + 1, l, hh, m⟩ := by
      have := blk_set hg 0 (.int .i64 (s + 1))
      unfold MtAt
      rw [this]
      simp [cnCells]
    obtain ⟨A', c', k1, k2, _⟩ := hk.out _ hK
    have d1 : (w.setCell ⟨g, 0, none⟩ (.int .i64 (s + 1))).cell? ⟨tb, 1, none⟩ = some (.slice A' b.length c') := cell_of_blk k1 1
    obtain ⟨ad, rfl, hc⟩ := Byt.at_ k2 hi
    unfold madr at c0
    simp only [Option.map_none, Option.map_some] at c0
    generalize b.getD i 0 = x at *
    have hx : wrap64 (x.toNat : Int) = (x.toNat : Int) := by have := x.toNat_lt; unfold wrap64; omega
    generalize b.length = n at *
    replace hK := As.mk hK
    replace hM := As.mk hM
    clear h1 h2 h3 hk hmo hok k1 k2 hg
    go_enter Try.func35, Try.ntmps35
    go_wp2_with (first
      | (go_at_call 33; refine Calls.mono hlen.out ?_; rintro e w1 ⟨rfl, rfl⟩)
      | (go_at_call 49; refine Calls.mono (mcount_some _ _) ?_; rintro e w1 ⟨rfl, rfl⟩))
    go_ret
    exact ⟨ret_int hx, Mo.some_ hM.out, hK.out⟩
end Go.Proofs.Ytieelnpfpfiboaa
end
section
/- The walks of package meter: a table made of rows, a look into it. -/
set_option linter.unusedVariables false
set_option linter.unusedSimpArgs false
namespace Go.Proofs.Ytieelnpfpfiboaa
open Go.RowKit Go.Maps Seine.Trie
theorem medge_law : Keyed Try.prog 93 := Keyed.of_law (deep_law_laid laidOut' (m := 3) (by omega) (of_decide_eq_true (by kernel_rfl)) (by kernel_rfl) (by kernel_rfl))
theorem medge_key (a : Int) (c : UInt8) (h0 : -1000000000 ≤ a) (h1 : a ≤ 1000000000) : ∃ kl, keyOf Try.prog 93 (.agg #[.int .i64 a, .int .u8 (c.toNat : Int)]) = some kl := by
  have hc := c.toNat_lt
  have hs : Try.prog.types.size = (Try.prog.types.size - 1) + 1 := by decide +kernel
  have w1 : (Lit.int .i64 a).wf = true := by simp [Lit.wf, IntKind.min, IntKind.max, IntKind.signed, IntKind.bits]; omega
  have w2 : (Lit.int .u8 (c.toNat : Int)).wf = true := by simp [Lit.wf, IntKind.min, IntKind.max, IntKind.signed, IntKind.bits]; omega
  have hk : Try.prog.keyType 93 = true := by kernel_rfl
  have hf : (Value.agg #[.int .i64 a, .int .u8 (c.toNat : Int)]).formed Try.prog 93 = true := by
    simp only [Value.formed, Try.underlying93]; kernel_rfl
  unfold keyOf
  simp only [Try.underlying93, hk, hf, Bool.and_self, if_true]
  have h2 : Try.prog.keyLits (Try.prog.types.size + 1) 93 [.int .i64 a, .int .u8 (c.toNat : Int)] = some [.int .i64 a, .int .u8 (c.toNat : Int)] := by
    rw [hs]
    generalize Try.prog.types.size - 1 = n
    have c3 : Try.prog.cellsOf 3 = 1 := by kernel_rfl
    have c5 : Try.prog.cellsOf 5 = 1 := by kernel_rfl
    have c67 : Try.prog.cellsOf 93 = 2 := by kernel_rfl
    have k1 : Try.prog.keyLits (n + 1) 3 [.int .i64 a] = some [.int .i64 a] := by simp only [Program.keyLits, Try.underlying3, w1, and_self, if_true]
    have k2 : Try.prog.keyLits (n + 1) 5 [.int .u8 (c.toNat : Int)] = some [.int .u8 (c.toNat : Int)] := by simp only [Program.keyLits, Try.underlying5, w2, and_self, if_true]
    unfold Program.keyLits
    rw [Try.underlying93]
    simp [c67, c3, c5, k1, k2]
  simp only [Value.cells]
  show ∃ kl, Option.map _ (Try.prog.keyLits (Try.prog.types.size + 1) 93 [.int .i64 a, .int .u8 (c.toNat : Int)]) = some kl
  rw [h2]
  exact ⟨_, rfl⟩
theorem place_nat' {P : List Txt} {s : Txt} (h : s ∈ P) : ∃ a : Nat, place P s = (a : Int) ∧ P[a]? = some s := by
  have := place_mem.2 h
  exact ⟨(place P s).toNat, by omega, place_get h⟩
theorem last_split' {q : Txt} (h : q ≠ []) : q.dropLast ++ [lastB q] = q := by
  obtain ⟨m, x, rfl⟩ : ∃ m x, q = m ++ [x] := ⟨q.dropLast, q.getLast h, (List.dropLast_concat_getLast h).symm⟩
  simp [lastB]
/-- The edge by which a node is come to. -/
def rowKey (P : List Txt) (n : Nat) : Value := .agg #[.int .i64 (parent P (P.getD n [])), .int .u8 ((lastB (P.getD n [])).toNat : Int)]
def rowOf (P : List Txt) (n : Nat) : List Value := [.int .i64 (parent P (P.getD n [])), .int .u8 ((lastB (P.getD n [])).toNat : Int), .int .i64 (n : Int)]
def rowCells (P : List Txt) (k : Nat) : List Value := (List.range k).flatMap fun i => rowOf P (i + 1)
theorem rowCells_succ (P : List Txt) (k : Nat) : rowCells P (k + 1) = rowCells P k ++ rowOf P (k + 1) := by unfold rowCells; rw [List.range_succ, List.flatMap_append]; simp
theorem rowCells_length (P : List Txt) : ∀ k, (rowCells P k).length = k * 3
  | 0 => rfl
  | k + 1 => by rw [rowCells_succ, List.length_append, rowCells_length P k]; simp [rowOf]; omega
theorem rowCells_at (P : List Txt) : ∀ {k i : Nat}, i < k → ∀ j, j < 3 → (rowCells P k)[i * 3 + j]? = (rowOf P (i + 1))[j]?
  | 0, i, h, _, _ => by omega
  | k + 1, i, h, j, hj => by
    rw [rowCells_succ]
    rcases Nat.lt_or_ge i k with e | e
    · rw [List.getElem?_append_left (by rw [rowCells_length]; omega), rowCells_at P e j hj]
    · obtain rfl : i = k := by omega
      rw [List.getElem?_append_right (by rw [rowCells_length]; omega), rowCells_length, Nat.add_sub_cancel_left]
/-- What a map of the first k edges holds. -/
def EdgesTo (P : List Txt) (k : Nat) (f : Value → Option Int) : Prop := ∀ x v, f x = some v ↔ ∃ n, 1 ≤ n ∧ n ≤ k ∧ x = rowKey P n ∧ v = (n : Int)
theorem node_ne {P : List Txt} (hT : Tree P) {n : Nat} (h1 : 1 ≤ n) (h2 : n < P.length) : P.getD n [] ≠ [] := fun e => by
  have h3 := get_at h2
  rw [e] at h3
  have h4 := place_at hT.nodup h3
  rw [place_at hT.nodup hT.root] at h4
  omega
theorem parent_nat {P : List Txt} (hT : Tree P) {n : Nat} (h1 : 1 ≤ n) (h2 : n < P.length) : ∃ a : Nat, parent P (P.getD n []) = (a : Int) ∧ a < P.length ∧ P.getD a [] ++ [lastB (P.getD n [])] = P.getD n [] := by
  have hne := node_ne hT h1 h2
  have hm := hT.up _ (List.mem_of_getElem? (get_at h2)) hne
  obtain ⟨a, e, ha⟩ := place_nat' hm
  refine ⟨a, by unfold parent; rw [if_neg hne]; exact e, (List.getElem?_eq_some_iff.1 ha).1, ?_⟩
  have : P.getD a [] = (P.getD n []).dropLast := by rw [List.getD_eq_getElem?_getD, ha]; rfl
  rw [this, last_split' hne]
theorem edges_all {P : List Txt} (hT : Tree P) {f : Value → Option Int} (h : EdgesTo P (P.length - 1) f) : f = edgeF P := by
  funext x
  have key : ∀ v, f x = some v ↔ edgeF P x = some v := by
    intro v
    rw [h x v]
    constructor
    · rintro ⟨n, h1, h2, rfl, rfl⟩
      obtain ⟨a, e, ha, hq⟩ := parent_nat hT h1 (by omega)
      unfold rowKey
      rw [e, edgeF_at P a _ ha, hq, if_pos (List.mem_of_getElem? (get_at (by omega))), place_at hT.nodup (get_at (by omega))]
    · intro he
      unfold edgeF at he
      split at he
      · rename_i a c
        split at he
        · rename_i hc
          obtain ⟨h1, h2, h3, h4, h5⟩ := hc
          injection he with he
          obtain ⟨a, rfl⟩ := Int.eq_ofNat_of_zero_le h1
          obtain ⟨c, rfl⟩ := Int.eq_ofNat_of_zero_le h3
          simp only [Int.toNat_natCast] at he h5
          have hm := place_mem.1 h5
          obtain ⟨n, e1, e2⟩ := place_nat' hm
          have hg : P.getD n [] = P.getD a [] ++ [UInt8.ofNat c] := by rw [List.getD_eq_getElem?_getD, e2]; rfl
          have hn := (List.getElem?_eq_some_iff.1 e2).1
          refine ⟨n, ?_, by omega, ?_, by rw [← he, e1]⟩
          · rcases Nat.eq_zero_or_pos n with z | z
            · subst z
              rw [hT.root] at e2
              injection e2 with e2
              have := congrArg List.length e2
              simp at this
            · exact z
          · unfold rowKey parent lastB
            rw [hg, if_neg (by simp), List.dropLast_concat, List.getLast?_concat, place_at hT.nodup (get_at (by omega))]
            have : (UInt8.ofNat c).toNat = c := by simp; omega
            simp only [Option.getD_some, this]
        · cases he
      · cases he
  cases hf : f x with
  | none =>
    cases hg : edgeF P x with
    | none => rfl
    | some v => rw [(key v).2 hg] at hf; cases hf
  | some v => exact ((key v).1 hf).symm
theorem rowKey_inj {P : List Txt} (hT : Tree P) {n m : Nat} (h1 : 1 ≤ n) (h2 : n < P.length) (h3 : 1 ≤ m) (h4 : m < P.length) (h : rowKey P n = rowKey P m) : n = m := by
  unfold rowKey at h
  obtain ⟨a, ea, ha, hqa⟩ := parent_nat hT h1 h2
  obtain ⟨b, eb, hb, hqb⟩ := parent_nat hT h3 h4
  rw [ea, eb] at h
  simp only [Value.agg.injEq, Array.mk.injEq, List.cons.injEq, Value.int.injEq, and_true, true_and] at h
  obtain ⟨e1, e2⟩ := h
  have e1 : a = b := by omega
  have e2 : lastB (P.getD n []) = lastB (P.getD m []) := UInt8.toNat_inj.1 (by omega)
  subst e1
  have hnm : P.getD n [] = P.getD m [] := hqa.symm.trans (by rw [e2]; exact hqb)
  have p1 := place_at hT.nodup (get_at h2)
  have p2 := place_at hT.nodup (get_at h4)
  rw [hnm, p2] at p1
  omega
theorem EdgesTo.next {P : List Txt} (hT : Tree P) {k : Nat} (hk : k + 1 < P.length) {f f' : Value → Option Int} (h : EdgesTo P k f) (h1 : f' (rowKey P (k + 1)) = some ((k + 1 : Nat) : Int)) (h2 : ∀ x, x ≠ rowKey P (k + 1) → f' x = f x) : EdgesTo P (k + 1) f' := fun x v => by
  by_cases hx : x = rowKey P (k + 1)
  · subst hx
    rw [h1]
    constructor
    · intro e; injection e with e; exact ⟨k + 1, by omega, Nat.le_refl _, rfl, e.symm⟩
    · rintro ⟨n, a, b, e, rfl⟩
      rw [rowKey_inj hT (by omega) hk a (by omega) e]
  · rw [h2 x hx, h x v]
    constructor
    · rintro ⟨n, a, b, e, e'⟩; exact ⟨n, a, by omega, e, e'⟩
    · rintro ⟨n, a, b, e, e'⟩
      refine ⟨n, a, ?_, e, e'⟩
      rcases Nat.lt_or_ge k n with c | c
      · obtain rfl : n = k + 1 := by omega
        exact absurd e hx
      · exact c
/-- A table of a tree's edges. -/
def TabS (w : World) (eb : Nat) (mo : Option Nat) (P : List Txt) : Prop :=
  ∃ cb mb n, w.heap[eb]? = some (.cells #[.pointer (madr mo), .func (.func 46) #[] #[.pointer (some ⟨cb, 0, none⟩)]] 97 (0, 0)) ∧ w.heap[cb]? = some (.cells #[.map (some mb)] 91 (0, 0)) ∧ MapIs Try.prog 93 3 w mb n (edgeF P)
theorem TabS.below {w w' : World} {eb : Nat} {mo : Option Nat} {P : List Txt} (h : TabS w eb mo P) (hb : Below w.heap.size w w') : TabS w' eb mo P := by
  obtain ⟨cb, mb, n, h1, h2, h3⟩ := h
  exact ⟨cb, mb, n, blkBelow hb h1, blkBelow hb h2, h3.below hb⟩
theorem TabS.keep {w w' : World} {eb : Nat} {mo : Option Nat} {P : List Txt} {c : Cn} (h : TabS w eb mo P) (hm : Mo w mo c) (hk : Keeps (OnlyM mo) w w') : TabS w' eb mo P := by
  obtain ⟨cb, mb, n, h1, h2, h3⟩ := h
  obtain ⟨es, cl, h4⟩ := h3.is_map
  exact ⟨cb, mb, n, blk_keep h1 hk (hm.far h1 (.inl (by simp))), blk_keep h2 hk (hm.far h2 (.inl (by simp))), h3.keep hk (hm.farMap h4)⟩
set_option maxRecDepth 100000 in
set_option maxHeartbeats 1600000 in
theorem msparse_calls (w : World) (mo : Option Nat) (A : Option Addr) (c m : Nat) (P : List Txt) (hT : Tree P) (hl : P.length ≤ 1000000) (hr : Row w A (rowCells P m)) (hm : m = P.length - 1) :
    Calls Try.prog 32 #[.pointer (madr mo), .slice A m c] w fun e w' => ∃ eb, e = .returned (.pointer (some ⟨eb, 0, none⟩)) ∧ TabS w' eb mo P ∧ Below w.heap.size w w' := by
  have HX := As.mk hr
  have hTT := As.mk hT
  have hz : As (EdgesTo P 0 (fun _ => none)) := ⟨fun x v => by constructor; (· intro h; cases h); (· rintro ⟨n, a, b, _⟩; omega)⟩
  have hmm := @run_makeMap Try.prog
  have hmP := As.mk hm
  have hPm : m + 1 ≤ P.length ∨ P.length = 0 := by omega
  have hP0 := hT.len
  clear hr hm
  go_enter Try.func32, Try.ntmps32
  go_wp2
  go_loopg [11] (m + 1) (fun gk i wr => ∃ (k : Nat) (f : Value → Option Int), As (m + 1 ≤ gk + k) ∧ k ≤ m ∧ i = .int .i64 k ∧ As (MapIs Try.prog 93 3 wr w.heap.size k f) ∧ As (EdgesTo P k f) ∧ As (wr.heap[w.heap.size + 1]? = some (.cells #[.map (some w.heap.size)] 91 (0, 0))) ∧ As (Below w.heap.size w wr))
  case atStart =>
    refine ⟨0, fun _ => none, ⟨by omega⟩, Nat.zero_le _, rfl, ⟨(MapIs.made w _ _ _).below ((Below.refl _ _).alloc (Nat.le_refl _) _)⟩, hz, ⟨blk_new1 _ _ _⟩, ⟨((Below.refl _ _).alloc (Nat.le_refl _) _).alloc (by simp) _⟩⟩
  case round =>
    obtain ⟨k, f, hgk, hk, rfl, hmap, hed, hcb, hbel⟩ := hrel
    by_cases hlt : k < m
    · obtain ⟨gp, rfl⟩ : ∃ gp, gk = gp + 1 := ⟨gk - 1, by have := hgk.out; omega⟩
      have hkP : k + 1 < P.length := by have := hmP.out; omega
      obtain ⟨pa, e1, hpa, hpq⟩ := parent_nat hTT.out (n := k + 1) (by omega) hkP
      have hl3 : k * 3 + 2 < (rowCells P m).length := by rw [rowCells_length]; omega
      obtain ⟨ad, rfl, r0⟩ := Row.at_ (Row.below HX.out hbel.out) (j := k * 3) (by omega)
      obtain ⟨ad2, e2, r1⟩ := Row.at_ (Row.below HX.out hbel.out) (j := k * 3 + 1) (by omega)
      injection e2 with e2
      subst e2
      obtain ⟨ad3, e3, r2⟩ := Row.at_ (Row.below HX.out hbel.out) (j := k * 3 + 2) (by omega)
      injection e3 with e3
      subst e3
      rw [Addr.add_field _ _ _ (by omega)] at r1 r2
      have q0 := rowCells_at P hlt 0 (by omega)
      have q1 := rowCells_at P hlt 1 (by omega)
      have q2 := rowCells_at P hlt 2 (by omega)
      rw [Nat.add_zero] at q0
      rw [List.getElem?_eq_getElem (by omega)] at q0 q1 q2
      simp only [rowOf, List.getElem?_cons_zero, List.getElem?_cons_succ, Option.some.injEq] at q0 q1 q2
      rw [q0, e1] at r0
      rw [q1] at r1
      rw [q2] at r2
      have hkey : rowKey P (k + 1) = .agg #[.int .i64 (pa : Int), .int .u8 ((lastB (P.getD (k + 1) [])).toNat : Int)] := by unfold rowKey; rw [e1]
      generalize lastB (P.getD (k + 1) []) = x at *
      obtain ⟨kl, hkl⟩ := medge_key (pa : Int) x (by omega) (by omega)
      have hsz := hbel.out.size
      classical
      obtain ⟨w4, hrun, hm4, hg4⟩ := MapIs.put (w := wr.alloc (.cells #[.int .i64 (pa : Int), .int .u8 (x.toNat : Int), .int .i64 ((k : Int) + 1)] 66)) (hmap.out.below ((Below.refl _ _).alloc (Nat.le_refl _) _)) medge_law Try.underlying91 Try.underlying3 (by unfold maxLen; omega) hkl (v := (k : Int) + 1) (by simp [Lit.wf, IntKind.min, IntKind.max, IntKind.signed, IntKind.bits]; omega)
        (f' := fun y => if y = .agg #[.int .i64 (pa : Int), .int .u8 (x.toNat : Int)] then some ((k : Int) + 1) else f y) (if_pos rfl) (fun y hy => if_neg hy)
      have c5 : (wr.alloc (.cells #[.int .i64 (pa : Int), .int .u8 (x.toNat : Int), .int .i64 ((k : Int) + 1)] 66)).cell? ⟨w.heap.size + 1, 0, none⟩ = some (.map (some w.heap.size)) := cell_of_blk (blk_old hcb.out) 0
      have hne : w.heap.size + 1 ≠ w.heap.size := by omega
      have hed2 := As.mk (hed.out.next hTT.out hkP (f' := fun y => if y = .agg #[.int .i64 (pa : Int), .int .u8 (x.toNat : Int)] then some ((k : Int) + 1) else f y) (by rw [hkey]; exact if_pos rfl) (fun y hy => if_neg (by rw [hkey] at hy; exact hy)))
      have hcb4 : As (w4.heap[w.heap.size + 1]? = some (.cells #[.map (some w.heap.size)] 91 (0, 0))) := ⟨blk_keep (blk_old hcb.out) (Keeps.of_grown hg4) (fun e => by injection e with e; omega)⟩
      have hbel4 := As.mk ((hbel.out.alloc hbel.out.size (.cells #[.int .i64 (pa : Int), .int .u8 (x.toNat : Int), .int .i64 ((k : Int) + 1)] 66)).grown hg4 (by simp; omega) (fun q hq => by injection hq with hq; omega))
      replace hm4 := As.mk hm4
      replace hg4 := As.mk hg4
      clear q0 q1 q2 e1 hpq hkey
      go_wp2
      go_roundg gp
      case rel => exact ⟨k + 1, _, ⟨by have := hgk.out; omega⟩, by omega, (by first | rfl | go_num | (congr 1; omega)), hm4, hed2, hcb4, hbel4⟩
      case measure => omega
    · obtain rfl : m = k := by omega
      have he := As.mk (edges_all hTT.out (by rw [← hmP.out]; exact hed.out))
      rw [he.out] at hmap
      have hsz := hbel.out.size
      go_wp2
      go_ret
      exact ⟨_, rfl, ⟨_, _, _, heap_alloc_new _ _, blk_old hcb.out, hmap.out.below ((Below.refl _ _).alloc (Nat.le_refl _) _)⟩, hbel.out.alloc hbel.out.size _⟩
theorem mlookup_calls (w : World) (cb mb n : Nat) (P : List Txt) (hcb : w.heap[cb]? = some (.cells #[.map (some mb)] 91 (0, 0))) (hm : MapIs Try.prog 93 3 w mb n (edgeF P)) (a : Nat) (ha : a < P.length) (hl : P.length ≤ 1000000) (c : UInt8) :
    Calls Try.prog 46 #[.agg #[.int .i64 (a : Int), .int .u8 (c.toNat : Int)], .pointer (some ⟨cb, 0, none⟩)] w fun e w' => e = .returned (.int .i64 (place P (P.getD a [] ++ [c]))) ∧ Below w.heap.size w w' := by
  obtain ⟨kl, hkey⟩ := medge_key (a : Int) c (by omega) (by omega)
  have hB : Below w.heap.size w (w.alloc (.cells #[.int .i64 (a : Int), .int .u8 (c.toNat : Int)] 93)) := (Below.refl _ _).alloc (Nat.le_refl _) _
  have hlk := MapIs.look (hm.below hB) medge_law Try.underlying91 Try.underlying3 (zero_int _) hkey
  have c0 : (w.alloc (.cells #[.int .i64 (a : Int), .int .u8 (c.toNat : Int)] 93)).cell? ⟨cb, 0, none⟩ = some (.map (some mb)) := cell_of_blk (blk_old hcb) 0
  rw [edgeF_at P a c ha] at hlk
  replace hB := As.mk hB
  by_cases hq : P.getD a [] ++ [c] ∈ P
  · rw [if_pos hq] at hlk
    have hlk : (Instr.lookup 91 (.map (some mb)) (.agg #[.int .i64 (a : Int), .int .u8 (c.toNat : Int)]) true).run Try.prog (w.alloc (.cells #[.int .i64 (a : Int), .int .u8 (c.toNat : Int)] 93)) = .ok (.tuple #[.int .i64 (place P (P.getD a [] ++ [c])), .bool true]) (w.alloc (.cells #[.int .i64 (a : Int), .int .u8 (c.toNat : Int)] 93)) := hlk
    generalize place P (P.getD a [] ++ [c]) = r at *
    clear hq hm hkey hcb
    go_enter Try.func46, Try.ntmps46
    go_wp2
    go_ret
    exact ⟨rfl, hB.out⟩
  · rw [if_neg hq] at hlk
    rw [place_none hq]
    have hlk : (Instr.lookup 91 (.map (some mb)) (.agg #[.int .i64 (a : Int), .int .u8 (c.toNat : Int)]) true).run Try.prog (w.alloc (.cells #[.int .i64 (a : Int), .int .u8 (c.toNat : Int)] 93)) = .ok (.tuple #[.int .i64 0, .bool false]) (w.alloc (.cells #[.int .i64 (a : Int), .int .u8 (c.toNat : Int)] 93)) := hlk
    clear hq hm hkey hcb
    go_enter Try.func46, Try.ntmps46
    go_wp2
    go_ret
    exact ⟨rfl, hB.out⟩
theorem mlook_calls (w : World) (eb : Nat) (mo : Option Nat) (P : List Txt) (ht : TabS w eb mo P) (cn : Cn) (hm : Mo w mo cn) (hok : cn.ok) (a : Nat) (ha : a < P.length) (hl : P.length ≤ 1000000) (c : UInt8) :
    Calls Try.prog 47 #[.pointer (some ⟨eb, 0, none⟩), .int .i64 (a : Int), .int .u8 (c.toNat : Int)] w fun e w' => e = .returned (.int .i64 (place P (P.getD a [] ++ [c]))) ∧ Mo w' mo { cn with l := cn.l + 1 } ∧ Keeps (OnlyM mo) w w' := by
  have hk := As.mk (fun (w' : World) (k : Keeps (OnlyM mo) w w') => ht.keep hm k)
  have hmo := As.mk hm
  obtain ⟨cb, mb, n, h1, h2, h3⟩ := ht
  have c0 : w.cell? ⟨eb, 0, none⟩ = some (.pointer (madr mo)) := cell_of_blk h1 0
  have hlt := block_lt h1
  obtain ⟨s, l, hh, m⟩ := cn
  have hs1 : IntKind.i64.wrap (l + 1) = l + 1 := by have := hok.2.2.1; have := hok.2.2.2.1; simp only [IntKind.wrap, IntKind.signed, IntKind.bits] at *; simp; omega
  cases mo with
  | none =>
    have hB : Below w.heap.size w (w.alloc (.cells #[.int .i64 0, .int .i64 1, .int .i64 0, .int .i64 0] 38)) := (Below.refl _ _).alloc (Nat.le_refl _) _
    have d1 := (hB.cell (p := ⟨eb, 1, none⟩) hlt).trans (cell_of_blk h1 1)
    have cl := As.mk (mlookup_calls _ cb mb n P (blkBelow hB h2) (h3.below hB) a ha hl c)
    unfold madr at c0
    simp only [Option.map_none, Option.map_some] at c0
    simp at d1
    generalize place P (P.getD a [] ++ [c]) = r at *
    clear h1 h2 h3 hk hmo hok hm
    go_enter Try.func47, Try.ntmps47
    go_wp2_with (first
      | (go_at_call 46; refine Calls.mono cl.out ?_; rintro e w1 ⟨rfl, hb⟩)
      | (go_at_call 49; refine Calls.mono (mcount_none _) ?_; rintro e w1 ⟨rfl, rfl⟩))
    go_ret
    exact ⟨rfl, Mo.none_ _ _, (Keeps.of_below hB _).trans (Keeps.of_below hb _)⟩
  | some g =>
    have hg := hmo.out g rfl
    have g0 : w.cell? ⟨g, 1, none⟩ = some (.int .i64 l) := cell_of_blk hg 1
    have f0 : w.frozen? ⟨g, 1, none⟩ = false := free_of_blk hg 1
    have hK : Keeps (OnlyM (some g)) w (w.setCell ⟨g, 1, none⟩ (.int .i64 (l + 1))) := (keepsSt w ⟨g, 1, none⟩ _).mono fun k _ e => by unfold OnlyM; exact congrArg some e.symm
    have hM : MtAt (w.setCell ⟨g, 1, none⟩ (.int .i64 (l + 1))) g ⟨s, l + 1, hh, m⟩ := by
      have := blk_set hg 1 (.int .i64 (l + 1))
      unfold MtAt
      rw [this]
      simp [cnCells]
    obtain ⟨cb', mb', n', k1, k2, k3⟩ := hk.out _ hK
    have d1 : (w.setCell ⟨g, 1, none⟩ (.int .i64 (l + 1))).cell? ⟨eb, 1, none⟩ = some (.func (.func 46) #[] #[.pointer (some ⟨cb', 0, none⟩)]) := cell_of_blk k1 1
    have cl := As.mk (mlookup_calls _ cb' mb' n' P k2 k3 a ha hl c)
    unfold madr at c0
    simp only [Option.map_none, Option.map_some] at c0
    generalize place P (P.getD a [] ++ [c]) = r at *
    replace hK := As.mk hK
    replace hM := As.mk hM
    clear h1 h2 h3 hk hmo hok k1 k2 k3 hg hm
    go_enter Try.func47, Try.ntmps47
    go_wp2_with (first
      | (go_at_call 46; refine Calls.mono cl.out ?_; rintro e w1 ⟨rfl, hb⟩)
      | (go_at_call 49; refine Calls.mono (mcount_some _ _) ?_; rintro e w1 ⟨rfl, rfl⟩))
    go_ret
    exact ⟨rfl, Mo.some_ (hM.out.below hb), hK.out.trans (Keeps.of_below hb _)⟩
end Go.Proofs.Ytieelnpfpfiboaa
end
section
/- The plain law of package links: falls, and the order of the nodes. -/
set_option linter.unusedVariables false
set_option linter.unusedSimpArgs false
namespace Seine.Links
open Seine.Trie

/-! ### the first number -/
def firstN (q : Nat → Bool) : Nat → Nat → Option Nat
  | _, 0 => none
  | a, k + 1 => if q a then some a else firstN q (a + 1) k
theorem firstN_some {q : Nat → Bool} : ∀ {k a n : Nat}, firstN q a k = some n → a ≤ n ∧ n < a + k ∧ q n = true ∧ ∀ j, a ≤ j → j < n → q j = false
  | 0, a, n, h => by simp [firstN] at h
  | k + 1, a, n, h => by
    unfold firstN at h
    by_cases hq : q a = true
    · rw [if_pos hq] at h
      injection h with h; subst h
      exact ⟨Nat.le_refl _, by omega, hq, fun j h1 h2 => by omega⟩
    · rw [if_neg hq] at h
      obtain ⟨h1, h2, h3, h4⟩ := firstN_some h
      refine ⟨by omega, by omega, h3, fun j h5 h6 => ?_⟩
      rcases Nat.eq_or_lt_of_le h5 with h7 | h7
      · subst h7; simpa using hq
      · exact h4 j h7 h6
theorem firstN_none {q : Nat → Bool} : ∀ {k a : Nat}, firstN q a k = none → ∀ j, a ≤ j → j < a + k → q j = false
  | 0, a, _, j, h1, h2 => by omega
  | k + 1, a, h, j, h1, h2 => by
    unfold firstN at h
    by_cases hq : q a = true
    · rw [if_pos hq] at h; cases h
    · rw [if_neg hq] at h
      rcases Nat.eq_or_lt_of_le h1 with h7 | h7
      · subst h7; simpa using hq
      · exact firstN_none h j h7 (by omega)
theorem firstN_eq {q : Nat → Bool} {a k n : Nat} (h1 : a ≤ n) (h2 : n < a + k) (h3 : q n = true) (h4 : ∀ j, a ≤ j → j < n → q j = false) : firstN q a k = some n := by
  cases h : firstN q a k with
  | none => have := firstN_none h n h1 h2; rw [h3] at this; cases this
  | some m =>
    obtain ⟨e1, e2, e3, e4⟩ := firstN_some h
    rcases Nat.lt_trichotomy m n with hm | hm | hm
    · have := h4 m e1 hm; rw [e3] at this; cases this
    · rw [hm]
    · have := e4 n h1 hm; rw [h3] at this; cases this
theorem firstN_no {q : Nat → Bool} {a k : Nat} (h : ∀ j, a ≤ j → j < a + k → q j = false) : firstN q a k = none := by
  cases h' : firstN q a k with
  | none => rfl
  | some m =>
    obtain ⟨e1, e2, e3, _⟩ := firstN_some h'
    rw [h m e1 e2] at e3; cases e3

/-! ### falls -/
def failN (P : List Txt) (s : Txt) : Option Nat := firstN (fun n => decide (s.drop n ∈ P)) 1 s.length
def outN (l : List Txt) (s : Txt) : Option Nat := firstN (fun n => decide (s.drop n ∈ l)) 1 (s.length - 1)
def failF (P : List Txt) (s : Txt) : Int := match failN P s with | some n => place P (s.drop n) | none => -1
def outF (P l : List Txt) (s : Txt) : Int := match outN l s with | some n => place P (s.drop n) | none => -1
def ownF (l : List Txt) (s : Txt) : Int := if s ∈ l then s.length else 0
def endsF (l : List Txt) (s : Txt) : List Int := ((List.range s.length).filter fun n => decide (s.drop n ∈ l)).map fun n => ((s.length - n : Nat) : Int)

theorem failN_some {P : List Txt} {s : Txt} {n : Nat} (h : failN P s = some n) : 1 ≤ n ∧ n ≤ s.length ∧ s.drop n ∈ P ∧ ∀ j, 1 ≤ j → j < n → s.drop j ∉ P := by
  obtain ⟨h1, h2, h3, h4⟩ := firstN_some h
  exact ⟨h1, by omega, of_decide_eq_true h3, fun j a b => of_decide_eq_false (h4 j a b)⟩
theorem failN_eq {P : List Txt} {s : Txt} {n : Nat} (h1 : 1 ≤ n) (h2 : n ≤ s.length) (h3 : s.drop n ∈ P) (h4 : ∀ j, 1 ≤ j → j < n → s.drop j ∉ P) : failN P s = some n :=
  firstN_eq h1 (by omega) (decide_eq_true h3) fun j a b => decide_eq_false (h4 j a b)
theorem failN_none {P : List Txt} {s : Txt} (h : failN P s = none) (j : Nat) (h1 : 1 ≤ j) (h2 : j ≤ s.length) : s.drop j ∉ P := of_decide_eq_false (firstN_none h j h1 (by omega))
theorem outN_some {l : List Txt} {s : Txt} {n : Nat} (h : outN l s = some n) : 1 ≤ n ∧ n < s.length ∧ s.drop n ∈ l ∧ ∀ j, 1 ≤ j → j < n → s.drop j ∉ l := by
  obtain ⟨h1, h2, h3, h4⟩ := firstN_some h
  exact ⟨h1, by omega, of_decide_eq_true h3, fun j a b => of_decide_eq_false (h4 j a b)⟩
theorem outN_eq {l : List Txt} {s : Txt} {n : Nat} (h1 : 1 ≤ n) (h2 : n < s.length) (h3 : s.drop n ∈ l) (h4 : ∀ j, 1 ≤ j → j < n → s.drop j ∉ l) : outN l s = some n :=
  firstN_eq h1 (by omega) (decide_eq_true h3) fun j a b => decide_eq_false (h4 j a b)
theorem outN_none {l : List Txt} {s : Txt} (h : outN l s = none) (j : Nat) (h1 : 1 ≤ j) (h2 : j < s.length) : s.drop j ∉ l := of_decide_eq_false (firstN_none h j h1 (by omega))
theorem outN_no {l : List Txt} {s : Txt} (h : ∀ j, 1 ≤ j → j < s.length → s.drop j ∉ l) : outN l s = none := firstN_no fun j a b => decide_eq_false (h j a (by omega))

theorem failF_nil (P : List Txt) : failF P [] = -1 := rfl
theorem outF_nil (P l : List Txt) : outF P l [] = -1 := rfl
theorem ownF_nil (l : List Txt) : ownF l [] = 0 := by unfold ownF; split <;> rfl
theorem fail_some {P : List Txt} (hT : Tree P) {s : Txt} (hs : s ≠ []) : ∃ n, failN P s = some n := by
  cases h : failN P s with
  | some n => exact ⟨n, rfl⟩
  | none =>
    have h0 : 0 < s.length := List.length_pos_iff.2 hs
    have := failN_none h s.length h0 (Nat.le_refl _)
    rw [List.drop_length] at this
    exact absurd hT.nil_mem this

theorem snoc_drop {q : Txt} {c : UInt8} {j : Nat} (h : j ≤ q.length) : (q ++ [c]).drop j = q.drop j ++ [c] := by
  rw [List.drop_append_of_le_length h]
theorem up_snoc {P : List Txt} (hT : Tree P) {r : Txt} {c : UInt8} (h : r ++ [c] ∈ P) : r ∈ P := by
  have := hT.up _ h (by simp)
  rwa [List.dropLast_concat] at this

/-- Where the search for a fall stands. -/
def Back (P : List Txt) (q : Txt) (c : UInt8) (n : Int) : Prop :=
  (∃ k, 1 ≤ k ∧ k ≤ q.length ∧ n = place P (q.drop k) ∧ q.drop k ∈ P ∧ ∀ j, 1 ≤ j → j < k → (q ++ [c]).drop j ∉ P) ∨ (n = -1 ∧ ∀ j, 1 ≤ j → j ≤ q.length → (q ++ [c]).drop j ∉ P)
theorem back_from {P : List Txt} (hT : Tree P) {q : Txt} {c : UInt8} {k : Nat} (hk : k ≤ q.length) (h : ∀ j, 1 ≤ j → j ≤ k → (q ++ [c]).drop j ∉ P) : Back P q c (failF P (q.drop k)) := by
  unfold failF
  cases hf : failN P (q.drop k) with
  | some n =>
    obtain ⟨h1, h2, h3, h4⟩ := failN_some hf
    rw [List.length_drop] at h2
    rw [List.drop_drop] at h3
    refine .inl ⟨k + n, by omega, by omega, by simp only [List.drop_drop], h3, fun j a b => ?_⟩
    by_cases hj : j ≤ k
    · exact h j a hj
    · intro hm
      rw [snoc_drop (by omega)] at hm
      have := h4 (j - k) (by omega) (by omega)
      rw [List.drop_drop, show k + (j - k) = j by omega] at this
      exact this (up_snoc hT hm)
  | none =>
    refine .inr ⟨rfl, fun j a b => ?_⟩
    by_cases hj : j ≤ k
    · exact h j a hj
    · intro hm
      rw [snoc_drop b] at hm
      have := failN_none hf (j - k) (by omega) (by rw [List.length_drop]; omega)
      rw [List.drop_drop, show k + (j - k) = j by omega] at this
      exact this (up_snoc hT hm)
theorem back_start {P : List Txt} (hT : Tree P) (q : Txt) (c : UInt8) : Back P q c (failF P q) := back_from hT (k := 0) (Nat.zero_le _) (fun j a b => by omega)
theorem back_end {P : List Txt} (hT : Tree P) {q : Txt} {c : UInt8} {n : Int} (h : Back P q c n) (hn : n < 0) : failF P (q ++ [c]) = 0 := by
  rcases h with ⟨k, _, _, h3, h4, _⟩ | ⟨_, h⟩
  · have := place_mem.2 h4; omega
  · have : failN P (q ++ [c]) = some (q.length + 1) := failN_eq (by omega) (by simp) (by rw [List.drop_of_length_le (by simp)]; exact hT.nil_mem) fun j a b => h j a (by omega)
    unfold failF
    rw [this]
    simp only
    rw [List.drop_of_length_le (by simp), place_at hT.nodup hT.root]; rfl
theorem back_step {P : List Txt} (hT : Tree P) {q : Txt} {c : UInt8} {n : Int} (h : Back P q c n) (hn : 0 ≤ n) : ∃ r, r ∈ P ∧ n = place P r ∧ r.length < q.length + 0 ∧
    ((0 ≤ place P (r ++ [c]) ∧ failF P (q ++ [c]) = place P (r ++ [c])) ∨ (place P (r ++ [c]) < 0 ∧ Back P q c (failF P r))) := by
  rcases h with ⟨k, h1, h2, h3, h4, h5⟩ | ⟨h, _⟩
  · refine ⟨q.drop k, h4, h3, by rw [List.length_drop]; omega, ?_⟩
    by_cases hm : q.drop k ++ [c] ∈ P
    · refine .inl ⟨place_mem.2 hm, ?_⟩
      have : failN P (q ++ [c]) = some k := failN_eq h1 (by simp; omega) (by rw [snoc_drop h2]; exact hm) h5
      unfold failF
      rw [this]
      simp only
      rw [snoc_drop h2]
    · refine .inr ⟨place_neg.2 hm, back_from hT h2 fun j a b => ?_⟩
      rcases Nat.eq_or_lt_of_le b with e | e
      · subst e; rw [snoc_drop h2]; exact hm
      · exact h5 j a e
  · omega
/-- A fall is shorter. -/
theorem fail_short {P : List Txt} {r : Txt} (h : 0 ≤ failF P r) : ∃ r', r' ∈ P ∧ failF P r = place P r' ∧ r'.length < r.length := by
  unfold failF at h ⊢
  cases hf : failN P r with
  | some n =>
    obtain ⟨h1, h2, h3, _⟩ := failN_some hf
    exact ⟨_, h3, rfl, by rw [List.length_drop]; omega⟩
  | none => rw [hf] at h; simp at h

theorem out_rec {P l : List Txt} (hl : ∀ x, x ∈ l → x ∈ P) {s : Txt} {n : Nat} (hf : failN P s = some n) : outF P l s = if ownF l (s.drop n) = 0 then outF P l (s.drop n) else place P (s.drop n) := by
  obtain ⟨h1, h2, h3, h4⟩ := failN_some hf
  by_cases ho : ownF l (s.drop n) = 0
  · rw [if_pos ho]
    have hno : ∀ j, 1 ≤ j → j ≤ n → j < s.length → s.drop j ∉ l := fun j a b d hm => by
      rcases Nat.eq_or_lt_of_le b with e | e
      · subst e
        unfold ownF at ho
        rw [if_pos hm, List.length_drop] at ho
        omega
      · exact h4 j a e (hl _ hm)
    unfold outF
    cases hq : outN l (s.drop n) with
    | some m =>
      obtain ⟨e1, e2, e3, e4⟩ := outN_some hq
      rw [List.length_drop] at e2
      rw [List.drop_drop] at e3
      have : outN l s = some (n + m) := outN_eq (by omega) (by omega) e3 fun j a b => by
        by_cases hj : j ≤ n
        · exact hno j a hj (by omega)
        · have := e4 (j - n) (by omega) (by omega)
          rwa [List.drop_drop, show n + (j - n) = j by omega] at this
      rw [this]
      simp only [List.drop_drop]
    | none =>
      have : outN l s = none := outN_no fun j a b => by
        by_cases hj : j ≤ n
        · exact hno j a hj b
        · have := outN_none hq (j - n) (by omega) (by rw [List.length_drop]; omega)
          rwa [List.drop_drop, show n + (j - n) = j by omega] at this
      rw [this]
  · rw [if_neg ho]
    have hm : s.drop n ∈ l := by
      unfold ownF at ho
      by_cases hm : s.drop n ∈ l
      · exact hm
      · rw [if_neg hm] at ho; exact absurd rfl ho
    have hlt : n < s.length := by
      unfold ownF at ho
      rw [if_pos hm, List.length_drop] at ho
      omega
    have : outN l s = some n := outN_eq h1 hlt hm fun j a b hj => h4 j a b (hl _ hj)
    unfold outF
    rw [this]

theorem ends_drop (l : List Txt) (s : Txt) (k : Nat) (hk : k ≤ s.length) : endsF l (s.drop k) = ((List.range' k (s.length - k)).filter fun n => decide (s.drop n ∈ l)).map fun n => ((s.length - n : Nat) : Int) := by
  unfold endsF
  rw [List.length_drop]
  have : List.range' k (s.length - k) = (List.range (s.length - k)).map (fun n => k + n) := by
    rw [List.range_eq_range', List.map_add_range']
    simp
  rw [this, List.filter_map, List.map_map]
  have e1 : ((fun n => decide (s.drop n ∈ l)) ∘ fun n => k + n) = fun n => decide ((s.drop k).drop n ∈ l) := by
    funext n; simp [List.drop_drop]
  rw [e1]
  apply List.map_congr_left
  intro n hn
  simp only [Function.comp]
  congr 1
  omega
theorem ends_skip (l : List Txt) (s : Txt) : ∀ (m k : Nat), k + m ≤ s.length → (∀ j, k ≤ j → j < k + m → s.drop j ∉ l) → endsF l (s.drop k) = endsF l (s.drop (k + m))
  | 0, k, _, _ => rfl
  | m + 1, k, h, hno => by
    rw [ends_drop l s k (by omega), show s.length - k = (s.length - (k + 1)) + 1 by omega, List.range'_succ, List.filter_cons, if_neg (by simpa using hno k (Nat.le_refl _) (by omega)), ← ends_drop l s (k + 1) (by omega),
      ends_skip l s m (k + 1) (by omega) (fun j a b => hno j (by omega) (by omega)), show k + 1 + m = k + (m + 1) by omega]
theorem ends_rec (l : List Txt) (s : Txt) : endsF l s = (if 0 < ownF l s then [ownF l s] else []) ++ (match outN l s with | some n => endsF l (s.drop n) | none => []) := by
  by_cases hs : s = []
  · subst hs
    rw [ownF_nil]; rfl
  · have h0 : 0 < s.length := List.length_pos_iff.2 hs
    have h1 : endsF l s = (if 0 < ownF l s then [ownF l s] else []) ++ endsF l (s.drop 1) := by
      have e := ends_drop l s 0 (Nat.zero_le _)
      rw [List.drop_zero] at e
      rw [e, show s.length - 0 = (s.length - 1) + 1 by omega, List.range'_succ, List.filter_cons, ends_drop l s 1 h0]
      unfold ownF
      by_cases hm : s ∈ l
      · rw [if_pos (by simpa using hm), if_pos hm, if_pos (by omega)]
        simp
      · rw [if_neg (by simpa using hm), if_neg hm]
        simp
    rw [h1]
    congr 1
    cases hq : outN l s with
    | some n =>
      obtain ⟨a, b, _, d⟩ := outN_some hq
      have := ends_skip l s (n - 1) 1 (by omega) (fun j x y => d j x (by omega))
      rw [this, show 1 + (n - 1) = n by omega]
    | none =>
      have := ends_skip l s (s.length - 1) 1 (by omega) (fun j x y => outN_none hq j x (by omega))
      rw [this, show 1 + (s.length - 1) = s.length by omega, List.drop_length]
      rfl
end Seine.Links
end
section
/- The plain law of package links: the nodes by their depth. -/
set_option linter.unusedVariables false
set_option linter.unusedSimpArgs false
namespace Seine.Links
open Seine.Trie

theorem nodup_len {α : Type} [DecidableEq α] : ∀ {a b : List α}, a.Nodup → (∀ x, x ∈ a → x ∈ b) → a.length ≤ b.length
  | [], b, _, _ => Nat.zero_le _
  | x :: a, b, hn, hs => by
    have hx := hs x (by simp)
    have h1 := nodup_len (a := a) (b := b.erase x) (List.nodup_cons.1 hn).2 fun y hy => by
      have hne : y ≠ x := fun e => (List.nodup_cons.1 hn).1 (e ▸ hy)
      exact (List.mem_erase_of_ne hne).2 (hs y (by simp [hy]))
    rw [List.length_erase_of_mem hx] at h1
    have := List.length_pos_of_mem hx
    simp only [List.length_cons]
    omega

def kidsT (P : List Txt) (s : Txt) : List Txt := (kids P s).map fun c => s ++ [c]
def op (P : List Txt) : Nat → List Txt
  | 0 => [[]]
  | i + 1 => op P i ++ (match (op P i)[i]? with | some s => kidsT P s | none => [])
theorem mem_kids {P : List Txt} {s : Txt} {c : UInt8} : c ∈ kids P s ↔ s ++ [c] ∈ P := by
  unfold kids
  rw [List.mem_filter, decide_eq_true_iff]
  refine ⟨fun h => h.2, fun h => ⟨?_, h⟩⟩
  rw [List.mem_map]
  exact ⟨c.toNat, List.mem_range.2 c.toNat_lt, by simp⟩
theorem mem_kidsT {P : List Txt} {s x : Txt} : x ∈ kidsT P s ↔ ∃ c, x = s ++ [c] ∧ s ++ [c] ∈ P := by
  unfold kidsT
  rw [List.mem_map]
  exact ⟨fun ⟨c, h, e⟩ => ⟨c, e.symm, mem_kids.1 h⟩, fun ⟨c, e, h⟩ => ⟨c, mem_kids.2 h, e.symm⟩⟩
theorem nodup_map' {α β : Type} {f : α → β} : ∀ {l : List α}, l.Nodup → (∀ x y, x ∈ l → y ∈ l → f x = f y → x = y) → (l.map f).Nodup
  | [], _, _ => by simp
  | a :: l, h, hf => by
    rw [List.map_cons, List.nodup_cons]
    refine ⟨fun hm => ?_, nodup_map' (List.nodup_cons.1 h).2 fun x y hx hy => hf x y (by simp [hx]) (by simp [hy])⟩
    obtain ⟨y, hy, e⟩ := List.mem_map.1 hm
    exact (List.nodup_cons.1 h).1 (hf y a (by simp [hy]) (by simp) e ▸ hy)
theorem kids_nodup (P : List Txt) (s : Txt) : (kids P s).Nodup := by
  unfold kids
  refine List.Pairwise.filter _ (nodup_map' List.nodup_range fun x y hx hy h => ?_)
  have hx := List.mem_range.1 hx
  have hy := List.mem_range.1 hy
  have := congrArg UInt8.toNat h
  simp at this
  omega
theorem kidsT_nodup (P : List Txt) (s : Txt) : (kidsT P s).Nodup := nodup_map' (kids_nodup P s) fun x y _ _ h => by simpa using h

theorem op_next {P : List Txt} {i : Nat} {s : Txt} (h : (op P i)[i]? = some s) : op P (i + 1) = op P i ++ kidsT P s := by
  show op P i ++ _ = _
  rw [h]
theorem op_same {P : List Txt} {i : Nat} (h : (op P i).length ≤ i) : op P (i + 1) = op P i := by
  show op P i ++ _ = _
  rw [List.getElem?_eq_none h, List.append_nil]
theorem op_stop {P : List Txt} {i : Nat} (h : (op P i).length ≤ i) : ∀ k, op P (i + k) = op P i
  | 0 => rfl
  | k + 1 => by
    have := op_stop h k
    rw [← Nat.add_assoc, op_same (by rw [this]; omega), this]
theorem op_mono (P : List Txt) (i : Nat) : ∀ k, ∃ m, op P (i + k) = op P i ++ m
  | 0 => ⟨[], by simp⟩
  | k + 1 => by
    obtain ⟨m, hm⟩ := op_mono P i k
    refine ⟨m ++ (match (op P (i + k))[i + k]? with | some s => kidsT P s | none => []), ?_⟩
    rw [← List.append_assoc, ← hm]
    rfl
theorem op_get {P : List Txt} {i j k : Nat} {s : Txt} (hij : i ≤ j) (h : (op P i)[k]? = some s) : (op P j)[k]? = some s := by
  obtain ⟨m, hm⟩ := op_mono P i (j - i)
  rw [show i + (j - i) = j by omega] at hm
  rw [hm, List.getElem?_append_left (List.getElem?_eq_some_iff.1 h).1, h]
theorem op_back {P : List Txt} {i j k : Nat} {s : Txt} (hij : i ≤ j) (h : (op P j)[k]? = some s) (hk : k < (op P i).length) : (op P i)[k]? = some s := by
  obtain ⟨m, hm⟩ := op_mono P i (j - i)
  rw [show i + (j - i) = j by omega] at hm
  rw [hm, List.getElem?_append_left hk] at h
  exact h
theorem op_long {P : List Txt} {i j : Nat} (hij : j ≤ i) (h : j < (op P i).length) : j < (op P j).length := by
  by_cases hc : j < (op P j).length
  · exact hc
  · have := op_stop (P := P) (i := j) (by omega) (i - j)
    rw [show j + (i - j) = i by omega] at this
    rw [this] at h
    exact h
theorem op_mem {P : List Txt} {x : Txt} : ∀ {i : Nat}, x ∈ op P i → x = [] ∨ ∃ j s c, j < i ∧ (op P j)[j]? = some s ∧ x = s ++ [c] ∧ x ∈ P
  | 0, h => .inl (by simpa [op] using h)
  | i + 1, h => by
    rcases hg : (op P i)[i]? with _ | s
    · rw [op_same (List.getElem?_eq_none_iff.1 hg)] at h
      rcases op_mem h with e | ⟨j, s, c, a, b⟩
      · exact .inl e
      · exact .inr ⟨j, s, c, by omega, b⟩
    · rw [op_next hg, List.mem_append] at h
      rcases h with h | h
      · rcases op_mem h with e | ⟨j, s, c, a, b⟩
        · exact .inl e
        · exact .inr ⟨j, s, c, by omega, b⟩
      · obtain ⟨c, e, hm⟩ := mem_kidsT.1 h
        exact .inr ⟨i, s, c, by omega, hg, e, e ▸ hm⟩
theorem nodup_get {α : Type} {l : List α} (h : l.Nodup) {i j : Nat} {x : α} (hi : l[i]? = some x) (hj : l[j]? = some x) : i = j := by
  exact (List.getElem?_inj (List.getElem?_eq_some_iff.1 hi).1 h).1 (hi.trans hj.symm)
theorem op_nodup (P : List Txt) : ∀ i, (op P i).Nodup
  | 0 => by simp [op]
  | i + 1 => by
    have ih := op_nodup P i
    rcases hg : (op P i)[i]? with _ | s
    · rw [op_same (List.getElem?_eq_none_iff.1 hg)]; exact ih
    · rw [op_next hg]
      refine List.nodup_append.2 ⟨ih, kidsT_nodup P s, fun x hx y hy e => ?_⟩
      subst e
      obtain ⟨c, e, hm⟩ := mem_kidsT.1 hy
      rcases op_mem hx with e' | ⟨j, s', c', hj, hg', e', _⟩
      · rw [e'] at e; simp at e
      · rw [e'] at e
        have hs : s' = s := (List.append_inj' e rfl).1
        subst hs
        have := nodup_get ih (op_get (Nat.le_of_lt hj) hg') hg
        omega
theorem op_sub {P : List Txt} (hT : Tree P) {i : Nat} {x : Txt} (h : x ∈ op P i) : x ∈ P := by
  rcases op_mem h with e | ⟨_, _, _, _, _, _, hm⟩
  · rw [e]; exact hT.nil_mem
  · exact hm
theorem op_len {P : List Txt} (hT : Tree P) (i : Nat) : (op P i).length ≤ P.length := nodup_len (op_nodup P i) fun _ h => op_sub hT h
theorem op_root (P : List Txt) : ∀ i, (op P i)[0]? = some []
  | i => op_get (Nat.zero_le i) (by simp [op])
/-- All that is shorter stands ahead of one that is at its turn. -/
theorem op_before {P : List Txt} (hT : Tree P) : ∀ (i : Nat) {p : Txt}, (op P i)[i]? = some p → ∀ x, x ∈ P → x.length < p.length → ∃ j, j < i ∧ (op P i)[j]? = some x := by
  intro i
  induction i using Nat.strongRecOn with
  | _ i ih =>
    intro p hp x hx hlt
    have hi : i ≠ 0 := fun e => by
      subst e
      rw [op_root] at hp
      injection hp with hp
      subst hp
      simp at hlt
    by_cases hx0 : x = []
    · subst hx0
      exact ⟨0, by omega, op_root P i⟩
    · rcases op_mem (List.mem_of_getElem? hp) with e | ⟨j, s, c, hj, hg, e, hm⟩
      · rw [e] at hlt; simp at hlt
      · have hxl : 0 < x.length := List.length_pos_iff.2 hx0
        have hup := hT.up x hx hx0
        obtain ⟨j', hj', hg'⟩ := ih j hj hg x.dropLast hup (by rw [e] at hlt; simp at hlt ⊢; omega)
        have hg'' : (op P j')[j']? = some x.dropLast := op_back (Nat.le_of_lt hj') hg' (op_long (Nat.le_of_lt hj') (List.getElem?_eq_some_iff.1 hg').1)
        have hxk : x ∈ op P (j' + 1) := by
          rw [op_next hg'']
          refine List.mem_append_right _ (mem_kidsT.2 ?_)
          have hs := List.dropLast_concat_getLast hx0
          exact ⟨x.getLast hx0, hs.symm, by rw [hs]; exact hx⟩
        have hxj : x ∈ op P j := by
          obtain ⟨m, hm⟩ := op_mono P (j' + 1) (j - (j' + 1))
          rw [show j' + 1 + (j - (j' + 1)) = j by omega] at hm
          rw [hm]
          exact List.mem_append_left _ hxk
        obtain ⟨k, hk⟩ := List.mem_iff_getElem?.1 hxj
        have hkl := (List.getElem?_eq_some_iff.1 hk).1
        refine ⟨k, ?_, op_get (Nat.le_of_lt hj) hk⟩
        have hge : ¬ i < (op P j).length := fun hlt2 => by
          have hpj := op_back (Nat.le_of_lt hj) hp hlt2
          rcases op_mem (List.mem_of_getElem? hpj) with e2 | ⟨j2, s2, c2, hj2, hg2, e2, _⟩
          · rw [e2] at e; simp at e
          · rw [e2] at e
            have hs : s2 = s := (List.append_inj' e rfl).1
            subst hs
            have := nodup_get (op_nodup P j) (op_get (Nat.le_of_lt hj2) hg2) hg
            omega
        omega
theorem op_all {P : List Txt} (hT : Tree P) : ∀ (n : Nat) (x : Txt), x.length = n → x ∈ P → x ∈ op P P.length := by
  intro n
  induction n with
  | zero => intro x hx _; rw [List.eq_nil_of_length_eq_zero hx]; exact List.mem_of_getElem? (op_root P _)
  | succ n ih =>
    intro x hx hm
    have hx0 : x ≠ [] := fun e => by rw [e] at hx; simp at hx
    have hup := ih x.dropLast (by simp; omega) (hT.up x hm hx0)
    obtain ⟨j, hj⟩ := List.mem_iff_getElem?.1 hup
    have hjl := (List.getElem?_eq_some_iff.1 hj).1
    have hle := op_len hT P.length
    have hjj : (op P j)[j]? = some x.dropLast := op_back (i := j) (j := P.length) (by omega) hj (op_long (i := P.length) (by omega) hjl)
    obtain ⟨m, hm2⟩ := op_mono P (j + 1) (P.length - (j + 1))
    rw [show j + 1 + (P.length - (j + 1)) = P.length by omega] at hm2
    rw [hm2]
    refine List.mem_append_left _ ?_
    rw [op_next hjj]
    refine List.mem_append_right _ (mem_kidsT.2 ?_)
    have hs := List.dropLast_concat_getLast hx0
    exact ⟨x.getLast hx0, hs.symm, by rw [hs]; exact hm⟩
theorem op_full {P : List Txt} (hT : Tree P) {i : Nat} (h : (op P i).length ≤ i) : op P i = op P P.length := by
  by_cases hi : i ≤ P.length
  · have := op_stop h (P.length - i)
    rw [show i + (P.length - i) = P.length by omega] at this
    exact this.symm
  · have := op_stop (P := P) (i := P.length) (op_len hT _) (i - P.length)
    rw [show P.length + (i - P.length) = i by omega] at this
    exact this
end Seine.Links
end
