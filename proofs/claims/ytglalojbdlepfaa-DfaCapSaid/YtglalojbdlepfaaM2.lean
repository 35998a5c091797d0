/- Joined texts: TrieBuild, Args2, Args3, LinksPure, SortPure, SparsePure, DfaPure. -/
import Derived.Test.YtglalojbdlepfaaM1
import Derived.Deep.Matrix
import Derived.SizedLaws
section
/- The walk of trie.Build. -/
set_option linter.unusedVariables false
set_option linter.unusedSimpArgs false
namespace Go.Proofs.Ytglalojbdlepfaa
open Go.RowKit Go.Maps Seine.Trie

/-- A slice of byte texts. -/
def Txts (w : World) (A : Option Addr) (l : List Txt) : Prop :=
  ∃ vs : List Value, vs.length = l.length ∧ Row w A vs ∧ ∀ i, i < l.length → ∃ A' c', vs[i]? = some (.slice A' (l.getD i []).length c') ∧ (l.getD i []).length ≤ c' ∧ Byt w A' (l.getD i [])
theorem Txts.below {w w' : World} {A : Option Addr} {l : List Txt} (h : Txts w A l) (hb : Below w.heap.size w w') : Txts w' A l := by
  obtain ⟨vs, h1, h2, h3⟩ := h
  refine ⟨vs, h1, h2.below hb, fun i hi => ?_⟩
  obtain ⟨A', c', a, b, c⟩ := h3 i hi
  exact ⟨A', c', a, b, Row.below c hb⟩
theorem Txts.at_ {w : World} {A : Option Addr} {l : List Txt} (h : Txts w A l) {i : Nat} (hi : i < l.length) : ∃ ad A' c', A = some ad ∧ w.cell? (ad.add i) = some (.slice A' (l.getD i []).length c') ∧ (l.getD i []).length ≤ c' ∧ Byt w A' (l.getD i []) := by
  obtain ⟨vs, h1, h2, h3⟩ := h
  obtain ⟨A', c', a, b, c⟩ := h3 i hi
  obtain ⟨ad, e1, e2⟩ := h2.at_ (j := i) (by omega)
  refine ⟨ad, A', c', e1, ?_, b, c⟩
  rw [e2]
  rw [List.getElem?_eq_getElem (by omega)] at a
  exact a

def tot (l : List Txt) : Nat := (l.map List.length).sum
theorem paths_len (l : List Txt) : (paths l).length ≤ 1 + tot l := by
  have H : ∀ n (l : List Txt), l.length = n → (paths l).length ≤ 1 + tot l := by
    intro n
    induction n with
    | zero => intro l hl; rw [List.eq_nil_of_length_eq_zero hl]; simp [paths, tot]
    | succ n ih =>
      intro l hl
      have hne : l ≠ [] := by intro h; simp [h] at hl
      obtain ⟨m, x, rfl⟩ : ∃ m x, l = m ++ [x] := ⟨l.dropLast, l.getLast hne, (List.dropLast_concat_getLast hne).symm⟩
      have h1 := ih m (by simp at hl; omega)
      have h2 := addTo_len (paths m) x x.length
      rw [paths_snoc]
      unfold addText tot at *
      simp only [List.map_append, List.sum_append, List.map_cons, List.map_nil, List.sum_cons, List.sum_nil]
      omega
  exact H _ l rfl
theorem tot_app (a b : List Txt) : tot (a ++ b) = tot a + tot b := by simp [tot]
theorem tot_take (l : List Txt) (k : Nat) (h : k < l.length) : tot (l.take k) + (l.getD k []).length ≤ tot l := by
  have h2 : tot l = tot (l.take k) + tot (l.drop k) := by rw [← tot_app, List.take_append_drop]
  have h3 : tot (l.drop k) = (l.getD k []).length + tot (l.drop (k + 1)) := by
    rw [List.drop_eq_getElem_cons h]
    simp only [tot, List.map_cons, List.sum_cons, List.getD_eq_getElem?_getD, List.getElem?_eq_getElem h, Option.getD_some]
  omega
theorem take_snoc_txt (l : List Txt) (k : Nat) (h : k < l.length) : l.take (k + 1) = l.take k ++ [l.getD k []] := by
  rw [List.take_succ_eq_append_getElem h]; simp [h]

/-- Another word of one node. -/
theorem flat_word (par : Txt → Int) (W W' : Txt → Int) (s : Txt) (x : Int) (hs : W' s = x) (ho : ∀ p, p ≠ s → W' p = W p) : ∀ (P : List Txt) (a : Nat), P.Nodup → P[a]? = some s →
    P.flatMap (fun p => [Value.int .i64 (par p), .int .i64 (p.length : Int), .int .i64 (W' p), .int .u8 ((lastB p).toNat : Int)]) =
      (P.flatMap (fun p => [Value.int .i64 (par p), .int .i64 (p.length : Int), .int .i64 (W p), .int .u8 ((lastB p).toNat : Int)])).set (a * 4 + 2) (.int .i64 x)
  | [], _, _, h => by simp at h
  | p :: P, 0, hn, h => by
    simp at h; subst h
    rw [List.flatMap_cons, List.flatMap_cons]
    have : P.flatMap (fun p => [Value.int .i64 (par p), .int .i64 (p.length : Int), .int .i64 (W' p), .int .u8 ((lastB p).toNat : Int)]) = P.flatMap (fun p => [Value.int .i64 (par p), .int .i64 (p.length : Int), .int .i64 (W p), .int .u8 ((lastB p).toNat : Int)]) :=
      fm_congr (fun q hq => by rw [ho q (fun e => by subst e; exact (List.nodup_cons.1 hn).1 hq)])
    rw [this, hs]
    rfl
  | p :: P, a + 1, hn, h => by
    have hmem : s ∈ P := List.mem_of_getElem? (by simpa using h : P[a]? = some s)
    have hne : p ≠ s := fun e => by subst e; exact (List.nodup_cons.1 hn).1 hmem
    rw [List.flatMap_cons, List.flatMap_cons, flat_word par W W' s x hs ho P a (List.nodup_cons.1 hn).2 (by simpa using h), ho p hne]
    rw [show (a + 1) * 4 + 2 = (a * 4 + 2) + 4 by omega]
    rfl
theorem nodeCells_word {P : List Txt} (hT : Tree P) {W W' : Txt → Int} {s : Txt} {x : Int} {a : Nat} (ha : P[a]? = some s) (hs : W' s = x) (ho : ∀ p, p ≠ s → W' p = W p) : nodeCells P W' = (nodeCells P W).set (a * 4 + 2) (.int .i64 x) :=
  flat_word (parent P) W W' s x hs ho P a hT.nodup ha

def RetTrie (w : World) (P : List Txt) (W : Txt → Int) (e : Ending) (w' : World) : Prop :=
  ∃ g, e = .returned (.pointer (some ⟨g, 0, none⟩)) ∧ TrieAt w' w.heap.size g P W ∧ Below w.heap.size w w'

theorem TrieAt.start (w : World) : TrieAt (((w.alloc (.cells #[.int .i64 (-1), .int .i64 0, .int .i64 (-1), .int .u8 0] 92)).alloc (.map #[] 0)).alloc (.cells #[.slice (some ⟨w.heap.size, 0, none⟩) 1 1, .map (some (w.heap.size + 1))] 96)) w.heap.size (w.heap.size + 2) [[]] (fun _ => -1) := by
  have h0 : (w.alloc (.cells #[.int .i64 (-1), .int .i64 0, .int .i64 (-1), .int .u8 0] 92)).heap[w.heap.size]? = some (.cells #[.int .i64 (-1), .int .i64 0, .int .i64 (-1), .int .u8 0] 92 (0, 0)) := heap_alloc_new _ _
  have hm := MapIs.made (w.alloc (.cells #[.int .i64 (-1), .int .i64 0, .int .i64 (-1), .int .u8 0] 92)) Try.prog 128 3
  have hs : (w.alloc (.cells #[.int .i64 (-1), .int .i64 0, .int .i64 (-1), .int .u8 0] 92)).heap.size = w.heap.size + 1 := World.size_alloc _ _
  rw [hs] at hm
  refine ⟨.slice (some ⟨w.heap.size, 0, none⟩) 1 1, w.heap.size + 1, ?_, by omega, by omega, ?_, ?_, Tree.start⟩
  · have := heap_alloc_new ((w.alloc (.cells #[.int .i64 (-1), .int .i64 0, .int .i64 (-1), .int .u8 0] 92)).alloc (.map #[] 0)) (.cells #[.slice (some ⟨w.heap.size, 0, none⟩) 1 1, .map (some (w.heap.size + 1))] 96)
    rw [World.size_alloc, hs] at this
    exact this
  · refine ⟨rfl, .inr ⟨w.heap.size, 1, _, rfl, Nat.le_refl _, blk_old (blk_old h0), Nat.le_refl _, by simp [maxLen], rfl, rfl⟩⟩
  · refine (MapIs.below (MapIs.mono ?_ (Nat.zero_le 1)) ((Below.refl _ _).alloc (Nat.le_refl _) _))
    obtain ⟨D, a, b, c⟩ := hm
    refine ⟨D, a, b, fun key kl hk => ?_⟩
    have := c key kl hk
    have he : edgeF [[]] key = none := by
      unfold edgeF
      split
      · rw [if_neg]
        rintro ⟨x1, x2, _, _, x5⟩
        have := place_mem.1 x5
        simp at this
      · rfl
    rw [he]
    exact this

theorem TrieAt.write {w : World} {base g : Nat} {P : List Txt} {W : Txt → Int} (h : TrieAt w base g P W) : ∃ b cp, w.cell? ⟨g, 0, none⟩ = some (.slice (some ⟨b, 0, none⟩) P.length cp) ∧ P.length ≤ cp ∧
    (∀ i p, P[i]? = some p → w.cell? ⟨b, i * 4 + 2, none⟩ = some (.int .i64 (W p)) ∧ w.frozen? ⟨b, i * 4 + 2, none⟩ = false) ∧
    ∀ i s x W', P[i]? = some s → W' s = x → (∀ p, p ≠ s → W' p = W p) → TrieAt (w.setCell ⟨b, i * 4 + 2, none⟩ (.int .i64 x)) base g P W' ∧ Below base w (w.setCell ⟨b, i * 4 + 2, none⟩ (.int .i64 x)) := by
  obtain ⟨v, mb, hg, h1, h2, ho, hm, hT⟩ := h
  have hl := hT.len
  obtain ⟨b, cp, rfl, hb, hcp⟩ : ∃ b cp, v = .slice (some ⟨b, 0, none⟩) P.length cp ∧ base ≤ b ∧ P.length ≤ cp := by
    rcases ho.2 with ⟨_, h⟩ | ⟨b, cap, cur, hv, hb, hh, hnc, _⟩
    · omega
    · exact ⟨b, cap, hv, hb, hnc⟩
  refine ⟨b, cp, cell_of_blk hg 0, hcp, fun i p hi => ⟨?_, World.ownsRow.frozenAt ho _⟩, fun i s x W' hi hs hW => ?_⟩
  · have hil : i < P.length := (List.getElem?_eq_some_iff.1 hi).1
    rw [World.ownsRow.cellAt ho (i * 4 + 2) (by omega), nodeCells_at P W hi 2 (by omega)]
    rfl
  · have s1 := World.ownsRow.stored ho (i * 4 + 2) (.int .i64 x)
    have hbg : g ≠ b := fun e => own_not_type ho hg (by decide) (by rw [e]; rfl)
    obtain ⟨es, cl, hmm⟩ := hm.is_map
    have hmb : mb ≠ b := fun e => own_not_map ho hmm (by rw [e]; rfl)
    refine ⟨⟨_, mb, (Below.heap_setCell _ _ _ _ hbg).trans hg, h1, h2, ?_, hm.keep (keeps_set w ⟨b, i * 4 + 2, none⟩ _) hmb, hT⟩, (Below.refl _ _).setCell hb _⟩
    rw [nodeCells_word hT hi hs hW]
    exact s1.1

theorem addTo_words {l : List Txt} {b : Txt} {m : Nat} {q : Txt} (h : q ∉ addTo (paths l) b m) : place l q = -1 := by
  refine place_none (fun hm => h ?_)
  obtain ⟨x, hx⟩ := addTo_mono (paths l) b m
  rw [hx]
  exact List.mem_append_left _ (text_mem_paths hm)
theorem place_nat {P : List Txt} {s : Txt} (h : s ∈ P) : ∃ a : Nat, place P s = (a : Int) ∧ P[a]? = some s := by
  have h1 := place_mem.2 h
  refine ⟨(place P s).toNat, by omega, place_get h⟩
theorem take_snoc_b (b : Txt) (m : Nat) (h : m < b.length) : b.take (m + 1) = b.take m ++ [b.getD m 0] := by
  rw [List.take_succ_eq_append_getElem h]; simp [h]

set_option maxRecDepth 100000 in
set_option maxHeartbeats 1600000 in
theorem build_calls (w : World) (A : Option Addr) (c : Nat) (l : List Txt) (htx : Txts w A l) (hl : tot l ≤ 900000) (hll : l.length ≤ 1000000) :
    Calls Try.prog 28 #[.slice A l.length c] w (RetTrie w (paths l) (place l)) := by
  have HX := As.mk htx
  have h00 := As.mk (TrieAt.start w)
  obtain ⟨n, hn⟩ : ∃ n, l.length = n := ⟨_, rfl⟩
  rw [hn] at hll
  rw [hn]
  have hn := As.mk hn
  have HL := As.mk hl
  have htot := As.mk (fun k h => tot_take l k h)
  have hpl := As.mk (fun k => paths_len (l.take k))
  clear htx hl
  generalize hB : w.heap.size = B at *
  have hst : As (∀ k, k < n → l.take (k + 1) = l.take k ++ [l.getD k []]) := ⟨fun k h => take_snoc_txt l k (by rw [hn.out]; exact h)⟩
  have hmm := @run_makeMap Try.prog
  go_enter Try.func28, Try.ntmps28
  go_wp2
  go_loopw [16] (fun i wr => ∃ k : Nat, k ≤ n ∧ i = .int .i64 k ∧ As (TrieAt wr B (B + 2) (paths (l.take k)) (place (l.take k))) ∧ As (Below B w wr)) (fun i _ => n - (intOf i).toNat)
  case atStart =>
    refine ⟨0, Nat.zero_le _, rfl, ⟨?_⟩, ⟨?_⟩⟩
    · have hp0 : place [] = fun _ => -1 := by funext x; rfl
      have hp1 : paths [] = [[]] := rfl
      rw [List.take_zero, hp0, hp1]
      simpa using h00.out
    · exact (((Below.refl _ _).alloc (by omega) _).alloc (by simp; omega) _).alloc (by simp; omega) _
  case round =>
    obtain ⟨k, hk, rfl, hta, hbel⟩ := hrel
    by_cases hlt : k < n
    · obtain ⟨b, hb⟩ : ∃ b, l.getD k [] = b := ⟨_, rfl⟩
      have hT0 := As.mk hta.out.tree
      obtain ⟨ad, A', c', rfl, a1, hc', hbyt⟩ := HX.out.at_ (i := k) (by rw [hn.out]; exact hlt)
      replace a1 := (hbel.out.cell (p := ad.add k) (by have := World.block_lt_of_cell? w _ a1; omega)).trans a1
      rw [hb] at a1 hc' hbyt
      have hLk : As ((l.take k).length = k) := ⟨by rw [List.length_take, hn.out]; omega⟩
      have hbyt := As.mk hbyt
      have hbl : b.length + tot (l.take k) ≤ 900000 := by
        have h1 := htot.out k (by rw [hn.out]; exact hlt)
        rw [hb] at h1
        have := HL.out
        omega
      have hPl := hpl.out k
      have hnext : As (l.take (k + 1) = l.take k ++ [b]) := ⟨by rw [hst.out k hlt, hb]⟩
      generalize hL : l.take k = L at *
      have hlen : As (∀ m, m ≤ b.length → (addTo (paths L) b m).length ≤ 900001) := ⟨fun m hm => by have := addTo_len (paths L) b m; omega⟩
      have hsp : As (∀ m, m ≤ b.length → Tree (addTo (paths L) b m) ∧ b.take m ∈ addTo (paths L) b m) := ⟨fun m hm => ⟨(addTo_spec hT0.out b m hm).1, (addTo_spec hT0.out b m hm).2.1⟩⟩
      have hstart : As ((0 : Int) = place (addTo (paths L) b 0) (b.take 0)) := ⟨by rw [List.take_zero]; exact (place_at hT0.out.nodup hT0.out.root).symm⟩
      obtain ⟨bl, hbL⟩ : ∃ bl, b.length = bl := ⟨_, rfl⟩
      rw [hbL] at a1 hc' hbl hlen hsp
      have hbL := As.mk hbL
      clear hPl hpl htot
      go_wp2
      go_loopw [6, 23] (fun at_ j wr2 => ∃ (m : Nat) (r : Int), m ≤ bl ∧ j = .int .i64 m ∧ at_ = .int .i64 r ∧ As (r = place (addTo (paths L) b m) (b.take m)) ∧ As (TrieAt wr2 B (B + 2) (addTo (paths L) b m) (place L)) ∧ As (Below B w wr2)) (fun _ j _ => bl - (intOf j).toNat)
      case atStart => exact ⟨0, 0, Nat.zero_le _, rfl, rfl, hstart, hta, hbel⟩
      case round =>
        obtain ⟨m, r, hm, rfl, rfl, hr, hta2, hbel2⟩ := hrel
        by_cases hmlt : m < bl
        · obtain ⟨ad2, rfl, a2⟩ := Byt.at_ (Row.below hbyt.out (hB.symm ▸ hbel2.out)) (i := m) (by rw [hbL.out]; exact hmlt)
          obtain ⟨x, hx⟩ : ∃ x, b.getD m 0 = x := ⟨_, rfl⟩
          rw [hx] at a2
          obtain ⟨a, ha1, ha2⟩ := place_nat (hsp.out m hm).2
          rw [← hr.out] at ha1
          subst ha1
          have hg := grow_calls wr B (B + 2) _ _ a (b.take m) x hta2.out ha2 (by have := hlen.out m hm; omega) (by rw [List.length_take, hbL.out]; omega) (fun h => addTo_words h)
          have htk : b.take m ++ [x] = b.take (m + 1) := by rw [← hx]; exact (take_snoc_b b m (by rw [hbL.out]; exact hmlt)).symm
          rw [htk] at hg
          replace hg := As.mk hg
          clear htk ha2
          go_wp2_with (go_at_call 53; refine hg.out.mono ?_; rintro e w' ⟨rfl, ht3, hb3⟩)
          go_roundw
          case rel => exact ⟨m + 1, _, by omega, by go_num, rfl, ⟨rfl⟩, ⟨ht3⟩, ⟨hbel2.out.trans hb3⟩⟩
          case measure => simp [intOf]; omega
        · obtain rfl : m = bl := by omega
          have htb : b.take m = b := List.take_of_length_le (by rw [hbL.out]; omega)
          obtain ⟨a, ha1, ha2⟩ := place_nat (hsp.out m hm).2
          rw [← hr.out] at ha1
          subst ha1
          rw [htb] at ha2
          have hpp : addTo (paths L) b m = paths (L ++ [b]) := by rw [paths_snoc]; unfold addText; rw [hbL.out]
          have ha3 := (List.getElem?_eq_some_iff.1 ha2).1
          have hPL := hlen.out m hm
          rw [hpp] at ha2 ha3 hPL
          have hta3 := hta2.out
          rw [hpp] at hta3
          replace hta3 := As.mk hta3
          obtain ⟨bb, cp, c0, hcp, hcell, hwr⟩ := hta3.out.write
          obtain ⟨d0, f0⟩ := hcell a b ha2
          generalize hQ : paths (L ++ [b]) = Q at *
          clear hcell hpp htb hta2 hlen hsp hstart
          by_cases hin : b ∈ L
          · have hge := place_mem.2 hin
            have hsame : place (L ++ [b]) = place L := by
              funext p
              rw [place_snoc]
              by_cases hp : p ∈ L
              · rw [if_pos hp]
              · rw [if_neg hp, if_neg (fun e : b = p => hp (e ▸ hin)), place_none hp]
            have hfin : As (TrieAt wr B (B + 2) (paths (l.take (k + 1))) (place (l.take (k + 1)))) := ⟨by rw [hnext.out, hsame, hQ]; exact hta3.out⟩
            clear hsame hwr hin
            generalize place L b = y at *
            go_wp2
            go_roundw
            case rel => exact ⟨k + 1, by omega, by go_num, hfin, hbel2⟩
            case measure => simp [intOf]; omega
          · have hy := place_none hin
            have hw2 := hwr a b (k : Int) (place (L ++ [b])) ha2 (by rw [place_snoc, if_neg hin, if_pos rfl, hLk.out]) (fun p hp => by
              rw [place_snoc]
              by_cases hp2 : p ∈ L
              · rw [if_pos hp2]
              · rw [if_neg hp2, if_neg (fun e => hp e.symm), place_none hp2])
            have hfin : As (TrieAt (wr.setCell ⟨bb, a * 4 + 2, none⟩ (.int .i64 (k : Int))) B (B + 2) (paths (l.take (k + 1))) (place (l.take (k + 1)))) := ⟨by rw [hnext.out, hQ]; exact hw2.1⟩
            have hbel3 := As.mk (hbel2.out.trans hw2.2)
            rw [hy] at d0
            clear hw2 hwr hin hy
            go_wp2
            go_roundw
            case rel => exact ⟨k + 1, by omega, by go_num, hfin, hbel3⟩
            case measure => simp [intOf]; omega
    · obtain rfl : k = n := by omega
      have hfin : As (TrieAt wr B (B + 2) (paths l) (place l)) := ⟨by
        have := hta.out
        rw [← hn.out, List.take_length] at this
        exact this⟩
      go_wp2
      go_ret
      exact ⟨B + 2, rfl, hB.symm ▸ hfin.out, hB.symm ▸ hbel.out⟩
end Go.Proofs.Ytglalojbdlepfaa
end
section
/- What an argument of a law reads as: slices of byte texts, with the reach. -/
set_option linter.unusedVariables false
set_option linter.unusedSimpArgs false
namespace Go.Proofs.Ytglalojbdlepfaa
open Go.ChangeShapes Go.WideShapes Go.Deep Go.RowKit Seine.Trie

theorem u8_of {n : Int} (h : (Lit.int .u8 n).wf = true) : ((UInt8.ofNat n.toNat).toNat : Int) = n := by
  simp only [Lit.wf, IntKind.min, IntKind.max, IntKind.signed, IntKind.bits, Bool.and_eq_true, decide_eq_true_eq] at h
  have h1 : n.toNat < 256 := by simp at h; omega
  simp only [UInt8.toNat_ofNat']
  have h0 : 0 ≤ n := by simp at h; omega
  omega
section
variable {H : Type} {enc : TypeId × Value → H} {w : World} {base : Nat}
set_option maxRecDepth 100000 in
theorem arg_bytes2 {t e q : TypeId} (ht : Try.prog.underlying t = some (.slice e)) (he : Try.prog.underlying e = some (.slice q)) (hq : Try.prog.underlying q = some (.int .u8)) (ce : Try.prog.cellsOf e = 1) (cq : Try.prog.cellsOf q = 1) (hB : Try.prog.bytesOf e = 24)
    {ts : List TypeId} {ds : List (DataW H)} {j : Nat} (hsz : (DataW.weightsEach Try.prog ts ds).all (· ≤ reachBytes) = true) {v : Value} {d : DataW H} {p : List MemPlace} (hts : ts[j]? = some t) (hds : ds[j]? = some d)
    (hv : Value.okWide Try.prog w .any base t v) (h : DataW.Trod enc Try.prog w 0 (fun _ => true) true t v d p) :
    ∃ (A : Option Addr) (c : Nat) (l : List Txt), v = .slice A l.length c ∧ Txts w A l ∧ l.length ≤ c ∧ c * 24 ≤ 140737488351232 ∧ ∀ x ∈ l, x.length ≤ maxLen := by
  obtain ⟨a0, len, cap, rfl⟩ := okWide_slice ht hv
  obtain ⟨fuel, hf⟩ := h
  rcases open_int_rows ht he hq ce cq hf with ⟨hcs, _⟩ | ⟨a, ln, cp, A, L, C, Z, hcs, _, hl, hm, hx, hr⟩
  · simp [Value.cells] at hcs
    obtain ⟨rfl, rfl, rfl⟩ := hcs
    exact ⟨none, 0, [], rfl, ⟨[], rfl, .inl rfl, fun i hi => by simp at hi⟩, Nat.le_refl _, by omega, by simp⟩
  · simp [Value.cells] at hcs
    obtain ⟨rfl, rfl, rfl⟩ := hcs
    obtain ⟨hx, _⟩ := Prod.mk.inj hx
    subst hx
    have z := sized_slice hsz hts hds ht
    rw [hB] at z
    simp only [List.length_map, List.length_range, reachBytes] at z
    have hz : (len + (cap - len)) * 24 ≤ 140737488351232 := z
    let tx : Nat → Txt := fun r => ((Z r).take (L r)).map fun n => UInt8.ofNat n.toNat
    have txl : ∀ r, r < cap → (tx r).length = L r := fun r h => by
      obtain ⟨_, h1, _, h2, _⟩ := hr r h
      simp only [tx, List.length_map, List.length_take]
      omega
    have hg : ∀ i, i < len → ((List.range len).map tx).getD i [] = tx i := fun i hi => by
      rw [List.getD_eq_getElem?_getD, List.getElem?_map, List.getElem?_range hi]; rfl
    refine ⟨some a, cap, (List.range len).map tx, by simp, ⟨(List.range len).map (fun r => .slice (A r) (L r) (C r)), by simp, row_of_cells (fun _ => ⟨a, rfl, fun j u hu => ?_⟩), fun i hi => ?_⟩, by simp; omega, by omega, fun x hx => ?_⟩
    · rw [List.getElem?_map, Option.map_eq_some_iff] at hu
      obtain ⟨y, hy, rfl⟩ := hu
      obtain ⟨hjl, hy⟩ := List.getElem?_eq_some_iff.1 hy
      simp at hjl hy
      subst hy
      exact (hr j (by omega)).1
    · have hil : i < len := by simpa using hi
      obtain ⟨h1, h2, h3, h4, h5, h6, h7⟩ := hr i (by omega)
      rw [hg i hil, txl i (by omega)]
      refine ⟨A i, C i, by rw [List.getElem?_map, List.getElem?_range hil]; rfl, h2, row_of_cells (fun h0 => ?_)⟩
      rw [byCells_length, txl i (by omega)] at h0
      cases hA : A i with
      | none => have := h6 hA; omega
      | some a' =>
        refine ⟨a', rfl, fun j u hu => ?_⟩
        obtain ⟨_, h8⟩ := h7 a' hA
        unfold byCells at hu
        rw [List.getElem?_map, Option.map_eq_some_iff] at hu
        obtain ⟨y, hy, rfl⟩ := hu
        simp only [tx] at hy
        rw [List.getElem?_map, Option.map_eq_some_iff] at hy
        obtain ⟨n, hn, rfl⟩ := hy
        have hj : j < L i := by
          have := (List.getElem?_eq_some_iff.1 hn).1
          rw [List.length_take] at this; omega
        rw [List.getElem?_take_of_lt hj] at hn
        rw [h8 j (by omega), List.getD_eq_getElem?_getD, hn, u8_of (h5 n (List.mem_of_getElem? hn))]
        rfl
    · obtain ⟨r, hr1, rfl⟩ := List.mem_map.1 hx
      have hrl := List.mem_range.1 hr1
      rw [txl r (by omega)]
      obtain ⟨_, h2, h3, _⟩ := hr r (by omega)
      omega
end
end Go.Proofs.Ytglalojbdlepfaa
end
section
/- What an argument of a law reads as: a slice of bytes. -/
set_option linter.unusedVariables false
set_option linter.unusedSimpArgs false
set_option maxRecDepth 100000
namespace Go.Proofs.Ytglalojbdlepfaa
open Go.ChangeShapes Go.WideShapes Go.Deep Go.RowKit Seine.Trie

theorem u8_in {n : Int} (h : (Lit.int .u8 n).wf = true) : ((UInt8.ofNat n.toNat).toNat : Int) = n := by
  simp only [Lit.wf, IntKind.min, IntKind.max, IntKind.signed, IntKind.bits, Bool.and_eq_true, decide_eq_true_eq] at h
  have h1 : n.toNat < 256 := by simp at h; omega
  simp only [UInt8.toNat_ofNat']
  have h0 : 0 ≤ n := by simp at h; omega
  omega
theorem arg_bytes {H : Type} {enc : TypeId × Value → H} {w : World} {base : Nat} {v : Value} {d : DataW H} {p : List MemPlace}
    (hv : Value.okWide Try.prog w .any base 23 v) (h : DataW.Trod enc Try.prog w 0 (fun _ => true) true 23 v d p) :
    ∃ (A : Option Addr) (c : Nat) (b : Txt), v = .slice A b.length c ∧ Byt w A b ∧ b.length ≤ c ∧ c ≤ maxLen ∧ True := by
  obtain ⟨A, c, xs, rfl, hr, h1, h2, h3⟩ := arg_ints Try.underlying23 Try.underlying5 (by kernel_rfl) hv h
  refine ⟨A, c, xs.map fun n => UInt8.ofNat n.toNat, by rw [List.length_map], ?_, by rw [List.length_map]; exact h1, h2, trivial⟩
  have : byCells (xs.map fun n => UInt8.ofNat n.toNat) = xs.map (Value.int .u8) := by
    unfold byCells
    rw [List.map_map]
    refine List.map_congr_left fun n hn => ?_
    show Value.int .u8 ((UInt8.ofNat n.toNat).toNat : Int) = _
    rw [u8_in (h3 n hn)]
  unfold Byt
  rw [this]
  exact hr
end Go.Proofs.Ytglalojbdlepfaa
end
section
/- The plain law of package links: falls, and the order of the nodes. -/
set_option linter.unusedVariables false
set_option linter.unusedSimpArgs false
namespace Seine.Links
open Seine.Trie

/-! ### the first number -/
def firstN (q : Nat → Bool) : Nat → Nat → Option Nat
  | _, 0 => none
  | a, k + 1 => if q a then some a else firstN q (a + 1) k
theorem firstN_some {q : Nat → Bool} : ∀ {k a n : Nat}, firstN q a k = some n → a ≤ n ∧ n < a + k ∧ q n = true ∧ ∀ j, a ≤ j → j < n → q j = false
  | 0, a, n, h => by simp [firstN] at h
  | k + 1, a, n, h => by
    unfold firstN at h
    by_cases hq : q a = true
    · rw [if_pos hq] at h
      injection h with h; subst h
      exact ⟨Nat.le_refl _, by omega, hq, fun j h1 h2 => by omega⟩
    · rw [if_neg hq] at h
      obtain ⟨h1, h2, h3, h4⟩ := firstN_some h
      refine ⟨by omega, by omega, h3, fun j h5 h6 => ?_⟩
      rcases Nat.eq_or_lt_of_le h5 with h7 | h7
      · subst h7; simpa using hq
      · exact h4 j h7 h6
theorem firstN_none {q : Nat → Bool} : ∀ {k a : Nat}, firstN q a k = none → ∀ j, a ≤ j → j < a + k → q j = false
  | 0, a, _, j, h1, h2 => by omega
  | k + 1, a, h, j, h1, h2 => by
    unfold firstN at h
    by_cases hq : q a = true
    · rw [if_pos hq] at h; cases h
    · rw [if_neg hq] at h
      rcases Nat.eq_or_lt_of_le h1 with h7 | h7
      · subst h7; simpa using hq
      · exact firstN_none h j h7 (by omega)
theorem firstN_eq {q : Nat → Bool} {a k n : Nat} (h1 : a ≤ n) (h2 : n < a + k) (h3 : q n = true) (h4 : ∀ j, a ≤ j → j < n → q j = false) : firstN q a k = some n := by
  cases h : firstN q a k with
  | none => have := firstN_none h n h1 h2; rw [h3] at this; cases this
  | some m =>
    obtain ⟨e1, e2, e3, e4⟩ := firstN_some h
    rcases Nat.lt_trichotomy m n with hm | hm | hm
    · have := h4 m e1 hm; rw [e3] at this; cases this
    · rw [hm]
    · have := e4 n h1 hm; rw [h3] at this; cases this
theorem firstN_no {q : Nat → Bool} {a k : Nat} (h : ∀ j, a ≤ j → j < a + k → q j = false) : firstN q a k = none := by
  cases h' : firstN q a k with
  | none => rfl
  | some m =>
    obtain ⟨e1, e2, e3, _⟩ := firstN_some h'
    rw [h m e1 e2] at e3; cases e3

/-! ### falls -/
def failN (P : List Txt) (s : Txt) : Option Nat := firstN (fun n => decide (s.drop n ∈ P)) 1 s.length
def outN (l : List Txt) (s : Txt) : Option Nat := firstN (fun n => decide (s.drop n ∈ l)) 1 (s.length - 1)
def failF (P : List Txt) (s : Txt) : Int := match failN P s with | some n => place P (s.drop n) | none => -1
def outF (P l : List Txt) (s : Txt) : Int := match outN l s with | some n => place P (s.drop n) | none => -1
def ownF (l : List Txt) (s : Txt) : Int := if s ∈ l then s.length else 0
def endsF (l : List Txt) (s : Txt) : List Int := ((List.range s.length).filter fun n => decide (s.drop n ∈ l)).map fun n => ((s.length - n : Nat) : Int)

theorem failN_some {P : List Txt} {s : Txt} {n : Nat} (h : failN P s = some n) : 1 ≤ n ∧ n ≤ s.length ∧ s.drop n ∈ P ∧ ∀ j, 1 ≤ j → j < n → s.drop j ∉ P := by
  obtain ⟨h1, h2, h3, h4⟩ := firstN_some h
  exact ⟨h1, by omega, of_decide_eq_true h3, fun j a b => of_decide_eq_false (h4 j a b)⟩
theorem failN_eq {P : List Txt} {s : Txt} {n : Nat} (h1 : 1 ≤ n) (h2 : n ≤ s.length) (h3 : s.drop n ∈ P) (h4 : ∀ j, 1 ≤ j → j < n → s.drop j ∉ P) : failN P s = some n :=
  firstN_eq h1 (by omega) (decide_eq_true h3) fun j a b => decide_eq_false (h4 j a b)
theorem failN_none {P : List Txt} {s : Txt} (h : failN P s = none) (j : Nat) (h1 : 1 ≤ j) (h2 : j ≤ s.length) : s.drop j ∉ P := of_decide_eq_false (firstN_none h j h1 (by omega))
theorem outN_some {l : List Txt} {s : Txt} {n : Nat} (h : outN l s = some n) : 1 ≤ n ∧ n < s.length ∧ s.drop n ∈ l ∧ ∀ j, 1 ≤ j → j < n → s.drop j ∉ l := by
  obtain ⟨h1, h2, h3, h4⟩ := firstN_some h
  exact ⟨h1, by omega, of_decide_eq_true h3, fun j a b => of_decide_eq_false (h4 j a b)⟩
theorem outN_eq {l : List Txt} {s : Txt} {n : Nat} (h1 : 1 ≤ n) (h2 : n < s.length) (h3 : s.drop n ∈ l) (h4 : ∀ j, 1 ≤ j → j < n → s.drop j ∉ l) : outN l s = some n :=
  firstN_eq h1 (by omega) (decide_eq_true h3) fun j a b => decide_eq_false (h4 j a b)
theorem outN_none {l : List Txt} {s : Txt} (h : outN l s = none) (j : Nat) (h1 : 1 ≤ j) (h2 : j < s.length) : s.drop j ∉ l := of_decide_eq_false (firstN_none h j h1 (by omega))
theorem outN_no {l : List Txt} {s : Txt} (h : ∀ j, 1 ≤ j → j < s.length → s.drop j ∉ l) : outN l s = none := firstN_no fun j a b => decide_eq_false (h j a (by omega))

theorem failF_nil (P : List Txt) : failF P [] = -1 := rfl
theorem outF_nil (P l : List Txt) : outF P l [] = -1 := rfl
theorem ownF_nil (l : List Txt) : ownF l [] = 0 := by unfold ownF; split <;> rfl
theorem fail_some {P : List Txt} (hT : Tree P) {s : Txt} (hs : s ≠ []) : ∃ n, failN P s = some n := by
  cases h : failN P s with
  | some n => exact ⟨n, rfl⟩
  | none =>
    have h0 : 0 < s.length := List.length_pos_iff.2 hs
    have := failN_none h s.length h0 (Nat.le_refl _)
    rw [List.drop_length] at this
    exact absurd hT.nil_mem this

theorem snoc_drop {q : Txt} {c : UInt8} {j : Nat} (h : j ≤ q.length) : (q ++ [c]).drop j = q.drop j ++ [c] := by
  rw [List.drop_append_of_le_length h]
theorem up_snoc {P : List Txt} (hT : Tree P) {r : Txt} {c : UInt8} (h : r ++ [c] ∈ P) : r ∈ P := by
  have := hT.up _ h (by simp)
  rwa [List.dropLast_concat] at this

/-- Where the search for a fall stands. -/
def Back (P : List Txt) (q : Txt) (c : UInt8) (n : Int) : Prop :=
  (∃ k, 1 ≤ k ∧ k ≤ q.length ∧ n = place P (q.drop k) ∧ q.drop k ∈ P ∧ ∀ j, 1 ≤ j → j < k → (q ++ [c]).drop j ∉ P) ∨ (n = -1 ∧ ∀ j, 1 ≤ j → j ≤ q.length → (q ++ [c]).drop j ∉ P)
theorem back_from {P : List Txt} (hT : Tree P) {q : Txt} {c : UInt8} {k : Nat} (hk : k ≤ q.length) (h : ∀ j, 1 ≤ j → j ≤ k → (q ++ [c]).drop j ∉ P) : Back P q c (failF P (q.drop k)) := by
  unfold failF
  cases hf : failN P (q.drop k) with
  | some n =>
    obtain ⟨h1, h2, h3, h4⟩ := failN_some hf
    rw [List.length_drop] at h2
    rw [List.drop_drop] at h3
    refine .inl ⟨k + n, by omega, by omega, by simp only [List.drop_drop], h3, fun j a b => ?_⟩
    by_cases hj : j ≤ k
    · exact h j a hj
    · intro hm
      rw [snoc_drop (by omega)] at hm
      have := h4 (j - k) (by omega) (by omega)
      rw [List.drop_drop, show k + (j - k) = j by omega] at this
      exact this (up_snoc hT hm)
  | none =>
    refine .inr ⟨rfl, fun j a b => ?_⟩
    by_cases hj : j ≤ k
    · exact h j a hj
    · intro hm
      rw [snoc_drop b] at hm
      have := failN_none hf (j - k) (by omega) (by rw [List.length_drop]; omega)
      rw [List.drop_drop, show k + (j - k) = j by omega] at this
      exact this (up_snoc hT hm)
theorem back_start {P : List Txt} (hT : Tree P) (q : Txt) (c : UInt8) : Back P q c (failF P q) := back_from hT (k := 0) (Nat.zero_le _) (fun j a b => by omega)
theorem back_end {P : List Txt} (hT : Tree P) {q : Txt} {c : UInt8} {n : Int} (h : Back P q c n) (hn : n < 0) : failF P (q ++ [c]) = 0 := by
  rcases h with ⟨k, _, _, h3, h4, _⟩ | ⟨_, h⟩
  · have := place_mem.2 h4; omega
  · have : failN P (q ++ [c]) = some (q.length + 1) := failN_eq (by omega) (by simp) (by rw [List.drop_of_length_le (by simp)]; exact hT.nil_mem) fun j a b => h j a (by omega)
    unfold failF
    rw [this]
    simp only
    rw [List.drop_of_length_le (by simp), place_at hT.nodup hT.root]; rfl
theorem back_step {P : List Txt} (hT : Tree P) {q : Txt} {c : UInt8} {n : Int} (h : Back P q c n) (hn : 0 ≤ n) : ∃ r, r ∈ P ∧ n = place P r ∧ r.length < q.length + 0 ∧
    ((0 ≤ place P (r ++ [c]) ∧ failF P (q ++ [c]) = place P (r ++ [c])) ∨ (place P (r ++ [c]) < 0 ∧ Back P q c (failF P r))) := by
  rcases h with ⟨k, h1, h2, h3, h4, h5⟩ | ⟨h, _⟩
  · refine ⟨q.drop k, h4, h3, by rw [List.length_drop]; omega, ?_⟩
    by_cases hm : q.drop k ++ [c] ∈ P
    · refine .inl ⟨place_mem.2 hm, ?_⟩
      have : failN P (q ++ [c]) = some k := failN_eq h1 (by simp; omega) (by rw [snoc_drop h2]; exact hm) h5
      unfold failF
      rw [this]
      simp only
      rw [snoc_drop h2]
    · refine .inr ⟨place_neg.2 hm, back_from hT h2 fun j a b => ?_⟩
      rcases Nat.eq_or_lt_of_le b with e | e
      · subst e; rw [snoc_drop h2]; exact hm
      · exact h5 j a e
  · omega
/-- A fall is shorter. -/
theorem fail_short {P : List Txt} {r : Txt} (h : 0 ≤ failF P r) : ∃ r', r' ∈ P ∧ failF P r = place P r' ∧ r'.length < r.length := by
  unfold failF at h ⊢
  cases hf : failN P r with
  | some n =>
    obtain ⟨h1, h2, h3, _⟩ := failN_some hf
    exact ⟨_, h3, rfl, by rw [List.length_drop]; omega⟩
  | none => rw [hf] at h; simp at h

theorem out_rec {P l : List Txt} (hl : ∀ x, x ∈ l → x ∈ P) {s : Txt} {n : Nat} (hf : failN P s = some n) : outF P l s = if ownF l (s.drop n) = 0 then outF P l (s.drop n) else place P (s.drop n) := by
  obtain ⟨h1, h2, h3, h4⟩ := failN_some hf
  by_cases ho : ownF l (s.drop n) = 0
  · rw [if_pos ho]
    have hno : ∀ j, 1 ≤ j → j ≤ n → j < s.length → s.drop j ∉ l := fun j a b d hm => by
      rcases Nat.eq_or_lt_of_le b with e | e
      · subst e
        unfold ownF at ho
        rw [if_pos hm, List.length_drop] at ho
        omega
      · exact h4 j a e (hl _ hm)
    unfold outF
    cases hq : outN l (s.drop n) with
    | some m =>
      obtain ⟨e1, e2, e3, e4⟩ := outN_some hq
      rw [List.length_drop] at e2
      rw [List.drop_drop] at e3
      have : outN l s = some (n + m) := outN_eq (by omega) (by omega) e3 fun j a b => by
        by_cases hj : j ≤ n
        · exact hno j a hj (by omega)
        · have := e4 (j - n) (by omega) (by omega)
          rwa [List.drop_drop, show n + (j - n) = j by omega] at this
      rw [this]
      simp only [List.drop_drop]
    | none =>
      have : outN l s = none := outN_no fun j a b => by
        by_cases hj : j ≤ n
        · exact hno j a hj b
        · have := outN_none hq (j - n) (by omega) (by rw [List.length_drop]; omega)
          rwa [List.drop_drop, show n + (j - n) = j by omega] at this
      rw [this]
  · rw [if_neg ho]
    have hm : s.drop n ∈ l := by
      unfold ownF at ho
      by_cases hm : s.drop n ∈ l
      · exact hm
      · rw [if_neg hm] at ho; exact absurd rfl ho
    have hlt : n < s.length := by
      unfold ownF at ho
      rw [if_pos hm, List.length_drop] at ho
      omega
    have : outN l s = some n := outN_eq h1 hlt hm fun j a b hj => h4 j a b (hl _ hj)
    unfold outF
    rw [this]

theorem ends_drop (l : List Txt) (s : Txt) (k : Nat) (hk : k ≤ s.length) : endsF l (s.drop k) = ((List.range' k (s.length - k)).filter fun n => decide (s.drop n ∈ l)).map fun n => ((s.length - n : Nat) : Int) := by
  unfold endsF
  rw [List.length_drop]
  have : List.range' k (s.length - k) = (List.range (s.length - k)).map (fun n => k + n) := by
    rw [List.range_eq_range', List.map_add_range']
    simp
  rw [this, List.filter_map, List.map_map]
  have e1 : ((fun n => decide (s.drop n ∈ l)) ∘ fun n => k + n) = fun n => decide ((s.drop k).drop n ∈ l) := by
    funext n; simp [List.drop_drop]
  rw [e1]
  apply List.map_congr_left
  intro n hn
  simp only [Function.comp]
  congr 1
  omega
theorem ends_skip (l : List Txt) (s : Txt) : ∀ (m k : Nat), k + m ≤ s.length → (∀ j, k ≤ j → j < k + m → s.drop j ∉ l) → endsF l (s.drop k) = endsF l (s.drop (k + m))
  | 0, k, _, _ => rfl
  | m + 1, k, h, hno => by
    rw [ends_drop l s k (by omega), show s.length - k = (s.length - (k + 1)) + 1 by omega, List.range'_succ, List.filter_cons, if_neg (by simpa using hno k (Nat.le_refl _) (by omega)), ← ends_drop l s (k + 1) (by omega),
      ends_skip l s m (k + 1) (by omega) (fun j a b => hno j (by omega) (by omega)), show k + 1 + m = k + (m + 1) by omega]
theorem ends_rec (l : List Txt) (s : Txt) : endsF l s = (if 0 < ownF l s then [ownF l s] else []) ++ (match outN l s with | some n => endsF l (s.drop n) | none => []) := by
  by_cases hs : s = []
  · subst hs
    rw [ownF_nil]; rfl
  · have h0 : 0 < s.length := List.length_pos_iff.2 hs
    have h1 : endsF l s = (if 0 < ownF l s then [ownF l s] else []) ++ endsF l (s.drop 1) := by
      have e := ends_drop l s 0 (Nat.zero_le _)
      rw [List.drop_zero] at e
      rw [e, show s.length - 0 = (s.length - 1) + 1 by omega, List.range'_succ, List.filter_cons, ends_drop l s 1 h0]
      unfold ownF
      by_cases hm : s ∈ l
      · rw [if_pos (by simpa using hm), if_pos hm, if_pos (by omega)]
        simp
      · rw [if_neg (by simpa using hm), if_neg hm]
        simp
    rw [h1]
    congr 1
    cases hq : outN l s with
    | some n =>
      obtain ⟨a, b, _, d⟩ := outN_some hq
      have := ends_skip l s (n - 1) 1 (by omega) (fun j x y => d j x (by omega))
      rw [this, show 1 + (n - 1) = n by omega]
    | none =>
      have := ends_skip l s (s.length - 1) 1 (by omega) (fun j x y => outN_none hq j x (by omega))
      rw [this, show 1 + (s.length - 1) = s.length by omega, List.drop_length]
      rfl
end Seine.Links
end
section
/- Plain facts on lists of pairs in order, each once: putting in, joining two, what stands in a line. No program, no memory. -/
namespace Seine.Sort
open Seine.Trie
abbrev Pr := Int × Int
def lt (a b : Pr) : Prop := a.1 < b.1 ∨ (a.1 = b.1 ∧ a.2 < b.2)
instance : DecidableRel lt := fun a b => inferInstanceAs (Decidable (_ ∨ _))
theorem lt_trans {a b c : Pr} (h : lt a b) (k : lt b c) : lt a c := by unfold lt at *; omega
theorem lt_irr (a : Pr) : ¬ lt a a := by unfold lt; omega
theorem lt_tri (a b : Pr) : lt a b ∨ a = b ∨ lt b a := by
  obtain ⟨x, y⟩ := a
  obtain ⟨u, v⟩ := b
  simp only [lt, Prod.mk.injEq]
  omega
def Rise (l : List Pr) : Prop := l.Pairwise lt
theorem Rise.nil : Rise [] := List.Pairwise.nil
theorem rise_cons {x : Pr} {l : List Pr} : Rise (x :: l) ↔ (∀ y ∈ l, lt x y) ∧ Rise l := List.pairwise_cons
theorem rise_app {a b : List Pr} : Rise (a ++ b) ↔ Rise a ∧ Rise b ∧ ∀ x ∈ a, ∀ y ∈ b, lt x y := List.pairwise_append
/-- Two lists in order of the same things are one. -/
theorem rise_ext : ∀ {a b : List Pr}, Rise a → Rise b → (∀ x, x ∈ a ↔ x ∈ b) → a = b
  | [], [], _, _, _ => rfl
  | [], y :: b, _, _, h => by have := (h y).2 (by simp); simp at this
  | x :: a, [], _, _, h => by have := (h x).1 (by simp); simp at this
  | x :: a, y :: b, ha, hb, h => by
    obtain ⟨h1, ka⟩ := rise_cons.1 ha
    obtain ⟨h2, kb⟩ := rise_cons.1 hb
    have hxy : x = y := by
      have hx := (h x).1 (by simp)
      have hy := (h y).2 (by simp)
      rcases List.mem_cons.1 hx with e | e
      · exact e
      · rcases List.mem_cons.1 hy with f | f
        · exact f.symm
        · exact absurd (lt_trans (h1 y f) (h2 x e)) (lt_irr x)
    subst hxy
    have hz : ∀ z, z ∈ a ↔ z ∈ b := by
      intro z
      constructor
      · intro hz
        rcases List.mem_cons.1 ((h z).1 (List.mem_cons_of_mem _ hz)) with e | e
        · subst e; exact absurd (h1 _ hz) (lt_irr _)
        · exact e
      · intro hz
        rcases List.mem_cons.1 ((h z).2 (List.mem_cons_of_mem _ hz)) with e | e
        · subst e; exact absurd (h2 _ hz) (lt_irr _)
        · exact e
    rw [rise_ext ka kb hz]
/-- One thing more, in order, once. -/
def put : List Pr → Pr → List Pr
  | [], p => [p]
  | x :: l, p => if lt x p then x :: put l p else if x = p then x :: l else p :: x :: l
theorem mem_put {l : List Pr} {p x : Pr} : x ∈ put l p ↔ x ∈ l ∨ x = p := by
  induction l with
  | nil => simp [put]
  | cons y l ih =>
    unfold put
    by_cases h1 : lt y p
    · rw [if_pos h1]; simp only [List.mem_cons, ih]; exact or_assoc.symm
    · rw [if_neg h1]
      by_cases h2 : y = p
      · rw [if_pos h2]; subst h2
        constructor
        · exact .inl
        · rintro (h | rfl)
          · exact h
          · simp
      · rw [if_neg h2]; simp only [List.mem_cons]
        constructor
        · rintro (h | h | h)
          · exact .inr h
          · exact .inl (.inl h)
          · exact .inl (.inr h)
        · rintro ((h | h) | h)
          · exact .inr (.inl h)
          · exact .inr (.inr h)
          · exact .inl h
theorem rise_put {l : List Pr} {p : Pr} (h : Rise l) : Rise (put l p) := by
  induction l with
  | nil => simp [put, Rise]
  | cons y l ih =>
    obtain ⟨h1, h2⟩ := rise_cons.1 h
    unfold put
    by_cases k1 : lt y p
    · rw [if_pos k1]
      refine rise_cons.2 ⟨fun z hz => ?_, ih h2⟩
      rcases mem_put.1 hz with hz | rfl
      · exact h1 z hz
      · exact k1
    · rw [if_neg k1]
      by_cases k2 : y = p
      · rw [if_pos k2]; exact h
      · rw [if_neg k2]
        have hp : lt p y := by
          rcases lt_tri y p with e | e | e
          · exact absurd e k1
          · exact absurd e k2
          · exact e
        refine rise_cons.2 ⟨fun z hz => ?_, h⟩
        rcases List.mem_cons.1 hz with rfl | hz
        · exact hp
        · exact lt_trans hp (h1 z hz)
/-- In order, each once. -/
def sortP (l : List Pr) : List Pr := l.foldl put []
theorem foldl_put (l : List Pr) : ∀ (a : List Pr), Rise a → Rise (l.foldl put a) ∧ ∀ x, x ∈ l.foldl put a ↔ x ∈ a ∨ x ∈ l := by
  induction l with
  | nil => intro a h; exact ⟨h, fun x => by simp⟩
  | cons y l ih =>
    intro a h
    obtain ⟨h1, h2⟩ := ih (put a y) (rise_put h)
    refine ⟨h1, fun x => ?_⟩
    rw [List.foldl_cons, h2, mem_put, List.mem_cons, or_assoc]
theorem rise_sortP (l : List Pr) : Rise (sortP l) := (foldl_put l [] Rise.nil).1
theorem mem_sortP {l : List Pr} {x : Pr} : x ∈ sortP l ↔ x ∈ l := by rw [sortP, (foldl_put l [] Rise.nil).2]; simp
theorem sortP_ext {a b : List Pr} (h : ∀ x, x ∈ a ↔ x ∈ b) : sortP a = sortP b := rise_ext (rise_sortP a) (rise_sortP b) fun x => by rw [mem_sortP, mem_sortP, h]
theorem sortP_rise {a : List Pr} (h : Rise a) : sortP a = a := rise_ext (rise_sortP a) h fun x => mem_sortP
theorem sortP_eq {a b : List Pr} (hb : Rise b) (h : ∀ x, x ∈ a ↔ x ∈ b) : sortP a = b := (sortP_ext h).trans (sortP_rise hb)
theorem put_len (l : List Pr) (p : Pr) : (put l p).length ≤ l.length + 1 := by
  induction l with
  | nil => simp [put]
  | cons y l ih => unfold put; split <;> (try split) <;> simp <;> omega
theorem sortP_len (l : List Pr) : (sortP l).length ≤ l.length := by
  have : ∀ (l a : List Pr), (l.foldl put a).length ≤ a.length + l.length := by
    intro l
    induction l with
    | nil => intro a; simp
    | cons y l ih => intro a; rw [List.foldl_cons]; have := ih (put a y); have := put_len a y; simp; omega
  have := this l []
  simpa [sortP] using this
theorem sortP_short {l : List Pr} (h : l.length < 2) : sortP l = l := by
  match l, h with
  | [], _ => rfl
  | [x], _ => rfl
theorem sortP_split (l : List Pr) (m : Nat) : sortP (sortP (l.take m) ++ sortP (l.drop m)) = sortP l := by
  refine sortP_ext fun x => ?_
  rw [List.mem_append, mem_sortP, mem_sortP, ← List.mem_append, List.take_append_drop]

/-! ### two rows in order as one -/
def push (out : List Pr) (x : Pr) : List Pr := if out.getLast? = some x then out else out ++ [x]
theorem push_len (out : List Pr) (x : Pr) : (push out x).length ≤ out.length + 1 := by unfold push; split <;> simp
structure Join (A B a b out : List Pr) : Prop where
  ra : Rise a
  rb : Rise b
  ro : Rise out
  mem : ∀ z, (z ∈ out ∨ z ∈ a ∨ z ∈ b) ↔ (z ∈ A ∨ z ∈ B)
  le : ∀ x ∈ out, ∀ y, y ∈ a ∨ y ∈ b → lt x y ∨ x = y
theorem Join.start {A B : List Pr} (ha : Rise A) (hb : Rise B) : Join A B A B [] := ⟨ha, hb, Rise.nil, by simp, by simp⟩
theorem mem_push {out : List Pr} {x z : Pr} : z ∈ push out x ↔ z ∈ out ∨ z = x := by
  unfold push
  split
  · rename_i h
    have := List.mem_of_getLast? h
    constructor
    · exact .inl
    · rintro (h | rfl)
      · exact h
      · exact this
  · simp
theorem rise_push {out : List Pr} {x : Pr} (h : Rise out) (hx : ∀ o ∈ out, lt o x ∨ o = x) : Rise (push out x) := by
  unfold push
  split
  · exact h
  · rename_i hl
    refine rise_app.2 ⟨h, by simp [Rise], fun o ho y hy => ?_⟩
    rw [List.mem_singleton] at hy
    subst hy
    rcases hx o ho with e | e
    · exact e
    · subst e
      exfalso
      obtain ⟨pre, z, rfl⟩ : ∃ pre z, out = pre ++ [z] := ⟨out.dropLast, out.getLast (by intro e; rw [e] at ho; simp at ho), (List.dropLast_concat_getLast _).symm⟩
      rw [List.getLast?_concat] at hl
      have hz : z ≠ o := fun e => hl (by rw [e])
      obtain ⟨_, _, h3⟩ := rise_app.1 h
      have ho2 : o ∈ pre := by
        rcases List.mem_append.1 ho with e | e
        · exact e
        · rw [List.mem_singleton] at e; exact absurd e.symm hz
      have h4 := h3 o ho2 z (by simp)
      rcases hx z (by simp) with e | e
      · exact lt_irr _ (lt_trans h4 e)
      · exact hz e
theorem Join.takeA {A B a b out : List Pr} {x : Pr} (h : Join A B (x :: a) b out) (hb : ∀ y ∈ b, lt x y ∨ x = y) : Join A B a b (push out x) := by
  obtain ⟨h1, h2⟩ := rise_cons.1 h.ra
  refine ⟨h2, h.rb, rise_push h.ro fun o ho => h.le o ho x (.inl (by simp)), fun z => ?_, fun o ho y hy => ?_⟩
  · rw [← h.mem z, mem_push, List.mem_cons]
    constructor
    · rintro ((h | h) | h | h)
      · exact .inl h
      · exact .inr (.inl (.inl h))
      · exact .inr (.inl (.inr h))
      · exact .inr (.inr h)
    · rintro (h | (h | h) | h)
      · exact .inl (.inl h)
      · exact .inl (.inr h)
      · exact .inr (.inl h)
      · exact .inr (.inr h)
  · rcases mem_push.1 ho with ho | rfl
    · exact h.le o ho y (hy.imp (List.mem_cons_of_mem _) id)
    · rcases hy with hy | hy
      · exact .inl (h1 y hy)
      · exact hb y hy
theorem Join.swap {A B a b out : List Pr} (h : Join A B a b out) : Join B A b a out := by
  refine ⟨h.rb, h.ra, h.ro, fun z => ?_, fun x hx z hz => h.le x hx z hz.symm⟩
  have := h.mem z
  constructor
  · rintro (q | q | q)
    · exact (this.1 (.inl q)).symm
    · exact (this.1 (.inr (.inr q))).symm
    · exact (this.1 (.inr (.inl q))).symm
  · intro q
    rcases this.2 q.symm with q | q | q
    · exact .inl q
    · exact .inr (.inr q)
    · exact .inr (.inl q)
theorem Join.takeB {A B a b out : List Pr} {y : Pr} (h : Join A B a (y :: b) out) (ha : ∀ x ∈ a, lt y x ∨ y = x) : Join A B a b (push out y) := (h.swap.takeA ha).swap
theorem Join.done {A B out : List Pr} (h : Join A B [] [] out) : out = sortP (A ++ B) := by
  refine (sortP_eq h.ro fun x => ?_).symm
  rw [List.mem_append, ← h.mem x]; simp
/-- What stands ahead in a row in order. -/
theorem rise_head {x y : Pr} {l : List Pr} (h : Rise (x :: l)) (hy : lt y x ∨ y = x) : ∀ z ∈ x :: l, lt y z ∨ y = z := by
  obtain ⟨h1, _⟩ := rise_cons.1 h
  intro z hz
  rcases List.mem_cons.1 hz with e | hz
  · rw [e]; exact hy
  · rcases hy with hy | hy
    · exact .inl (lt_trans hy (h1 z hz))
    · rw [hy]; exact .inl (h1 z hz)

/-! ### what stands in a line -/
/-- A pair that is a piece of a line, not empty, which is one of some texts. -/
def Occ (T : List Txt) (L : Txt) (p : Pr) : Prop := ∃ i j : Nat, p = ((i : Int), (j : Int)) ∧ i < j ∧ j ≤ L.length ∧ (L.drop i).take (j - i) ∈ T
def occRow (T : List Txt) (L : Txt) (i k : Nat) : List Pr := ((List.range' (i + 1) k).filter fun j => decide ((L.drop i).take (j - i) ∈ T)).map fun (j : Nat) => ((i : Int), (j : Int))
def occTo (T : List Txt) (L : Txt) (n : Nat) : List Pr := (List.range n).flatMap fun i => occRow T L i (L.length - i)
def occ (T : List Txt) (L : Txt) : List Pr := occTo T L L.length
theorem mem_occRow {T : List Txt} {L : Txt} {i k : Nat} {p : Pr} : p ∈ occRow T L i k ↔ ∃ j : Nat, p = ((i : Int), (j : Int)) ∧ i < j ∧ j ≤ i + k ∧ (L.drop i).take (j - i) ∈ T := by
  unfold occRow
  simp only [List.mem_map, List.mem_filter, List.mem_range'_1, decide_eq_true_eq]
  constructor
  · rintro ⟨j, ⟨⟨h1, h2⟩, h3⟩, rfl⟩
    exact ⟨j, rfl, by omega, by omega, h3⟩
  · rintro ⟨j, rfl, h1, h2, h3⟩
    exact ⟨j, ⟨⟨by omega, by omega⟩, h3⟩, rfl⟩
theorem mem_occTo {T : List Txt} {L : Txt} {n : Nat} (hn : n ≤ L.length) {p : Pr} : p ∈ occTo T L n ↔ ∃ i j : Nat, p = ((i : Int), (j : Int)) ∧ i < n ∧ i < j ∧ j ≤ L.length ∧ (L.drop i).take (j - i) ∈ T := by
  unfold occTo
  simp only [List.mem_flatMap, List.mem_range, mem_occRow]
  constructor
  · rintro ⟨i, hi, j, rfl, h1, h2, h3⟩
    exact ⟨i, j, rfl, hi, h1, by omega, h3⟩
  · rintro ⟨i, j, rfl, hi, h1, h2, h3⟩
    exact ⟨i, hi, j, rfl, h1, by omega, h3⟩
theorem mem_occ {T : List Txt} {L : Txt} {p : Pr} : p ∈ occ T L ↔ Occ T L p := by
  rw [occ, mem_occTo (Nat.le_refl _)]
  constructor
  · rintro ⟨i, j, h1, _, h2, h3, h4⟩; exact ⟨i, j, h1, h2, h3, h4⟩
  · rintro ⟨i, j, h1, h2, h3, h4⟩; exact ⟨i, j, h1, by omega, h2, h3, h4⟩
theorem rise_occRow (T : List Txt) (L : Txt) (i k : Nat) : Rise (occRow T L i k) := by
  unfold occRow Rise
  rw [List.pairwise_map]
  refine List.Pairwise.filter _ ?_
  have : (List.range' (i + 1) k).Pairwise (· < ·) := List.pairwise_lt_range'
  exact this.imp fun h => .inr ⟨rfl, by simpa using h⟩
theorem occTo_succ (T : List Txt) (L : Txt) (n : Nat) : occTo T L (n + 1) = occTo T L n ++ occRow T L n (L.length - n) := by
  unfold occTo
  rw [List.range_succ, List.flatMap_append]; simp
theorem rise_occTo (T : List Txt) (L : Txt) : ∀ n, Rise (occTo T L n)
  | 0 => Rise.nil
  | n + 1 => by
    rw [occTo_succ]
    refine rise_app.2 ⟨rise_occTo T L n, rise_occRow T L n _, fun x hx y hy => ?_⟩
    obtain ⟨i, hi, h2⟩ := List.mem_flatMap.1 hx
    obtain ⟨j, rfl, _⟩ := mem_occRow.1 h2
    obtain ⟨k, rfl, _⟩ := mem_occRow.1 hy
    have := List.mem_range.1 hi
    exact .inl (by simp; omega)
theorem rise_occ (T : List Txt) (L : Txt) : Rise (occ T L) := rise_occTo T L _
theorem occ_ext {T T' : List Txt} {L : Txt} (h : ∀ x, x ≠ [] → (x ∈ T ↔ x ∈ T')) : occ T L = occ T' L :=
  rise_ext (rise_occ T L) (rise_occ T' L) fun p => by
    rw [mem_occ, mem_occ]
    constructor
    · rintro ⟨i, j, e, h1, h2, h3⟩
      refine ⟨i, j, e, h1, h2, (h _ fun e => ?_).1 h3⟩
      have := congrArg List.length e; rw [List.length_take, List.length_drop] at this; simp at this; omega
    · rintro ⟨i, j, e, h1, h2, h3⟩
      refine ⟨i, j, e, h1, h2, (h _ fun e => ?_).2 h3⟩
      have := congrArg List.length e; rw [List.length_take, List.length_drop] at this; simp at this; omega
/-- The pieces of a line's first bytes are those that end there. -/
theorem occ_take (T : List Txt) (L : Txt) (k : Nat) (hk : k ≤ L.length) : occ T (L.take k) = (occ T L).filter fun p => decide (p.2 ≤ (k : Int)) := by
  refine rise_ext (rise_occ T _) (List.Pairwise.filter _ (rise_occ T L)) fun p => ?_
  rw [List.mem_filter, mem_occ, mem_occ, decide_eq_true_eq]
  have key : ∀ i j : Nat, j ≤ k → ((L.take k).drop i).take (j - i) = (L.drop i).take (j - i) := by
    intro i j hj
    rw [List.drop_take, List.take_take]; congr 1; omega
  constructor
  · rintro ⟨i, j, rfl, h1, h2, h3⟩
    rw [List.length_take] at h2
    exact ⟨⟨i, j, rfl, h1, by omega, by rw [← key i j (by omega)]; exact h3⟩, by simp; omega⟩
  · rintro ⟨⟨i, j, rfl, h1, h2, h3⟩, h4⟩
    have h4 : j ≤ k := by simpa using h4
    exact ⟨i, j, rfl, h1, by rw [List.length_take]; omega, by rw [key i j h4]; exact h3⟩
theorem occRow_len (T : List Txt) (L : Txt) (i k : Nat) : (occRow T L i k).length ≤ k := by
  unfold occRow
  rw [List.length_map]
  exact Nat.le_trans (List.length_filter_le _ _) (by simp)
theorem occTo_len (T : List Txt) (L : Txt) : ∀ n, (occTo T L n).length ≤ n * L.length
  | 0 => by simp [occTo]
  | n + 1 => by
    rw [occTo_succ, List.length_append]
    have h1 := occTo_len T L n
    have h2 := occRow_len T L n (L.length - n)
    rw [Nat.succ_mul]; omega
end Seine.Sort
end
section
/- The plain law of package sparse: the state behind bytes, how many look-ups it takes, what ends there. No program, no memory. -/
set_option linter.unusedVariables false
namespace Seine.Sparse
open Seine.Trie Seine.Links Seine.Sort

/-- The longest end of a text that is a node's path. -/
def lng (P : List Txt) (t : Txt) : Txt := match firstN (fun n => decide (t.drop n ∈ P)) 0 t.length with | some n => t.drop n | none => []
theorem lng_spec {P : List Txt} (hT : Tree P) (t : Txt) : ∃ n, n ≤ t.length ∧ lng P t = t.drop n ∧ t.drop n ∈ P ∧ ∀ j, j < n → t.drop j ∉ P := by
  unfold lng
  cases h : firstN (fun n => decide (t.drop n ∈ P)) 0 t.length with
  | some n =>
    obtain ⟨_, h2, h3, h4⟩ := firstN_some h
    exact ⟨n, by omega, rfl, of_decide_eq_true h3, fun j hj => of_decide_eq_false (h4 j (Nat.zero_le _) hj)⟩
  | none =>
    refine ⟨t.length, Nat.le_refl _, by simp, by simp; exact hT.nil_mem, fun j hj => of_decide_eq_false (firstN_none h j (Nat.zero_le _) (by omega))⟩
theorem lng_eq {P : List Txt} (hT : Tree P) {t : Txt} {n : Nat} (h1 : n ≤ t.length) (h2 : t.drop n ∈ P) (h3 : ∀ j, j < n → t.drop j ∉ P) : lng P t = t.drop n := by
  obtain ⟨m, a, b, c, d⟩ := lng_spec hT t
  rcases Nat.lt_trichotomy m n with e | e | e
  · exact absurd c (h3 m e)
  · rw [b, e]
  · exact absurd h2 (d n e)
theorem lng_mem {P : List Txt} (hT : Tree P) (t : Txt) : lng P t ∈ P := by obtain ⟨n, _, b, c, _⟩ := lng_spec hT t; rw [b]; exact c
theorem lng_nil (P : List Txt) : lng P [] = [] := rfl
theorem lng_self {P : List Txt} (hT : Tree P) {t : Txt} (h : t ∈ P) : lng P t = t := by
  have := lng_eq hT (n := 0) (t := t) (Nat.zero_le _) (by simpa using h) (fun j hj => by omega)
  simpa using this
/-- A path that a text ends in is an end of its longest one. -/
theorem lng_end {P : List Txt} (hT : Tree P) {t : Txt} {k : Nat} (hk : k ≤ t.length) (h : t.drop k ∈ P) : ∃ j, j ≤ (lng P t).length ∧ (lng P t).drop j = t.drop k := by
  obtain ⟨n, a, b, c, d⟩ := lng_spec hT t
  rw [b]
  have hnk : n ≤ k := by
    rcases Nat.lt_or_ge k n with e | e
    · exact absurd h (d k e)
    · exact e
  exact ⟨k - n, by rw [List.length_drop]; omega, by rw [List.drop_drop, show n + (k - n) = k by omega]⟩
/-- The state behind a byte hangs on the state alone. -/
theorem lng_step {P : List Txt} (hT : Tree P) (t : Txt) (c : UInt8) : lng P (t ++ [c]) = lng P (lng P t ++ [c]) := by
  obtain ⟨m, a, b, hm, d⟩ := lng_spec hT (t ++ [c])
  rw [b]
  obtain ⟨n, a', b', hn, d'⟩ := lng_spec hT t
  rw [b']
  symm
  by_cases hml : m ≤ t.length
  · rw [snoc_drop hml] at hm ⊢
    have hnm : n ≤ m := by
      rcases Nat.lt_or_ge m n with e | e
      · exact absurd (up_snoc hT hm) (d' m e)
      · exact e
    have := lng_eq hT (t := t.drop n ++ [c]) (n := m - n) (by simp; omega) (by rw [snoc_drop (by rw [List.length_drop]; omega), List.drop_drop, show n + (m - n) = m by omega]; exact hm) (fun j hj => by
      rw [snoc_drop (by rw [List.length_drop]; omega), List.drop_drop, ← snoc_drop (by omega)]
      exact d _ (by omega))
    rw [this, snoc_drop (by rw [List.length_drop]; omega), List.drop_drop, show n + (m - n) = m by omega]
  · have hml2 : m = t.length + 1 := by simp at a; omega
    subst hml2
    have := lng_eq hT (t := t.drop n ++ [c]) (n := (t.drop n ++ [c]).length) (Nat.le_refl _) (by rw [List.drop_length]; exact hT.nil_mem) (fun j hj => by
      rw [List.length_append, List.length_drop, List.length_singleton] at hj
      rw [snoc_drop (by rw [List.length_drop]; omega), List.drop_drop, ← snoc_drop (by omega)]
      exact d _ (by omega))
    rw [this]
    simp
theorem lng_len {P : List Txt} (hT : Tree P) (t : Txt) : (lng P t).length ≤ t.length := by
  obtain ⟨n, a, b, _, _⟩ := lng_spec hT t
  rw [b, List.length_drop]; omega

/-- How many look-ups a byte takes, from a state. -/
def lookN (P : List Txt) (c : UInt8) : Nat → Txt → Nat
  | 0, _ => 1
  | f + 1, s => if s ++ [c] ∈ P then 1 else match failN P s with | some n => 1 + lookN P c f (s.drop n) | none => 1
def looks1 (P : List Txt) (s : Txt) (c : UInt8) : Nat := lookN P c s.length s
theorem lookN_more (P : List Txt) (c : UInt8) : ∀ (f g : Nat) (s : Txt), s.length ≤ f → s.length ≤ g → lookN P c f s = lookN P c g s
  | 0, 0, _, _, _ => rfl
  | 0, g + 1, s, h, _ => by
    have : s = [] := List.eq_nil_of_length_eq_zero (by omega)
    subst this
    simp [lookN, failN, firstN]
  | f + 1, 0, s, _, h => by
    have : s = [] := List.eq_nil_of_length_eq_zero (by omega)
    subst this
    simp [lookN, failN, firstN]
  | f + 1, g + 1, s, h, k => by
    unfold lookN
    split
    · rfl
    · cases hf : failN P s with
      | none => rfl
      | some n =>
        obtain ⟨h1, h2, _, _⟩ := failN_some hf
        simp only
        rw [lookN_more P c f g (s.drop n) (by rw [List.length_drop]; omega) (by rw [List.length_drop]; omega)]
theorem looks1_hit {P : List Txt} {s : Txt} {c : UInt8} (h : s ++ [c] ∈ P) : looks1 P s c = 1 := by
  unfold looks1
  cases hs : s.length with
  | zero => rfl
  | succ k => unfold lookN; rw [if_pos h]
theorem looks1_root {P : List Txt} (c : UInt8) : looks1 P [] c = 1 := rfl
theorem looks1_fall {P : List Txt} {s : Txt} {c : UInt8} {n : Nat} (h : s ++ [c] ∉ P) (hf : failN P s = some n) : looks1 P s c = 1 + looks1 P (s.drop n) c := by
  obtain ⟨h1, h2, _, _⟩ := failN_some hf
  unfold looks1
  obtain ⟨k, hk⟩ : ∃ k, s.length = k + 1 := ⟨s.length - 1, by omega⟩
  rw [hk, lookN, if_neg h, hf]
  simp only
  rw [lookN_more P c k (s.drop n).length (s.drop n) (by rw [List.length_drop]; omega) (Nat.le_refl _)]
theorem looks1_pos (P : List Txt) (s : Txt) (c : UInt8) : 1 ≤ looks1 P s c := by
  unfold looks1
  cases s.length with
  | zero => exact Nat.le_refl _
  | succ k => unfold lookN; split
              · exact Nat.le_refl _
              · split <;> omega
/-- The state behind a byte: on, or from where the state falls to, or the root. -/
theorem step_hit {P : List Txt} (hT : Tree P) {s : Txt} {c : UInt8} (h : s ++ [c] ∈ P) : lng P (s ++ [c]) = s ++ [c] := lng_self hT h
theorem step_root {P : List Txt} (hT : Tree P) {c : UInt8} (h : [c] ∉ P) : lng P [c] = [] := by
  have := lng_eq hT (t := [c]) (n := 1) (by simp) (by simp; exact hT.nil_mem) (fun j hj => by
    have : j = 0 := by omega
    subst this; simpa using h)
  simpa using this
theorem step_fall {P : List Txt} (hT : Tree P) {s : Txt} {c : UInt8} {n : Nat} (h : s ++ [c] ∉ P) (hf : failN P s = some n) : lng P (s ++ [c]) = lng P (s.drop n ++ [c]) := by
  obtain ⟨h1, h2, h3, h4⟩ := failN_some hf
  obtain ⟨m, a, b, hm, d⟩ := lng_spec hT (s ++ [c])
  have hnm : n ≤ m := by
    rcases Nat.lt_or_ge m n with e | e
    · rcases Nat.eq_zero_or_pos m with z | z
      · subst z; simp at hm; exact absurd hm h
      · rw [snoc_drop (by omega)] at hm
        exact absurd (up_snoc hT hm) (h4 m z e)
    · exact e
  rw [b, ← snoc_drop h2]
  symm
  have := lng_eq hT (t := (s ++ [c]).drop n) (n := m - n) (by rw [List.length_drop]; omega) (by rw [List.drop_drop, show n + (m - n) = m by omega]; exact hm) (fun j hj => by
    rw [List.drop_drop]; exact d _ (by omega))
  rw [this, List.drop_drop, show n + (m - n) = m by omega]
/-- Each look-up but one costs a byte of the path. -/
theorem looks1_cost {P : List Txt} (hT : Tree P) (c : UInt8) : ∀ (k : Nat) (s : Txt), s.length = k → looks1 P s c + (lng P (s ++ [c])).length ≤ s.length + 2 := by
  intro k
  induction k using Nat.strongRecOn with
  | _ k ih =>
    intro s hk
    by_cases h : s ++ [c] ∈ P
    · rw [looks1_hit h, step_hit hT h]; simp; omega
    · by_cases hs : s = []
      · subst hs
        rw [looks1_root, List.nil_append, step_root hT (by simpa using h)]; simp
      · obtain ⟨n, hf⟩ := fail_some hT hs
        obtain ⟨h1, h2, _, _⟩ := failN_some hf
        rw [looks1_fall h hf, step_fall hT h hf]
        have := ih (s.drop n).length (by rw [List.length_drop]; omega) (s.drop n) rfl
        rw [List.length_drop] at this
        omega

/-- How many look-ups a line's first bytes take. -/
def looksTo (P : List Txt) (L : Txt) : Nat → Nat
  | 0 => 0
  | i + 1 => looksTo P L i + looks1 P (lng P (L.take i)) (L.getD i 0)
theorem take_snoc' (L : Txt) (i : Nat) (h : i < L.length) : L.take (i + 1) = L.take i ++ [L.getD i 0] := by
  rw [List.take_succ_eq_append_getElem h, List.getD_eq_getElem?_getD, List.getElem?_eq_getElem h]; rfl
theorem looksTo_cost {P : List Txt} (hT : Tree P) (L : Txt) : ∀ i, i ≤ L.length → i ≤ looksTo P L i ∧ looksTo P L i + (lng P (L.take i)).length ≤ 2 * i
  | 0, _ => ⟨Nat.le_refl _, by simp [looksTo, lng_nil]⟩
  | i + 1, h => by
    obtain ⟨h1, h2⟩ := looksTo_cost hT L i (by omega)
    have h3 := looks1_pos P (lng P (L.take i)) (L.getD i 0)
    have h4 := looks1_cost hT (L.getD i 0) _ (lng P (L.take i)) rfl
    rw [take_snoc' L i (by omega), lng_step hT, looksTo]
    omega

/-! ### what is found -/
/-- The pieces that end behind a line's first bytes, by the state there. -/
def endsP (l : List Txt) (s : Txt) (i : Nat) : List Pr := (endsF l s).map fun n => ((i : Int) - n, (i : Int))
def hitsTo (P l : List Txt) (L : Txt) : Nat → List Pr
  | 0 => []
  | i + 1 => hitsTo P l L i ++ endsP l (lng P (L.take (i + 1))) (i + 1)
theorem mem_endsF {l : List Txt} {s : Txt} {n : Int} : n ∈ endsF l s ↔ ∃ k : Nat, k < s.length ∧ s.drop k ∈ l ∧ n = ((s.length - k : Nat) : Int) := by
  unfold endsF
  simp only [List.mem_map, List.mem_filter, List.mem_range, decide_eq_true_eq]
  constructor
  · rintro ⟨k, ⟨h1, h2⟩, rfl⟩; exact ⟨k, h1, h2, rfl⟩
  · rintro ⟨k, h1, h2, rfl⟩; exact ⟨k, ⟨h1, h2⟩, rfl⟩
theorem mem_endsP {P l : List Txt} (hT : Tree P) (hlP : ∀ x, x ∈ l → x ∈ P) {L : Txt} {i : Nat} (hi : i ≤ L.length) {p : Pr} : p ∈ endsP l (lng P (L.take i)) i ↔ ∃ k : Nat, p = ((k : Int), (i : Int)) ∧ k < i ∧ (L.drop k).take (i - k) ∈ l := by
  obtain ⟨n, a, b, c, d⟩ := lng_spec hT (L.take i)
  rw [List.length_take, Nat.min_eq_left hi] at a
  have hlen : (lng P (L.take i)).length = i - n := by rw [b, List.length_drop, List.length_take]; omega
  have key : ∀ k, (L.take i).drop k = (L.drop k).take (i - k) := fun k => by rw [List.drop_take]
  unfold endsP
  rw [List.mem_map]
  constructor
  · rintro ⟨z, hz, rfl⟩
    obtain ⟨k, h1, h2, rfl⟩ := mem_endsF.1 hz
    rw [hlen] at h1 ⊢
    rw [b, List.drop_drop, key] at h2
    exact ⟨n + k, by simp; omega, by omega, h2⟩
  · rintro ⟨k, rfl, h1, h2⟩
    rw [← key] at h2
    have hP := hlP _ h2
    have hnk : n ≤ k := by
      rcases Nat.lt_or_ge k n with e | e
      · exact absurd hP (d k e)
      · exact e
    refine ⟨((i - k : Nat) : Int), mem_endsF.2 ⟨k - n, by rw [hlen]; omega, by rw [b, List.drop_drop, show n + (k - n) = k by omega]; exact h2, by rw [hlen]; omega⟩, ?_⟩
    simp; omega
theorem mem_hitsTo {P l : List Txt} (hT : Tree P) (hlP : ∀ x, x ∈ l → x ∈ P) {L : Txt} : ∀ {i : Nat}, i ≤ L.length → ∀ {p : Pr}, p ∈ hitsTo P l L i ↔ ∃ k j : Nat, p = ((k : Int), (j : Int)) ∧ k < j ∧ j ≤ i ∧ (L.drop k).take (j - k) ∈ l
  | 0, _, p => by
    simp only [hitsTo, List.not_mem_nil, false_iff]
    rintro ⟨k, j, _, h1, h2, _⟩; omega
  | i + 1, h, p => by
    rw [hitsTo, List.mem_append, mem_hitsTo hT hlP (by omega), mem_endsP hT hlP h]
    constructor
    · rintro (⟨k, j, rfl, h1, h2, h3⟩ | ⟨k, rfl, h1, h2⟩)
      · exact ⟨k, j, rfl, h1, by omega, h3⟩
      · exact ⟨k, i + 1, rfl, h1, Nat.le_refl _, h2⟩
    · rintro ⟨k, j, rfl, h1, h2, h3⟩
      by_cases e : j = i + 1
      · subst e; exact .inr ⟨k, rfl, h1, h3⟩
      · exact .inl ⟨k, j, rfl, h1, by omega, h3⟩
theorem hits_occ {P l : List Txt} (hT : Tree P) (hlP : ∀ x, x ∈ l → x ∈ P) (L : Txt) : sortP (hitsTo P l L L.length) = occ l L :=
  sortP_eq (rise_occ l L) fun p => by
    rw [mem_hitsTo hT hlP (Nat.le_refl _), mem_occ]; rfl
theorem endsF_len (l : List Txt) (s : Txt) : (endsF l s).length ≤ s.length := by
  unfold endsF
  rw [List.length_map]
  exact Nat.le_trans (List.length_filter_le _ _) (by simp)
theorem hitsTo_len {P l : List Txt} (hT : Tree P) (L : Txt) (m : Nat) (hm : ∀ p ∈ P, p.length ≤ m) : ∀ i, (hitsTo P l L i).length ≤ i * m
  | 0 => by simp [hitsTo]
  | i + 1 => by
    rw [hitsTo, List.length_append]
    have h1 := hitsTo_len (l := l) hT L m hm i
    have h2 := endsF_len l (lng P (L.take (i + 1)))
    have h3 := hm _ (lng_mem hT (L.take (i + 1)))
    unfold endsP
    rw [List.length_map, Nat.succ_mul]; omega
end Seine.Sparse
end
section
/- The plain law of packages fold, classes and dfa: a set of bytes, bytes' classes, a table's rows. No program, no memory. -/
set_option linter.unusedVariables false
namespace Seine.Dfa
open Seine.Trie Seine.Links Seine.Sparse

/-! ### which bytes stand in texts -/
def stands (l : List Txt) (c : UInt8) : Bool := l.any fun t => decide (c ∈ t)
theorem stands_iff {l : List Txt} {c : UInt8} : stands l c = true ↔ ∃ t ∈ l, c ∈ t := by
  unfold stands
  rw [List.any_eq_true]
  constructor
  · rintro ⟨t, h1, h2⟩; exact ⟨t, h1, of_decide_eq_true h2⟩
  · rintro ⟨t, h1, h2⟩; exact ⟨t, h1, decide_eq_true h2⟩
theorem stands_snoc (l : List Txt) (t : Txt) (c : UInt8) : stands (l ++ [t]) c = (stands l c || decide (c ∈ t)) := by unfold stands; rw [List.any_append]; simp
/-- Those of a set below k, rising. -/
def listTo (q : UInt8 → Bool) (k : Nat) : Txt := ((List.range k).map UInt8.ofNat).filter q
theorem listTo_succ (q : UInt8 → Bool) (k : Nat) : listTo q (k + 1) = listTo q k ++ if q (UInt8.ofNat k) = true then [UInt8.ofNat k] else [] := by
  unfold listTo
  rw [List.range_succ, List.map_append, List.filter_append]
  congr 1
  by_cases h : q (UInt8.ofNat k) = true <;> simp [h]
theorem listTo_len (q : UInt8 → Bool) (k : Nat) : (listTo q k).length ≤ k := by
  unfold listTo
  exact Nat.le_trans (List.length_filter_le _ _) (by simp)
/-- A byte's class: how many of those that stand are no greater; 0: it doesn't stand. -/
def clsF (l : List Txt) (c : UInt8) : Nat := if stands l c = true then (listTo (stands l) (c.toNat + 1)).length else 0
def widthF (l : List Txt) : Nat := (listTo (stands l) 256).length + 1
theorem listTo_mono (q : UInt8 → Bool) {a b : Nat} (h : a ≤ b) : (listTo q a).length ≤ (listTo q b).length := by
  obtain ⟨m, rfl⟩ : ∃ m, b = a + m := ⟨b - a, by omega⟩
  induction m with
  | zero => exact Nat.le_refl _
  | succ m ih =>
    have := ih (by omega)
    rw [← Nat.add_assoc, listTo_succ, List.length_append]; omega
theorem listTo_hit (q : UInt8 → Bool) (c : UInt8) (h : q c = true) : (listTo q (c.toNat + 1)).length = (listTo q c.toNat).length + 1 := by
  rw [listTo_succ, List.length_append, if_pos (by simpa using h)]; rfl
theorem clsF_pos {l : List Txt} {c : UInt8} (h : stands l c = true) : 0 < clsF l c := by
  unfold clsF
  rw [if_pos h, listTo_hit _ _ h]; omega
theorem clsF_zero {l : List Txt} {c : UInt8} (h : ¬ stands l c = true) : clsF l c = 0 := if_neg h
theorem clsF_lt (l : List Txt) (c : UInt8) : clsF l c < widthF l := by
  unfold clsF widthF
  split
  · have := listTo_mono (stands l) (a := c.toNat + 1) (b := 256) (by have := c.toNat_lt; omega)
    omega
  · omega
theorem clsF_inj {l : List Txt} {c d : UInt8} (hc : stands l c = true) (hd : stands l d = true) (h : clsF l c = clsF l d) : c = d := by
  have key : ∀ {c d : UInt8}, stands l c = true → stands l d = true → c.toNat < d.toNat → clsF l c < clsF l d := by
    intro c d hc hd hlt
    unfold clsF
    rw [if_pos hc, if_pos hd, listTo_hit _ d hd]
    have := listTo_mono (stands l) (a := c.toNat + 1) (b := d.toNat) (by omega)
    omega
  rcases Nat.lt_trichotomy c.toNat d.toNat with e | e | e
  · have := key hc hd e; omega
  · exact UInt8.toNat_inj.1 e
  · have := key hd hc e; omega
/-- What stands at the k-th place of those that stand. -/
theorem listTo_get (q : UInt8 → Bool) (n : Nat) (hn : n ≤ 256) (i : Nat) (hi : i < (listTo q n).length) : ∃ c : UInt8, (listTo q n)[i]? = some c ∧ q c = true ∧ c.toNat < n ∧ (listTo q (c.toNat + 1)).length = i + 1 := by
  induction n with
  | zero => simp [listTo] at hi
  | succ n ih =>
    rw [listTo_succ] at hi ⊢
    by_cases h : i < (listTo q n).length
    · obtain ⟨c, h1, h2, h3, h4⟩ := ih (by omega) h
      exact ⟨c, by rw [List.getElem?_append_left h]; exact h1, h2, by omega, h4⟩
    · rw [List.length_append] at hi
      by_cases hq : q (UInt8.ofNat n) = true
      · rw [if_pos hq] at hi ⊢
        have hi2 : i = (listTo q n).length := by simp at hi; omega
        have hc : (UInt8.ofNat n).toNat = n := by simp; omega
        exact ⟨UInt8.ofNat n, by rw [hi2, List.getElem?_append_right (Nat.le_refl _)]; simp, hq, by omega, by rw [hc, listTo_succ, if_pos hq, hi2]; simp⟩
      · rw [if_neg hq] at hi; simp at hi; omega
/-- Classes of the first i of those that stand. -/
def clsTo (l : List Txt) (i : Nat) (c : UInt8) : Nat := if c ∈ (listTo (stands l) 256).take i then clsF l c else 0
theorem mem_listTo {q : UInt8 → Bool} {c : UInt8} : c ∈ listTo q 256 ↔ q c = true := by
  unfold listTo
  rw [List.mem_filter, List.mem_map]
  constructor
  · exact fun h => h.2
  · intro h
    exact ⟨⟨c.toNat, List.mem_range.2 c.toNat_lt, by simp⟩, h⟩
theorem clsTo_zero (l : List Txt) (c : UInt8) : clsTo l 0 c = 0 := by unfold clsTo; simp
theorem clsTo_all (l : List Txt) (c : UInt8) : clsTo l (listTo (stands l) 256).length c = clsF l c := by
  unfold clsTo
  rw [List.take_length]
  by_cases h : stands l c = true
  · rw [if_pos (mem_listTo.2 h)]
  · rw [if_neg (fun e => h (mem_listTo.1 e)), clsF_zero h]
theorem clsTo_step (l : List Txt) (i : Nat) (b : UInt8) (hi : (listTo (stands l) 256)[i]? = some b) (c : UInt8) : clsTo l (i + 1) c = if c = b then i + 1 else clsTo l i c := by
  have hil := (List.getElem?_eq_some_iff.1 hi).1
  obtain ⟨b', h1, h2, _, h4⟩ := listTo_get (stands l) 256 (Nat.le_refl _) i hil
  rw [hi] at h1
  injection h1 with h1
  subst h1
  have htk : (listTo (stands l) 256).take (i + 1) = (listTo (stands l) 256).take i ++ [b] := by
    rw [List.take_succ_eq_append_getElem hil]; congr 2; exact (List.getElem?_eq_some_iff.1 hi).2
  unfold clsTo
  rw [htk]
  by_cases h : c = b
  · subst h
    rw [if_pos (by simp), if_pos rfl]
    unfold clsF
    rw [if_pos h2, h4]
  · rw [if_neg h]
    by_cases hc : c ∈ (listTo (stands l) 256).take i
    · rw [if_pos (List.mem_append_left _ hc), if_pos hc]
    · rw [if_neg (by simp [hc, h]), if_neg hc]

/-! ### the table -/
/-- The byte of a class. -/
def byteOf (l : List Txt) (k : Nat) : Option UInt8 := if k = 0 then none else (listTo (stands l) 256)[k - 1]?
theorem byteOf_cls {l : List Txt} {c : UInt8} (h : stands l c = true) : byteOf l (clsF l c) = some c := by
  unfold byteOf
  rw [if_neg (by have := clsF_pos h; omega)]
  have h1 := clsF_lt l c
  have h0 := clsF_pos h
  unfold widthF at h1
  obtain ⟨d, a1, a2, _, a4⟩ := listTo_get (stands l) 256 (Nat.le_refl _) (clsF l c - 1) (by omega)
  rw [a1]
  congr 1
  refine clsF_inj a2 h ?_
  have : clsF l d = (listTo (stands l) (d.toNat + 1)).length := by unfold clsF; rw [if_pos a2]
  rw [this, a4]; omega
theorem byteOf_stands {l : List Txt} {k : Nat} {c : UInt8} (h : byteOf l k = some c) : stands l c = true ∧ clsF l c = k := by
  unfold byteOf at h
  split at h
  · cases h
  · rename_i hk
    have hl := (List.getElem?_eq_some_iff.1 h).1
    obtain ⟨d, a1, a2, _, a4⟩ := listTo_get (stands l) 256 (Nat.le_refl _) (k - 1) hl
    rw [h] at a1
    injection a1 with a1
    subst a1
    refine ⟨a2, ?_⟩
    unfold clsF
    rw [if_pos a2, a4]; omega
/-- A state's row: where it goes by the bytes of a class. -/
def rowF (P l : List Txt) (s : Txt) (k : Nat) : Int := match byteOf l k with | some c => place P (lng P (s ++ [c])) | none => 0
theorem stands_path {l : List Txt} {s : Txt} {c : UInt8} (h : s ++ [c] ∈ paths l) : stands l c = true := by
  rcases mem_paths.1 h with e | ⟨b, hb, k, hk, e⟩
  · simp at e
  · refine stands_iff.2 ⟨b, hb, ?_⟩
    have : c ∈ b.take k := by rw [← e]; simp
    exact List.mem_of_mem_take this
theorem lng_foreign {l : List Txt} (s : Txt) {c : UInt8} (h : ¬ stands l c = true) : lng (paths l) (s ++ [c]) = [] := by
  obtain ⟨n, h1, h2, h3, _⟩ := lng_spec (paths_tree l) (s ++ [c])
  rw [h2]
  by_cases hn : n ≤ s.length
  · rw [snoc_drop hn] at h3
    exact absurd (stands_path h3) h
  · rw [List.length_append, List.length_singleton] at h1
    exact List.drop_eq_nil_of_le (by simp; omega)
/-- The table is the step. -/
theorem rowF_cls (l : List Txt) (s : Txt) (c : UInt8) : rowF (paths l) l s (clsF l c) = place (paths l) (lng (paths l) (s ++ [c])) := by
  by_cases h : stands l c = true
  · unfold rowF; rw [byteOf_cls h]
  · rw [clsF_zero h, lng_foreign s h, place_at (paths_tree l).nodup (paths_tree l).root]
    rfl
/-- A row that is being made: base's, but for the first j bytes that lead on. -/
def rowK (P l : List Txt) (s : Txt) (base : Nat → Int) (j k : Nat) : Int := match byteOf l k with | some c => if c ∈ (kids P s).take j then place P (s ++ [c]) else base k | none => base k
theorem mem_kids {P : List Txt} {s : Txt} {c : UInt8} : c ∈ kids P s ↔ s ++ [c] ∈ P := by
  unfold kids
  rw [List.mem_filter, List.mem_map, decide_eq_true_eq]
  constructor
  · exact fun h => h.2
  · intro h; exact ⟨⟨c.toNat, List.mem_range.2 c.toNat_lt, by simp⟩, h⟩
theorem rowK_zero (P l : List Txt) (s : Txt) (base : Nat → Int) (k : Nat) : rowK P l s base 0 k = base k := by unfold rowK; split <;> simp
theorem rowK_step (l : List Txt) (s : Txt) (base : Nat → Int) (j : Nat) (c : UInt8) (hj : (kids (paths l) s)[j]? = some c) (k : Nat) :
    rowK (paths l) l s base (j + 1) k = if k = clsF l c then place (paths l) (s ++ [c]) else rowK (paths l) l s base j k := by
  have hjl := (List.getElem?_eq_some_iff.1 hj).1
  have hc := stands_path (mem_kids.1 (List.mem_of_getElem? hj))
  have htk : (kids (paths l) s).take (j + 1) = (kids (paths l) s).take j ++ [c] := by
    rw [List.take_succ_eq_append_getElem hjl]; congr 2; exact (List.getElem?_eq_some_iff.1 hj).2
  by_cases hk : k = clsF l c
  · subst hk
    rw [if_pos rfl]
    unfold rowK
    rw [byteOf_cls hc, htk]
    simp
  · rw [if_neg hk]
    unfold rowK
    split
    · rename_i d hd
      have hdc : d ≠ c := fun e => hk (by rw [← e]; exact (byteOf_stands hd).2.symm)
      rw [htk]
      simp [hdc]
    · rfl
/-- Where all that lead on have been: the row of a state, out of that of where it falls to. -/
theorem rowK_done (l : List Txt) (s : Txt) (m : Nat) (hf : failN (paths l) s = some m) (k : Nat) : rowK (paths l) l s (rowF (paths l) l (s.drop m)) (kids (paths l) s).length k = rowF (paths l) l s k := by
  unfold rowK rowF
  rw [List.take_length]
  split
  · rename_i c hc
    by_cases h : c ∈ kids (paths l) s
    · rw [if_pos h, step_hit (paths_tree l) (mem_kids.1 h)]
    · rw [if_neg h, step_fall (paths_tree l) (fun e => h (mem_kids.2 e)) hf]
  · rfl
theorem rowK_root (l : List Txt) (k : Nat) : rowK (paths l) l [] (fun _ => 0) (kids (paths l) []).length k = rowF (paths l) l [] k := by
  unfold rowK rowF
  rw [List.take_length]
  split
  · rename_i c hc
    by_cases h : c ∈ kids (paths l) []
    · rw [if_pos h, step_hit (paths_tree l) (mem_kids.1 h)]
    · have hn : [c] ∉ paths l := fun e => h (mem_kids.2 e)
      rw [if_neg h, List.nil_append, step_root (paths_tree l) hn, place_at (paths_tree l).nodup (paths_tree l).root]
      rfl
  · rfl

/-! ### a set of bytes as four numbers -/
/-- c stands in the set. -/
def memS (ws : Nat → Nat) (c : UInt8) : Bool := (ws (c.toNat / 64)).testBit (c.toNat % 64)
theorem bit_or_shift {x i j : Nat} : (x ||| 1 <<< i).testBit j = (x.testBit j || decide (j = i)) := by
  rw [Nat.testBit_or, Nat.one_shiftLeft, Nat.testBit_two_pow]
  congr 1
  rw [decide_eq_decide]
  exact eq_comm
theorem memS_with (ws : Nat → Nat) (c d : UInt8) : memS (fun i => if i = c.toNat / 64 then ws i ||| 1 <<< (c.toNat % 64) else ws i) d = (memS ws d || decide (d = c)) := by
  unfold memS
  by_cases h : d.toNat / 64 = c.toNat / 64
  · simp only [h, if_pos]
    rw [bit_or_shift]
    congr 1
    rw [decide_eq_decide]
    constructor
    · intro e; apply UInt8.toNat_inj.1; omega
    · rintro rfl; rfl
  · simp only [if_neg h]
    have : decide (d = c) = false := decide_eq_false (fun e => h (by rw [e]))
    rw [this, Bool.or_false]
theorem memS_union (ws vs : Nat → Nat) (d : UInt8) : memS (fun i => ws i ||| vs i) d = (memS ws d || memS vs d) := by
  unfold memS; rw [Nat.testBit_or]
theorem memS_none (d : UInt8) : memS (fun _ => 0) d = false := by unfold memS; simp
end Seine.Dfa
end
