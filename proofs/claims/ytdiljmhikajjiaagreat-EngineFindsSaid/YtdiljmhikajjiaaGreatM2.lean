/- Joined texts: TrieBuild, Args2, Args3. -/
import Derived.Test.YtdiljmhikajjiaaGreatM1
import Derived.Deep.Matrix
import Derived.SizedLaws
set_option linter.unusedVariables false
set_option linter.unusedSimpArgs false
section
namespace Go.Proofs.YtdiljmhikajjiaaGreat
open Go.RowKit Go.Maps Seine.Trie
/-- A slice of byte texts. -/
def Txts (w : World) (A : Option Addr) (l : List Txt) : Prop :=
  ∃ vs : List Value, vs.length = l.length ∧ Row w A vs ∧ ∀ i, i < l.length → ∃ A' c', vs[i]? = some (.slice A' (l.getD i []).length c') ∧ (l.getD i []).length ≤ c' ∧ Byt w A' (l.getD i [])
theorem Txts.below {w w' : World} {A : Option Addr} {l : List Txt} (h : Txts w A l) (hb : Below w.heap.size w w') : Txts w' A l := by
  obtain ⟨vs, h1, h2, h3⟩ := h
  refine ⟨vs, h1, h2.below hb, fun i hi => ?_⟩
  obtain ⟨A', c', a, b, c⟩ := h3 i hi
  exact ⟨A', c', a, b, Row.below c hb⟩
theorem Txts.at_ {w : World} {A : Option Addr} {l : List Txt} (h : Txts w A l) {i : Nat} (hi : i < l.length) : ∃ ad A' c', A = some ad ∧ w.cell? (ad.add i) = some (.slice A' (l.getD i []).length c') ∧ (l.getD i []).length ≤ c' ∧ Byt w A' (l.getD i []) := by
  obtain ⟨vs, h1, h2, h3⟩ := h
  obtain ⟨A', c', a, b, c⟩ := h3 i hi
  obtain ⟨ad, e1, e2⟩ := h2.at_ (j := i) (by omega)
  refine ⟨ad, A', c', e1, ?_, b, c⟩
  rw [e2]
  rw [List.getElem?_eq_getElem (by omega)] at a
  exact a
def tot (l : List Txt) : Nat := (l.map List.length).sum
theorem paths_len (l : List Txt) : (paths l).length ≤ 1 + tot l := by
  have H : ∀ n (l : List Txt), l.length = n → (paths l).length ≤ 1 + tot l := by
    intro n
    induction n with
    | zero => intro l hl; rw [List.eq_nil_of_length_eq_zero hl]; simp [paths, tot]
    | succ n ih =>
      intro l hl
      have hne : l ≠ [] := by intro h; simp [h] at hl
      obtain ⟨m, x, rfl⟩ : ∃ m x, l = m ++ [x] := ⟨l.dropLast, l.getLast hne, (List.dropLast_concat_getLast hne).symm⟩
      have h1 := ih m (by simp at hl; omega)
      have h2 := addTo_len (paths m) x x.length
      rw [paths_snoc]
      unfold addText tot at *
      simp only [List.map_append, List.sum_append, List.map_cons, List.map_nil, List.sum_cons, List.sum_nil]
      omega
  exact H _ l rfl
theorem tot_app (a b : List Txt) : tot (a ++ b) = tot a + tot b := by simp [tot]
theorem tot_take (l : List Txt) (k : Nat) (h : k < l.length) : tot (l.take k) + (l.getD k []).length ≤ tot l := by
  have h2 : tot l = tot (l.take k) + tot (l.drop k) := by rw [← tot_app, List.take_append_drop]
  have h3 : tot (l.drop k) = (l.getD k []).length + tot (l.drop (k + 1)) := by
    rw [List.drop_eq_getElem_cons h]
    simp only [tot, List.map_cons, List.sum_cons, List.getD_eq_getElem?_getD, List.getElem?_eq_getElem h, Option.getD_some]
  omega
theorem take_snoc_txt (l : List Txt) (k : Nat) (h : k < l.length) : l.take (k + 1) = l.take k ++ [l.getD k []] := by
  rw [List.take_succ_eq_append_getElem h]; simp [h]
/-- Another word of one node. -/
theorem flat_word (par : Txt → Int) (W W' : Txt → Int) (s : Txt) (x : Int) (hs : W' s = x) (ho : ∀ p, p ≠ s → W' p = W p) : ∀ (P : List Txt) (a : Nat), P.Nodup → P[a]? = some s →
    P.flatMap (fun p => [Value.int .i64 (par p), .int .i64 (p.length : Int), .int .i64 (W' p), .int .u8 ((lastB p).toNat : Int)]) =
      (P.flatMap (fun p => [Value.int .i64 (par p), .int .i64 (p.length : Int), .int .i64 (W p), .int .u8 ((lastB p).toNat : Int)])).set (a * 4 + 2) (.int .i64 x)
  | [], _, _, h => by simp at h
  | p :: P, 0, hn, h => by
    simp at h; subst h
    rw [List.flatMap_cons, List.flatMap_cons]
    have : P.flatMap (fun p => [Value.int .i64 (par p), .int .i64 (p.length : Int), .int .i64 (W' p), .int .u8 ((lastB p).toNat : Int)]) = P.flatMap (fun p => [Value.int .i64 (par p), .int .i64 (p.length : Int), .int .i64 (W p), .int .u8 ((lastB p).toNat : Int)]) :=
      fm_congr (fun q hq => by rw [ho q (fun e => by subst e; exact (List.nodup_cons.1 hn).1 hq)])
    rw [this, hs]
    rfl
  | p :: P, a + 1, hn, h => by
    have hmem : s ∈ P := List.mem_of_getElem? (by simpa using h : P[a]? = some s)
    have hne : p ≠ s := fun e => by subst e; exact (List.nodup_cons.1 hn).1 hmem
    rw [List.flatMap_cons, List.flatMap_cons, flat_word par W W' s x hs ho P a (List.nodup_cons.1 hn).2 (by simpa using h), ho p hne]
    rw [show (a + 1) * 4 + 2 = (a * 4 + 2) + 4 by omega]
    rfl
theorem nodeCells_word {P : List Txt} (hT : Tree P) {W W' : Txt → Int} {s : Txt} {x : Int} {a : Nat} (ha : P[a]? = some s) (hs : W' s = x) (ho : ∀ p, p ≠ s → W' p = W p) : nodeCells P W' = (nodeCells P W).set (a * 4 + 2) (.int .i64 x) :=
  flat_word (parent P) W W' s x hs ho P a hT.nodup ha
def RetTrie (w : World) (P : List Txt) (W : Txt → Int) (e : Ending) (w' : World) : Prop :=
  ∃ g, e = .returned (.pointer (some ⟨g, 0, none⟩)) ∧ TrieAt w' w.heap.size g P W ∧ Below w.heap.size w w'
theorem TrieAt.start (w : World) : TrieAt (((w.alloc (.cells #[.int .i64 (-1), .int .i64 0, .int .i64 (-1), .int .u8 0] 129)).alloc (.map #[] 0)).alloc (.cells #[.slice (some ⟨w.heap.size, 0, none⟩) 1 1, .map (some (w.heap.size + 1))] 133)) w.heap.size (w.heap.size + 2) [[]] (fun _ => -1) := by
  have h0 : (w.alloc (.cells #[.int .i64 (-1), .int .i64 0, .int .i64 (-1), .int .u8 0] 129)).heap[w.heap.size]? = some (.cells #[.int .i64 (-1), .int .i64 0, .int .i64 (-1), .int .u8 0] 129 (0, 0)) := heap_alloc_new _ _
  have hm := MapIs.made (w.alloc (.cells #[.int .i64 (-1), .int .i64 0, .int .i64 (-1), .int .u8 0] 129)) Tryz.prog 164 3
  have hs : (w.alloc (.cells #[.int .i64 (-1), .int .i64 0, .int .i64 (-1), .int .u8 0] 129)).heap.size = w.heap.size + 1 := World.size_alloc _ _
  rw [hs] at hm
  refine ⟨.slice (some ⟨w.heap.size, 0, none⟩) 1 1, w.heap.size + 1, ?_, by omega, by omega, ?_, ?_, Tree.start⟩
  · have := heap_alloc_new ((w.alloc (.cells #[.int .i64 (-1), .int .i64 0, .int .i64 (-1), .int .u8 0] 129)).alloc (.map #[] 0)) (.cells #[.slice (some ⟨w.heap.size, 0, none⟩) 1 1, .map (some (w.heap.size + 1))] 133)
    rw [World.size_alloc, hs] at this
    exact this
  · refine ⟨rfl, .inr ⟨w.heap.size, 1, _, rfl, Nat.le_refl _, blk_old (blk_old h0), Nat.le_refl _, by simp [maxLen], rfl, rfl⟩⟩
  · refine (MapIs.below (MapIs.mono ?_ (Nat.zero_le 1)) ((Below.refl _ _).alloc (Nat.le_refl _) _))
    obtain ⟨D, a, b, c⟩ := hm
    refine ⟨D, a, b, fun key kl hk => ?_⟩
    have := c key kl hk
    have he : edgeF [[]] key = none := by
      unfold edgeF
      split
      · rw [if_neg]
        rintro ⟨x1, x2, _, _, x5⟩
        have := place_mem.1 x5
        simp at this
      · rfl
    rw [he]
    exact this
theorem TrieAt.write {w : World} {base g : Nat} {P : List Txt} {W : Txt → Int} (h : TrieAt w base g P W) : ∃ b cp, w.cell? ⟨g, 0, none⟩ = some (.slice (some ⟨b, 0, none⟩) P.length cp) ∧ P.length ≤ cp ∧
    (∀ i p, P[i]? = some p → w.cell? ⟨b, i * 4 + 2, none⟩ = some (.int .i64 (W p)) ∧ w.frozen? ⟨b, i * 4 + 2, none⟩ = false) ∧
    ∀ i s x W', P[i]? = some s → W' s = x → (∀ p, p ≠ s → W' p = W p) → TrieAt (w.setCell ⟨b, i * 4 + 2, none⟩ (.int .i64 x)) base g P W' ∧ Below base w (w.setCell ⟨b, i * 4 + 2, none⟩ (.int .i64 x)) := by
  obtain ⟨v, mb, hg, h1, h2, ho, hm, hT⟩ := h
  have hl := hT.len
  obtain ⟨b, cp, rfl, hb, hcp⟩ : ∃ b cp, v = .slice (some ⟨b, 0, none⟩) P.length cp ∧ base ≤ b ∧ P.length ≤ cp := by
    rcases ho.2 with ⟨_, h⟩ | ⟨b, cap, cur, hv, hb, hh, hnc, _⟩
    · omega
    · exact ⟨b, cap, hv, hb, hnc⟩
  refine ⟨b, cp, cell_of_blk hg 0, hcp, fun i p hi => ⟨?_, World.ownsRow.frozenAt ho _⟩, fun i s x W' hi hs hW => ?_⟩
  · have hil : i < P.length := (List.getElem?_eq_some_iff.1 hi).1
    rw [World.ownsRow.cellAt ho (i * 4 + 2) (by omega), nodeCells_at P W hi 2 (by omega)]
    rfl
  · have s1 := World.ownsRow.stored ho (i * 4 + 2) (.int .i64 x)
    have hbg : g ≠ b := fun e => own_not_type ho hg (by decide) (by rw [e]; rfl)
    obtain ⟨es, cl, hmm⟩ := hm.is_map
    have hmb : mb ≠ b := fun e => own_not_map ho hmm (by rw [e]; rfl)
    refine ⟨⟨_, mb, (Below.heap_setCell _ _ _ _ hbg).trans hg, h1, h2, ?_, hm.keep (keeps_set w ⟨b, i * 4 + 2, none⟩ _) hmb, hT⟩, (Below.refl _ _).setCell hb _⟩
    rw [nodeCells_word hT hi hs hW]
    exact s1.1
theorem addTo_words {l : List Txt} {b : Txt} {m : Nat} {q : Txt} (h : q ∉ addTo (paths l) b m) : place l q = -1 := by
  refine place_none (fun hm => h ?_)
  obtain ⟨x, hx⟩ := addTo_mono (paths l) b m
  rw [hx]
  exact List.mem_append_left _ (text_mem_paths hm)
theorem place_nat {P : List Txt} {s : Txt} (h : s ∈ P) : ∃ a : Nat, place P s = (a : Int) ∧ P[a]? = some s := by
  have h1 := place_mem.2 h
  refine ⟨(place P s).toNat, by omega, place_get h⟩
theorem take_snoc_b (b : Txt) (m : Nat) (h : m < b.length) : b.take (m + 1) = b.take m ++ [b.getD m 0] := by
  rw [List.take_succ_eq_append_getElem h]; simp [h]
set_option maxRecDepth 100000 in
set_option maxHeartbeats 1600000 in
theorem build_calls (w : World) (A : Option Addr) (c : Nat) (l : List Txt) (htx : Txts w A l) (hl : tot l ≤ 900000) (hll : l.length ≤ 1000000) :
    Calls Tryz.prog 41 #[.slice A l.length c] w (RetTrie w (paths l) (place l)) := by
  have HX := As.mk htx
  have h00 := As.mk (TrieAt.start w)
  obtain ⟨n, hn⟩ : ∃ n, l.length = n := ⟨_, rfl⟩
  rw [hn] at hll
  rw [hn]
  have hn := As.mk hn
  have HL := As.mk hl
  have htot := As.mk (fun k h => tot_take l k h)
  have hpl := As.mk (fun k => paths_len (l.take k))
  clear htx hl
  generalize hB : w.heap.size = B at *
  have hst : As (∀ k, k < n → l.take (k + 1) = l.take k ++ [l.getD k []]) := ⟨fun k h => take_snoc_txt l k (by rw [hn.out]; exact h)⟩
  have hmm := @run_makeMap Tryz.prog
  go_enter Tryz.func41, Tryz.ntmps41
  go_wp2
  go_loopw [16] (fun i wr => ∃ k : Nat, k ≤ n ∧ i = .int .i64 k ∧ As (TrieAt wr B (B + 2) (paths (l.take k)) (place (l.take k))) ∧ As (Below B w wr)) (fun i _ => n - (intOf i).toNat)
  case atStart =>
    refine ⟨0, Nat.zero_le _, rfl, ⟨?_⟩, ⟨?_⟩⟩
    · have hp0 : place [] = fun _ => -1 := by funext x; rfl
      have hp1 : paths [] = [[]] := rfl
      rw [List.take_zero, hp0, hp1]
      simpa using h00.out
    · exact (((Below.refl _ _).alloc (by omega) _).alloc (by simp; omega) _).alloc (by simp; omega) _
  case round =>
    obtain ⟨k, hk, rfl, hta, hbel⟩ := hrel
    by_cases hlt : k < n
    · obtain ⟨b, hb⟩ : ∃ b, l.getD k [] = b := ⟨_, rfl⟩
      have hT0 := As.mk hta.out.tree
      obtain ⟨ad, A', c', rfl, a1, hc', hbyt⟩ := HX.out.at_ (i := k) (by rw [hn.out]; exact hlt)
      replace a1 := (hbel.out.cell (p := ad.add k) (by have := World.block_lt_of_cell? w _ a1; omega)).trans a1
      rw [hb] at a1 hc' hbyt
      have hLk : As ((l.take k).length = k) := ⟨by rw [List.length_take, hn.out]; omega⟩
      have hbyt := As.mk hbyt
      have hbl : b.length + tot (l.take k) ≤ 900000 := by
        have h1 := htot.out k (by rw [hn.out]; exact hlt)
        rw [hb] at h1
        have := HL.out
        omega
      have hPl := hpl.out k
      have hnext : As (l.take (k + 1) = l.take k ++ [b]) := ⟨by rw [hst.out k hlt, hb]⟩
      generalize hL : l.take k = L at *
      have hlen : As (∀ m, m ≤ b.length → (addTo (paths L) b m).length ≤ 900001) := ⟨fun m hm => by have := addTo_len (paths L) b m; omega⟩
      have hsp : As (∀ m, m ≤ b.length → Tree (addTo (paths L) b m) ∧ b.take m ∈ addTo (paths L) b m) := ⟨fun m hm => ⟨(addTo_spec hT0.out b m hm).1, (addTo_spec hT0.out b m hm).2.1⟩⟩
      have hstart : As ((0 : Int) = place (addTo (paths L) b 0) (b.take 0)) := ⟨by rw [List.take_zero]; exact (place_at hT0.out.nodup hT0.out.root).symm⟩
      obtain ⟨bl, hbL⟩ : ∃ bl, b.length = bl := ⟨_, rfl⟩
      rw [hbL] at a1 hc' hbl hlen hsp
      have hbL := As.mk hbL
      clear hPl hpl htot
      go_wp2
      go_loopw [6, 23] (fun at_ j wr2 => ∃ (m : Nat) (r : Int), m ≤ bl ∧ j = .int .i64 m ∧ at_ = .int .i64 r ∧ As (r = place (addTo (paths L) b m) (b.take m)) ∧ As (TrieAt wr2 B (B + 2) (addTo (paths L) b m) (place L)) ∧ As (Below B w wr2)) (fun _ j _ => bl - (intOf j).toNat)
      case atStart => exact ⟨0, 0, Nat.zero_le _, rfl, rfl, hstart, hta, hbel⟩
      case round =>
        obtain ⟨m, r, hm, rfl, rfl, hr, hta2, hbel2⟩ := hrel
        by_cases hmlt : m < bl
        · obtain ⟨ad2, rfl, a2⟩ := Byt.at_ (Row.below hbyt.out (hB.symm ▸ hbel2.out)) (i := m) (by rw [hbL.out]; exact hmlt)
          obtain ⟨x, hx⟩ : ∃ x, b.getD m 0 = x := ⟨_, rfl⟩
          rw [hx] at a2
          obtain ⟨a, ha1, ha2⟩ := place_nat (hsp.out m hm).2
          rw [← hr.out] at ha1
          subst ha1
          have hg := grow_calls wr B (B + 2) _ _ a (b.take m) x hta2.out ha2 (by have := hlen.out m hm; omega) (by rw [List.length_take, hbL.out]; omega) (fun h => addTo_words h)
          have htk : b.take m ++ [x] = b.take (m + 1) := by rw [← hx]; exact (take_snoc_b b m (by rw [hbL.out]; exact hmlt)).symm
          rw [htk] at hg
          replace hg := As.mk hg
          clear htk ha2
          go_wp2_with (go_at_call 61; refine hg.out.mono ?_; rintro e w' ⟨rfl, ht3, hb3⟩)
          go_roundw
          case rel => exact ⟨m + 1, _, by omega, by go_num, rfl, ⟨rfl⟩, ⟨ht3⟩, ⟨hbel2.out.trans hb3⟩⟩
          case measure => simp [intOf]; omega
        · obtain rfl : m = bl := by omega
          have htb : b.take m = b := List.take_of_length_le (by rw [hbL.out]; omega)
          obtain ⟨a, ha1, ha2⟩ := place_nat (hsp.out m hm).2
          rw [← hr.out] at ha1
          subst ha1
          rw [htb] at ha2
          have hpp : addTo (paths L) b m = paths (L ++ [b]) := by rw [paths_snoc]; unfold addText; rw [hbL.out]
          have ha3 := (List.getElem?_eq_some_iff.1 ha2).1
          have hPL := hlen.out m hm
          rw [hpp] at ha2 ha3 hPL
          have hta3 := hta2.out
          rw [hpp] at hta3
          replace hta3 := As.mk hta3
          obtain ⟨bb, cp, c0, hcp, hcell, hwr⟩ := hta3.out.write
          obtain ⟨d0, f0⟩ := hcell a b ha2
          generalize hQ : paths (L ++ [b]) = Q at *
          clear hcell hpp htb hta2 hlen hsp hstart
          by_cases hin : b ∈ L
          · have hge := place_mem.2 hin
            have hsame : place (L ++ [b]) = place L := by
              funext p
              rw [place_snoc]
              by_cases hp : p ∈ L
              · rw [if_pos hp]
              · rw [if_neg hp, if_neg (fun e : b = p => hp (e ▸ hin)), place_none hp]
            have hfin : As (TrieAt wr B (B + 2) (paths (l.take (k + 1))) (place (l.take (k + 1)))) := ⟨by rw [hnext.out, hsame, hQ]; exact hta3.out⟩
            clear hsame hwr hin
            generalize place L b = y at *
            go_wp2
            go_roundw
            case rel => exact ⟨k + 1, by omega, by go_num, hfin, hbel2⟩
            case measure => simp [intOf]; omega
          · have hy := place_none hin
            have hw2 := hwr a b (k : Int) (place (L ++ [b])) ha2 (by rw [place_snoc, if_neg hin, if_pos rfl, hLk.out]) (fun p hp => by
              rw [place_snoc]
              by_cases hp2 : p ∈ L
              · rw [if_pos hp2]
              · rw [if_neg hp2, if_neg (fun e => hp e.symm), place_none hp2])
            have hfin : As (TrieAt (wr.setCell ⟨bb, a * 4 + 2, none⟩ (.int .i64 (k : Int))) B (B + 2) (paths (l.take (k + 1))) (place (l.take (k + 1)))) := ⟨by rw [hnext.out, hQ]; exact hw2.1⟩
            have hbel3 := As.mk (hbel2.out.trans hw2.2)
            rw [hy] at d0
            clear hw2 hwr hin hy
            go_wp2
            go_roundw
            case rel => exact ⟨k + 1, by omega, by go_num, hfin, hbel3⟩
            case measure => simp [intOf]; omega
    · obtain rfl : k = n := by omega
      have hfin : As (TrieAt wr B (B + 2) (paths l) (place l)) := ⟨by
        have := hta.out
        rw [← hn.out, List.take_length] at this
        exact this⟩
      go_wp2
      go_ret
      exact ⟨B + 2, rfl, hB.symm ▸ hfin.out, hB.symm ▸ hbel.out⟩
end Go.Proofs.YtdiljmhikajjiaaGreat
end
section
namespace Go.Proofs.YtdiljmhikajjiaaGreat
open Go.ChangeShapes Go.WideShapes Go.Deep Go.RowKit Seine.Trie
theorem u8_of {n : Int} (h : (Lit.int .u8 n).wf = true) : ((UInt8.ofNat n.toNat).toNat : Int) = n := by
  simp only [Lit.wf, IntKind.min, IntKind.max, IntKind.signed, IntKind.bits, Bool.and_eq_true, decide_eq_true_eq] at h
  have h1 : n.toNat < 256 := by simp at h; omega
  simp only [UInt8.toNat_ofNat']
  have h0 : 0 ≤ n := by simp at h; omega
  omega
section
variable {H : Type} {enc : TypeId × Value → H} {w : World} {base : Nat}
set_option maxRecDepth 100000 in
theorem arg_bytes2 {t e q : TypeId} (ht : Tryz.prog.underlying t = some (.slice e)) (he : Tryz.prog.underlying e = some (.slice q)) (hq : Tryz.prog.underlying q = some (.int .u8)) (ce : Tryz.prog.cellsOf e = 1) (cq : Tryz.prog.cellsOf q = 1) (hB : Tryz.prog.bytesOf e = 24)
    {ts : List TypeId} {ds : List (DataW H)} {j : Nat} (hsz : (DataW.weightsEach Tryz.prog ts ds).all (· ≤ reachBytes) = true) {v : Value} {d : DataW H} {p : List MemPlace} (hts : ts[j]? = some t) (hds : ds[j]? = some d)
    (hv : Value.okWide Tryz.prog w .any base t v) (h : DataW.Trod enc Tryz.prog w 0 (fun _ => true) true t v d p) :
    ∃ (A : Option Addr) (c : Nat) (l : List Txt), v = .slice A l.length c ∧ Txts w A l ∧ l.length ≤ c ∧ c * 24 ≤ 140737488351232 ∧ ∀ x ∈ l, x.length ≤ maxLen := by
  obtain ⟨a0, len, cap, rfl⟩ := okWide_slice ht hv
  obtain ⟨fuel, hf⟩ := h
  rcases open_int_rows ht he hq ce cq hf with ⟨hcs, _⟩ | ⟨a, ln, cp, A, L, C, Z, hcs, _, hl, hm, hx, hr⟩
  · simp [Value.cells] at hcs
    obtain ⟨rfl, rfl, rfl⟩ := hcs
    exact ⟨none, 0, [], rfl, ⟨[], rfl, .inl rfl, fun i hi => by simp at hi⟩, Nat.le_refl _, by omega, by simp⟩
  · simp [Value.cells] at hcs
    obtain ⟨rfl, rfl, rfl⟩ := hcs
    obtain ⟨hx, _⟩ := Prod.mk.inj hx
    subst hx
    have z := sized_slice hsz hts hds ht
    rw [hB] at z
    simp only [List.length_map, List.length_range, reachBytes] at z
    have hz : (len + (cap - len)) * 24 ≤ 140737488351232 := z
    let tx : Nat → Txt := fun r => ((Z r).take (L r)).map fun n => UInt8.ofNat n.toNat
    have txl : ∀ r, r < cap → (tx r).length = L r := fun r h => by
      obtain ⟨_, h1, _, h2, _⟩ := hr r h
      simp only [tx, List.length_map, List.length_take]
      omega
    have hg : ∀ i, i < len → ((List.range len).map tx).getD i [] = tx i := fun i hi => by
      rw [List.getD_eq_getElem?_getD, List.getElem?_map, List.getElem?_range hi]; rfl
    refine ⟨some a, cap, (List.range len).map tx, by simp, ⟨(List.range len).map (fun r => .slice (A r) (L r) (C r)), by simp, row_of_cells (fun _ => ⟨a, rfl, fun j u hu => ?_⟩), fun i hi => ?_⟩, by simp; omega, by omega, fun x hx => ?_⟩
    · rw [List.getElem?_map, Option.map_eq_some_iff] at hu
      obtain ⟨y, hy, rfl⟩ := hu
      obtain ⟨hjl, hy⟩ := List.getElem?_eq_some_iff.1 hy
      simp at hjl hy
      subst hy
      exact (hr j (by omega)).1
    · have hil : i < len := by simpa using hi
      obtain ⟨h1, h2, h3, h4, h5, h6, h7⟩ := hr i (by omega)
      rw [hg i hil, txl i (by omega)]
      refine ⟨A i, C i, by rw [List.getElem?_map, List.getElem?_range hil]; rfl, h2, row_of_cells (fun h0 => ?_)⟩
      rw [byCells_length, txl i (by omega)] at h0
      cases hA : A i with
      | none => have := h6 hA; omega
      | some a' =>
        refine ⟨a', rfl, fun j u hu => ?_⟩
        obtain ⟨_, h8⟩ := h7 a' hA
        unfold byCells at hu
        rw [List.getElem?_map, Option.map_eq_some_iff] at hu
        obtain ⟨y, hy, rfl⟩ := hu
        simp only [tx] at hy
        rw [List.getElem?_map, Option.map_eq_some_iff] at hy
        obtain ⟨n, hn, rfl⟩ := hy
        have hj : j < L i := by
          have := (List.getElem?_eq_some_iff.1 hn).1
          rw [List.length_take] at this; omega
        rw [List.getElem?_take_of_lt hj] at hn
        rw [h8 j (by omega), List.getD_eq_getElem?_getD, hn, u8_of (h5 n (List.mem_of_getElem? hn))]
        rfl
    · obtain ⟨r, hr1, rfl⟩ := List.mem_map.1 hx
      have hrl := List.mem_range.1 hr1
      rw [txl r (by omega)]
      obtain ⟨_, h2, h3, _⟩ := hr r (by omega)
      omega
end
end Go.Proofs.YtdiljmhikajjiaaGreat
end
section
set_option maxRecDepth 100000
namespace Go.Proofs.YtdiljmhikajjiaaGreat
open Go.ChangeShapes Go.WideShapes Go.Deep Go.RowKit Seine.Trie
theorem u8_in {n : Int} (h : (Lit.int .u8 n).wf = true) : ((UInt8.ofNat n.toNat).toNat : Int) = n := by
  simp only [Lit.wf, IntKind.min, IntKind.max, IntKind.signed, IntKind.bits, Bool.and_eq_true, decide_eq_true_eq] at h
  have h1 : n.toNat < 256 := by simp at h; omega
  simp only [UInt8.toNat_ofNat']
  have h0 : 0 ≤ n := by simp at h; omega
  omega
theorem arg_bytes {H : Type} {enc : TypeId × Value → H} {w : World} {base : Nat} {v : Value} {d : DataW H} {p : List MemPlace}
    (hv : Value.okWide Tryz.prog w .any base 23 v) (h : DataW.Trod enc Tryz.prog w 0 (fun _ => true) true 23 v d p) :
    ∃ (A : Option Addr) (c : Nat) (b : Txt), v = .slice A b.length c ∧ Byt w A b ∧ b.length ≤ c ∧ c ≤ maxLen ∧ True := by
  obtain ⟨A, c, xs, rfl, hr, h1, h2, h3⟩ := arg_ints Tryz.underlying23 Tryz.underlying5 (by kernel_rfl) hv h
  refine ⟨A, c, xs.map fun n => UInt8.ofNat n.toNat, by rw [List.length_map], ?_, by rw [List.length_map]; exact h1, h2, trivial⟩
  have : byCells (xs.map fun n => UInt8.ofNat n.toNat) = xs.map (Value.int .u8) := by
    unfold byCells
    rw [List.map_map]
    refine List.map_congr_left fun n hn => ?_
    show Value.int .u8 ((UInt8.ofNat n.toNat).toNat : Int) = _
    rw [u8_in (h3 n hn)]
  unfold Byt
  rw [this]
  exact hr
end Go.Proofs.YtdiljmhikajjiaaGreat
end
