/- Joined texts: SparseRef, SparseAwake, Sparse3, SparseLaw, TxtsOwn. -/
import Derived.Test.YtieelnpfpfiboaaM5
import Derived.Test.YtieelnpfpfiboaaM4
import Derived.Lib.SlBytesConst
import Derived.Test.YtieelnpfpfiboaaM2
section
/- The references on the automaton (seineref08), as the printer tells them, are the plain laws'. -/
set_option linter.unusedVariables false
set_option linter.unusedSimpArgs false
namespace Go.Proofs.Ytieelnpfpfiboaa
open Go.RowKit Seine.Trie Seine.Links Seine.Sparse Go.Proofs.YtieelnpfpfiboaaW.PrintWords Go.Proofs.Ytieelnpfpfiboaa.Ref
theorem Evl.out {α : Type} {f : Nat → Option α} {r : α} (h : Evl f r) : ∃ N, ∀ k, N ≤ k → f k = some r := h
theorem refLongest (P : List Txt) (t : Txt) (hP : P.length ≤ 1000000) (ht : t.length ≤ 1000000) : Evl (fun q => seineref08_Longest.f q (P.map bb) (bb t)) (bb (lng P t)) := by
  have key : ∀ (d i : Nat), i + d = t.length → (∀ j, j < i → t.drop j ∉ P) → Evl (fun q => seineref08_Longest.l0 q (P.map bb) (bb t) (i : Int)) (bb (lng P t)) := by
    intro d
    induction d with
    | zero =>
      intro i hi hno
      obtain rfl : i = t.length := by omega
      have hl : lng P t = [] := by
        unfold lng
        rw [firstN_no (fun j _ hj => decide_eq_false (hno j (by omega)))]
      refine ⟨1, fun q hq => ?_⟩
      obtain ⟨m, rfl⟩ : ∃ m, q = m + 1 := ⟨q - 1, by omega⟩
      simp only [seineref08_Longest.l0, bb_size]
      rw [if_neg (by omega), hl]; rfl
    | succ d ih =>
      intro i hi hno
      obtain ⟨N, hN⟩ := (refPlace P (t.drop i) (by omega)).out
      have hex : (bb t).extract (i : Int).toNat (bb t).size = bb (t.drop i) := by rw [Int.toNat_natCast, bb_from]
      by_cases hm : t.drop i ∈ P
      · have hl : lng P t = t.drop i := by
          unfold lng
          rw [firstN_eq (Nat.zero_le _) (by omega) (decide_eq_true hm) (fun j _ hj => decide_eq_false (hno j hj))]
        refine ⟨N + 1, fun q hq => ?_⟩
        obtain ⟨m, rfl⟩ : ∃ m, q = m + 1 := ⟨q - 1, by omega⟩
        simp only [seineref08_Longest.l0]
        rw [hex, bb_size, if_pos (by omega), if_pos (by omega), if_pos (by omega), hN m (by omega)]
        simp only [Option.bind_some]
        rw [if_pos (place_mem.2 hm), hl]
      · obtain ⟨M, hM⟩ := ih (i + 1) (by omega) (fun j hj => by
          rcases Nat.eq_or_lt_of_le (Nat.le_of_lt_succ hj) with e | e
          · rw [e]; exact hm
          · exact hno j e)
        refine ⟨N + M + 1, fun q hq => ?_⟩
        obtain ⟨m, rfl⟩ : ∃ m, q = m + 1 := ⟨q - 1, by omega⟩
        simp only [seineref08_Longest.l0]
        rw [hex, bb_size, if_pos (by omega), if_pos (by omega), if_pos (by omega), hN m (by omega)]
        simp only [Option.bind_some]
        rw [if_neg (by have := place_neg.2 hm; omega), w64s i (by omega)]
        exact hM m (by omega)
  exact key t.length 0 (by omega) (fun j hj => by omega)
theorem rlongest_calls (w : World) (A : Option Addr) (c : Nat) (P : List Txt) (h : KdS w A P) (hc : P.length ≤ c) (hP : P.length ≤ 1000000) (t : Txt) (ht : t.length ≤ 1000000) :
    Calls Try.prog 25 #[.slice A P.length c, .string (bb t)] w fun e w' => e = .returned (.string (bb (lng P t))) ∧ Below w.heap.size w w' := by
  obtain ⟨k, hk⟩ := (refLongest P t hP ht).get
  have := seineref08_Longest.calls k A c (P.map bb) (bb t) _ w h.row (by rw [List.length_map]; exact hc) hk
  rw [List.length_map] at this
  exact this.mono fun e w' h => ⟨h.1, h.2.below⟩
theorem refStep (P : List Txt) (hT : Tree P) (c : UInt8) (hP : P.length ≤ 1000000) : ∀ (k : Nat) (s : Txt), s.length = k → s.length ≤ 1000000 → ∀ (n : Nat), n + s.length ≤ 1000000000 →
    Evl (fun q => seineref08_Step.l0 q (P.map bb) (bb s) (c.toNat : Int) (n : Int)) (bb (lng P (s ++ [c])), ((n + looks1 P s c - 1 : Nat) : Int)) := by
  intro k
  induction k using Nat.strongRecOn with
  | _ k ih =>
    intro s hk hs n hn
    have hone : strOfNums [(c.toNat : Int)] = bb [c] := bb_nums [c]
    obtain ⟨N, hN⟩ := (refPlace P (s ++ [c]) (by omega)).out
    have hsz : (bb s).size + (bb [c]).size ≤ 9223372036854775807 := by rw [bb_size, bb_size]; simp; omega
    by_cases hm : s ++ [c] ∈ P
    · refine ⟨N + 1, fun q hq => ?_⟩
      obtain ⟨m, rfl⟩ : ∃ m, q = m + 1 := ⟨q - 1, by omega⟩
      simp only [seineref08_Step.l0, Option.bind_some]
      rw [hone, if_pos hsz, bb_append, hN m (by omega)]
      simp only [Option.bind_some]
      rw [if_pos (place_mem.2 hm), step_hit hT hm, looks1_hit hm, Nat.add_sub_cancel]
    · have hneg : ¬ place P (s ++ [c]) ≥ 0 := by have := place_neg.2 hm; omega
      by_cases hs0 : s = []
      · subst hs0
        refine ⟨N + 1, fun q hq => ?_⟩
        obtain ⟨m, rfl⟩ : ∃ m, q = m + 1 := ⟨q - 1, by omega⟩
        simp only [seineref08_Step.l0, Option.bind_some]
        rw [hone, if_pos hsz, bb_append, hN m (by omega)]
        simp only [Option.bind_some]
        rw [if_neg hneg, if_pos (by rw [bb_toList]), List.nil_append, step_root hT (by simpa using hm), looks1_root, Nat.add_sub_cancel]; rfl
      · obtain ⟨f, hf⟩ := fail_some hT hs0
        obtain ⟨f1, f2, f3, f4⟩ := failN_some hf
        have hrec := ih (s.drop f).length (by rw [List.length_drop]; omega) (s.drop f) rfl (by rw [List.length_drop]; omega) (n + 1) (by rw [List.length_drop]; omega)
        have hlk := looks1_pos P (s.drop f) c
        have hres : (bb (lng P (s ++ [c])), ((n + looks1 P s c - 1 : Nat) : Int)) = (bb (lng P (s.drop f ++ [c])), ((n + 1 + looks1 P (s.drop f) c - 1 : Nat) : Int)) := by
          rw [step_fall hT hm hf, looks1_fall hm hf, show n + (1 + looks1 P (s.drop f) c) - 1 = n + 1 + looks1 P (s.drop f) c - 1 by omega]
        have hl1 : ∀ (d i : Nat), i + d = f → 1 ≤ i → Evl (fun q => seineref08_Step.l1 q (P.map bb) (bb s) (c.toNat : Int) (n : Int) (i : Int)) (bb (lng P (s ++ [c])), ((n + looks1 P s c - 1 : Nat) : Int)) := by
          intro d
          induction d with
          | zero =>
            intro i hi hi1
            obtain rfl : i = f := by omega
            obtain ⟨M, hM⟩ := hrec
            obtain ⟨K, hK⟩ := (refPlace P (s.drop i) (by omega)).out
            refine ⟨M + K + 1, fun q hq => ?_⟩
            obtain ⟨m, rfl⟩ : ∃ m, q = m + 1 := ⟨q - 1, by omega⟩
            have hex : (bb s).extract (i : Int).toNat (bb s).size = bb (s.drop i) := by rw [Int.toNat_natCast, bb_from]
            simp only [seineref08_Step.l1]
            rw [hex, bb_size, if_pos (by omega), if_pos (by omega), hK m (by omega)]
            simp only [Option.bind_some]
            rw [if_neg (by have := place_mem.2 f3; omega), w64s n (by omega), hres]
            exact hM m (by omega)
          | succ d ihd =>
            intro i hi hi1
            obtain ⟨M, hM⟩ := ihd (i + 1) (by omega) (by omega)
            obtain ⟨K, hK⟩ := (refPlace P (s.drop i) (by omega)).out
            refine ⟨M + K + 1, fun q hq => ?_⟩
            obtain ⟨m, rfl⟩ : ∃ m, q = m + 1 := ⟨q - 1, by omega⟩
            have hex : (bb s).extract (i : Int).toNat (bb s).size = bb (s.drop i) := by rw [Int.toNat_natCast, bb_from]
            simp only [seineref08_Step.l1]
            rw [hex, bb_size, if_pos (by omega), if_pos (by omega), hK m (by omega)]
            simp only [Option.bind_some]
            rw [if_pos (place_neg.2 (f4 i hi1 (by omega))), w64s i (by omega)]
            exact hM m (by omega)
        obtain ⟨M, hM⟩ := hl1 (f - 1) 1 (by omega) (by omega)
        refine ⟨M + N + 1, fun q hq => ?_⟩
        obtain ⟨m, rfl⟩ : ∃ m, q = m + 1 := ⟨q - 1, by omega⟩
        simp only [seineref08_Step.l0, Option.bind_some]
        rw [hone, if_pos hsz, bb_append, hN m (by omega)]
        simp only [Option.bind_some]
        rw [if_neg hneg, if_neg (by rw [bb_toList]; exact hs0)]
        exact hM m (by omega)
theorem refStep1 (P : List Txt) (hT : Tree P) (c : UInt8) (hP : P.length ≤ 1000000) (s : Txt) (hs : s.length ≤ 1000000) : Evl (fun q => seineref08_Step.f q (P.map bb) (bb s) (c.toNat : Int)) (bb (lng P (s ++ [c])), (looks1 P s c : Int)) := by
  have := refStep P hT c hP _ s rfl hs 1 (by omega)
  rw [show 1 + looks1 P s c - 1 = looks1 P s c by omega] at this
  exact this
theorem rstep_calls (w : World) (A : Option Addr) (d : Nat) (P : List Txt) (h : KdS w A P) (hc : P.length ≤ d) (hT : Tree P) (hP : P.length ≤ 1000000) (s : Txt) (hs : s.length ≤ 1000000) (c : UInt8) :
    Calls Try.prog 23 #[.slice A P.length d, .string (bb s), .int .u8 (c.toNat : Int)] w fun e w' => e = .returned (.tuple #[.string (bb (lng P (s ++ [c]))), .int .i64 (looks1 P s c : Int)]) ∧ Below w.heap.size w w' := by
  obtain ⟨k, hk⟩ := (refStep1 P hT c hP s hs).get
  have := seineref08_Step.calls k A d (P.map bb) (bb s) _ _ _ w h.row (by rw [List.length_map]; exact hc) hk
  rw [List.length_map] at this
  exact this
theorem refLooks (P : List Txt) (hT : Tree P) (hP : P.length ≤ 1000000) (L : Txt) (hL : L.length ≤ 1000000) : Evl (fun q => seineref08_Looks.f q (P.map bb) (bb L)) (looksTo P L L.length : Int) := by
  have key : ∀ (d i : Nat), i + d = L.length → Evl (fun q => seineref08_Looks.l0 q (P.map bb) (bb L) (bb (lng P (L.take i))) (looksTo P L i : Int) (i : Int)) (looksTo P L L.length : Int) := by
    intro d
    induction d with
    | zero =>
      intro i hi
      obtain rfl : i = L.length := by omega
      refine ⟨1, fun q hq => ?_⟩
      obtain ⟨m, rfl⟩ : ∃ m, q = m + 1 := ⟨q - 1, by omega⟩
      simp only [seineref08_Looks.l0, bb_size]
      rw [if_neg (by omega)]
    | succ d ih =>
      intro i hi
      have hil : i < L.length := by omega
      have hlen := lng_len hT (L.take i)
      rw [List.length_take] at hlen
      obtain ⟨N, hN⟩ := (refStep1 P hT (L.getD i 0) hP (lng P (L.take i)) (by omega)).out
      obtain ⟨M, hM⟩ := ih (i + 1) (by omega)
      have hc := (looksTo_cost hT L (i + 1) (by omega)).2
      have hsx : looksTo P L (i + 1) = looksTo P L i + looks1 P (lng P (L.take i)) (L.getD i 0) := rfl
      refine ⟨N + M + 1, fun q hq => ?_⟩
      obtain ⟨m, rfl⟩ : ∃ m, q = m + 1 := ⟨q - 1, by omega⟩
      simp only [seineref08_Looks.l0, bb_size]
      rw [if_pos (by omega), if_pos (by omega), bt_bb L i hil, hN m (by omega)]
      simp only [Option.bind_some]
      rw [← lng_step hT, ← take_snoc' L i hil, w64s i (by omega), w64 (by omega) (by omega)]
      have := hM m (by omega)
      rw [hsx] at this
      push_cast at this ⊢
      exact this
  have := key L.length 0 (by omega)
  exact this
theorem rlooks_calls (w : World) (A : Option Addr) (d : Nat) (P : List Txt) (h : KdS w A P) (hc : P.length ≤ d) (hT : Tree P) (hP : P.length ≤ 1000000) (L : Txt) (hL : L.length ≤ 1000000) :
    Calls Try.prog 18 #[.slice A P.length d, .string (bb L)] w fun e w' => e = .returned (.int .i64 (looksTo P L L.length : Int)) ∧ Below w.heap.size w w' := by
  obtain ⟨k, hk⟩ := (refLooks P hT hP L hL).get
  have := seineref08_Looks.calls k A d (P.map bb) (bb L) _ w h.row (by rw [List.length_map]; exact hc) hk
  rw [List.length_map] at this
  exact this
end Go.Proofs.Ytieelnpfpfiboaa
end
section
/- The walk of the laws' 'awake' on an automaton. -/
set_option linter.unusedVariables false
set_option linter.unusedSimpArgs false
namespace Go.Proofs.Ytieelnpfpfiboaa
open Go.RowKit Go.Maps Seine.Trie Seine.Links Seine.Sparse
open Seine.Sort (sortP)
theorem eqCn (d : Nat) (w : World) (x0 x1 x2 x3 y0 y1 y2 y3 : Int) :
    (Op.equalIn (d + 2) 38 (.agg #[.int .i64 x0, .int .i64 x1, .int .i64 x2, .int .i64 x3]) (.agg #[.int .i64 y0, .int .i64 y1, .int .i64 y2, .int .i64 y3])).run Try.prog w = .ok (x0 == y0 && (x1 == y1 && (x2 == y2 && (x3 == y3)))) w := by
  have h := field_eq (P := Try.prog) (d := d + 1) (w := w) (xs := #[.int .i64 x0, .int .i64 x1, .int .i64 x2, .int .i64 x3]) (ys := #[.int .i64 y0, .int .i64 y1, .int .i64 y2, .int .i64 y3]) (f := ⟨"Scan", 3, 0, false, "", "", 0⟩) (by decide) (by go_simp; rfl) (by go_simp; rfl) (by go_simp; rfl)
    (field_eq (f := ⟨"Look", 3, 1, false, "", "", 8⟩) (by decide) (by go_simp; rfl) (by go_simp; rfl) (by go_simp; rfl)
      (field_eq (f := ⟨"Hunt", 3, 2, false, "", "", 16⟩) (by decide) (by go_simp; rfl) (by go_simp; rfl) (by go_simp; rfl)
        (field_eq (f := ⟨"Move", 3, 3, false, "", "", 24⟩) (by decide) (by go_simp; rfl) (by go_simp; rfl) (by go_simp; rfl) fields_none)))
  rw [Bool.and_true] at h
  exact struct_eq Try.underlying38 (by kernel_rfl) h
attribute [local go_sem high] eqCn
theorem txtsOf {w : World} {b t : Nat} {vs : List Value} {l : List Txt} {fr : Nat × Nat} (h : w.heap[b]? = some (.cells vs.toArray t fr)) (hl : vs.length = l.length) (hv : ∀ i, i < l.length → ∃ A' c', vs[i]? = some (.slice A' (l.getD i []).length c') ∧ (l.getD i []).length ≤ c' ∧ Byt w A' (l.getD i [])) : Txts w (some ⟨b, 0, none⟩) l := ⟨vs, hl, rowOfBlk h, hv⟩
theorem Mo.keepB {w w' : World} {mo : Option Nat} {c : Cn} (h : Mo w mo c) (hb : Below w.heap.size w w') : Mo w' mo c := h.below hb
def exT : List Txt := [[104, 101], [115, 104, 101]]
def exP : List Txt := [[], [104], [104, 101], [115], [115, 104], [115, 104, 101]]
theorem ex_paths : paths exT = exP := by decide
theorem ex_h1 : sortP (hitsTo exP exT [117, 115, 104, 101] 4) = [(1, 4), (2, 4)] := by decide
theorem ex_h2 : sortP (hitsTo exP exT [115, 104, 104, 101] 4) = [(2, 4)] := by decide
theorem ex_l1 : looksTo exP [117, 115, 104, 101] 4 = 4 := by decide
theorem ex_l2 : looksTo exP [115, 104, 104, 101] 4 = 6 := by decide
set_option maxRecDepth 100000 in
set_option maxHeartbeats 3200000 in
theorem awake_calls (w : World) : Calls Try.prog 9 #[] w fun e w' => e = .returned (.bool true) ∧ Below w.heap.size w w' := by
  have kc : ∀ (W : World) (C : Array Value) (n c b : Nat), b = W.heap.size → (convert 23 23 (.slice (some ⟨b, 0, none⟩) n c)).run Try.prog (W.alloc (.cells C 5)) = .ok (.slice (some ⟨b, 0, none⟩) n c) (W.alloc (.cells C 5 (C.size, C.size + 1))) := fun W C n c b h => by
    subst h; exact Lib.run_convert_bytes_const (P := Try.prog) W 23 5 C n c Try.underlying23 Try.underlying5
  have hw0 := Below.refl w.heap.size w
  go_enter Try.func9, Try.ntmps9
  go_wp2_with fail
  refine Calls.mono (snew_calls _ _ 2 exT ?tx (by decide) (by decide)) ?_
  case tx =>
    refine txtsOf (vs := [.slice (some ⟨w.heap.size, 0, none⟩) 2 2, .slice (some ⟨w.heap.size + 1, 0, none⟩) 3 3]) (by (repeat (first | (with_reducible assumption) | (with_reducible exact heap_alloc_new _ _) | (exact heapNewAt (by (first | omega | (simp only [World.size_alloc, World.size_drew]; done) | (simp only [World.size_alloc, World.size_drew]; omega)))) | (with_reducible refine blkDrew ?_) | (with_reducible refine blk_old ?_) | (refine blkBelow (by with_reducible assumption) ?_)))) rfl (fun i hi => ?_)
    match i, hi with
    | 0, _ => exact ⟨_, 2, rfl, by decide, litByt [104, 101] [.int .u8 104, .int .u8 101] rfl (by (repeat (first | (with_reducible assumption) | (with_reducible exact heap_alloc_new _ _) | (exact heapNewAt (by (first | omega | (simp only [World.size_alloc, World.size_drew]; done) | (simp only [World.size_alloc, World.size_drew]; omega)))) | (with_reducible refine blkDrew ?_) | (with_reducible refine blk_old ?_) | (refine blkBelow (by with_reducible assumption) ?_))))⟩
    | 1, _ => exact ⟨_, 3, rfl, by decide, litByt [115, 104, 101] [.int .u8 115, .int .u8 104, .int .u8 101] rfl (by (repeat (first | (with_reducible assumption) | (with_reducible exact heap_alloc_new _ _) | (exact heapNewAt (by (first | omega | (simp only [World.size_alloc, World.size_drew]; done) | (simp only [World.size_alloc, World.size_drew]; omega)))) | (with_reducible refine blkDrew ?_) | (with_reducible refine blk_old ?_) | (refine blkBelow (by with_reducible assumption) ?_))))⟩
  rintro e w1 ⟨g, rfl, hA, hb1⟩
  rw [ex_paths] at hA
  have hw1 : Below w.heap.size w w1 := by (repeat (first | (with_reducible assumption) | (with_reducible exact Below.refl _ _) | (with_reducible refine Below.drew ?_) | (with_reducible refine below_drewN ?_ _) | (with_reducible refine Below.alloc ?_ (by (first | omega | (simp only [World.size_alloc, World.size_drew]; done) | (simp only [World.size_alloc, World.size_drew]; omega))) _) | (refine Below.trans ?_ (Below.mono (by with_reducible assumption) (by (first | omega | (simp only [World.size_alloc, World.size_drew]; done) | (simp only [World.size_alloc, World.size_drew]; omega)))))))
  go_wp2_with fail
  refine Calls.mono (mnew_calls w1) ?_
  rintro e w2 ⟨rfl, hm2, hb2⟩
  have hA2 := hA.below hb2
  have hmo2 : Mo w2 (some w1.heap.size) Cn.zero := Mo.some_ hm2
  have hT : Tree exP := ex_paths ▸ paths_tree exT
  have s1 := hw1.size
  have s2 := hb2.size
  have hml : w1.heap.size < w2.heap.size := block_lt hm2
  have hkw2 : Below w.heap.size w w2 := hw1.trans (hb2.mono s1)
  go_wp2_with fail
  refine Calls.mono (sscan_calls _ g exP exT ?a3 (some w1.heap.size) Cn.zero ?m3 (by unfold Cn.room Cn.zero; decide) hT (by decide) 3 (by decide) (by decide) (by decide) _ 4 [117, 115, 104, 101] ?x3 (by decide) (by decide)) ?_
  case a3 => exact hA2.below (by (repeat (first | (with_reducible assumption) | (with_reducible exact Below.refl _ _) | (with_reducible refine Below.drew ?_) | (with_reducible refine below_drewN ?_ _) | (with_reducible refine Below.alloc ?_ (by (first | omega | (simp only [World.size_alloc, World.size_drew]; done) | (simp only [World.size_alloc, World.size_drew]; omega))) _) | (refine Below.trans ?_ (Below.mono (by with_reducible assumption) (by (first | omega | (simp only [World.size_alloc, World.size_drew]; done) | (simp only [World.size_alloc, World.size_drew]; omega))))))))
  case m3 => exact hmo2.below (by (repeat (first | (with_reducible assumption) | (with_reducible exact Below.refl _ _) | (with_reducible refine Below.drew ?_) | (with_reducible refine below_drewN ?_ _) | (with_reducible refine Below.alloc ?_ (by (first | omega | (simp only [World.size_alloc, World.size_drew]; done) | (simp only [World.size_alloc, World.size_drew]; omega))) _) | (refine Below.trans ?_ (Below.mono (by with_reducible assumption) (by (first | omega | (simp only [World.size_alloc, World.size_drew]; done) | (simp only [World.size_alloc, World.size_drew]; omega))))))))
  case x3 => exact litByt [117, 115, 104, 101] [.int .u8 117, .int .u8 115, .int .u8 104, .int .u8 101] rfl (by (repeat (first | (with_reducible assumption) | (with_reducible exact heap_alloc_new _ _) | (exact heapNewAt (by (first | omega | (simp only [World.size_alloc, World.size_drew]; done) | (simp only [World.size_alloc, World.size_drew]; omega)))) | (with_reducible refine blkDrew ?_) | (with_reducible refine blk_old ?_) | (refine blkBelow (by with_reducible assumption) ?_))))
  intro e w3 h3
  rw [show List.length [(117 : UInt8), 115, 104, 101] = 4 from rfl, ex_h1, ex_l1] at h3
  obtain ⟨A3, c3, he, hc3, hcm3, hr3, hm3, hk3, ho3⟩ := h3.out
  rw [show List.length [((1 : Int), (4 : Int)), (2, 4)] = 2 from rfl] at he hc3 ho3
  subst he
  clear h3
  have hA3 := (hA2.below ((Below.refl _ _).alloc (Nat.le_refl _) (.cells #[.int .u8 117, .int .u8 115, .int .u8 104, .int .u8 101] 5 (4, 5)))).keepM (hmo2.below ((Below.refl _ _).alloc (Nat.le_refl _) _)) hk3
  have s3 := hk3.size
  simp only [World.size_alloc] at s3
  have hB3 : Below w.heap.size w w3 := (hkw2.alloc (by omega) _).trans (hk3.below (fun k hk hS => by unfold OnlyM at hS; injection hS with hS; omega) (by simp; omega))
  go_wp2_with fail
  refine Calls.mono (mcounts_calls _ w1.heap.size ⟨4, 4, 0, 0⟩ (hm3 _ rfl)) ?_
  rintro e w4 ⟨rfl, hb4⟩
  unfold cnCells
  have hr4 := Row.below hr3 hb4
  have hA4 := hA3.below hb4
  have hm4 := hm3.below hb4
  have s4 := hb4.size
  have hB4 : Below w.heap.size w w4 := hB3.trans (hb4.mono (by omega))
  go_wp2_with fail
  obtain ⟨W5, hW5⟩ : ∃ W, (w4.alloc (.cells #[.int .i64 4, .int .i64 4, .int .i64 0, .int .i64 0] 38)).alloc (.cells #[.int .i64 115, .int .i64 104, .int .i64 104, .int .i64 101] 5 (4, 5)) = W := ⟨_, rfl⟩
  have hB54 : Below w4.heap.size w4 ((w4.alloc (.cells #[.int .i64 4, .int .i64 4, .int .i64 0, .int .i64 0] 38)).alloc (.cells #[.int .u8 115, .int .u8 104, .int .u8 104, .int .u8 101] 5 (4, 5))) := by (repeat (first | (with_reducible assumption) | (with_reducible exact Below.refl _ _) | (with_reducible refine Below.drew ?_) | (with_reducible refine below_drewN ?_ _) | (with_reducible refine Below.alloc ?_ (by (first | omega | (simp only [World.size_alloc, World.size_drew]; done) | (simp only [World.size_alloc, World.size_drew]; omega))) _) | (refine Below.trans ?_ (Below.mono (by with_reducible assumption) (by (first | omega | (simp only [World.size_alloc, World.size_drew]; done) | (simp only [World.size_alloc, World.size_drew]; omega)))))))
  have hq4 : ((w4.alloc (.cells #[.int .i64 4, .int .i64 4, .int .i64 0, .int .i64 0] 38)).alloc (.cells #[.int .u8 115, .int .u8 104, .int .u8 104, .int .u8 101] 5 (4, 5))).heap[w4.heap.size]? = some (.cells #[.int .i64 4, .int .i64 4, .int .i64 0, .int .i64 0] 38 (0, 0)) := by (repeat (first | (with_reducible assumption) | (with_reducible exact heap_alloc_new _ _) | (exact heapNewAt (by (first | omega | (simp only [World.size_alloc, World.size_drew]; done) | (simp only [World.size_alloc, World.size_drew]; omega)))) | (with_reducible refine blkDrew ?_) | (with_reducible refine blk_old ?_) | (refine blkBelow (by with_reducible assumption) ?_)))
  clear hW5
  refine Calls.mono (sscan_calls _ g exP exT ?a5 (some w1.heap.size) ⟨4, 4, 0, 0⟩ ?m5 (by unfold Cn.room; decide) hT (by decide) 3 (by decide) (by decide) (by decide) _ 4 [115, 104, 104, 101] ?x5 (by decide) (by decide)) ?_
  case a5 => exact hA4.below hB54
  case m5 => exact hm4.below hB54
  case x5 => exact litByt [115, 104, 104, 101] [.int .u8 115, .int .u8 104, .int .u8 104, .int .u8 101] rfl (by (repeat (first | (with_reducible assumption) | (with_reducible exact heap_alloc_new _ _) | (exact heapNewAt (by (first | omega | (simp only [World.size_alloc, World.size_drew]; done) | (simp only [World.size_alloc, World.size_drew]; omega)))) | (with_reducible refine blkDrew ?_) | (with_reducible refine blk_old ?_) | (refine blkBelow (by with_reducible assumption) ?_))))
  intro e w5 h5
  rw [show List.length [(115 : UInt8), 104, 104, 101] = 4 from rfl, ex_h2, ex_l2] at h5
  obtain ⟨A5, c5, he, hc5, hcm5, hr5, hm5, hk5, ho5⟩ := h5.out
  rw [show List.length [((2 : Int), (4 : Int))] = 1 from rfl] at he hc5 ho5
  subst he
  clear h5
  have hm45 := hm4.below hB54
  have hA5 := (hA4.below hB54).keepM hm45 hk5
  have hq5 := blk_keep hq4 hk5 (hm45.far hq4 (.inr (by decide)))
  have hr35 : Prs w5 A3 [(1, 4), (2, 4)] := Row.keep (Row.below hr4 hB54) hk5 (fun ad e _ hS => by
    rcases own_addr ho3 with e' | ⟨q, e', hq⟩
    · rw [e] at e'; cases e'
    · rw [e] at e'; injection e' with e'; subst e'
      unfold OnlyM at hS
      have hS' : w1.heap.size = q := by injection hS
      rw [World.size_alloc] at hq; omega)
  have s5 := hk5.size
  simp only [World.size_alloc] at s5
  have hB5 : Below w.heap.size w w5 := (hB4.trans (hB54.mono (by omega))).trans (hk5.below (fun k hk hS => by unfold OnlyM at hS; injection hS with hS; omega) (by simp; omega))
  clear hq4 hB54 hm45
  go_wp2_with fail
  refine Calls.mono (mcounts_calls _ w1.heap.size ⟨8, 10, 0, 0⟩ (hm5 _ rfl)) ?_
  rintro e w6 ⟨rfl, hb6⟩
  unfold cnCells
  have hr36 := As.mk (Row.below hr35 hb6)
  have hr56 := As.mk (Row.below hr5 hb6)
  have hA6 := As.mk (hA5.below hb6)
  have hq6 := As.mk (blkBelow hb6 hq5)
  have hB6 := As.mk (belowNext hB5 hb6)
  clear hA hA2 hA3 hA4 hA5 hm2 hm3 hm4 hm5 hmo2 hk3 hk5 hr3 hr4 hr5 hr35 ho3 ho5 hB3 hB4 hB5 hq5 hb6 hw1 hkw2 hw0
  obtain ⟨bq, hbq⟩ : ∃ b, w4.heap.size = b := ⟨_, rfl⟩
  rw [hbq] at hq6
  have cst := As.mk (fun v (hv : Below w6.heap.size w6 v) => sstates_calls v g exP exT (hA6.out.below hv))
  go_wp2_with fail
  refine Calls.mono (cst.out _ (by (repeat (first | (with_reducible assumption) | (with_reducible exact Below.refl _ _) | (with_reducible refine Below.drew ?_) | (with_reducible refine below_drewN ?_ _) | (with_reducible refine Below.alloc ?_ (by (first | omega | (simp only [World.size_alloc, World.size_drew]; done) | (simp only [World.size_alloc, World.size_drew]; omega))) _) | (refine Below.trans ?_ (Below.mono (by with_reducible assumption) (by (first | omega | (simp only [World.size_alloc, World.size_drew]; done) | (simp only [World.size_alloc, World.size_drew]; omega))))))))) ?_
  rintro e w7 ⟨rfl, rfl⟩
  rw [show List.length exP = 6 from rfl]
  go_wp2_with fail
  refine Calls.mono (same_calls _ _ _ _ [(1, 4), (2, 4)] [(1, 4), (2, 4)] _ ?p1 ?p2 (by decide) (by decide)) ?_
  case p1 => exact Row.below hr36.out (by (repeat (first | (with_reducible assumption) | (with_reducible exact Below.refl _ _) | (with_reducible refine Below.drew ?_) | (with_reducible refine below_drewN ?_ _) | (with_reducible refine Below.alloc ?_ (by (first | omega | (simp only [World.size_alloc, World.size_drew]; done) | (simp only [World.size_alloc, World.size_drew]; omega))) _) | (refine Below.trans ?_ (Below.mono (by with_reducible assumption) (by (first | omega | (simp only [World.size_alloc, World.size_drew]; done) | (simp only [World.size_alloc, World.size_drew]; omega))))))))
  case p2 => exact rowOfBlk (by (repeat (first | (with_reducible assumption) | (with_reducible exact heap_alloc_new _ _) | (exact heapNewAt (by (first | omega | (simp only [World.size_alloc, World.size_drew]; done) | (simp only [World.size_alloc, World.size_drew]; omega)))) | (with_reducible refine blkDrew ?_) | (with_reducible refine blk_old ?_) | (refine blkBelow (by with_reducible assumption) ?_))))
  rintro e w8 ⟨rfl, n1, rfl⟩
  rw [show decide ([((1 : Int), (4 : Int)), (2, 4)] = [(1, 4), (2, 4)]) = true by decide]
  obtain ⟨W8, hW8⟩ : ∃ W, ((w6.alloc (.cells #[.int .i64 8, .int .i64 10, .int .i64 0, .int .i64 0] 38)).alloc (.cells #[.int .i64 1, .int .i64 4, .int .i64 2, .int .i64 4] 45)).drewN n1 = W := ⟨_, rfl⟩
  have hW68 : Below w6.heap.size w6 W8 := by rw [← hW8]; (repeat (first | (with_reducible assumption) | (with_reducible exact Below.refl _ _) | (with_reducible refine Below.drew ?_) | (with_reducible refine below_drewN ?_ _) | (with_reducible refine Below.alloc ?_ (by (first | omega | (simp only [World.size_alloc, World.size_drew]; done) | (simp only [World.size_alloc, World.size_drew]; omega))) _) | (refine Below.trans ?_ (Below.mono (by with_reducible assumption) (by (first | omega | (simp only [World.size_alloc, World.size_drew]; done) | (simp only [World.size_alloc, World.size_drew]; omega)))))))
  have qa : W8.heap[bq]? = some (.cells #[.int .i64 4, .int .i64 4, .int .i64 0, .int .i64 0] 38 (0, 0)) := blkBelow hW68 hq6.out
  have qb : W8.heap[w6.heap.size]? = some (.cells #[.int .i64 8, .int .i64 10, .int .i64 0, .int .i64 0] 38 (0, 0)) := by
    rw [← hW8]; exact (show ((w6.alloc (.cells #[.int .i64 8, .int .i64 10, .int .i64 0, .int .i64 0] 38)).alloc (.cells #[.int .i64 1, .int .i64 4, .int .i64 2, .int .i64 4] 45)).heap[w6.heap.size]? = _ from blk_old (heap_alloc_new _ _))
  rw [hW8]
  clear hW8
  have a0 : W8.cell? ⟨bq, 0, none⟩ = some (.int .i64 4) := cell_of_blk qa 0
  have a1 : W8.cell? ⟨bq, 1, none⟩ = some (.int .i64 4) := cell_of_blk qa 1
  have a2 : W8.cell? ⟨bq, 2, none⟩ = some (.int .i64 0) := cell_of_blk qa 2
  have a3 : W8.cell? ⟨bq, 3, none⟩ = some (.int .i64 0) := cell_of_blk qa 3
  go_wp2_with fail
  refine Calls.mono (same_calls _ _ _ _ [(2, 4)] [(2, 4)] _ ?p1 ?p2 (by decide) (by decide)) ?_
  case p1 => exact Row.below hr56.out (belowNext hW68 ((Below.refl _ _).alloc (Nat.le_refl _) _))
  case p2 => exact rowOfBlk (by (repeat (first | (with_reducible assumption) | (with_reducible exact heap_alloc_new _ _) | (exact heapNewAt (by (first | omega | (simp only [World.size_alloc, World.size_drew]; done) | (simp only [World.size_alloc, World.size_drew]; omega)))) | (with_reducible refine blkDrew ?_) | (with_reducible refine blk_old ?_) | (refine blkBelow (by with_reducible assumption) ?_))))
  rintro e w9 ⟨rfl, n2, rfl⟩
  rw [show decide ([((2 : Int), (4 : Int))] = [(2, 4)]) = true by decide]
  have hW89 : Below W8.heap.size W8 ((W8.alloc (.cells #[.int .i64 2, .int .i64 4] 45)).drewN n2) := by (repeat (first | (with_reducible assumption) | (with_reducible exact Below.refl _ _) | (with_reducible refine Below.drew ?_) | (with_reducible refine below_drewN ?_ _) | (with_reducible refine Below.alloc ?_ (by (first | omega | (simp only [World.size_alloc, World.size_drew]; done) | (simp only [World.size_alloc, World.size_drew]; omega))) _) | (refine Below.trans ?_ (Below.mono (by with_reducible assumption) (by (first | omega | (simp only [World.size_alloc, World.size_drew]; done) | (simp only [World.size_alloc, World.size_drew]; omega)))))))
  have qc := blkBelow hW89 qb
  obtain ⟨W9, hW9⟩ : ∃ W, (W8.alloc (.cells #[.int .i64 2, .int .i64 4] 45)).drewN n2 = W := ⟨_, rfl⟩
  rw [hW9] at hW89 qc ⊢
  clear hW9
  obtain ⟨b6, hb6⟩ : ∃ b, w6.heap.size = b := ⟨_, rfl⟩
  rw [hb6] at qc
  have d0 : W9.cell? ⟨b6, 0, none⟩ = some (.int .i64 8) := cell_of_blk qc 0
  have d1 : W9.cell? ⟨b6, 1, none⟩ = some (.int .i64 10) := cell_of_blk qc 1
  have d2 : W9.cell? ⟨b6, 2, none⟩ = some (.int .i64 0) := cell_of_blk qc 2
  have d3 : W9.cell? ⟨b6, 3, none⟩ = some (.int .i64 0) := cell_of_blk qc 3
  go_wp2_with fail
  go_ret
  exact ⟨rfl, belowNext hB6.out (belowNext hW68 hW89)⟩
end Go.Proofs.Ytieelnpfpfiboaa
end
section
/- The walks of package sparse: a step by a number, a scan. -/
set_option linter.unusedVariables false
set_option linter.unusedSimpArgs false
namespace Go.Proofs.Ytieelnpfpfiboaa
open Go.RowKit Go.Maps Seine.Trie Seine.Links Seine.Sparse
/-- What a step by a number answers. -/
def stepG (P : List Txt) (n : Int) (c : UInt8) : Int := if 0 ≤ n ∧ n < P.length then place P (lng P (P.getD n.toNat [] ++ [c])) else -1
def looksG (P : List Txt) (n : Int) (c : UInt8) : Nat := if 0 ≤ n ∧ n < P.length then looks1 P (P.getD n.toNat []) c else 0
theorem sStep_none (w : World) (n : Int) (c : UInt8) (mv : Value) : Calls Try.prog 21 #[.pointer none, mv, .int .i64 n, .int .u8 (c.toNat : Int)] w fun e w' => e = .returned (.int .i64 (-1)) ∧ w = w' := by
  have cS := As.mk (sstates_none w)
  rcases Int.lt_or_le n 0 with h | h
  · go_enter Try.func21, Try.ntmps21
    go_wp2_with (go_at_call 20; refine Calls.mono cS.out ?_; rintro e w' ⟨rfl, rfl⟩)
    go_ret
    exact ⟨rfl, rfl⟩
  · have h1 : decide (n < 0) = false := decide_eq_false (by omega)
    have h2 : decide (0 ≤ n) = true := decide_eq_true h
    go_enter Try.func21, Try.ntmps21
    go_wp2_with (go_at_call 20; refine Calls.mono cS.out ?_; rintro e w' ⟨rfl, rfl⟩)
    go_ret
    exact ⟨rfl, rfl⟩
theorem sStep_calls (w : World) (g : Nat) (P l : List Txt) (h : AutoAt w g P l) (mo : Option Nat) (cn : Cn) (hm : Mo w mo cn) (hT : Tree P) (hl : P.length ≤ 1000000) (n : Int) (c : UInt8) (hok : (cn.looked (looksG P n c)).ok ∧ cn.ok) :
    Calls Try.prog 21 #[.pointer (some ⟨g, 0, none⟩), .pointer (madr mo), .int .i64 n, .int .u8 (c.toNat : Int)] w fun e w' => e = .returned (.int .i64 (stepG P n c)) ∧ Mo w' mo (cn.looked (looksG P n c)) ∧ Keeps (OnlyM mo) w w' := by
  have cS := As.mk (sstates_calls w g P l h)
  have HA := As.mk h
  have HM := As.mk hm
  have hTr := As.mk hT
  obtain ⟨len, hlen⟩ : ∃ k, P.length = k := ⟨_, rfl⟩
  rw [hlen] at cS hl
  by_cases hn : 0 ≤ n ∧ n < P.length
  · have e1 : As (stepG P n c = place P (lng P (P.getD n.toNat [] ++ [c]))) := ⟨if_pos hn⟩
    have e2 : As (looksG P n c = looks1 P (P.getD n.toNat []) c) := ⟨if_pos hn⟩
    rw [e2.out] at hok
    rw [e1.out, e2.out]
    rw [hlen] at hn
    obtain ⟨n0, n1⟩ := hn
    obtain ⟨a, rfl⟩ := Int.eq_ofNat_of_zero_le n0
    have ha : a < P.length := by omega
    have hga := get_at ha
    rw [Int.toNat_natCast] at *
    have hpl : place P (P.getD a []) = (a : Int) := place_at hT.nodup hga
    obtain ⟨B, h1, h2, h3, h4⟩ := h
    obtain ⟨Av, cv, hv, hcv⟩ := own_slice h4
    have hrow := Row.of_own (by rw [hv] at h4; exact h4)
    have c2 : w.cell? ⟨g, 2, none⟩ = some (.slice Av (P.length - 1) cv) := by rw [← hv]; exact cell_of_blk h1 2
    have csp := As.mk (msparse_calls w mo Av cv (P.length - 1) P hT (by omega) hrow rfl)
    have hst := As.mk (fun v eb (hb : Below w.heap.size w v) (ht : TabS v eb mo P) => (by have := sstep_calls v g eb P l (HA.out.below hb) mo ht cn (HM.out.below hb) hT (by omega) _ (List.mem_of_getElem? hga) c hok; rw [hpl] at this; exact this : Calls Try.prog 34 #[.pointer (some ⟨g, 0, none⟩), .pointer (some ⟨eb, 0, none⟩), .int .i64 (a : Int), .int .u8 (c.toNat : Int)] v fun e w' =>
      e = .returned (.int .i64 (place P (lng P (P.getD a [] ++ [c])))) ∧ Mo w' mo (cn.looked (looks1 P (P.getD a []) c)) ∧ Keeps (OnlyM mo) v w'))
    generalize place P (lng P (P.getD a [] ++ [c])) = r at *
    generalize looks1 P (P.getD a []) c = lk at *
    replace hlen := As.mk hlen
    rw [hlen.out] at csp c2
    clear h1 h2 h3 h4 hv hrow hpl hga ha hT hm
    go_enter Try.func21, Try.ntmps21
    go_wp2_with (first
      | (go_at_call 20; refine Calls.mono cS.out ?_; rintro e w' ⟨rfl, rfl⟩)
      | (go_at_call 32; refine Calls.mono csp.out ?_; rintro e w1 ⟨eb, rfl, ht1, hb1⟩; replace ht1 := As.mk ht1; replace hb1 := As.mk hb1)
      | (go_at_call 34; refine Calls.mono (hst.out _ eb hb1.out ht1.out) ?_; rintro e w2 ⟨rfl, hm2, hk2⟩))
    go_ret
    exact ⟨rfl, hm2, (Keeps.of_below hb1.out _).trans hk2⟩
  · have e1 : As (stepG P n c = -1) := ⟨if_neg hn⟩
    have e2 : As (looksG P n c = 0) := ⟨if_neg hn⟩
    rw [e1.out, e2.out, Cn.looked_zero]
    rw [hlen] at hn
    clear hok h hT hm
    rcases (show n < 0 ∨ (0 ≤ n ∧ (len : Int) ≤ n) by omega) with h | ⟨h, h'⟩
    · clear hn
      go_enter Try.func21, Try.ntmps21
      go_wp2_with (go_at_call 20; refine Calls.mono cS.out ?_; rintro e w' ⟨rfl, rfl⟩)
      go_ret
      exact ⟨rfl, HM.out, Keeps.refl _ _⟩
    · have h1 : decide (n < 0) = false := decide_eq_false (by omega)
      have h2 : decide ((len : Int) ≤ n) = true := decide_eq_true h'
      clear hn
      go_enter Try.func21, Try.ntmps21
      go_wp2_with (go_at_call 20; refine Calls.mono cS.out ?_; rintro e w' ⟨rfl, rfl⟩)
      go_ret
      exact ⟨rfl, HM.out, Keeps.refl _ _⟩
end Go.Proofs.Ytieelnpfpfiboaa
end
section
/- What the laws of sparse share: a scan of few texts, an automaton without texts. -/
set_option linter.unusedVariables false
set_option linter.unusedSimpArgs false
namespace Go.Proofs.Ytieelnpfpfiboaa
open Go.RowKit Go.Maps Seine.Trie Seine.Links Seine.Sparse
open Seine.Sort (sortP occ mem_occ Occ)

theorem fscan_calls (w : World) (g : Nat) (l : List Txt) (hF : Few l) (h : AutoAt w g (paths l) l) (mo : Option Nat) (cn : Cn) (hm : Mo w mo cn) (hok : cn.room) (A : Option Addr) (c : Nat) (L : Txt) (hx : Byt w A L) (hL : L.length ≤ 400) :
    Calls Try.prog 14 #[.pointer (some ⟨g, 0, none⟩), .pointer (madr mo), .slice A L.length c] w (RetPrsM w mo (occ l L) (cn.more L.length (looksTo (paths l) L L.length))) := by
  have := sscan_calls w g (paths l) l h mo cn hm hok (paths_tree l) (fun x hx => text_mem_paths hx) 40 hF.path_short (by omega) (by have := hF.paths_len; omega) A c L hx (by omega) (by omega)
  rw [hits_occ (paths_tree l) (fun x hx => text_mem_paths hx) L] at this
  exact this
theorem RetPrsM.plain {w w' : World} {xs : List Pr} {cn : Cn} {e : Ending} (h : RetPrsM w none xs cn e w') : RetPrs w xs e w' := by
  obtain ⟨v, he, ho, _, hk⟩ := h
  exact ⟨v, he, ho, hk.below (fun k _ hS => by cases hS) (Nat.le_refl _)⟩
theorem Cn.zero_room : Cn.zero.room := by unfold Cn.room Cn.zero; decide
/-- A scan without a meter. -/
theorem fscan0_calls (w : World) (g : Nat) (l : List Txt) (hF : Few l) (h : AutoAt w g (paths l) l) (A : Option Addr) (c : Nat) (L : Txt) (hx : Byt w A L) (hL : L.length ≤ 400) :
    Calls Try.prog 14 #[.pointer (some ⟨g, 0, none⟩), .pointer none, .slice A L.length c] w (RetPrs w (occ l L)) :=
  (fscan_calls w g l hF h none Cn.zero (Mo.none_ _ _) Cn.zero_room A c L hx hL).mono fun _ _ h => h.plain
theorem short_paths {l : List Txt} (h : ∀ x ∈ l, x.length ≤ 40) : ∀ p ∈ paths l, p.length ≤ 40 := fun p hp => by
  rcases ((paths_spec l).2 p).1 hp with rfl | ⟨b, hb, k, hk, rfl⟩
  · simp
  · have := h b hb; rw [List.length_take]; omega
theorem short_tot : ∀ (l : List Txt), (∀ x ∈ l, x.length ≤ 40) → tot l ≤ 40 * l.length
  | [], _ => by simp [tot]
  | x :: l, h => by
    have h1 := h x (by simp)
    have h2 := short_tot l fun y hy => h y (by simp [hy])
    simp only [tot, List.map_cons, List.sum_cons, List.length_cons] at h2 ⊢
    omega
theorem fscan0s_calls (w : World) (g : Nat) (l : List Txt) (hs : ∀ x ∈ l, x.length ≤ 40) (hl : l.length ≤ 1000) (h : AutoAt w g (paths l) l) (A : Option Addr) (c : Nat) (L : Txt) (hx : Byt w A L) (hL : L.length ≤ 400) :
    Calls Try.prog 14 #[.pointer (some ⟨g, 0, none⟩), .pointer none, .slice A L.length c] w (RetPrs w (occ l L)) := by
  have h1 := short_tot l hs
  have := sscan_calls w g (paths l) l h none Cn.zero (Mo.none_ _ _) Cn.zero_room (paths_tree l) (fun x hx => text_mem_paths hx) 40 (short_paths hs) (by omega) (by have := Go.Proofs.Ytieelnpfpfiboaa.paths_len l; omega) A c L hx (by omega) (by omega)
  rw [hits_occ (paths_tree l) (fun x hx => text_mem_paths hx) L] at this
  exact this.mono fun _ _ h => h.plain
/-- A scan with a meter that is younger than a world: what is older stays. -/
theorem RetPrsM.young {w0 w w' : World} {g : Nat} {xs : List Pr} {cn : Cn} {e : Ending} (h : RetPrsM w (some g) xs cn e w') (hb : Below w0.heap.size w0 w) (hg : w0.heap.size ≤ g) : Below w0.heap.size w0 w' := by
  obtain ⟨v, he, ho, _, hk⟩ := h
  refine hb.trans (hk.below (fun k hk hS => ?_) hb.size)
  unfold OnlyM at hS; injection hS with hS; omega
theorem few_looks (l : List Txt) (L : Txt) : L.length ≤ looksTo (paths l) L L.length ∧ looksTo (paths l) L L.length ≤ 2 * L.length := by
  have := looksTo_cost (paths_tree l) L L.length (Nat.le_refl _)
  omega
/-- Texts of which none is not empty. -/
def Void (l : List Txt) : Prop := l = [] ∨ l = [[]]
theorem Void.few {l : List Txt} (h : Void l) : Few l := by
  rcases h with rfl | rfl <;> exact ⟨by decide, by simp⟩
theorem Void.paths {l : List Txt} (h : Void l) : paths l = [[]] := by
  rcases h with rfl | rfl <;> decide
theorem Void.occ {l : List Txt} (h : Void l) (L : Txt) : occ l L = [] := by
  rw [List.eq_nil_iff_forall_not_mem]
  intro p hp
  obtain ⟨i, j, _, hij, hj, hm⟩ := mem_occ.1 hp
  rcases h with rfl | rfl
  · simp at hm
  · rw [List.mem_singleton] at hm
    have := congrArg List.length hm
    rw [List.length_take, List.length_drop, List.length_nil] at this
    omega
theorem root_only (t : Txt) : lng [[]] t = [] := by
  obtain ⟨n, hn, h1, h2, _⟩ := lng_spec (P := [[]]) (paths_tree []) t
  rw [h1]
  exact List.mem_singleton.1 h2
theorem Void.looks (L : Txt) : ∀ i, looksTo [[]] L i = i
  | 0 => rfl
  | i + 1 => by rw [looksTo, Void.looks L i, root_only, looks1_root]
theorem Void.step (c : UInt8) : stepG [[]] 0 c = 0 := by
  unfold stepG
  rw [if_pos (by decide), root_only]; decide
theorem Void.ok (c : UInt8) : (Cn.zero.looked (looksG [[]] 0 c)).ok ∧ Cn.zero.ok := by
  have : looksG [[]] 0 c = 1 := by unfold looksG; rw [if_pos (by decide)]; rfl
  rw [this]; unfold Cn.ok Cn.looked Cn.zero; decide
theorem u8_byte {a : Int} (h : (Lit.int .u8 a).wf = true) : ∃ c : UInt8, a = (c.toNat : Int) := by
  exact ⟨_, (u8_in h).symm⟩
theorem txts_none (w : World) : Txts w none [] := ⟨[], rfl, .inl rfl, fun i hi => absurd hi (Nat.not_lt_zero _)⟩
end Go.Proofs.Ytieelnpfpfiboaa
end
section
/- A slice of texts that is being made; texts turned round, with the first one and the empty one behind. -/
set_option linter.unusedVariables false
namespace Go.Proofs.Ytieelnpfpfiboaa
open Go.RowKit Seine.Trie
open Seine.Sort (occ occ_ext)
theorem info_bs : (Try.prog.info? 23).map (fun i => (i.zero, i.size, i.bytes)) = some (some (.slice none 0 0), 1, 24) := by kernel_rfl
/-- Texts of a first world, in a slice that is young at the second. -/
def OwnTx (w0 : World) (base : Nat) (wr : World) (v : Value) (ls : List Txt) : Prop := ∃ vs : List Value, vs.length = ls.length ∧ wr.ownsRow base 23 1 v ls.length vs ∧
  ∀ i, i < ls.length → ∃ A c, vs[i]? = some (.slice A (ls.getD i []).length c) ∧ (ls.getD i []).length ≤ c ∧ Byt w0 A (ls.getD i [])
theorem OwnTx.nil (w0 : World) (base : Nat) (wr : World) : OwnTx w0 base wr (.slice none 0 0) [] := ⟨[], rfl, World.ownsRow_nil _ _ _ _, fun i hi => absurd hi (Nat.not_lt_zero _)⟩
theorem OwnTx.snoc {w0 wr : World} {base : Nat} {v : Value} {ls : List Txt} {x : Txt} {vs : List Value} {A : Option Addr} {c : Nat} (hl : vs.length = ls.length) (hb : ∀ i, i < ls.length → ∃ A c, vs[i]? = some (.slice A (ls.getD i []).length c) ∧ (ls.getD i []).length ≤ c ∧ Byt w0 A (ls.getD i []))
    (hc : x.length ≤ c) (hx : Byt w0 A x) (ho : wr.ownsRow base 23 1 v (ls.length + 1) (vs ++ [.slice A x.length c])) : OwnTx w0 base wr v (ls ++ [x]) := by
  refine ⟨vs ++ [.slice A x.length c], by simp [hl], by rw [List.length_append]; exact ho, fun i hi => ?_⟩
  rw [List.length_append, List.length_singleton] at hi
  by_cases h : i < ls.length
  · obtain ⟨A', c', a, b, d⟩ := hb i h
    have e : (ls ++ [x]).getD i [] = ls.getD i [] := by rw [List.getD_eq_getElem?_getD, List.getElem?_append_left h, ← List.getD_eq_getElem?_getD]
    rw [e]
    exact ⟨A', c', by rw [List.getElem?_append_left (by omega)]; exact a, b, d⟩
  · obtain rfl : i = ls.length := by omega
    have e : (ls ++ [x]).getD ls.length [] = x := by rw [List.getD_eq_getElem?_getD, List.getElem?_append_right (Nat.le_refl _)]; simp
    rw [e]
    exact ⟨A, c, by rw [← hl, List.getElem?_append_right (Nat.le_refl _)]; simp, hc, hx⟩
theorem OwnTx.txts {w0 wr : World} {base : Nat} {v : Value} {ls : List Txt} (h : OwnTx w0 base wr v ls) (hb : Below w0.heap.size w0 wr) : ∃ A c, v = .slice A ls.length c ∧ ls.length ≤ c ∧ Txts wr A ls := by
  obtain ⟨vs, hl, ho, hbv⟩ := h
  obtain ⟨A, c, rfl, hc⟩ := own_slice ho
  exact ⟨A, c, rfl, hc, vs, hl, Row.of_own ho, fun i hi => by obtain ⟨A', c', a, b, d⟩ := hbv i hi; exact ⟨A', c', a, b, Row.below d hb⟩⟩
/-- The first k of the texts, read from the t-th on, round. -/
def turned (l : List Txt) (t k : Nat) : List Txt := (List.range k).map fun j => l.getD ((j + t) % l.length) []
theorem turned_length (l : List Txt) (t k : Nat) : (turned l t k).length = k := by simp [turned]
theorem turned_succ (l : List Txt) (t k : Nat) : turned l t (k + 1) = turned l t k ++ [l.getD ((k + t) % l.length) []] := by
  unfold turned; rw [List.range_succ, List.map_append]; rfl
theorem getD_mem {l : List Txt} {i : Nat} (h : i < l.length) : l.getD i [] ∈ l := by
  rw [List.getD_eq_getElem?_getD, List.getElem?_eq_getElem h]; exact List.getElem_mem h
theorem mem_turned {l : List Txt} {t : Nat} {x : Txt} (h0 : 0 < l.length) : x ∈ turned l t l.length ↔ x ∈ l := by
  unfold turned
  rw [List.mem_map]
  constructor
  · rintro ⟨j, _, rfl⟩
    exact getD_mem (Nat.mod_lt _ h0)
  · intro h
    obtain ⟨i, hi, rfl⟩ := List.getElem_of_mem h
    refine ⟨(i + (l.length - t % l.length)) % l.length, List.mem_range.2 (Nat.mod_lt _ h0), ?_⟩
    have : ((i + (l.length - t % l.length)) % l.length + t) % l.length = i := by
      have h1 := Nat.mod_lt t h0
      have h2 := Nat.mod_add_div t l.length
      rw [Nat.mod_add_mod]
      have : i + (l.length - t % l.length) + t = i + l.length * (t / l.length + 1) := by rw [Nat.mul_add]; omega
      rw [this, Nat.add_mul_mod_self_left, Nat.mod_eq_of_lt hi]
    rw [this, List.getD_eq_getElem?_getD, List.getElem?_eq_getElem hi]; rfl
/-- The texts turned round, the first one again, and the empty one. -/
def mixed (l : List Txt) (t : Nat) : List Txt := (turned l t l.length ++ [l.getD 0 []]) ++ [[]]
theorem mem_mixed {l : List Txt} {t : Nat} {x : Txt} (h0 : 0 < l.length) : x ∈ mixed l t ↔ x ∈ l ∨ x = [] := by
  unfold mixed
  rw [List.mem_append, List.mem_append, mem_turned h0, List.mem_singleton, List.mem_singleton]
  constructor
  · rintro ((h | rfl) | rfl)
    · exact .inl h
    · exact .inl (getD_mem h0)
    · exact .inr rfl
  · rintro (h | rfl)
    · exact .inl (.inl h)
    · exact .inr rfl
theorem mixed_length (l : List Txt) (t : Nat) : (mixed l t).length = l.length + 2 := by unfold mixed; simp [turned_length]
theorem occ_mixed {l : List Txt} {t : Nat} (h0 : 0 < l.length) (L : Txt) : occ (mixed l t) L = occ l L :=
  occ_ext fun x hx => by rw [mem_mixed h0]; simp [hx]
end Go.Proofs.Ytieelnpfpfiboaa
end
