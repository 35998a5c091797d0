/- Joined texts: DfaAwake, OccRef, Sparse3. -/
import Derived.Test.YtglalojbdlepfaaM7
import Derived.Lib.SlBytesConst
import Derived.Test.YtglalojbdlepfaaM5
import Derived.Test.YtglalojbdlepfaaM2
import Derived.Test.YtglalojbdlepfaaM6
section
/- The walk of the laws' 'awake' on a table machine. -/
set_option linter.unusedVariables false
set_option linter.unusedSimpArgs false
namespace Go.Proofs.Ytglalojbdlepfaa
open Go.RowKit Go.Maps Seine.Trie Seine.Links Seine.Sparse Seine.Dfa
open Seine.Sort (sortP)
theorem eqCn (d : Nat) (w : World) (x0 x1 x2 x3 y0 y1 y2 y3 : Int) :
    (Op.equalIn (d + 2) 41 (.agg #[.int .i64 x0, .int .i64 x1, .int .i64 x2, .int .i64 x3]) (.agg #[.int .i64 y0, .int .i64 y1, .int .i64 y2, .int .i64 y3])).run Try.prog w = .ok (x0 == y0 && (x1 == y1 && (x2 == y2 && (x3 == y3)))) w := by
  have h := field_eq (P := Try.prog) (d := d + 1) (w := w) (xs := #[.int .i64 x0, .int .i64 x1, .int .i64 x2, .int .i64 x3]) (ys := #[.int .i64 y0, .int .i64 y1, .int .i64 y2, .int .i64 y3]) (f := ⟨"Scan", 3, 0, false, "", "", 0⟩) (by decide) (by go_simp; rfl) (by go_simp; rfl) (by go_simp; rfl)
    (field_eq (f := ⟨"Look", 3, 1, false, "", "", 8⟩) (by decide) (by go_simp; rfl) (by go_simp; rfl) (by go_simp; rfl)
      (field_eq (f := ⟨"Hunt", 3, 2, false, "", "", 16⟩) (by decide) (by go_simp; rfl) (by go_simp; rfl) (by go_simp; rfl)
        (field_eq (f := ⟨"Move", 3, 3, false, "", "", 24⟩) (by decide) (by go_simp; rfl) (by go_simp; rfl) (by go_simp; rfl) fields_none)))
  rw [Bool.and_true] at h
  exact struct_eq Try.underlying41 (by kernel_rfl) h
attribute [local go_sem high] eqCn
theorem txtsOf {w : World} {b t : Nat} {vs : List Value} {l : List Txt} {fr : Nat × Nat} (h : w.heap[b]? = some (.cells vs.toArray t fr)) (hl : vs.length = l.length) (hv : ∀ i, i < l.length → ∃ A' c', vs[i]? = some (.slice A' (l.getD i []).length c') ∧ (l.getD i []).length ≤ c' ∧ Byt w A' (l.getD i [])) : Txts w (some ⟨b, 0, none⟩) l := ⟨vs, hl, rowOfBlk h, hv⟩
theorem Mo.keepB {w w' : World} {mo : Option Nat} {c : Cn} (h : Mo w mo c) (hb : Below w.heap.size w w') : Mo w' mo c := h.below hb

def exT : List Txt := [[104, 101], [115, 104, 101]]
def exP : List Txt := [[], [104], [104, 101], [115], [115, 104], [115, 104, 101]]
theorem ex_paths : paths exT = exP := by decide
theorem ex_h1 : sortP (hitsTo exP exT [117, 115, 104, 101] 4) = [(1, 4), (2, 4)] := by decide
theorem ex_w : widthF exT = 4 := by decide +kernel
theorem ex_n1 : nextG exP 0 115 = 3 := by decide
theorem ex_n2 : nextG exP 5 120 = 0 := by decide
set_option maxRecDepth 100000 in
set_option maxHeartbeats 3200000 in
theorem awake_calls (w : World) : Calls Try.prog 9 #[] w fun e w' => e = .returned (.bool true) ∧ Below w.heap.size w w' := by
  have kc : ∀ (W : World) (C : Array Value) (n c b : Nat), b = W.heap.size → (convert 23 23 (.slice (some ⟨b, 0, none⟩) n c)).run Try.prog (W.alloc (.cells C 5)) = .ok (.slice (some ⟨b, 0, none⟩) n c) (W.alloc (.cells C 5 (C.size, C.size + 1))) := fun W C n c b h => by
    subst h; exact Lib.run_convert_bytes_const (P := Try.prog) W 23 5 C n c Try.underlying23 Try.underlying5
  have hw0 := Below.refl w.heap.size w
  go_enter Try.func9, Try.ntmps9
  go_wp2_with fail
  refine Calls.mono (dnew_yes_calls _ _ 2 exT ?tx (by decide) (by decide) (by rw [ex_paths]; decide)) ?_
  case tx =>
    refine txtsOf (vs := [.slice (some ⟨w.heap.size, 0, none⟩) 2 2, .slice (some ⟨w.heap.size + 1, 0, none⟩) 3 3]) (by (repeat (first | (with_reducible assumption) | (with_reducible exact heap_alloc_new _ _) | (exact heapNewAt (by (first | omega | (simp only [World.size_alloc, World.size_drew]; done) | (simp only [World.size_alloc, World.size_drew]; omega)))) | (with_reducible refine blkDrew ?_) | (with_reducible refine blk_old ?_) | (refine blkBelow (by with_reducible assumption) ?_)))) rfl (fun i hi => ?_)
    match i, hi with
    | 0, _ => exact ⟨_, 2, rfl, by decide, litByt [104, 101] [.int .u8 104, .int .u8 101] rfl (by (repeat (first | (with_reducible assumption) | (with_reducible exact heap_alloc_new _ _) | (exact heapNewAt (by (first | omega | (simp only [World.size_alloc, World.size_drew]; done) | (simp only [World.size_alloc, World.size_drew]; omega)))) | (with_reducible refine blkDrew ?_) | (with_reducible refine blk_old ?_) | (refine blkBelow (by with_reducible assumption) ?_))))⟩
    | 1, _ => exact ⟨_, 3, rfl, by decide, litByt [115, 104, 101] [.int .u8 115, .int .u8 104, .int .u8 101] rfl (by (repeat (first | (with_reducible assumption) | (with_reducible exact heap_alloc_new _ _) | (exact heapNewAt (by (first | omega | (simp only [World.size_alloc, World.size_drew]; done) | (simp only [World.size_alloc, World.size_drew]; omega)))) | (with_reducible refine blkDrew ?_) | (with_reducible refine blk_old ?_) | (refine blkBelow (by with_reducible assumption) ?_))))⟩
  rintro e w1 ⟨g, rfl, hA, hb1⟩
  rw [ex_paths] at hA
  have hw1 : Below w.heap.size w w1 := by (repeat (first | (with_reducible assumption) | (with_reducible exact Below.refl _ _) | (with_reducible refine Below.drew ?_) | (with_reducible refine below_drewN ?_ _) | (with_reducible refine Below.alloc ?_ (by (first | omega | (simp only [World.size_alloc, World.size_drew]; done) | (simp only [World.size_alloc, World.size_drew]; omega))) _) | (refine Below.trans ?_ (Below.mono (by with_reducible assumption) (by (first | omega | (simp only [World.size_alloc, World.size_drew]; done) | (simp only [World.size_alloc, World.size_drew]; omega)))))))
  go_wp2_with fail
  refine Calls.mono (mnew_calls w1) ?_
  rintro e w2 ⟨rfl, hm2, hb2⟩
  have hA2 := hA.below hb2
  have hmo2 : Mo w2 (some w1.heap.size) Cn.zero := Mo.some_ hm2
  have hT : Tree exP := ex_paths ▸ paths_tree exT
  have s1 := hw1.size
  have s2 := hb2.size
  have hml : w1.heap.size < w2.heap.size := block_lt hm2
  have hkw2 : Below w.heap.size w w2 := hw1.trans (hb2.mono s1)
  go_wp2_with fail
  refine Calls.mono (dscan_calls _ g exP exT ?a3 ex_paths (by decide) (some w1.heap.size) Cn.zero ?m3 (by unfold Cn.room Cn.zero; decide) hT (by decide) 3 (by decide) (by decide) _ 4 [117, 115, 104, 101] ?x3 (by decide) (by decide)) ?_
  case a3 => exact hA2.below (by (repeat (first | (with_reducible assumption) | (with_reducible exact Below.refl _ _) | (with_reducible refine Below.drew ?_) | (with_reducible refine below_drewN ?_ _) | (with_reducible refine Below.alloc ?_ (by (first | omega | (simp only [World.size_alloc, World.size_drew]; done) | (simp only [World.size_alloc, World.size_drew]; omega))) _) | (refine Below.trans ?_ (Below.mono (by with_reducible assumption) (by (first | omega | (simp only [World.size_alloc, World.size_drew]; done) | (simp only [World.size_alloc, World.size_drew]; omega))))))))
  case m3 => exact hmo2.below (by (repeat (first | (with_reducible assumption) | (with_reducible exact Below.refl _ _) | (with_reducible refine Below.drew ?_) | (with_reducible refine below_drewN ?_ _) | (with_reducible refine Below.alloc ?_ (by (first | omega | (simp only [World.size_alloc, World.size_drew]; done) | (simp only [World.size_alloc, World.size_drew]; omega))) _) | (refine Below.trans ?_ (Below.mono (by with_reducible assumption) (by (first | omega | (simp only [World.size_alloc, World.size_drew]; done) | (simp only [World.size_alloc, World.size_drew]; omega))))))))
  case x3 => exact litByt [117, 115, 104, 101] [.int .u8 117, .int .u8 115, .int .u8 104, .int .u8 101] rfl (by (repeat (first | (with_reducible assumption) | (with_reducible exact heap_alloc_new _ _) | (exact heapNewAt (by (first | omega | (simp only [World.size_alloc, World.size_drew]; done) | (simp only [World.size_alloc, World.size_drew]; omega)))) | (with_reducible refine blkDrew ?_) | (with_reducible refine blk_old ?_) | (refine blkBelow (by with_reducible assumption) ?_))))
  intro e w3 h3
  rw [show List.length [(117 : UInt8), 115, 104, 101] = 4 from rfl, ex_h1] at h3
  obtain ⟨A3, c3, he, hc3, hcm3, hr3, hm3, hk3, ho3⟩ := h3.out
  rw [show List.length [((1 : Int), (4 : Int)), (2, 4)] = 2 from rfl] at he hc3 ho3
  subst he
  clear h3
  have hA3 := (hA2.below ((Below.refl _ _).alloc (Nat.le_refl _) (.cells #[.int .u8 117, .int .u8 115, .int .u8 104, .int .u8 101] 5 (4, 5)))).keepM (hmo2.below ((Below.refl _ _).alloc (Nat.le_refl _) _)) hk3
  have s3 := hk3.size
  simp only [World.size_alloc] at s3
  have hB3 : Below w.heap.size w w3 := (hkw2.alloc (by omega) _).trans (hk3.below (fun k hk hS => by unfold OnlyM at hS; injection hS with hS; omega) (by simp; omega))
  replace hA3 := As.mk hA3
  replace hr3 := As.mk hr3
  replace hB3 := As.mk hB3
  have hm3 := As.mk (hm3 _ rfl)
  clear hA hA2 hm2 hmo2 hk3 ho3 hw1 hkw2 hw0 hb1 hb2
  have cst := As.mk (fun v (hv : Below w3.heap.size w3 v) => dastates_calls v g exP exT (hA3.out.below hv))
  have cwd := As.mk (fun v (hv : Below w3.heap.size w3 v) => (by have := dawidth_calls v g exP exT (hA3.out.below hv); rw [ex_w] at this; exact this : Calls Try.prog 23 #[.pointer (some ⟨g, 0, none⟩)] v fun e w' => e = .returned (.int .i64 4) ∧ Below v.heap.size v w'))
  have cn1 := As.mk (fun v (hv : Below w3.heap.size w3 v) => (by have := dnext_calls v g exP exT (hA3.out.below hv) ex_paths (by decide) 0 115; rw [ex_n1] at this; exact this : Calls Try.prog 20 #[.pointer (some ⟨g, 0, none⟩), .int .i64 0, .int .u8 115] v fun e w' => e = .returned (.int .i64 3) ∧ Below v.heap.size v w'))
  have cn2 := As.mk (fun v (hv : Below w3.heap.size w3 v) => (by have := dnext_calls v g exP exT (hA3.out.below hv) ex_paths (by decide) 5 120; rw [ex_n2] at this; exact this : Calls Try.prog 20 #[.pointer (some ⟨g, 0, none⟩), .int .i64 5, .int .u8 120] v fun e w' => e = .returned (.int .i64 0) ∧ Below v.heap.size v w'))
  clear hA3
  go_wp2_with fail
  refine Calls.mono (cst.out _ (Below.refl _ _)) ?_
  rintro e w4 ⟨rfl, rfl⟩
  rw [show List.length exP = 6 from rfl]
  go_wp2_with fail
  refine Calls.mono (cwd.out _ (Below.refl _ _)) ?_
  rintro e w5 ⟨rfl, hb5⟩
  go_wp2_with fail
  refine Calls.mono (same_calls _ _ _ _ [(1, 4), (2, 4)] [(1, 4), (2, 4)] _ ?p1 ?p2 (by decide) (by decide)) ?_
  case p1 => exact Row.below (Row.below hr3.out hb5) ((Below.refl _ _).alloc (Nat.le_refl _) _)
  case p2 => exact rowOfBlk (by (repeat (first | (with_reducible assumption) | (with_reducible exact heap_alloc_new _ _) | (exact heapNewAt (by (first | omega | (simp only [World.size_alloc, World.size_drew]; done) | (simp only [World.size_alloc, World.size_drew]; omega)))) | (with_reducible refine blkDrew ?_) | (with_reducible refine blk_old ?_) | (refine blkBelow (by with_reducible assumption) ?_))))
  rintro e w8 ⟨rfl, n1, rfl⟩
  rw [show decide ([((1 : Int), (4 : Int)), (2, 4)] = [(1, 4), (2, 4)]) = true by decide]
  have hb6 : Below w4.heap.size w4 ((w5.alloc (.cells #[.int .i64 1, .int .i64 4, .int .i64 2, .int .i64 4] 65)).drewN n1) := below_drewN (hb5.alloc hb5.size _) _
  obtain ⟨w6, hw6⟩ : ∃ W, (w5.alloc (.cells #[.int .i64 1, .int .i64 4, .int .i64 2, .int .i64 4] 65)).drewN n1 = W := ⟨_, rfl⟩
  rw [hw6] at hb6 ⊢
  replace hb6 := As.mk hb6
  clear hw6 hb5
  go_wp2_with fail
  refine Calls.mono (mcounts_calls _ w1.heap.size ⟨4, 4, 0, 0⟩ (hm3.out.below hb6.out)) ?_
  rintro e w7 ⟨rfl, hb7⟩
  unfold cnCells
  have hb47 := belowNext hb6.out hb7
  have hB7 := As.mk (belowNext hB3.out hb47)
  have hc7 := As.mk hb47
  clear hb7 hb47
  go_wp2_with fail
  refine Calls.mono (cn1.out _ hc7.out) ?_
  rintro e w8 ⟨rfl, hb8⟩
  have hc8 := As.mk (belowNext hc7.out hb8)
  clear hb8
  go_wp2_with fail
  refine Calls.mono (cn2.out _ hc8.out) ?_
  rintro e w9 ⟨rfl, hb9⟩
  have hB9 := As.mk (belowNext hB3.out (belowNext hc8.out hb9))
  clear hb9
  go_wp2_with fail
  go_ret
  exact ⟨rfl, hB9.out⟩
end Go.Proofs.Ytglalojbdlepfaa
end
section
/- The reference on what stands in a line (seineref03.Occ), as the printer tells it, is the plain law's. -/
set_option linter.unusedVariables false
set_option linter.unusedSimpArgs false
namespace Go.Proofs.Ytglalojbdlepfaa
open Go.RowKit Seine.Trie Go.Proofs.YtglalojbdlepfaaW.PrintWords Go.Proofs.Ytglalojbdlepfaa.Ref
open Seine.Sort (occ occTo occRow occTo_len occTo_succ occRow_len)
def toS (p : Pr) : S65 := ⟨p.1, p.2⟩
theorem prs_of_C {w : World} {A : Option Addr} {xs : List Pr} (h : Kd.C k65 w A xs.length (xs.map toS)) : Prs w A xs := by
  rcases Nat.eq_zero_or_pos xs.length with h0 | h0
  · exact .inl (by rw [List.eq_nil_of_length_eq_zero h0]; rfl)
  · have key : ∀ i, i < xs.length → ∃ ad, A = some ad ∧ w.cell? (ad.add (i * 2)) = some (.int .i64 (xs.getD i (0, 0)).1) ∧ w.cell? ⟨(ad.add (i * 2)).block, (ad.add (i * 2)).off + 1, none⟩ = some (.int .i64 (xs.getD i (0, 0)).2) := fun i hi => by
      have := at_T65 h (i : Int) (by omega) (by omega)
      have e : rd_T65 (xs.map toS) (i : Int) = toS (xs.getD i (0, 0)) := by
        unfold rd_T65
        rw [Int.toNat_natCast, List.getD_eq_getElem?_getD, List.getElem?_map, List.getD_eq_getElem?_getD, List.getElem?_eq_getElem hi]; rfl
      rw [e, Int.toNat_natCast] at this
      exact this
    obtain ⟨ad, rfl, c0, _⟩ := key 0 h0
    refine .inr ⟨ad, rfl, ?_, fun j u hu => ?_⟩
    · have := World.block_lt_of_cell? w _ c0
      rwa [Addr.block_add] at this
    · have hj : j < xs.length * 2 := by rw [← prCells_length]; exact (List.getElem?_eq_some_iff.1 hu).1
      obtain ⟨ad', e, d0, d1⟩ := key (j / 2) (by omega)
      injection e with e
      subst e
      obtain ⟨p0, p1⟩ := prCells_at xs (j / 2) (by omega)
      rcases Nat.mod_two_eq_zero_or_one j with hm | hm
      · rw [show j / 2 * 2 = j by omega] at d0 p0
        rw [hu] at p0
        injection p0 with p0
        rw [d0, p0]
      · rw [show j / 2 * 2 + 1 = j by omega] at p1
        rw [← Addr.add_field _ _ _ (by omega), show j / 2 * 2 + 1 = j by omega] at d1
        rw [hu] at p1
        injection p1 with p1
        rw [d1, p1]
theorem bbeq (a b : Txt) : ((bb a).toList == (bb b).toList) = decide (a = b) := by
  rw [bb_toList, bb_toList]
  by_cases h : a = b <;> simp [h]
theorem refOcc_l2 (T : List Txt) (L : Txt) (hT : T.length ≤ 1000000) (hL : L.length ≤ 1000000) (out : List Pr) (i j : Nat) (hij : i < j) (hj : j ≤ L.length) (ho : out.length ≤ 2000000000000) (R : List S65) :
    ∀ (d k : Nat) (b : Bool), k + d = T.length → Evl (fun q => seineref03_Occ.l1 q (bb L) (T.map bb) ((out ++ if b = true ∨ (L.drop i).take (j - i) ∈ T.drop k then [((i : Int), (j : Int))] else []).map toS) (i : Int) ((j + 1 : Nat) : Int)) R →
      Evl (fun q => seineref03_Occ.l2 q (bb L) (T.map bb) (out.map toS) (i : Int) (j : Int) b (k : Int)) R := by
  have hpush : ∀ (b : Bool) (k : Nat), (b = true ∨ (L.drop i).take (j - i) ∈ T.drop k) → (out ++ if b = true ∨ (L.drop i).take (j - i) ∈ T.drop k then [((i : Int), (j : Int))] else []).map toS = out.map toS ++ [(⟨(i : Int), (j : Int)⟩ : S65)] := fun b k h => by rw [if_pos h, List.map_append]; rfl
  have hnone : ∀ (b : Bool) (k : Nat), ¬ (b = true ∨ (L.drop i).take (j - i) ∈ T.drop k) → (out ++ if b = true ∨ (L.drop i).take (j - i) ∈ T.drop k then [((i : Int), (j : Int))] else []).map toS = out.map toS := fun b k h => by rw [if_neg h, List.append_nil]
  intro d
  induction d with
  | zero =>
    intro k b hk h
    have hdr : T.drop k = [] := List.drop_eq_nil_of_le (by omega)
    rw [hdr] at h
    refine h.step fun q => ?_
    simp only [seineref03_Occ.l2, List.length_map]
    rw [if_neg (by omega), w64 (by omega) (by omega)]
    by_cases hb : b = true
    · rw [if_pos hb, if_pos (by omega)]
      have := hpush b k (.inl hb)
      rw [hdr] at this
      rw [this]; push_cast; rfl
    · rw [if_neg hb]
      have := hnone b k (by rw [hdr]; simp [hb])
      rw [hdr] at this
      rw [this]; push_cast; rfl
  | succ d ih =>
    intro k b hk h
    have hkl : k < T.length := by omega
    have hdr : T.drop k = T.getD k [] :: T.drop (k + 1) := by rw [List.drop_eq_getElem_cons hkl]; simp [List.getD_eq_getElem?_getD, hkl]
    by_cases hb : b = true
    · rw [hpush b k (.inl hb)] at h
      refine h.step fun q => ?_
      simp only [seineref03_Occ.l2, List.length_map]
      rw [if_pos (by omega), if_pos hb, if_pos (by omega), w64 (by omega) (by omega)]
      push_cast; rfl
    · obtain rfl : b = false := by simpa using hb
      have hpl : ((L.drop i).take (j - i)).length = j - i := by rw [List.length_take, List.length_drop]; omega
      by_cases hlen : (T.getD k []).length = j - i
      · refine (ih (k + 1) (decide ((L.drop i).take (j - i) = T.getD k [])) (by omega) ?_).step fun q => ?_
        · have : (decide ((L.drop i).take (j - i) = T.getD k []) = true ∨ (L.drop i).take (j - i) ∈ T.drop (k + 1)) ↔ (false = true ∨ (L.drop i).take (j - i) ∈ T.drop k) := by
            rw [hdr, List.mem_cons, decide_eq_true_eq]; simp
          simp only [this]; exact h
        · simp only [seineref03_Occ.l2, List.length_map]
          rw [rdOf_bb T k hkl, bb_size, bb_size, w64 (by omega) (by omega), w64 (by omega) (by omega), if_pos (by omega), if_neg (by simp), if_pos (by omega), if_pos (by omega), if_pos (by omega), if_pos (by omega), if_pos (by omega), Int.toNat_natCast, Int.toNat_natCast, bb_extract, bbeq, w64s k (by omega)]
      · refine (ih (k + 1) false (by omega) ?_).step fun q => ?_
        · have : (false = true ∨ (L.drop i).take (j - i) ∈ T.drop (k + 1)) ↔ (false = true ∨ (L.drop i).take (j - i) ∈ T.drop k) := by
            rw [hdr, List.mem_cons]
            constructor
            · rintro (h | h)
              · exact .inl h
              · exact .inr (.inr h)
            · rintro (h | h | h)
              · exact .inl h
              · exact absurd (by rw [← h, hpl]) hlen
              · exact .inr h
          simp only [this]; exact h
        · simp only [seineref03_Occ.l2, List.length_map]
          rw [rdOf_bb T k hkl, bb_size, w64 (by omega) (by omega), w64 (by omega) (by omega), if_pos (by omega), if_neg (by simp), if_pos (by omega), if_neg (by omega), w64s k (by omega)]
/-- What begins at a place and ends from another one on. -/
def rowFrom (T : List Txt) (L : Txt) (i j : Nat) : List Pr := ((List.range' j (L.length + 1 - j)).filter fun j => decide ((L.drop i).take (j - i) ∈ T)).map fun (j : Nat) => ((i : Int), (j : Int))
theorem rowFrom_step (T : List Txt) (L : Txt) (i j : Nat) (hj : j ≤ L.length) : rowFrom T L i j = (if (L.drop i).take (j - i) ∈ T then [((i : Int), (j : Int))] else []) ++ rowFrom T L i (j + 1) := by
  unfold rowFrom
  rw [show L.length + 1 - j = (L.length + 1 - (j + 1)) + 1 by omega, List.range'_succ, List.filter_cons]
  by_cases h : (L.drop i).take (j - i) ∈ T
  · rw [if_pos h, if_pos (decide_eq_true h)]; rfl
  · rw [if_neg h, if_neg (by simpa using h)]; rfl
theorem rowFrom_end (T : List Txt) (L : Txt) (i j : Nat) (hj : L.length < j) : rowFrom T L i j = [] := by
  unfold rowFrom
  rw [show L.length + 1 - j = 0 by omega]; rfl
theorem rowFrom_len (T : List Txt) (L : Txt) (i j : Nat) : (rowFrom T L i j).length ≤ L.length + 1 := by
  unfold rowFrom
  rw [List.length_map]
  exact Nat.le_trans (List.length_filter_le _ _) (by simp)
theorem refOcc_l1 (T : List Txt) (L : Txt) (hT : T.length ≤ 1000000) (hL : L.length ≤ 1000000) (i : Nat) (R : List S65) :
    ∀ (d j : Nat) (out : List Pr), j + d = L.length + 1 → i < j → out.length + d ≤ 2000000000000 → Evl (fun q => seineref03_Occ.l0 q (bb L) (T.map bb) ((out ++ rowFrom T L i j).map toS) ((i + 1 : Nat) : Int)) R →
      Evl (fun q => seineref03_Occ.l1 q (bb L) (T.map bb) (out.map toS) (i : Int) (j : Int)) R := by
  intro d
  induction d with
  | zero =>
    intro j out hj hij ho h
    rw [rowFrom_end T L i j (by omega), List.append_nil] at h
    refine h.step fun q => ?_
    simp only [seineref03_Occ.l1, bb_size]
    rw [if_neg (by omega), w64 (by omega) (by omega)]
    push_cast; rfl
  | succ d ih =>
    intro j out hj hij ho h
    rw [rowFrom_step T L i j (by omega), ← List.append_assoc] at h
    have h1 := ih (j + 1) (out ++ if (L.drop i).take (j - i) ∈ T then [((i : Int), (j : Int))] else []) (by omega) (by omega) (by rw [List.length_append]; split <;> simp <;> omega) h
    have h2 := refOcc_l2 T L hT hL out i j hij (by omega) (by omega) R T.length 0 false (by omega) (by simpa using h1)
    refine h2.step fun q => ?_
    simp only [seineref03_Occ.l1, bb_size]
    rw [if_pos (by omega)]; rfl
theorem refOcc (T : List Txt) (L : Txt) (hT : T.length ≤ 1000000) (hL : L.length ≤ 1000000) : Evl (fun q => seineref03_Occ.f q (bb L) (T.map bb)) ((occ T L).map toS) := by
  have key : ∀ (d i : Nat), i + d = L.length → Evl (fun q => seineref03_Occ.l0 q (bb L) (T.map bb) ((occTo T L i).map toS) (i : Int)) ((occ T L).map toS) := by
    intro d
    induction d with
    | zero =>
      intro i hi
      obtain rfl : i = L.length := by omega
      refine ⟨1, fun q hq => ?_⟩
      obtain ⟨m, rfl⟩ : ∃ m, q = m + 1 := ⟨q - 1, by omega⟩
      simp only [seineref03_Occ.l0, bb_size]
      rw [if_neg (by omega)]; rfl
    | succ d ih =>
      intro i hi
      have hol := occTo_len T L i
      have hol2 : i * L.length ≤ 1000000 * 1000000 := Nat.mul_le_mul (by omega) hL
      have h := ih (i + 1) (by omega)
      rw [occTo_succ] at h
      have hrow : occRow T L i (L.length - i) = rowFrom T L i (i + 1) := by unfold occRow rowFrom; rw [show L.length + 1 - (i + 1) = L.length - i by omega]
      rw [hrow] at h
      have h1 := refOcc_l1 T L hT hL i _ (L.length - i) (i + 1) (occTo T L i) (by omega) (by omega) (by omega) h
      refine h1.step fun q => ?_
      simp only [seineref03_Occ.l0, bb_size]
      rw [if_pos (by omega), w64 (by omega) (by omega)]
      push_cast; rfl
  have := key L.length 0 (by omega)
  exact this
theorem rocc_calls (w : World) (A : Option Addr) (c : Nat) (T : List Txt) (h : KdS w A T) (hc : T.length ≤ c) (hT : T.length ≤ 1000000) (L : Txt) (hL : L.length ≤ 1000000) :
    Calls Try.prog 17 #[.string (bb L), .slice A T.length c] w fun e w' => ∃ A' c', e = .returned (.slice A' (occ T L).length c') ∧ (occ T L).length ≤ c' ∧ Prs w' A' (occ T L) ∧ Below w.heap.size w w' := by
  obtain ⟨k, hk⟩ := (refOcc T L hT hL).get
  have := seineref03_Occ.calls k (bb L) A c (T.map bb) _ w h.row (by rw [List.length_map]; exact hc) hk
  rw [List.length_map] at this
  refine this.mono ?_
  rintro e w' ⟨v, rfl, hR, hb⟩
  obtain ⟨A', c', rfl, hc', hC⟩ := Kd.R_reads hR
  rw [List.length_map] at hc' hC ⊢
  exact ⟨A', c', rfl, hc', prs_of_C hC, hb⟩
end Go.Proofs.Ytglalojbdlepfaa
end
section
/- The walks of package sparse: a step by a number, a scan. -/
set_option linter.unusedVariables false
set_option linter.unusedSimpArgs false
namespace Go.Proofs.Ytglalojbdlepfaa
open Go.RowKit Go.Maps Seine.Trie Seine.Links Seine.Sparse
/-- What a step by a number answers. -/
def stepG (P : List Txt) (n : Int) (c : UInt8) : Int := if 0 ≤ n ∧ n < P.length then place P (lng P (P.getD n.toNat [] ++ [c])) else -1
def looksG (P : List Txt) (n : Int) (c : UInt8) : Nat := if 0 ≤ n ∧ n < P.length then looks1 P (P.getD n.toNat []) c else 0
theorem sStep_none (w : World) (n : Int) (c : UInt8) (mv : Value) : Calls Try.prog 33 #[.pointer none, mv, .int .i64 n, .int .u8 (c.toNat : Int)] w fun e w' => e = .returned (.int .i64 (-1)) ∧ w = w' := by
  have cS := As.mk (sstates_none w)
  rcases Int.lt_or_le n 0 with h | h
  · go_enter Try.func33, Try.ntmps33
    go_wp2_with (go_at_call 31; refine Calls.mono cS.out ?_; rintro e w' ⟨rfl, rfl⟩)
    go_ret
    exact ⟨rfl, rfl⟩
  · have h1 : decide (n < 0) = false := decide_eq_false (by omega)
    have h2 : decide (0 ≤ n) = true := decide_eq_true h
    go_enter Try.func33, Try.ntmps33
    go_wp2_with (go_at_call 31; refine Calls.mono cS.out ?_; rintro e w' ⟨rfl, rfl⟩)
    go_ret
    exact ⟨rfl, rfl⟩
theorem sStep_calls (w : World) (g : Nat) (P l : List Txt) (h : AutoAt w g P l) (mo : Option Nat) (cn : Cn) (hm : Mo w mo cn) (hT : Tree P) (hl : P.length ≤ 1000000) (n : Int) (c : UInt8) (hok : (cn.looked (looksG P n c)).ok ∧ cn.ok) :
    Calls Try.prog 33 #[.pointer (some ⟨g, 0, none⟩), .pointer (madr mo), .int .i64 n, .int .u8 (c.toNat : Int)] w fun e w' => e = .returned (.int .i64 (stepG P n c)) ∧ Mo w' mo (cn.looked (looksG P n c)) ∧ Keeps (OnlyM mo) w w' := by
  have cS := As.mk (sstates_calls w g P l h)
  have HA := As.mk h
  have HM := As.mk hm
  have hTr := As.mk hT
  obtain ⟨len, hlen⟩ : ∃ k, P.length = k := ⟨_, rfl⟩
  rw [hlen] at cS hl
  by_cases hn : 0 ≤ n ∧ n < P.length
  · have e1 : As (stepG P n c = place P (lng P (P.getD n.toNat [] ++ [c]))) := ⟨if_pos hn⟩
    have e2 : As (looksG P n c = looks1 P (P.getD n.toNat []) c) := ⟨if_pos hn⟩
    rw [e2.out] at hok
    rw [e1.out, e2.out]
    rw [hlen] at hn
    obtain ⟨n0, n1⟩ := hn
    obtain ⟨a, rfl⟩ := Int.eq_ofNat_of_zero_le n0
    have ha : a < P.length := by omega
    have hga := get_at ha
    rw [Int.toNat_natCast] at *
    have hpl : place P (P.getD a []) = (a : Int) := place_at hT.nodup hga
    obtain ⟨B, h1, h2, h3, h4⟩ := h
    obtain ⟨Av, cv, hv, hcv⟩ := own_slice h4
    have hrow := Row.of_own (by rw [hv] at h4; exact h4)
    have c2 : w.cell? ⟨g, 2, none⟩ = some (.slice Av (P.length - 1) cv) := by rw [← hv]; exact cell_of_blk h1 2
    have csp := As.mk (msparse_calls w mo Av cv (P.length - 1) P hT (by omega) hrow rfl)
    have hst := As.mk (fun v eb (hb : Below w.heap.size w v) (ht : TabS v eb mo P) => (by have := sstep_calls v g eb P l (HA.out.below hb) mo ht cn (HM.out.below hb) hT (by omega) _ (List.mem_of_getElem? hga) c hok; rw [hpl] at this; exact this : Calls Try.prog 56 #[.pointer (some ⟨g, 0, none⟩), .pointer (some ⟨eb, 0, none⟩), .int .i64 (a : Int), .int .u8 (c.toNat : Int)] v fun e w' =>
      e = .returned (.int .i64 (place P (lng P (P.getD a [] ++ [c])))) ∧ Mo w' mo (cn.looked (looks1 P (P.getD a []) c)) ∧ Keeps (OnlyM mo) v w'))
    generalize place P (lng P (P.getD a [] ++ [c])) = r at *
    generalize looks1 P (P.getD a []) c = lk at *
    replace hlen := As.mk hlen
    rw [hlen.out] at csp c2
    clear h1 h2 h3 h4 hv hrow hpl hga ha hT hm
    go_enter Try.func33, Try.ntmps33
    go_wp2_with (first
      | (go_at_call 31; refine Calls.mono cS.out ?_; rintro e w' ⟨rfl, rfl⟩)
      | (go_at_call 55; refine Calls.mono csp.out ?_; rintro e w1 ⟨eb, rfl, ht1, hb1⟩; replace ht1 := As.mk ht1; replace hb1 := As.mk hb1)
      | (go_at_call 56; refine Calls.mono (hst.out _ eb hb1.out ht1.out) ?_; rintro e w2 ⟨rfl, hm2, hk2⟩))
    go_ret
    exact ⟨rfl, hm2, (Keeps.of_below hb1.out _).trans hk2⟩
  · have e1 : As (stepG P n c = -1) := ⟨if_neg hn⟩
    have e2 : As (looksG P n c = 0) := ⟨if_neg hn⟩
    rw [e1.out, e2.out, Cn.looked_zero]
    rw [hlen] at hn
    clear hok h hT hm
    rcases (show n < 0 ∨ (0 ≤ n ∧ (len : Int) ≤ n) by omega) with h | ⟨h, h'⟩
    · clear hn
      go_enter Try.func33, Try.ntmps33
      go_wp2_with (go_at_call 31; refine Calls.mono cS.out ?_; rintro e w' ⟨rfl, rfl⟩)
      go_ret
      exact ⟨rfl, HM.out, Keeps.refl _ _⟩
    · have h1 : decide (n < 0) = false := decide_eq_false (by omega)
      have h2 : decide ((len : Int) ≤ n) = true := decide_eq_true h'
      clear hn
      go_enter Try.func33, Try.ntmps33
      go_wp2_with (go_at_call 31; refine Calls.mono cS.out ?_; rintro e w' ⟨rfl, rfl⟩)
      go_ret
      exact ⟨rfl, HM.out, Keeps.refl _ _⟩
end Go.Proofs.Ytglalojbdlepfaa
end
