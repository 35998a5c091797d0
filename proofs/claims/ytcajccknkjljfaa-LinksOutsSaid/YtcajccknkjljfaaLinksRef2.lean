/- The reference on the nodes' order, and the law's texts, as the printer tells them, are the plain law's. -/
import Derived.Test.YtcajccknkjljfaaLinksRef
set_option linter.unusedVariables false
set_option linter.unusedSimpArgs false
namespace Go.Proofs.Ytcajccknkjljfaa
open Go.RowKit Seine.Trie Seine.Links Go.Proofs.YtcajccknkjljfaaW.PrintWords Go.Proofs.Ytcajccknkjljfaa.Ref

theorem byte_bb (c : Nat) (h : c < 256) : strOfNums [(c : Int) % 256] = bb [UInt8.ofNat c] := by
  rw [Int.emod_eq_of_lt (by omega) (by omega)]
  apply bb_ext
  rw [bb_data]; simp [strOfNums]
def kidsR (P : List Txt) (s : Txt) (k : Nat) : Txt := ((List.range k).map UInt8.ofNat).filter fun c => decide (s ++ [c] ∈ P)
theorem kidsR_succ (P : List Txt) (s : Txt) (k : Nat) : kidsR P s (k + 1) = kidsR P s k ++ if s ++ [UInt8.ofNat k] ∈ P then [UInt8.ofNat k] else [] := by
  unfold kidsR
  rw [List.range_succ, List.map_append, List.filter_append, List.map_singleton, List.filter_cons]
  congr 1
  simp
theorem kidsR_len (P : List Txt) (s : Txt) (k : Nat) : (kidsR P s k).length ≤ k := by
  unfold kidsR
  exact Nat.le_trans (List.length_filter_le _ _) (by simp)
theorem refKids (P : List Txt) (s : Txt) (hP : P.length ≤ 1000000000) (hs : s.length ≤ 1000000000) : Evl (fun k => seineref06_Kids.f k (P.map bb) (bb s)) (bb (kids P s)) := by
  have key : ∀ (d c : Nat), c + d = 256 → Evl (fun k => seineref06_Kids.l0 k (P.map bb) (bb s) (bb (kidsR P s c)) (c : Int)) (bb (kids P s)) := by
    intro d
    induction d with
    | zero =>
      intro c h
      refine ⟨1, fun k hk => ?_⟩
      obtain ⟨m, rfl⟩ : ∃ m, k = m + 1 := ⟨k - 1, by omega⟩
      obtain rfl : c = 256 := by omega
      simp only [seineref06_Kids.l0]
      rw [if_neg (by omega)]
      rfl
    | succ d ih =>
      intro c h
      obtain ⟨M, hM⟩ := refPlace P (s ++ [UInt8.ofNat c]) hP
      obtain ⟨N, hN⟩ := ih (c + 1) (by omega)
      have hkl := kidsR_len P s c
      refine ⟨max M N + 1, fun k hk => ?_⟩
      obtain ⟨m, rfl⟩ : ∃ m, k = m + 1 := ⟨k - 1, by omega⟩
      have hMm : seineref06_Place.f m (P.map bb) (bb (s ++ [UInt8.ofNat c])) = some (place P (s ++ [UInt8.ofNat c])) := hM m (by omega)
      have hNm := hN m (by omega)
      rw [kidsR_succ] at hNm
      simp only [seineref06_Kids.l0]
      rw [if_pos (by omega)]
      simp only [Option.bind_some]
      rw [byte_bb c (by omega), bb_append, bb_append, bb_size, bb_size, bb_size, if_pos (by simp; omega), hMm]
      simp only [Option.bind_some]
      by_cases h0 : s ++ [UInt8.ofNat c] ∈ P
      · rw [if_pos (place_mem.2 h0), if_pos (by simp; omega), w64s c (by omega)]
        rw [if_pos h0] at hNm
        exact hNm
      · rw [if_neg (by have := place_neg.2 h0; omega), w64s c (by omega)]
        rw [if_neg h0, List.append_nil] at hNm
        exact hNm
  exact key 256 0 rfl
theorem refOrder (P : List Txt) (hT : Tree P) (hP : P.length ≤ 1000000) (hd : ∀ p ∈ P, p.length ≤ 100000) : Evl (fun k => seineref07_Order.f k (P.map bb)) (orderF P) := by
  have inner : ∀ (i : Nat) (s : Txt), (op P i)[i]? = some s → Evl (fun k => seineref07_Order.l0 k (P.map bb) ((op P (i + 1)).map (place P)) ((i + 1 : Nat) : Int)) (orderF P) →
      ∀ (d m : Nat), m + d = (kids P s).length → Evl (fun k => seineref07_Order.l1 k (P.map bb) ((op P i ++ (kidsT P s).take m).map (place P)) (i : Int) (bb s) (bb (kids P s)) (m : Int)) (orderF P) := by
    intro i s hs hend d
    have hsP := op_sub hT (List.mem_of_getElem? hs)
    have hsl := hd s hsP
    have hil := (List.getElem?_eq_some_iff.1 hs).1
    have hol := op_len hT i
    have hlen := op_len hT (i + 1)
    rw [op_next hs, List.length_append] at hlen
    have hkl : (kidsT P s).length = (kids P s).length := by unfold kidsT; rw [List.length_map]
    have hk256 : (kids P s).length ≤ 256 := kidsR_len P s 256
    induction d with
    | zero =>
      intro m h
      obtain ⟨N, hN⟩ := hend
      refine ⟨N + 1, fun k hk => ?_⟩
      obtain ⟨q, rfl⟩ : ∃ q, k = q + 1 := ⟨k - 1, by omega⟩
      have hNq := hN q (by omega)
      simp only [seineref07_Order.l1, bb_size]
      rw [if_neg (by omega), List.take_of_length_le (by omega), ← op_next hs, w64 (by omega) (by omega)]
      exact hNq
    | succ d ih =>
      intro m h
      have hmk : m < (kids P s).length := by omega
      obtain ⟨x, hx⟩ : ∃ x, (kids P s).getD m 0 = x := ⟨_, rfl⟩
      obtain ⟨M, hM⟩ := refPlace P (s ++ [x]) (by omega)
      obtain ⟨N, hN⟩ := ih (m + 1) (by omega)
      refine ⟨max M N + 1, fun k hk => ?_⟩
      obtain ⟨q, rfl⟩ : ∃ q, k = q + 1 := ⟨k - 1, by omega⟩
      have hMq : seineref06_Place.f q (P.map bb) (bb (s ++ [x])) = some (place P (s ++ [x])) := hM q (by omega)
      have hNq := hN q (by omega)
      have hex : (bb (kids P s)).extract (m : Int).toNat ((m + 1 : Nat) : Int).toNat = bb [x] := by
        rw [Int.toNat_natCast, Int.toNat_natCast, bb_extract, show m + 1 - m = 1 by omega, List.drop_eq_getElem_cons hmk, List.take_succ_cons, List.take_zero, ← hx, List.getD_eq_getElem?_getD, List.getElem?_eq_getElem hmk]
        rfl
      simp only [seineref07_Order.l1, bb_size, w64s m (by omega), hex]
      rw [if_pos (by omega), if_pos (by omega), if_pos (by omega), if_pos (by omega), if_pos (by simp; omega), bb_append, hMq]
      simp only [Option.bind_some]
      rw [if_pos (by rw [List.length_map, List.length_append]; have := List.length_take_le m (kidsT P s); omega)]
      rw [kidsT_take hmk, hx, ← List.append_assoc, List.map_append] at hNq
      exact hNq
  have outer : ∀ (d i : Nat), i + d = P.length + 1 → i ≤ (op P i).length → Evl (fun k => seineref07_Order.l0 k (P.map bb) ((op P i).map (place P)) (i : Int)) (orderF P) := by
    intro d
    induction d with
    | zero =>
      intro i h hi
      have := op_len hT i
      omega
    | succ d ih =>
      intro i h hi
      have hol := op_len hT i
      by_cases hlt : i < (op P i).length
      · obtain ⟨s, hs⟩ : ∃ s, (op P i)[i]? = some s := ⟨_, List.getElem?_eq_getElem hlt⟩
        have hsP := op_sub hT (List.mem_of_getElem? hs)
        obtain ⟨a, ha1, ha2⟩ := place_nat hsP
        have hal := (List.getElem?_eq_some_iff.1 ha2).1
        have hin := inner i s hs (ih (i + 1) (by omega) (by rw [op_next hs, List.length_append]; omega)) (kids P s).length 0 (by omega)
        rw [List.take_zero, List.append_nil] at hin
        obtain ⟨N, hN⟩ := hin
        obtain ⟨M, hM⟩ := refKids P s (by omega) (by have := hd s hsP; omega)
        refine ⟨max M N + 1, fun k hk => ?_⟩
        obtain ⟨q, rfl⟩ : ∃ q, k = q + 1 := ⟨k - 1, by omega⟩
        have hMq : seineref06_Kids.f q (P.map bb) (bb s) = some (bb (kids P s)) := hM q (by omega)
        have hNq := hN q (by omega)
        have hrd : rd ((op P i).map (place P)) (i : Int) = (a : Int) := by
          unfold rd
          rw [Int.toNat_natCast, List.getD_eq_getElem?_getD, List.getElem?_map, hs]
          exact ha1
        have hrs : rdOf ByteArray.empty (P.map bb) (a : Int) = bb s := by
          rw [rdOf_bb P a hal, List.getD_eq_getElem?_getD, ha2]; rfl
        simp only [seineref07_Order.l0, List.length_map, hrd, hrs]
        rw [if_pos (by omega), if_pos (by omega), if_pos (by omega), if_pos (by omega), hMq]
        simp only [Option.bind_some]
        exact hNq
      · refine ⟨1, fun k hk => ?_⟩
        obtain ⟨q, rfl⟩ : ∃ q, k = q + 1 := ⟨k - 1, by omega⟩
        simp only [seineref07_Order.l0, List.length_map]
        rw [if_neg (by omega)]
        unfold orderF
        rw [op_full hT (by omega)]
  have h0 := outer (P.length + 1) 0 (by omega) (Nat.zero_le _)
  have e0 : (op P 0).map (place P) = [0] := by
    show [place P []] = [0]
    rw [place_at hT.nodup hT.root]; rfl
  rw [e0] at h0
  exact h0
theorem refTexts (l : List Txt) (hl : l.length ≤ 6000000000000) : Evl (fun k => seinelaw07_texts.f k (l.map nb)) (if ∀ x ∈ l, x.length ≤ 40 then (l.map bb, decide (l.length ≤ 12)) else ([], false)) := by
  have key : ∀ (d i : Nat), i + d = l.length → Evl (fun k => seinelaw07_texts.l0 k (l.map nb) ((l.take i).map bb) (i : Int)) (if ∀ x ∈ l.drop i, x.length ≤ 40 then (l.map bb, decide (l.length ≤ 12)) else ([], false)) := by
    intro d
    induction d with
    | zero =>
      intro i h
      refine ⟨1, fun k hk => ?_⟩
      obtain ⟨q, rfl⟩ : ∃ q, k = q + 1 := ⟨k - 1, by omega⟩
      simp only [seinelaw07_texts.l0, List.length_map]
      rw [if_neg (by omega), List.drop_eq_nil_of_le (by omega), if_pos (by simp), List.take_of_length_le (by omega)]
      congr 2
      rw [decide_eq_decide]; omega
    | succ d ih =>
      intro i h
      have hi : i < l.length := by omega
      have hdr : l.drop i = l.getD i [] :: l.drop (i + 1) := by
        rw [List.drop_eq_getElem_cons hi]; simp [List.getD_eq_getElem?_getD, hi]
      have hrd : (l.map nb).getD (i : Int).toNat [] = nb (l.getD i []) := by
        rw [Int.toNat_natCast]; simp [List.getD_eq_getElem?_getD, hi]
      by_cases h40 : (l.getD i []).length ≤ 40
      · have hc : (∀ x ∈ l.drop i, x.length ≤ 40) ↔ ∀ x ∈ l.drop (i + 1), x.length ≤ 40 := by
          rw [hdr]; simp only [List.mem_cons, forall_eq_or_imp]
          exact ⟨fun h => h.2, fun h => ⟨h40, h⟩⟩
        simp only [hc]
        refine (ih (i + 1) (by omega)).step fun k => ?_
        simp only [seinelaw07_texts.l0, List.length_map]
        rw [if_pos (by omega), if_pos (by omega), if_neg (by show ¬ ((((l.map nb).getD (i : Int).toNat []).length : Nat) : Int) > 40; rw [hrd, nb_length]; omega), if_pos (by rw [List.length_take]; omega), w64 (by omega) (by omega)]
        show seinelaw07_texts.l0 k _ (_ ++ [strOfNums ((l.map nb).getD (i : Int).toNat [])]) _ = _
        rw [hrd, bb_nums, take_snoc_txt l i hi, List.map_append]
        rfl
      · have hc : ¬ ∀ x ∈ l.drop i, x.length ≤ 40 := by
          rw [hdr]; intro hx; exact h40 (hx _ (by simp))
        rw [if_neg hc]
        refine ⟨1, fun k hk => ?_⟩
        obtain ⟨q, rfl⟩ : ∃ q, k = q + 1 := ⟨k - 1, by omega⟩
        simp only [seinelaw07_texts.l0, List.length_map]
        rw [if_pos (by omega), if_pos (by omega), if_pos (by show ((((l.map nb).getD (i : Int).toNat []).length : Nat) : Int) > 40; rw [hrd, nb_length]; omega)]
  have := key l.length 0 (by omega)
  rw [List.drop_zero] at this
  exact this
theorem texts_calls (w : World) (A : Option Addr) (c : Nat) (l : List Txt) (hx : Txts w A l) (hc : l.length ≤ c) (hr : c * 24 ≤ 140737488351232) (hm : ∀ x ∈ l, x.length ≤ maxLen) :
    Calls Try.prog 8 #[.slice A l.length c] w fun e w' => (∃ A' c' b, e = .returned (.tuple #[.slice A' (if b then l.length else 0) c', .bool (b && decide (l.length ≤ 12))]) ∧ (b = decide (∀ x ∈ l, x.length ≤ 40)) ∧ (b = true → l.length ≤ c' ∧ KdS w' A' l)) ∧ Below w.heap.size w w' := by
  obtain ⟨k, hk⟩ := (refTexts l (by omega)).get
  have hkd := kdTxts hx (by omega) (fun x h => by have := hm x h; unfold maxLen at this; omega)
  by_cases h40 : ∀ x ∈ l, x.length ≤ 40
  · rw [if_pos h40] at hk
    have := seinelaw07_texts.calls k A c (l.map nb) (l.map bb) (decide (l.length ≤ 12)) w (by rw [List.length_map]; exact hkd) (by rw [List.length_map]; exact hc) hk
    rw [List.length_map] at this
    refine this.mono ?_
    rintro e w' ⟨v, rfl, hR, hb⟩
    obtain ⟨A', c', rfl, hc', hS⟩ := KdS.of_R hR
    exact ⟨⟨A', c', true, by simp, (decide_eq_true h40).symm, fun _ => ⟨hc', hS⟩⟩, hb⟩
  · rw [if_neg h40] at hk
    have := seinelaw07_texts.calls k A c (l.map nb) [] false w (by rw [List.length_map]; exact hkd) (by rw [List.length_map]; exact hc) hk
    rw [List.length_map] at this
    refine this.mono ?_
    rintro e w' ⟨v, rfl, hR, hb⟩
    obtain ⟨A', c', rfl, hc', hS⟩ := KdS.of_R (l := []) hR
    exact ⟨⟨A', c', false, by simp, (decide_eq_false h40).symm, fun h => by cases h⟩, hb⟩
end Go.Proofs.Ytcajccknkjljfaa
