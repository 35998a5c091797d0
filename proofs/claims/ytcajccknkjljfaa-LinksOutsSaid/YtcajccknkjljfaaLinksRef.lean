/- The references on links (seineref07), as the printer tells them, are the plain laws'. -/
import Derived.Test.YtcajccknkjljfaaTrieRef
import Derived.Test.YtcajccknkjljfaaLinksPure
import Derived.Test.YtcajccknkjljfaaLinksWalk5
set_option linter.unusedVariables false
set_option linter.unusedSimpArgs false
namespace Go.Proofs.Ytcajccknkjljfaa
open Go.RowKit Seine.Trie Seine.Links Go.Proofs.YtcajccknkjljfaaW.PrintWords Go.Proofs.Ytcajccknkjljfaa.Ref

/-! ### Fail, Out -/
theorem refFail (P : List Txt) (s : Txt) (hP : P.length ≤ 1000000000) (hs : s.length ≤ 1000000000) : Evl (fun k => seineref07_Fail.f k (P.map bb) (bb s)) (failF P s) := by
  have key : ∀ (d n : Nat), 1 ≤ n → n + d = s.length + 1 → Evl (fun k => seineref07_Fail.l0 k (P.map bb) (bb s) (n : Int)) (match firstN (fun n => decide (s.drop n ∈ P)) n d with | some n => place P (s.drop n) | none => -1) := by
    intro d
    induction d with
    | zero =>
      intro n h1 h
      refine ⟨1, fun k hk => ?_⟩
      obtain ⟨m, rfl⟩ : ∃ m, k = m + 1 := ⟨k - 1, by omega⟩
      simp only [seineref07_Fail.l0, bb_size]
      rw [if_neg (by omega)]
      rfl
    | succ d ih =>
      intro n h1 h
      obtain ⟨M, hM⟩ := refPlace P (s.drop n) hP
      obtain ⟨N, hN⟩ := ih (n + 1) (by omega) (by omega)
      refine ⟨max M N + 1, fun k hk => ?_⟩
      obtain ⟨m, rfl⟩ : ∃ m, k = m + 1 := ⟨k - 1, by omega⟩
      have hMm : seineref06_Place.f m (P.map bb) (bb (s.drop n)) = some (place P (s.drop n)) := hM m (by omega)
      have hNm := hN m (by omega)
      have e1 : (bb s).extract (n : Int).toNat s.length = bb (s.drop n) := by rw [← bb_size s, Int.toNat_natCast, bb_from]
      simp only [seineref07_Fail.l0, bb_size]
      rw [if_pos (by omega), if_pos (by omega), e1, hMm]
      simp only [Option.bind_some]
      by_cases h0 : s.drop n ∈ P
      · have := place_mem.2 h0
        rw [if_pos this, firstN, if_pos (by simpa using h0)]
      · have := place_neg.2 h0
        rw [if_neg (by omega), firstN, if_neg (by simpa using h0), w64 (by omega) (by omega)]
        exact hNm
  have := key s.length 1 (by omega) (by omega)
  exact this
theorem refOut (P l : List Txt) (s : Txt) (hP : P.length ≤ 1000000000) (hl : l.length ≤ 1000000000) (hs : s.length ≤ 1000000000) : Evl (fun k => seineref07_Out.f k (P.map bb) (l.map bb) (bb s)) (outF P l s) := by
  have key : ∀ (d n : Nat), 1 ≤ n → (n + d = s.length ∨ (d = 0 ∧ s.length ≤ n)) → Evl (fun k => seineref07_Out.l0 k (P.map bb) (l.map bb) (bb s) (n : Int)) (match firstN (fun n => decide (s.drop n ∈ l)) n d with | some n => place P (s.drop n) | none => -1) := by
    intro d
    induction d with
    | zero =>
      intro n h1 h
      refine ⟨1, fun k hk => ?_⟩
      obtain ⟨m, rfl⟩ : ∃ m, k = m + 1 := ⟨k - 1, by omega⟩
      simp only [seineref07_Out.l0, bb_size]
      rw [if_neg (by omega)]
      rfl
    | succ d ih =>
      intro n h1 h
      obtain ⟨M, hM⟩ := refPlace l (s.drop n) hl
      obtain ⟨M2, hM2⟩ := refPlace P (s.drop n) hP
      obtain ⟨N, hN⟩ := ih (n + 1) (by omega) (by omega)
      refine ⟨max (max M M2) N + 1, fun k hk => ?_⟩
      obtain ⟨m, rfl⟩ : ∃ m, k = m + 1 := ⟨k - 1, by omega⟩
      have hMm : seineref06_Place.f m (l.map bb) (bb (s.drop n)) = some (place l (s.drop n)) := hM m (by omega)
      have hMm2 : seineref06_Place.f m (P.map bb) (bb (s.drop n)) = some (place P (s.drop n)) := hM2 m (by omega)
      have hNm := hN m (by omega)
      have e1 : (bb s).extract (n : Int).toNat s.length = bb (s.drop n) := by rw [← bb_size s, Int.toNat_natCast, bb_from]
      simp only [seineref07_Out.l0, bb_size]
      rw [if_pos (by omega), if_pos (by omega), if_pos (by omega), e1, hMm]
      simp only [Option.bind_some]
      by_cases h0 : s.drop n ∈ l
      · have := place_mem.2 h0
        rw [if_pos this, firstN, if_pos (by simpa using h0), hMm2]
        rfl
      · have := place_neg.2 h0
        rw [if_neg (by omega), firstN, if_neg (by simpa using h0), w64 (by omega) (by omega)]
        exact hNm
  have := key (s.length - 1) 1 (by omega) (by omega)
  exact this

/-! ### Ends -/
theorem refEnds (l : List Txt) (s : Txt) (hl : l.length ≤ 1000000000) (hs : s.length ≤ 1000000000) : Evl (fun k => seineref07_Ends.f k (l.map bb) (bb s)) (endsF l s) := by
  have key : ∀ (d n : Nat) (acc : List Int), n + d = s.length → acc.length ≤ n → Evl (fun k => seineref07_Ends.l0 k (l.map bb) (bb s) acc (n : Int)) (acc ++ endsF l (s.drop n)) := by
    intro d
    induction d with
    | zero =>
      intro n acc h h2
      refine ⟨1, fun k hk => ?_⟩
      obtain ⟨m, rfl⟩ : ∃ m, k = m + 1 := ⟨k - 1, by omega⟩
      simp only [seineref07_Ends.l0, bb_size]
      rw [if_neg (by omega), List.drop_eq_nil_of_le (by omega)]
      simp [endsF]
    | succ d ih =>
      intro n acc h h2
      obtain ⟨M, hM⟩ := refPlace l (s.drop n) hl
      have e1 : (bb s).extract (n : Int).toNat s.length = bb (s.drop n) := by rw [← bb_size s, Int.toNat_natCast, bb_from]
      by_cases h0 : s.drop n ∈ l
      · obtain ⟨N, hN⟩ := ih (n + 1) (acc ++ [((s.length - n : Nat) : Int)]) (by omega) (by simp; omega)
        refine ⟨max M N + 1, fun k hk => ?_⟩
        obtain ⟨m, rfl⟩ : ∃ m, k = m + 1 := ⟨k - 1, by omega⟩
        have hMm : seineref06_Place.f m (l.map bb) (bb (s.drop n)) = some (place l (s.drop n)) := hM m (by omega)
        have hNm := hN m (by omega)
        have := place_mem.2 h0
        simp only [seineref07_Ends.l0, bb_size]
        rw [if_pos (by omega), if_pos (by omega), if_pos (by omega), e1, hMm]
        simp only [Option.bind_some]
        rw [if_pos this, if_pos (by omega), w64 (by omega) (by omega), w64 (by omega) (by omega), show (s.length : Int) - (n : Int) = ((s.length - n : Nat) : Int) by omega]
        have hstep : endsF l (s.drop n) = ((s.length - n : Nat) : Int) :: endsF l (s.drop (n + 1)) := by
          rw [ends_drop l s n (by omega), ends_drop l s (n + 1) (by omega), show s.length - n = (s.length - (n + 1)) + 1 by omega, List.range'_succ, List.filter_cons_of_pos (by simpa using h0), List.map_cons, show s.length - (n + 1) + 1 = s.length - n by omega]
        rw [hstep]
        rw [List.append_assoc] at hNm
        exact hNm
      · obtain ⟨N, hN⟩ := ih (n + 1) acc (by omega) (by omega)
        refine ⟨max M N + 1, fun k hk => ?_⟩
        obtain ⟨m, rfl⟩ : ∃ m, k = m + 1 := ⟨k - 1, by omega⟩
        have hMm : seineref06_Place.f m (l.map bb) (bb (s.drop n)) = some (place l (s.drop n)) := hM m (by omega)
        have hNm := hN m (by omega)
        have := place_neg.2 h0
        simp only [seineref07_Ends.l0, bb_size]
        rw [if_pos (by omega), if_pos (by omega), if_pos (by omega), e1, hMm]
        simp only [Option.bind_some]
        rw [if_neg (by omega), w64 (by omega) (by omega)]
        have hstep : endsF l (s.drop n) = endsF l (s.drop (n + 1)) := by
          rw [ends_drop l s n (by omega), ends_drop l s (n + 1) (by omega), show s.length - n = (s.length - (n + 1)) + 1 by omega, List.range'_succ, List.filter_cons_of_neg (by simpa using h0)]
        rw [hstep]
        exact hNm
  have := key s.length 0 [] (by omega) (by simp)
  exact this

/-! ### Same -/
theorem refSame (a b : List Int) (ha : a.length ≤ 1000000000) : Evl (fun k => seineref07_Same.f k a b) (decide (a = b)) := by
  by_cases hl : a.length = b.length
  · have key : ∀ (d n : Nat), n + d = a.length → a.take n = b.take n → Evl (fun k => seineref07_Same.l0 k a b (n : Int)) (decide (a = b)) := by
      intro d
      induction d with
      | zero =>
        intro n h ht
        refine ⟨1, fun k hk => ?_⟩
        obtain ⟨m, rfl⟩ : ∃ m, k = m + 1 := ⟨k - 1, by omega⟩
        simp only [seineref07_Same.l0]
        rw [List.take_of_length_le (by omega), List.take_of_length_le (by omega)] at ht
        rw [if_neg (by omega), decide_eq_true ht]
      | succ d ih =>
        intro n h ht
        have hna : n < a.length := by omega
        have hnb : n < b.length := by omega
        have ra : rd a (n : Int) = a[n] := by unfold rd; simp [hna]
        have rb : rd b (n : Int) = b[n] := by unfold rd; simp [hnb]
        by_cases he : a[n] = b[n]
        · refine (ih (n + 1) (by omega) (by rw [List.take_succ_eq_append_getElem hna, List.take_succ_eq_append_getElem hnb, ht, he])).step fun k => ?_
          simp only [seineref07_Same.l0]
          rw [if_pos (by omega), if_pos (by omega), if_pos (by omega), ra, rb, if_pos he, w64 (by omega) (by omega)]
          rfl
        · refine ⟨1, fun k hk => ?_⟩
          obtain ⟨m, rfl⟩ : ∃ m, k = m + 1 := ⟨k - 1, by omega⟩
          have hne : a ≠ b := by rintro rfl; exact he rfl
          simp only [seineref07_Same.l0]
          rw [if_pos (by omega), if_pos (by omega), if_pos (by omega), ra, rb, if_neg he, decide_eq_false hne]
    refine (key a.length 0 (by omega) rfl).congr fun k => ?_
    simp only [seineref07_Same.f]
    rw [if_pos (by omega)]
    rfl
  · refine Evl.of fun k => ?_
    have hne : a ≠ b := by rintro rfl; exact hl rfl
    simp only [seineref07_Same.f]
    rw [if_neg (by omega), decide_eq_false hne]
end Go.Proofs.Ytcajccknkjljfaa
