/- The references on trees (seineref06), as the printer tells them, are the plain laws'. -/
import Derived.Test.YtcajccknkjljfaaStr
import Derived.Test.YtcajccknkjljfaaLinksOrder
import Derived.Test.YtcajccknkjljfaaTrieBuild
import Derived.Test.YtcajccknkjljfaaRefx
set_option linter.unusedVariables false
set_option linter.unusedSimpArgs false
namespace Go.Proofs.Ytcajccknkjljfaa
open Go.RowKit Seine.Trie Seine.Links Go.Proofs.YtcajccknkjljfaaW.PrintWords Go.Proofs.Ytcajccknkjljfaa.Ref

theorem kdTxts {w : World} {A : Option Addr} {l : List Txt} (h : Txts w A l) (hl : l.length ≤ 9223372036854775807) (ht : ∀ x ∈ l, x.length ≤ 9223372036854775807) : Kd.C (Kd.slice 5 (Kd.int .u8)) w A l.length (l.map nb) := by
  refine ⟨by simp, hl, fun h0 => ?_⟩
  obtain ⟨ad0, A0, c0, e0, _⟩ := h.at_ h0
  refine ⟨ad0, e0, fun j p hp => ?_⟩
  have hj : j < l.length := by
    have := (List.getElem?_eq_some_iff.1 hp).1
    simpa using this
  obtain ⟨ad, A', c', e1, h1, h2, h3⟩ := h.at_ hj
  rw [e0] at e1; injection e1 with e1; subst e1
  have hp' : p = nb (l.getD j []) := by
    rw [List.getElem?_map, List.getElem?_eq_getElem hj] at hp
    injection hp with hp
    rw [← hp]; simp [List.getD_eq_getElem?_getD, hj]
  subst hp'
  have hlen : (l.getD j []).length ≤ 9223372036854775807 := ht _ (by rw [List.getD_eq_getElem?_getD, List.getElem?_eq_getElem hj]; exact List.getElem_mem _)
  refine ⟨[.slice A' (nb (l.getD j [])).length c'], rfl, ⟨A', c', rfl, by rw [nb_length]; exact h2, by rw [nb_length]; exact kdU8 h3 hlen⟩, fun i u hu => ?_⟩
  have hi : i = 0 := by
    have := (List.getElem?_eq_some_iff.1 hu).1
    simpa using this
  subst hi
  injection hu with hu
  subst hu
  have e : (Kd.slice 5 (Kd.int .u8)).sz = 1 := rfl
  rw [e, Nat.mul_one, Nat.add_zero, nb_length]
  exact h1

/-- A row of texts, as strings. -/
structure KdS (w : World) (A : Option Addr) (l : List Txt) : Prop where
  row : Kd.C Kd.string w A (l.map bb).length (l.map bb)
theorem KdS.below {w w' : World} {A : Option Addr} {l : List Txt} (h : KdS w A l) (hb : Below w.heap.size w w') : KdS w' A l := ⟨Kd.C_below h.row hb⟩
theorem KdS.at_ {w : World} {A : Option Addr} {l : List Txt} (h : KdS w A l) {i : Nat} (hi : i < l.length) : ∃ ad, A = some ad ∧ w.cell? (ad.add i) = some (.string (bb (l.getD i []))) := by
  obtain ⟨ad, e, hc⟩ := Kd.at_string h.row (i : Int) (by omega) (by rw [List.length_map]; omega)
  rw [rdOf_bb l i hi, Int.toNat_natCast] at hc
  exact ⟨ad, e, hc⟩
theorem KdS.of_R {w : World} {base e : Nat} {ok : Nat → Prop} {v : Value} {l : List Txt} (h : Kd.R Kd.string e w base ok v (l.map bb)) : ∃ A c, v = .slice A l.length c ∧ l.length ≤ c ∧ KdS w A l := by
  obtain ⟨A, c, hv, hc, hr⟩ := Kd.R_reads h
  rw [List.length_map] at hv hc
  exact ⟨A, c, hv, hc, ⟨hr⟩⟩
/-! ### Place -/
theorem place_drop {l : List Txt} {s : Txt} {i : Nat} (h : i < l.length) (hne : l.getD i [] ≠ s) : place (l.drop i) s = if place (l.drop (i + 1)) s < 0 then -1 else place (l.drop (i + 1)) s + 1 := by
  have e : l.drop i = l.getD i [] :: l.drop (i + 1) := by
    rw [List.drop_eq_getElem_cons h]; simp [List.getD_eq_getElem?_getD, h]
  rw [e, place, if_neg hne]
theorem refPlace_from (l : List Txt) (s : Txt) (hl : l.length ≤ 1000000000) : ∀ (d i : Nat), i + d = l.length → Evl (fun k => seineref06_Place.l0 k (l.map bb) (bb s) (i : Int)) (if place (l.drop i) s < 0 then -1 else i + place (l.drop i) s)
  | 0, i, h => by
    refine ⟨1, fun k hk => ?_⟩
    obtain ⟨m, rfl⟩ : ∃ m, k = m + 1 := ⟨k - 1, by omega⟩
    have hd : l.drop i = [] := List.drop_eq_nil_of_le (by omega)
    simp only [seineref06_Place.l0, List.length_map]
    rw [if_neg (by omega), hd, if_pos (by simp [place])]
  | d + 1, i, h => by
    have hi : i < l.length := by omega
    have ih := refPlace_from l s hl d (i + 1) (by omega)
    by_cases he : l.getD i [] = s
    · refine ⟨1, fun k hk => ?_⟩
      obtain ⟨m, rfl⟩ : ∃ m, k = m + 1 := ⟨k - 1, by omega⟩
      have e : l.drop i = l.getD i [] :: l.drop (i + 1) := by
        rw [List.drop_eq_getElem_cons hi]; simp [List.getD_eq_getElem?_getD, hi]
      simp only [seineref06_Place.l0, List.length_map]
      rw [if_pos (by omega), if_pos (by omega), rdOf_bb l i hi, bb_toList, bb_toList, if_pos he, e, place, if_pos he]
      simp
    · have e : (if place (l.drop i) s < 0 then -1 else i + place (l.drop i) s) = (if place (l.drop (i + 1)) s < 0 then -1 else ((i + 1 : Nat) : Int) + place (l.drop (i + 1)) s) := by
        rw [place_drop hi he]
        have := (place_range (l.drop (i + 1)) s).1
        by_cases h0 : place (l.drop (i + 1)) s < 0
        · rw [if_pos h0, if_pos h0, if_pos (by decide)]
        · rw [if_neg h0, if_neg h0, if_neg (by omega)]; push_cast; omega
      rw [e]
      refine ih.step fun k => ?_
      simp only [seineref06_Place.l0, List.length_map]
      rw [if_pos (by omega), if_pos (by omega), rdOf_bb l i hi, bb_toList, bb_toList, if_neg he, w64 (by omega) (by omega)]
      rfl
theorem refPlace (l : List Txt) (s : Txt) (hl : l.length ≤ 1000000000) : Evl (fun k => seineref06_Place.f k (l.map bb) (bb s)) (place l s) := by
  have := refPlace_from l s hl l.length 0 (by omega)
  have e : (if place (l.drop 0) s < 0 then -1 else ((0 : Nat) : Int) + place (l.drop 0) s) = place l s := by
    rw [List.drop_zero]
    have := (place_range l s).1
    split <;> omega
  rw [e] at this
  exact this

/-! ### Paths -/
theorem bb_nil : (⟨#[]⟩ : ByteArray) = bb [] := rfl
theorem refPaths_in (l : List Txt) (j : Nat) (hj : j < l.length) (hl : l.length ≤ 1000000) (ht : tot l ≤ 1000000) (R : List ByteArray)
    (hend : Evl (fun k => seineref06_Paths.l0 k (l.map bb) ((addText (paths (l.take j)) (l.getD j [])).map bb) ((j + 1 : Nat) : Int)) R) :
    ∀ (d n : Nat), n + d = (l.getD j []).length → Evl (fun k => seineref06_Paths.l1 k (l.map bb) ((addTo (paths (l.take j)) (l.getD j []) n).map bb) (j : Int) ((n + 1 : Nat) : Int)) R
  | 0, n, h => by
    obtain ⟨N, hN⟩ := hend
    refine ⟨N + 1, fun k hk => ?_⟩
    obtain ⟨m, rfl⟩ : ∃ m, k = m + 1 := ⟨k - 1, by omega⟩
    simp only [seineref06_Paths.l1, List.length_map]
    rw [if_pos (by omega), if_pos (by omega), rdOf_bb l j hj, bb_size, if_neg (by omega), w64 (by omega) (by omega)]
    have := hN m (by omega)
    rw [show addText (paths (l.take j)) (l.getD j []) = addTo (paths (l.take j)) (l.getD j []) n by unfold addText; rw [← h]; rfl] at this
    exact_mod_cast this
  | d + 1, n, h => by
    obtain ⟨N, ih⟩ := refPaths_in l j hj hl ht R hend d (n + 1) (by omega)
    have hb := tot_take l j hj
    have hlen := addTo_len (paths (l.take j)) (l.getD j []) n
    have hpl := paths_len (l.take j)
    have hnl : n < (l.getD j []).length := by omega
    generalize hP : addTo (paths (l.take j)) (l.getD j []) n = P at *
    have hPl : P.length ≤ 1000000000 := by omega
    obtain ⟨M, hM⟩ := refPlace P ((l.getD j []).take (n + 1)) hPl
    have hnext : addTo (paths (l.take j)) (l.getD j []) (n + 1) = addPath P ((l.getD j []).take (n + 1)) := by rw [addTo, hP]
    refine ⟨max N M + 1, fun k hk => ?_⟩
    obtain ⟨m, rfl⟩ : ∃ m, k = m + 1 := ⟨k - 1, by omega⟩
    have ihm := ih m (by omega)
    rw [hnext] at ihm
    have hMm : seineref06_Place.f m (P.map bb) (bb ((l.getD j []).take (n + 1))) = some (place P ((l.getD j []).take (n + 1))) := hM m (by omega)
    simp only [seineref06_Paths.l1, List.length_map]
    rw [if_pos (by omega), if_pos (by omega), rdOf_bb l j hj, bb_size, if_pos (by omega), if_pos (by omega), bb_to, show (((n + 1 : Nat) : Int)).toNat = n + 1 from rfl, hMm]
    simp only [Option.bind_some]
    by_cases h0 : place P ((l.getD j []).take (n + 1)) < 0
    · rw [if_pos h0, if_pos (by omega), w64s (n + 1) (by omega)]
      rw [addPath, if_neg (place_neg.1 h0), List.map_append] at ihm
      exact ihm
    · rw [if_neg h0, w64s (n + 1) (by omega)]
      rw [addPath, if_pos (place_mem.1 (by omega))] at ihm
      exact ihm
theorem refPaths_from (l : List Txt) (hl : l.length ≤ 1000000) (ht : tot l ≤ 1000000) : ∀ (d j : Nat), j + d = l.length → Evl (fun k => seineref06_Paths.l0 k (l.map bb) ((paths (l.take j)).map bb) (j : Int)) ((paths l).map bb)
  | 0, j, h => by
    refine ⟨1, fun k hk => ?_⟩
    obtain ⟨m, rfl⟩ : ∃ m, k = m + 1 := ⟨k - 1, by omega⟩
    simp only [seineref06_Paths.l0, List.length_map]
    rw [if_neg (by omega), List.take_of_length_le (by omega)]
  | d + 1, j, h => by
    have hj : j < l.length := by omega
    have ih := refPaths_from l hl ht d (j + 1) (by omega)
    have hs : paths (l.take (j + 1)) = addText (paths (l.take j)) (l.getD j []) := by rw [take_snoc_txt l j hj, paths_snoc]
    rw [hs] at ih
    have := refPaths_in l j hj hl ht _ ih (l.getD j []).length 0 (by omega)
    refine this.step fun k => ?_
    simp only [seineref06_Paths.l0, List.length_map]
    rw [if_pos (by omega)]
    rfl
theorem refPaths (l : List Txt) (hl : l.length ≤ 1000000) (ht : tot l ≤ 1000000) : Evl (fun k => seineref06_Paths.f k (l.map bb)) ((paths l).map bb) := by
  have := refPaths_from l hl ht l.length 0 (by omega)
  exact this
end Go.Proofs.Ytcajccknkjljfaa
