/- Joined texts: TrieRef, Texts, SparseFew, EngLaw, EngAwake, EngPure3, OccRef, SparseRef, EngRef, EngRef2. -/
import Derived.Test.YtdiljmhikajjiaaGreatM4
import Derived.Test.YtdiljmhikajjiaaGreatM5
import Derived.Test.YtdiljmhikajjiaaGreatM2
import Derived.Test.YtdiljmhikajjiaaGreatV5
import Derived.Test.YtdiljmhikajjiaaGreatM14
import Derived.Test.YtdiljmhikajjiaaGreatM8
import Derived.Test.YtdiljmhikajjiaaGreatV1
import Derived.Lib.SlBytesConst
import Derived.Test.YtdiljmhikajjiaaGreatM7
import Derived.Test.YtdiljmhikajjiaaGreatM6
set_option linter.unusedVariables false
set_option linter.unusedSimpArgs false
section
namespace Go.Proofs.YtdiljmhikajjiaaGreat
open Go.RowKit Seine.Trie Seine.Links Go.Proofs.YtdiljmhikajjiaaGreatW.PrintWords Go.Proofs.YtdiljmhikajjiaaGreat.Ref
theorem kdTxts {w : World} {A : Option Addr} {l : List Txt} (h : Txts w A l) (hl : l.length ≤ 9223372036854775807) (ht : ∀ x ∈ l, x.length ≤ 9223372036854775807) : Kd.C (Kd.slice 5 (Kd.int .u8)) w A l.length (l.map nb) := by
  refine ⟨by simp, hl, fun h0 => ?_⟩
  obtain ⟨ad0, A0, c0, e0, _⟩ := h.at_ h0
  refine ⟨ad0, e0, fun j p hp => ?_⟩
  have hj : j < l.length := by
    have := (List.getElem?_eq_some_iff.1 hp).1
    simpa using this
  obtain ⟨ad, A', c', e1, h1, h2, h3⟩ := h.at_ hj
  rw [e0] at e1; injection e1 with e1; subst e1
  have hp' : p = nb (l.getD j []) := by
    rw [List.getElem?_map, List.getElem?_eq_getElem hj] at hp
    injection hp with hp
    rw [← hp]; simp [List.getD_eq_getElem?_getD, hj]
  subst hp'
  have hlen : (l.getD j []).length ≤ 9223372036854775807 := ht _ (by rw [List.getD_eq_getElem?_getD, List.getElem?_eq_getElem hj]; exact List.getElem_mem _)
  refine ⟨[.slice A' (nb (l.getD j [])).length c'], rfl, ⟨A', c', rfl, by rw [nb_length]; exact h2, by rw [nb_length]; exact kdU8 h3 hlen⟩, fun i u hu => ?_⟩
  have hi : i = 0 := by
    have := (List.getElem?_eq_some_iff.1 hu).1
    simpa using this
  subst hi
  injection hu with hu
  subst hu
  have e : (Kd.slice 5 (Kd.int .u8)).sz = 1 := rfl
  rw [e, Nat.mul_one, Nat.add_zero, nb_length]
  exact h1
/-- A row of texts, as strings. -/
structure KdS (w : World) (A : Option Addr) (l : List Txt) : Prop where
  row : Kd.C Kd.string w A (l.map bb).length (l.map bb)
theorem KdS.below {w w' : World} {A : Option Addr} {l : List Txt} (h : KdS w A l) (hb : Below w.heap.size w w') : KdS w' A l := ⟨Kd.C_below h.row hb⟩
theorem KdS.at_ {w : World} {A : Option Addr} {l : List Txt} (h : KdS w A l) {i : Nat} (hi : i < l.length) : ∃ ad, A = some ad ∧ w.cell? (ad.add i) = some (.string (bb (l.getD i []))) := by
  obtain ⟨ad, e, hc⟩ := Kd.at_string h.row (i : Int) (by omega) (by rw [List.length_map]; omega)
  rw [rdOf_bb l i hi, Int.toNat_natCast] at hc
  exact ⟨ad, e, hc⟩
theorem KdS.of_R {w : World} {base e : Nat} {ok : Nat → Prop} {v : Value} {l : List Txt} (h : Kd.R Kd.string e w base ok v (l.map bb)) : ∃ A c, v = .slice A l.length c ∧ l.length ≤ c ∧ KdS w A l := by
  obtain ⟨A, c, hv, hc, hr⟩ := Kd.R_reads h
  rw [List.length_map] at hv hc
  exact ⟨A, c, hv, hc, ⟨hr⟩⟩
theorem place_drop {l : List Txt} {s : Txt} {i : Nat} (h : i < l.length) (hne : l.getD i [] ≠ s) : place (l.drop i) s = if place (l.drop (i + 1)) s < 0 then -1 else place (l.drop (i + 1)) s + 1 := by
  have e : l.drop i = l.getD i [] :: l.drop (i + 1) := by
    rw [List.drop_eq_getElem_cons h]; simp [List.getD_eq_getElem?_getD, h]
  rw [e, place, if_neg hne]
theorem refPlace_from (l : List Txt) (s : Txt) (hl : l.length ≤ 1000000000) : ∀ (d i : Nat), i + d = l.length → Evl (fun k => seineref06_Place.l0 k (l.map bb) (bb s) (i : Int)) (if place (l.drop i) s < 0 then -1 else i + place (l.drop i) s)
  | 0, i, h => by
    refine ⟨1, fun k hk => ?_⟩
    obtain ⟨m, rfl⟩ : ∃ m, k = m + 1 := ⟨k - 1, by omega⟩
    have hd : l.drop i = [] := List.drop_eq_nil_of_le (by omega)
    simp only [seineref06_Place.l0, List.length_map]
    rw [if_neg (by omega), hd, if_pos (by simp [place])]
  | d + 1, i, h => by
    have hi : i < l.length := by omega
    have ih := refPlace_from l s hl d (i + 1) (by omega)
    by_cases he : l.getD i [] = s
    · refine ⟨1, fun k hk => ?_⟩
      obtain ⟨m, rfl⟩ : ∃ m, k = m + 1 := ⟨k - 1, by omega⟩
      have e : l.drop i = l.getD i [] :: l.drop (i + 1) := by
        rw [List.drop_eq_getElem_cons hi]; simp [List.getD_eq_getElem?_getD, hi]
      simp only [seineref06_Place.l0, List.length_map]
      rw [if_pos (by omega), if_pos (by omega), rdOf_bb l i hi, bb_toList, bb_toList, if_pos he, e, place, if_pos he]
      simp
    · have e : (if place (l.drop i) s < 0 then -1 else i + place (l.drop i) s) = (if place (l.drop (i + 1)) s < 0 then -1 else ((i + 1 : Nat) : Int) + place (l.drop (i + 1)) s) := by
        rw [place_drop hi he]
        have := (place_range (l.drop (i + 1)) s).1
        by_cases h0 : place (l.drop (i + 1)) s < 0
        · rw [if_pos h0, if_pos h0, if_pos (by decide)]
        · rw [if_neg h0, if_neg h0, if_neg (by omega)]; push_cast; omega
      rw [e]
      refine ih.step fun k => ?_
      simp only [seineref06_Place.l0, List.length_map]
      rw [if_pos (by omega), if_pos (by omega), rdOf_bb l i hi, bb_toList, bb_toList, if_neg he, w64 (by omega) (by omega)]
      rfl
theorem refPlace (l : List Txt) (s : Txt) (hl : l.length ≤ 1000000000) : Evl (fun k => seineref06_Place.f k (l.map bb) (bb s)) (place l s) := by
  have := refPlace_from l s hl l.length 0 (by omega)
  have e : (if place (l.drop 0) s < 0 then -1 else ((0 : Nat) : Int) + place (l.drop 0) s) = place l s := by
    rw [List.drop_zero]
    have := (place_range l s).1
    split <;> omega
  rw [e] at this
  exact this
theorem refPaths_in (l : List Txt) (j : Nat) (hj : j < l.length) (hl : l.length ≤ 1000000) (ht : tot l ≤ 1000000) (R : List ByteArray)
    (hend : Evl (fun k => seineref06_Paths.l0 k (l.map bb) ((addText (paths (l.take j)) (l.getD j [])).map bb) ((j + 1 : Nat) : Int)) R) :
    ∀ (d n : Nat), n + d = (l.getD j []).length → Evl (fun k => seineref06_Paths.l1 k (l.map bb) ((addTo (paths (l.take j)) (l.getD j []) n).map bb) (j : Int) ((n + 1 : Nat) : Int)) R
  | 0, n, h => by
    obtain ⟨N, hN⟩ := hend
    refine ⟨N + 1, fun k hk => ?_⟩
    obtain ⟨m, rfl⟩ : ∃ m, k = m + 1 := ⟨k - 1, by omega⟩
    simp only [seineref06_Paths.l1, List.length_map]
    rw [if_pos (by omega), if_pos (by omega), rdOf_bb l j hj, bb_size, if_neg (by omega), w64 (by omega) (by omega)]
    have := hN m (by omega)
    rw [show addText (paths (l.take j)) (l.getD j []) = addTo (paths (l.take j)) (l.getD j []) n by unfold addText; rw [← h]; rfl] at this
    exact_mod_cast this
  | d + 1, n, h => by
    obtain ⟨N, ih⟩ := refPaths_in l j hj hl ht R hend d (n + 1) (by omega)
    have hb := tot_take l j hj
    have hlen := addTo_len (paths (l.take j)) (l.getD j []) n
    have hpl := paths_len (l.take j)
    have hnl : n < (l.getD j []).length := by omega
    generalize hP : addTo (paths (l.take j)) (l.getD j []) n = P at *
    have hPl : P.length ≤ 1000000000 := by omega
    obtain ⟨M, hM⟩ := refPlace P ((l.getD j []).take (n + 1)) hPl
    have hnext : addTo (paths (l.take j)) (l.getD j []) (n + 1) = addPath P ((l.getD j []).take (n + 1)) := by rw [addTo, hP]
    refine ⟨max N M + 1, fun k hk => ?_⟩
    obtain ⟨m, rfl⟩ : ∃ m, k = m + 1 := ⟨k - 1, by omega⟩
    have ihm := ih m (by omega)
    rw [hnext] at ihm
    have hMm : seineref06_Place.f m (P.map bb) (bb ((l.getD j []).take (n + 1))) = some (place P ((l.getD j []).take (n + 1))) := hM m (by omega)
    simp only [seineref06_Paths.l1, List.length_map]
    rw [if_pos (by omega), if_pos (by omega), rdOf_bb l j hj, bb_size, if_pos (by omega), if_pos (by omega), bb_to, show (((n + 1 : Nat) : Int)).toNat = n + 1 from rfl, hMm]
    simp only [Option.bind_some]
    by_cases h0 : place P ((l.getD j []).take (n + 1)) < 0
    · rw [if_pos h0, if_pos (by omega), w64s (n + 1) (by omega)]
      rw [addPath, if_neg (place_neg.1 h0), List.map_append] at ihm
      exact ihm
    · rw [if_neg h0, w64s (n + 1) (by omega)]
      rw [addPath, if_pos (place_mem.1 (by omega))] at ihm
      exact ihm
theorem refPaths_from (l : List Txt) (hl : l.length ≤ 1000000) (ht : tot l ≤ 1000000) : ∀ (d j : Nat), j + d = l.length → Evl (fun k => seineref06_Paths.l0 k (l.map bb) ((paths (l.take j)).map bb) (j : Int)) ((paths l).map bb)
  | 0, j, h => by
    refine ⟨1, fun k hk => ?_⟩
    obtain ⟨m, rfl⟩ : ∃ m, k = m + 1 := ⟨k - 1, by omega⟩
    simp only [seineref06_Paths.l0, List.length_map]
    rw [if_neg (by omega), List.take_of_length_le (by omega)]
  | d + 1, j, h => by
    have hj : j < l.length := by omega
    have ih := refPaths_from l hl ht d (j + 1) (by omega)
    have hs : paths (l.take (j + 1)) = addText (paths (l.take j)) (l.getD j []) := by rw [take_snoc_txt l j hj, paths_snoc]
    rw [hs] at ih
    have := refPaths_in l j hj hl ht _ ih (l.getD j []).length 0 (by omega)
    refine this.step fun k => ?_
    simp only [seineref06_Paths.l0, List.length_map]
    rw [if_pos (by omega)]
    rfl
theorem refPaths (l : List Txt) (hl : l.length ≤ 1000000) (ht : tot l ≤ 1000000) : Evl (fun k => seineref06_Paths.f k (l.map bb)) ((paths l).map bb) := by
  have := refPaths_from l hl ht l.length 0 (by omega)
  exact this
end Go.Proofs.YtdiljmhikajjiaaGreat
end
section
namespace Go.Proofs.YtdiljmhikajjiaaGreat
open Go.RowKit Seine.Trie Go.Proofs.YtdiljmhikajjiaaGreatW.PrintWords Go.Proofs.YtdiljmhikajjiaaGreat.Ref
theorem refTexts (l : List Txt) (hl : l.length ≤ 6000000000000) : Evl (fun k => seinelaw17_texts.f k (l.map nb)) (if ∀ x ∈ l, x.length ≤ 40 then (l.map bb, decide (l.length ≤ 12)) else ([], false)) := by
  have key : ∀ (d i : Nat), i + d = l.length → Evl (fun k => seinelaw17_texts.l0 k (l.map nb) ((l.take i).map bb) (i : Int)) (if ∀ x ∈ l.drop i, x.length ≤ 40 then (l.map bb, decide (l.length ≤ 12)) else ([], false)) := by
    intro d
    induction d with
    | zero =>
      intro i h
      refine ⟨1, fun k hk => ?_⟩
      obtain ⟨q, rfl⟩ : ∃ q, k = q + 1 := ⟨k - 1, by omega⟩
      simp only [seinelaw17_texts.l0, List.length_map]
      rw [if_neg (by omega), List.drop_eq_nil_of_le (by omega), if_pos (by simp), List.take_of_length_le (by omega)]
      congr 2
      rw [decide_eq_decide]; omega
    | succ d ih =>
      intro i h
      have hi : i < l.length := by omega
      have hdr : l.drop i = l.getD i [] :: l.drop (i + 1) := by
        rw [List.drop_eq_getElem_cons hi]; simp [List.getD_eq_getElem?_getD, hi]
      have hrd : (l.map nb).getD (i : Int).toNat [] = nb (l.getD i []) := by
        rw [Int.toNat_natCast]; simp [List.getD_eq_getElem?_getD, hi]
      by_cases h40 : (l.getD i []).length ≤ 40
      · have hc : (∀ x ∈ l.drop i, x.length ≤ 40) ↔ ∀ x ∈ l.drop (i + 1), x.length ≤ 40 := by
          rw [hdr]; simp only [List.mem_cons, forall_eq_or_imp]
          exact ⟨fun h => h.2, fun h => ⟨h40, h⟩⟩
        simp only [hc]
        refine (ih (i + 1) (by omega)).step fun k => ?_
        simp only [seinelaw17_texts.l0, List.length_map]
        rw [if_pos (by omega), if_pos (by omega), if_neg (by show ¬ ((((l.map nb).getD (i : Int).toNat []).length : Nat) : Int) > 40; rw [hrd, nb_length]; omega), if_pos (by rw [List.length_take]; omega), w64 (by omega) (by omega)]
        show seinelaw17_texts.l0 k _ (_ ++ [strOfNums ((l.map nb).getD (i : Int).toNat [])]) _ = _
        rw [hrd, bb_nums, take_snoc_txt l i hi, List.map_append]
        rfl
      · have hc : ¬ ∀ x ∈ l.drop i, x.length ≤ 40 := by
          rw [hdr]; intro hx; exact h40 (hx _ (by simp))
        rw [if_neg hc]
        refine ⟨1, fun k hk => ?_⟩
        obtain ⟨q, rfl⟩ : ∃ q, k = q + 1 := ⟨k - 1, by omega⟩
        simp only [seinelaw17_texts.l0, List.length_map]
        rw [if_pos (by omega), if_pos (by omega), if_pos (by show ((((l.map nb).getD (i : Int).toNat []).length : Nat) : Int) > 40; rw [hrd, nb_length]; omega)]
  have := key l.length 0 (by omega)
  rw [List.drop_zero] at this
  exact this
theorem texts_calls (w : World) (A : Option Addr) (c : Nat) (l : List Txt) (hx : Txts w A l) (hc : l.length ≤ c) (hr : c * 24 ≤ 140737488351232) (hm : ∀ x ∈ l, x.length ≤ maxLen) :
    Calls Tryz.prog 9 #[.slice A l.length c] w fun e w' => (∃ A' c' b, e = .returned (.tuple #[.slice A' (if b then l.length else 0) c', .bool (b && decide (l.length ≤ 12))]) ∧ (b = decide (∀ x ∈ l, x.length ≤ 40)) ∧ (b = true → l.length ≤ c' ∧ KdS w' A' l)) ∧ Below w.heap.size w w' := by
  obtain ⟨k, hk⟩ := (refTexts l (by omega)).get
  have hkd := kdTxts hx (by omega) (fun x h => by have := hm x h; unfold maxLen at this; omega)
  by_cases h40 : ∀ x ∈ l, x.length ≤ 40
  · rw [if_pos h40] at hk
    have := seinelaw17_texts.calls k A c (l.map nb) (l.map bb) (decide (l.length ≤ 12)) w (by rw [List.length_map]; exact hkd) (by rw [List.length_map]; exact hc) hk
    rw [List.length_map] at this
    refine this.mono ?_
    rintro e w' ⟨v, rfl, hR, hb⟩
    obtain ⟨A', c', rfl, hc', hS⟩ := KdS.of_R hR
    exact ⟨⟨A', c', true, by simp, (decide_eq_true h40).symm, fun _ => ⟨hc', hS⟩⟩, hb⟩
  · rw [if_neg h40] at hk
    have := seinelaw17_texts.calls k A c (l.map nb) [] false w (by rw [List.length_map]; exact hkd) (by rw [List.length_map]; exact hc) hk
    rw [List.length_map] at this
    refine this.mono ?_
    rintro e w' ⟨v, rfl, hR, hb⟩
    obtain ⟨A', c', rfl, hc', hS⟩ := KdS.of_R (l := []) hR
    exact ⟨⟨A', c', false, by simp, (decide_eq_false h40).symm, fun h => by cases h⟩, hb⟩
theorem lfew_calls (w : World) (A : Option Addr) (c : Nat) (b : Txt) (hb : Byt w A b) (hc : b.length ≤ c) (hl : b.length ≤ 9223372036854775807) :
    Calls Tryz.prog 14 #[.slice A b.length c] w fun e w' => e = .returned (.bool (decide (b.length ≤ 120))) ∧ Below w.heap.size w w' := by
  have := seinelaw17_few.calls A c (nb b) (decide (b.length ≤ 120)) w (by rw [nb_length]; exact kdU8 hb hl) (by rw [nb_length]; exact hc) (by simp only [seinelaw17_few.f, nb_length, Option.some.injEq, decide_eq_decide]; omega)
  rw [nb_length] at this
  exact this.mono fun e w' h => ⟨h.1, h.2.below⟩
/-- Of few short texts. -/
structure Few (l : List Txt) : Prop where
  len : l.length ≤ 12
  short : ∀ x ∈ l, x.length ≤ 40
theorem Few.tot {l : List Txt} (h : Few l) : tot l ≤ 480 := by
  have : ∀ l : List Txt, (∀ x ∈ l, x.length ≤ 40) → Go.Proofs.YtdiljmhikajjiaaGreat.tot l ≤ 40 * l.length := by
    intro l
    induction l with
    | nil => intro _; simp [Go.Proofs.YtdiljmhikajjiaaGreat.tot]
    | cons x l ih =>
      intro h
      have h1 := h x (by simp)
      have h2 := ih fun y hy => h y (by simp [hy])
      simp only [Go.Proofs.YtdiljmhikajjiaaGreat.tot, List.map_cons, List.sum_cons, List.length_cons] at h2 ⊢
      omega
  have h1 := this l h.short
  have h2 := h.len
  omega
theorem Few.paths_len {l : List Txt} (h : Few l) : (paths l).length ≤ 481 := by have := Go.Proofs.YtdiljmhikajjiaaGreat.paths_len l; have := h.tot; omega
theorem Byt.take {w : World} {A : Option Addr} {b : Txt} (h : Byt w A b) (k : Nat) : Byt w A (b.take k) := by
  rcases h with h | ⟨ad, e, hlt, hc⟩
  · have : b = [] := by have := congrArg List.length h; rw [byCells_length] at this; exact List.eq_nil_of_length_eq_zero this
    subst this
    exact .inl (by simp [byCells])
  · refine .inr ⟨ad, e, hlt, fun j u hu => hc j u ?_⟩
    unfold byCells at hu ⊢
    rw [List.map_take, List.getElem?_take] at hu
    split at hu
    · exact hu
    · cases hu
end Go.Proofs.YtdiljmhikajjiaaGreat
end
section
namespace Go.Proofs.YtdiljmhikajjiaaGreat
open Go.RowKit Go.Maps Seine.Trie Seine.Links Seine.Sparse
open Seine.Sort (sortP occ mem_occ Occ)
theorem RetPrsM.plain {w w' : World} {xs : List Pr} {cn : Cn} {e : Ending} (h : RetPrsM w none xs cn e w') : RetPrs w xs e w' := by
  obtain ⟨v, he, ho, _, hk⟩ := h
  exact ⟨v, he, ho, hk.below (fun k _ hS => by cases hS) (Nat.le_refl _)⟩
theorem Cn.zero_room : Cn.zero.room := by unfold Cn.room Cn.zero; decide
/-- A scan with a meter that is younger than a world: what is older stays. -/
theorem RetPrsM.young {w0 w w' : World} {g : Nat} {xs : List Pr} {cn : Cn} {e : Ending} (h : RetPrsM w (some g) xs cn e w') (hb : Below w0.heap.size w0 w) (hg : w0.heap.size ≤ g) : Below w0.heap.size w0 w' := by
  obtain ⟨v, he, ho, _, hk⟩ := h
  refine hb.trans (hk.below (fun k hk hS => ?_) hb.size)
  unfold OnlyM at hS; injection hS with hS; omega
end Go.Proofs.YtdiljmhikajjiaaGreat
end
section
namespace Go.Proofs.YtdiljmhikajjiaaGreat
open Go.RowKit Go.Maps Seine.Trie Seine.Eng Seine.Sparse
theorem u8_byte {a : Int} (h : (Lit.int .u8 a).wf = true) : ∃ c : UInt8, a = (c.toNat : Int) := by
  exact ⟨_, (u8_in h).symm⟩
theorem eis_calls (w : World) (tag : Int) : Calls Tryz.prog 17 #[.int .i64 tag] w fun e w' => e = .returned (.bool (decide (0 ≤ tag ∧ tag ≤ 3))) ∧ w = w' := by
  by_cases h0 : 0 ≤ tag
  · have e0 : decide (0 ≤ tag) = true := decide_eq_true h0
    by_cases h1 : tag < 4
    · have e1 : decide (tag < 4) = true := decide_eq_true h1
      rw [decide_eq_true (by omega : 0 ≤ tag ∧ tag ≤ 3)]
      go_enter Tryz.func17, Tryz.ntmps17
      go_wp2
      go_ret
      exact ⟨rfl, rfl⟩
    · have e1 : decide (tag < 4) = false := decide_eq_false h1
      rw [decide_eq_false (by omega : ¬ (0 ≤ tag ∧ tag ≤ 3))]
      go_enter Tryz.func17, Tryz.ntmps17
      go_wp2
      go_ret
      exact ⟨rfl, rfl⟩
  · have e0 : decide (0 ≤ tag) = false := decide_eq_false h0
    rw [decide_eq_false (by omega : ¬ (0 ≤ tag ∧ tag ≤ 3))]
    go_enter Tryz.func17, Tryz.ntmps17
    go_wp2
    go_ret
    exact ⟨rfl, rfl⟩
theorem etag_calls (w : World) (g : Nat) (tag : Int) (l : List Txt) (h : EngAt w g tag l) : Calls Tryz.prog 20 #[.pointer (some ⟨g, 0, none⟩)] w fun e w' => e = .returned (.int .i64 tag) ∧ w = w' := by
  obtain ⟨base, x, y, z, sc, h1, _, _⟩ := h
  have c0 : w.cell? ⟨g, 0, none⟩ = some (.int .i64 tag) := cell_of_blk h1 0
  clear h1
  go_enter Tryz.func20, Tryz.ntmps20
  go_wp2
  go_ret
  exact ⟨rfl, rfl⟩
theorem etag_none (w : World) : Calls Tryz.prog 20 #[.pointer none] w fun e w' => e = .returned (.int .i64 (-1)) ∧ w = w' := by
  go_enter Tryz.func20, Tryz.ntmps20
  go_wp2
  go_ret
  exact ⟨rfl, rfl⟩
theorem enew_yes (w : World) (tag : Int) (V : Value) (base : Nat) (l : List Txt) (h : PsAt w base V l) (hs : ∀ t ∈ l, t.length ≤ 60) (hll : l.length ≤ 1000) (hw : wrongF tag l = 0) :
    Calls Tryz.prog 11 #[.int .i64 tag, V] w fun e w' => ∃ g, e = .returned (.tuple #[.pointer (some ⟨g, 0, none⟩), .int .i64 0]) ∧ EngAt w' g tag l ∧ Below w.heap.size w w' :=
  (enew_calls w tag V base l h hs hll).mono fun e w' hh => by
    rw [if_pos hw] at hh
    obtain ⟨⟨g, h1, h2⟩, h3⟩ := hh
    exact ⟨g, h1, h2, h3⟩
theorem enew_no (w : World) (tag : Int) (V : Value) (base : Nat) (l : List Txt) (h : PsAt w base V l) (hs : ∀ t ∈ l, t.length ≤ 60) (hll : l.length ≤ 1000) (hw : ¬ wrongF tag l = 0) :
    Calls Tryz.prog 11 #[.int .i64 tag, V] w fun e w' => e = .returned (.tuple #[.pointer none, .int .i64 (wrongF tag l)]) ∧ Below w.heap.size w w' :=
  (enew_calls w tag V base l h hs hll).mono fun e w' hh => by
    rw [if_neg hw] at hh
    exact hh
theorem efind0_calls (w : World) (g : Nat) (tag : Int) (l : List Txt) (h : EngAt w g tag l) (hs : ∀ t ∈ l, t.length ≤ 60) (hll : l.length ≤ 1000) (A : Option Addr) (c : Nat) (L : Txt) (hx : Byt w A L) (hL : L.length ≤ 900) :
    Calls Tryz.prog 13 #[.pointer (some ⟨g, 0, none⟩), .pointer none, .slice A L.length c] w (RetPrs w (findF l L)) :=
  (efind_calls w g tag l h hs hll none Cn.zero (Mo.none_ _ _) Cn.zero_room A c L hx hL).mono fun _ _ h => h.1.plain
end Go.Proofs.YtdiljmhikajjiaaGreat
end
section
namespace Go.Proofs.YtdiljmhikajjiaaGreat
open Go.RowKit Go.Maps Seine.Trie Seine.Eng
open Seine.Sort (sortP)
theorem eqCn (d : Nat) (w : World) (x0 x1 x2 x3 y0 y1 y2 y3 : Int) :
    (Op.equalIn (d + 2) 49 (.agg #[.int .i64 x0, .int .i64 x1, .int .i64 x2, .int .i64 x3]) (.agg #[.int .i64 y0, .int .i64 y1, .int .i64 y2, .int .i64 y3])).run Tryz.prog w = .ok (x0 == y0 && (x1 == y1 && (x2 == y2 && (x3 == y3)))) w := by
  have h := field_eq (P := Tryz.prog) (d := d + 1) (w := w) (xs := #[.int .i64 x0, .int .i64 x1, .int .i64 x2, .int .i64 x3]) (ys := #[.int .i64 y0, .int .i64 y1, .int .i64 y2, .int .i64 y3]) (f := ⟨"Scan", 3, 0, false, "", "", 0⟩) (by decide) (by go_simp; rfl) (by go_simp; rfl) (by go_simp; rfl)
    (field_eq (f := ⟨"Look", 3, 1, false, "", "", 8⟩) (by decide) (by go_simp; rfl) (by go_simp; rfl) (by go_simp; rfl)
      (field_eq (f := ⟨"Hunt", 3, 2, false, "", "", 16⟩) (by decide) (by go_simp; rfl) (by go_simp; rfl) (by go_simp; rfl)
        (field_eq (f := ⟨"Move", 3, 3, false, "", "", 24⟩) (by decide) (by go_simp; rfl) (by go_simp; rfl) (by go_simp; rfl) fields_none)))
  rw [Bool.and_true] at h
  exact struct_eq Tryz.underlying49 (by kernel_rfl) h
attribute [local go_sem high] eqCn
theorem txtsOf {w : World} {b t : Nat} {vs : List Value} {l : List Txt} {fr : Nat × Nat} (h : w.heap[b]? = some (.cells vs.toArray t fr)) (hl : vs.length = l.length) (hv : ∀ i, i < l.length → ∃ A' c', vs[i]? = some (.slice A' (l.getD i []).length c') ∧ (l.getD i []).length ≤ c' ∧ Byt w A' (l.getD i [])) : Txts w (some ⟨b, 0, none⟩) l := ⟨vs, hl, rowOfBlk h, hv⟩
theorem PsAt.open_ {w : World} {base : Nat} {V : Value} {l : List Txt} (h : PsAt w base V l) : ∃ A c mb, V = .agg #[.slice A (pset l).length c, .map (some mb), .bool (decide ([] ∈ l))] := by
  obtain ⟨v, mb, n, f, rfl, h2, _, _⟩ := h
  obtain ⟨A, c, rfl, hc, ht⟩ := h2.txts
  exact ⟨A, c, mb, rfl⟩
def exE : List Txt := [[97, 98], []]
theorem exE_w3 : wrongF 3 exE = 0 := by decide
theorem exE_w2 : wrongF 2 exE = 13 := by decide
theorem exE_w4 : wrongF 4 exE = 11 := by decide
theorem exE_f : findF exE [97, 98] = [(0, 0), (0, 2), (1, 1), (2, 2)] := by decide
set_option maxRecDepth 100000 in
set_option maxHeartbeats 3200000 in
theorem awake_calls (w : World) : Calls Tryz.prog 8 #[] w fun e w' => e = .returned (.bool true) ∧ Below w.heap.size w w' := by
  have kc : ∀ (W : World) (C : Array Value) (n c b : Nat), b = W.heap.size → (convert 23 23 (.slice (some ⟨b, 0, none⟩) n c)).run Tryz.prog (W.alloc (.cells C 5)) = .ok (.slice (some ⟨b, 0, none⟩) n c) (W.alloc (.cells C 5 (C.size, C.size + 1))) := fun W C n c b h => by
    subst h; exact Lib.run_convert_bytes_const (P := Tryz.prog) W 23 5 C n c Tryz.underlying23 Tryz.underlying5
  have hw0 := Below.refl w.heap.size w
  go_enter Tryz.func8, Tryz.ntmps8
  go_wp2_with fail
  refine Calls.mono (pof_calls _ _ 2 exE ?tx (by decide) (by decide)) ?_
  case tx =>
    refine txtsOf (vs := [.slice (some ⟨w.heap.size, 0, none⟩) 2 2, .slice none 0 0]) (by (repeat (first | (with_reducible assumption) | (with_reducible exact heap_alloc_new _ _) | (exact heapNewAt (by (first | omega | (simp only [World.size_alloc, World.size_drew]; done) | (simp only [World.size_alloc, World.size_drew]; omega)))) | (with_reducible refine blkDrew ?_) | (with_reducible refine blk_old ?_) | (refine blkBelow (by with_reducible assumption) ?_)))) rfl (fun i hi => ?_)
    match i, hi with
    | 0, _ => exact ⟨_, 2, rfl, by decide, litByt [97, 98] [.int .u8 97, .int .u8 98] rfl (by (repeat (first | (with_reducible assumption) | (with_reducible exact heap_alloc_new _ _) | (exact heapNewAt (by (first | omega | (simp only [World.size_alloc, World.size_drew]; done) | (simp only [World.size_alloc, World.size_drew]; omega)))) | (with_reducible refine blkDrew ?_) | (with_reducible refine blk_old ?_) | (refine blkBelow (by with_reducible assumption) ?_))))⟩
    | 1, _ => exact ⟨_, 0, rfl, by decide, .inl rfl⟩
  rintro e w1 ⟨V, rfl, hP, hb1⟩
  obtain ⟨A1, c1, mb, rfl⟩ := hP.open_
  have hw1 : Below w.heap.size w w1 := by (repeat (first | (with_reducible assumption) | (with_reducible exact Below.refl _ _) | (with_reducible refine Below.drew ?_) | (with_reducible refine below_drewN ?_ _) | (with_reducible refine Below.alloc ?_ (by (first | omega | (simp only [World.size_alloc, World.size_drew]; done) | (simp only [World.size_alloc, World.size_drew]; omega))) _) | (refine Below.trans ?_ (Below.mono (by with_reducible assumption) (by (first | omega | (simp only [World.size_alloc, World.size_drew]; done) | (simp only [World.size_alloc, World.size_drew]; omega)))))))
  rw [show (pset exE).length = 1 from rfl, show decide (([] : Txt) ∈ exE) = true from rfl] at hP ⊢
  have hz1 := heap_alloc_new w1 (.cells #[.slice A1 1 c1, .map (some mb), .bool true] 30)
  have hPs := As.mk (hP.below ((Below.refl _ _).alloc (Nat.le_refl _) (.cells #[.slice A1 1 c1, .map (some mb), .bool true] 30)))
  have hBs : Below w1.heap.size w1 (w1.alloc (.cells #[.slice A1 1 c1, .map (some mb), .bool true] 30)) := (Below.refl _ _).alloc (Nat.le_refl _) _
  obtain ⟨b1, hb1e⟩ : ∃ g, w1.heap.size = g := ⟨_, rfl⟩
  obtain ⟨W1, hW1⟩ : ∃ W, w1.alloc (.cells #[.slice A1 1 c1, .map (some mb), .bool true] 30) = W := ⟨_, rfl⟩
  rw [hb1e] at hz1
  rw [hW1] at hz1 hPs hBs
  have q0 : ∀ v, Below W1.heap.size W1 v → v.cell? ⟨b1, 0, none⟩ = some (.slice A1 1 c1) := fun v hv => cell_of_blk (blkBelow hv hz1) 0
  have q1 : ∀ v, Below W1.heap.size W1 v → v.cell? ⟨b1, 1, none⟩ = some (.map (some mb)) := fun v hv => cell_of_blk (blkBelow hv hz1) 1
  have q2 : ∀ v, Below W1.heap.size W1 v → v.cell? ⟨b1, 2, none⟩ = some (.bool true) := fun v hv => cell_of_blk (blkBelow hv hz1) 2
  have hWr : Below W1.heap.size W1 W1 := Below.refl _ _
  replace hz1 := As.mk hz1
  clear hP
  have hBW := As.mk (belowNext hw1 hBs)
  have cW := As.mk (fun (v : World) (hv : Below W1.heap.size W1 v) => enew_yes v 3 _ _ exE (hPs.out.below hv) (by decide) (by decide) exE_w3)
  have cT := As.mk (fun (v : World) (hv : Below W1.heap.size W1 v) => (by have := enew_no v 2 _ _ exE (hPs.out.below hv) (by decide) (by decide) (by rw [exE_w2]; decide); rw [exE_w2] at this; exact this : Calls Tryz.prog 11 #[.int .i64 2, .agg #[.slice A1 1 c1, .map (some mb), .bool true]] v fun e w' => e = .returned (.tuple #[.pointer none, .int .i64 13]) ∧ Below v.heap.size v w'))
  have cF := As.mk (fun (v : World) (hv : Below W1.heap.size W1 v) => (by have := enew_no v 4 _ _ exE (hPs.out.below hv) (by decide) (by decide) (by rw [exE_w4]; decide); rw [exE_w4] at this; exact this : Calls Tryz.prog 11 #[.int .i64 4, .agg #[.slice A1 1 c1, .map (some mb), .bool true]] v fun e w' => e = .returned (.tuple #[.pointer none, .int .i64 11]) ∧ Below v.heap.size v w'))
  clear hb1 hw1 hBs hw0
  go_wp2_with (first | (rw [hW1]) | (rw [hb1e]))
  refine Calls.mono (cW.out _ hWr) ?_
  rintro e w2 ⟨g, rfl, hE, hb2⟩
  have hk2 : Below W1.heap.size W1 w2 := hb2
  replace hE := As.mk hE
  go_wp2_with fail
  refine Calls.mono (cT.out _ hk2) ?_
  rintro e w3 ⟨rfl, hb3⟩
  have hk3 : Below W1.heap.size W1 w3 := belowNext hk2 hb3
  replace hE := As.mk (hE.out.below hb3)
  go_wp2_with fail
  refine Calls.mono (cF.out _ hk3) ?_
  rintro e w4 ⟨rfl, hb4⟩
  have hk4 : Below W1.heap.size W1 w4 := belowNext hk3 hb4
  replace hE := As.mk (hE.out.below hb4)
  clear hb2 hb3 hb4 hk2 hk3 cW cT cF
  go_wp2_with fail
  have hBa : Below w4.heap.size w4 (w4.alloc (.cells #[.int .u8 97, .int .u8 98] 5 (2, 3))) := (Below.refl _ _).alloc (Nat.le_refl _) _
  refine Calls.mono (efind0_calls _ g 3 exE (hE.out.below hBa) (by decide) (by decide) _ 2 [97, 98] (litByt [97, 98] [.int .u8 97, .int .u8 98] rfl (by (repeat (first | (with_reducible assumption) | (with_reducible exact heap_alloc_new _ _) | (exact heapNewAt (by (first | omega | (simp only [World.size_alloc, World.size_drew]; done) | (simp only [World.size_alloc, World.size_drew]; omega)))) | (with_reducible refine blkDrew ?_) | (with_reducible refine blk_old ?_) | (refine blkBelow (by with_reducible assumption) ?_))))) (by decide)) ?_
  intro e w5 h5
  rw [exE_f] at h5
  obtain ⟨A5, c5, he5, hc5, hr5, hb5⟩ := h5.row
  rw [show List.length [((0 : Int), (0 : Int)), (0, 2), (1, 1), (2, 2)] = 4 from rfl] at he5 hc5
  subst he5
  have hb45 : Below w4.heap.size w4 w5 := hBa.trans (hb5.mono hBa.size)
  have hE5 := As.mk ((hE.out.below hBa).below hb5)
  have hB5 := As.mk (belowNext hBW.out (belowNext hk4 hb45))
  have hr5' := As.mk hr5
  clear hE hb5 hb45 hBa hk4 hr5 h5
  have cTag := As.mk (fun (v : World) (hv : Below w5.heap.size w5 v) => etag_calls v g 3 exE (hE5.out.below hv))
  have cI3 := As.mk (eis_calls w5 3)
  have cIm := As.mk (eis_calls w5 (-1))
  rw [show decide ((0 : Int) ≤ 3 ∧ (3 : Int) ≤ 3) = true from rfl] at cI3
  rw [show decide ((0 : Int) ≤ -1 ∧ (-1 : Int) ≤ 3) = false from rfl] at cIm
  go_wp2_with (first
    | (go_at_call 17; with_reducible refine Calls.mono cI3.out ?_; rintro e w' ⟨rfl, rfl⟩)
    | (go_at_call 17; with_reducible refine Calls.mono cIm.out ?_; rintro e w' ⟨rfl, rfl⟩)
    | (go_at_call 20; refine Calls.mono (cTag.out _ (Below.refl _ _)) ?_; rintro e w' ⟨rfl, rfl⟩))
  refine Calls.mono (same_calls _ _ _ _ [(0, 0), (0, 2), (1, 1), (2, 2)] [(0, 0), (0, 2), (1, 1), (2, 2)] _ ?p1 ?p2 (by decide) (by decide)) ?_
  case p1 => exact Row.below hr5'.out ((Below.refl _ _).alloc (Nat.le_refl _) _)
  case p2 => exact rowOfBlk (by (repeat (first | (with_reducible assumption) | (with_reducible exact heap_alloc_new _ _) | (exact heapNewAt (by (first | omega | (simp only [World.size_alloc, World.size_drew]; done) | (simp only [World.size_alloc, World.size_drew]; omega)))) | (with_reducible refine blkDrew ?_) | (with_reducible refine blk_old ?_) | (refine blkBelow (by with_reducible assumption) ?_))))
  rintro e w8 ⟨rfl, n1, rfl⟩
  rw [show decide ([((0 : Int), (0 : Int)), (0, 2), (1, 1), (2, 2)] = [(0, 0), (0, 2), (1, 1), (2, 2)]) = true by decide]
  go_wp2_with fail
  go_ret
  exact ⟨rfl, below_drewN (hB5.out.alloc hB5.out.size _) _⟩
end Go.Proofs.YtdiljmhikajjiaaGreat
end
section
namespace Seine.Eng
open Seine.Trie Seine.Sort
def isE (p : Pr) : Bool := p.1 == p.2
/-- How many empty pieces are among the first i, and what else is. -/
def nE (G : List Pr) (i : Nat) : Nat := ((G.take i).filter isE).length
def rE (G : List Pr) (i : Nat) : List Pr := (G.take i).filter fun p => !isE p
theorem take_next (G : List Pr) {i : Nat} (h : i < G.length) : G.take (i + 1) = G.take i ++ [G.getD i (0, 0)] := by
  rw [List.take_succ_eq_append_getElem h]; simp [List.getD_eq_getElem?_getD, h]
theorem nE_yes {G : List Pr} {i : Nat} (h : i < G.length) (he : isE (G.getD i (0, 0)) = true) : nE G (i + 1) = nE G i + 1 ∧ rE G (i + 1) = rE G i := by
  unfold nE rE
  rw [take_next G h, List.filter_append, List.filter_append]
  generalize G.getD i (0, 0) = x at he ⊢
  simp [List.filter_cons, he]
theorem nE_no {G : List Pr} {i : Nat} (h : i < G.length) (he : isE (G.getD i (0, 0)) = false) : nE G (i + 1) = nE G i ∧ rE G (i + 1) = rE G i ++ [G.getD i (0, 0)] := by
  unfold nE rE
  rw [take_next G h, List.filter_append, List.filter_append]
  generalize G.getD i (0, 0) = x at he ⊢
  simp [List.filter_cons, he]
theorem nE_le (G : List Pr) (i : Nat) : nE G i ≤ i := by
  unfold nE
  have := List.length_filter_le isE (G.take i)
  rw [List.length_take] at this
  omega
theorem rE_len (G : List Pr) (i : Nat) : (rE G i).length ≤ i := by
  unfold rE
  have := List.length_filter_le (fun p => !isE p) (G.take i)
  rw [List.length_take] at this
  omega
/-- What is found with the empty pattern. -/
def allF (l : List Txt) (L : Txt) : List Pr := sortP (occ l L ++ empties (L.length + 1))
theorem allF_E (l : List Txt) (L : Txt) : (allF l L).filter isE = empties (L.length + 1) := by
  refine rise_ext (List.Pairwise.filter _ (rise_sortP _)) (rise_empties _) fun p => ?_
  rw [List.mem_filter, allF, mem_sortP, List.mem_append]
  constructor
  · rintro ⟨h | h, he⟩
    · obtain ⟨i, j, rfl, hij, _⟩ := mem_occ.1 h
      have : ((i : Int)) = (j : Int) := by simpa [isE] using he
      omega
    · exact h
  · intro h
    obtain ⟨i, _, rfl⟩ := mem_empties.1 h
    exact ⟨.inr h, by simp [isE]⟩
theorem allF_R (l : List Txt) (L : Txt) : (allF l L).filter (fun p => !isE p) = occ l L := by
  refine rise_ext (List.Pairwise.filter _ (rise_sortP _)) (rise_occ _ _) fun p => ?_
  rw [List.mem_filter, allF, mem_sortP, List.mem_append]
  constructor
  · rintro ⟨h | h, he⟩
    · exact h
    · obtain ⟨i, _, rfl⟩ := mem_empties.1 h
      simp [isE] at he
  · intro h
    obtain ⟨i, j, rfl, hij, _⟩ := mem_occ.1 h
    refine ⟨.inl h, ?_⟩
    simp [isE]; omega
/-- The next empty piece is where so many were before it. -/
theorem allF_at (l : List Txt) (L : Txt) {i : Nat} (h : i < (allF l L).length) (he : isE ((allF l L).getD i (0, 0)) = true) : (allF l L).getD i (0, 0) = ((nE (allF l L) i : Int), (nE (allF l L) i : Int)) := by
  have hE := allF_E l L
  obtain ⟨x, hx⟩ : ∃ x, (allF l L).getD i (0, 0) = x := ⟨_, rfl⟩
  have hs : allF l L = (allF l L).take i ++ x :: (allF l L).drop (i + 1) := by
    have h1 : (allF l L).drop i = x :: (allF l L).drop (i + 1) := by
      rw [List.drop_eq_getElem_cons h, ← hx]; simp [List.getD_eq_getElem?_getD, h]
    rw [← h1, List.take_append_drop]
  rw [hx] at he ⊢
  have hn : nE (allF l L) i = (((allF l L).take i).filter isE).length := rfl
  rw [hs, List.filter_append, List.filter_cons, if_pos he] at hE
  have h2 : (empties (L.length + 1))[(((allF l L).take i).filter isE).length]? = some x := by
    rw [← hE, List.getElem?_append_right (Nat.le_refl _)]; simp
  rw [← hn] at h2
  unfold empties at h2
  rw [List.getElem?_map, Option.map_eq_some_iff] at h2
  obtain ⟨k, hk, rfl⟩ := h2
  have : k = nE (allF l L) i := by
    rw [List.getElem?_eq_some_iff] at hk
    obtain ⟨h3, h4⟩ := hk
    rw [List.getElem_range] at h4
    exact h4.symm
  rw [this]
theorem nE_all (l : List Txt) (L : Txt) : nE (allF l L) (allF l L).length = L.length + 1 := by
  unfold nE
  rw [List.take_length, allF_E, empties_length]
theorem rE_all (l : List Txt) (L : Txt) : rE (allF l L) (allF l L).length = occ l L := by
  unfold rE
  rw [List.take_length, allF_R]
theorem nE_room (l : List Txt) (L : Txt) (i : Nat) : nE (allF l L) i ≤ L.length + 1 := by
  rw [← nE_all l L]
  unfold nE
  rw [List.take_length]
  exact (List.Sublist.filter isE (List.take_sublist i _)).length_le
/-- The texts and the empty one; the texts that aren't empty. -/
theorem pset_more (l : List Txt) : pset (l ++ [[]]) = pset l := by rw [pset_snoc]; unfold addP; rw [if_pos (.inl rfl)]
theorem pset_none : pset [[], []] = [] := rfl
def plainT (l : List Txt) : List Txt := l.filter fun t => decide (0 < t.length)
theorem mem_plainT {l : List Txt} {t : Txt} : t ∈ plainT l ↔ t ∈ l ∧ t ≠ [] := by
  unfold plainT
  rw [List.mem_filter, decide_eq_true_eq, List.length_pos_iff]
theorem pset_plain (l : List Txt) : pset (plainT l) = pset l := by
  have key : ∀ (l acc : List Txt), (plainT l).foldl addP acc = l.foldl addP acc := by
    intro l
    induction l with
    | nil => intro acc; rfl
    | cons t l ih =>
      intro acc
      by_cases h : t = []
      · have h1 : plainT (t :: l) = plainT l := by unfold plainT; rw [List.filter_cons, if_neg (by simp [h])]
        rw [h1, ih, List.foldl_cons]
        congr 1
        unfold addP; rw [if_pos (.inl h)]
      · have h1 : plainT (t :: l) = t :: plainT l := by
          unfold plainT; rw [List.filter_cons, if_pos (decide_eq_true (List.length_pos_iff.2 h))]
        rw [h1, List.foldl_cons, List.foldl_cons, ih]
  exact key l []
theorem findF_plain (l : List Txt) (L : Txt) : findF (plainT l) L = occ l L := by
  unfold findF
  rw [if_neg (fun h => (mem_plainT.1 h).2 rfl)]
  exact occ_ext fun x hx => by rw [mem_plainT]; simp [hx]
theorem findF_more (l : List Txt) (L : Txt) : findF (l ++ [[]]) L = allF l L := by
  unfold findF allF
  rw [if_pos (by simp), occ_ext (T' := l) fun x hx => by simp [hx]]
theorem findF_none (L : Txt) : findF [[], []] L = empties (L.length + 1) := by
  unfold findF
  rw [if_pos (by simp), occ_ext (T' := ([] : List Txt)) fun x hx => by simp [hx]]
  refine sortP_eq (rise_empties _) fun p => ?_
  rw [List.mem_append]
  constructor
  · rintro (h | h)
    · obtain ⟨i, j, _, _, _, h⟩ := mem_occ.1 h; simp at h
    · exact h
  · exact .inr
end Seine.Eng
end
section
namespace Go.Proofs.YtdiljmhikajjiaaGreat
open Go.RowKit Seine.Trie Go.Proofs.YtdiljmhikajjiaaGreatW.PrintWords Go.Proofs.YtdiljmhikajjiaaGreat.Ref
open Seine.Sort (occ occTo occRow occTo_len occTo_succ occRow_len)
def toS (p : Pr) : S57 := ⟨p.1, p.2⟩
theorem prs_of_C {w : World} {A : Option Addr} {xs : List Pr} (h : Kd.C k57 w A xs.length (xs.map toS)) : Prs w A xs := by
  rcases Nat.eq_zero_or_pos xs.length with h0 | h0
  · exact .inl (by rw [List.eq_nil_of_length_eq_zero h0]; rfl)
  · have key : ∀ i, i < xs.length → ∃ ad, A = some ad ∧ w.cell? (ad.add (i * 2)) = some (.int .i64 (xs.getD i (0, 0)).1) ∧ w.cell? ⟨(ad.add (i * 2)).block, (ad.add (i * 2)).off + 1, none⟩ = some (.int .i64 (xs.getD i (0, 0)).2) := fun i hi => by
      have := at_T57 h (i : Int) (by omega) (by omega)
      have e : rd_T57 (xs.map toS) (i : Int) = toS (xs.getD i (0, 0)) := by
        unfold rd_T57
        rw [Int.toNat_natCast, List.getD_eq_getElem?_getD, List.getElem?_map, List.getD_eq_getElem?_getD, List.getElem?_eq_getElem hi]; rfl
      rw [e, Int.toNat_natCast] at this
      exact this
    obtain ⟨ad, rfl, c0, _⟩ := key 0 h0
    refine .inr ⟨ad, rfl, ?_, fun j u hu => ?_⟩
    · have := World.block_lt_of_cell? w _ c0
      rwa [Addr.block_add] at this
    · have hj : j < xs.length * 2 := by rw [← prCells_length]; exact (List.getElem?_eq_some_iff.1 hu).1
      obtain ⟨ad', e, d0, d1⟩ := key (j / 2) (by omega)
      injection e with e
      subst e
      obtain ⟨p0, p1⟩ := prCells_at xs (j / 2) (by omega)
      rcases Nat.mod_two_eq_zero_or_one j with hm | hm
      · rw [show j / 2 * 2 = j by omega] at d0 p0
        rw [hu] at p0
        injection p0 with p0
        rw [d0, p0]
      · rw [show j / 2 * 2 + 1 = j by omega] at p1
        rw [← Addr.add_field _ _ _ (by omega), show j / 2 * 2 + 1 = j by omega] at d1
        rw [hu] at p1
        injection p1 with p1
        rw [d1, p1]
theorem bbeq (a b : Txt) : ((bb a).toList == (bb b).toList) = decide (a = b) := by
  rw [bb_toList, bb_toList]
  by_cases h : a = b <;> simp [h]
theorem refOcc_l2 (T : List Txt) (L : Txt) (hT : T.length ≤ 1000000) (hL : L.length ≤ 1000000) (out : List Pr) (i j : Nat) (hij : i < j) (hj : j ≤ L.length) (ho : out.length ≤ 2000000000000) (R : List S57) :
    ∀ (d k : Nat) (b : Bool), k + d = T.length → Evl (fun q => seineref03_Occ.l1 q (bb L) (T.map bb) ((out ++ if b = true ∨ (L.drop i).take (j - i) ∈ T.drop k then [((i : Int), (j : Int))] else []).map toS) (i : Int) ((j + 1 : Nat) : Int)) R →
      Evl (fun q => seineref03_Occ.l2 q (bb L) (T.map bb) (out.map toS) (i : Int) (j : Int) b (k : Int)) R := by
  have hpush : ∀ (b : Bool) (k : Nat), (b = true ∨ (L.drop i).take (j - i) ∈ T.drop k) → (out ++ if b = true ∨ (L.drop i).take (j - i) ∈ T.drop k then [((i : Int), (j : Int))] else []).map toS = out.map toS ++ [(⟨(i : Int), (j : Int)⟩ : S57)] := fun b k h => by rw [if_pos h, List.map_append]; rfl
  have hnone : ∀ (b : Bool) (k : Nat), ¬ (b = true ∨ (L.drop i).take (j - i) ∈ T.drop k) → (out ++ if b = true ∨ (L.drop i).take (j - i) ∈ T.drop k then [((i : Int), (j : Int))] else []).map toS = out.map toS := fun b k h => by rw [if_neg h, List.append_nil]
  intro d
  induction d with
  | zero =>
    intro k b hk h
    have hdr : T.drop k = [] := List.drop_eq_nil_of_le (by omega)
    rw [hdr] at h
    refine h.step fun q => ?_
    simp only [seineref03_Occ.l2, List.length_map]
    rw [if_neg (by omega), w64 (by omega) (by omega)]
    by_cases hb : b = true
    · rw [if_pos hb, if_pos (by omega)]
      have := hpush b k (.inl hb)
      rw [hdr] at this
      rw [this]; push_cast; rfl
    · rw [if_neg hb]
      have := hnone b k (by rw [hdr]; simp [hb])
      rw [hdr] at this
      rw [this]; push_cast; rfl
  | succ d ih =>
    intro k b hk h
    have hkl : k < T.length := by omega
    have hdr : T.drop k = T.getD k [] :: T.drop (k + 1) := by rw [List.drop_eq_getElem_cons hkl]; simp [List.getD_eq_getElem?_getD, hkl]
    by_cases hb : b = true
    · rw [hpush b k (.inl hb)] at h
      refine h.step fun q => ?_
      simp only [seineref03_Occ.l2, List.length_map]
      rw [if_pos (by omega), if_pos hb, if_pos (by omega), w64 (by omega) (by omega)]
      push_cast; rfl
    · obtain rfl : b = false := by simpa using hb
      have hpl : ((L.drop i).take (j - i)).length = j - i := by rw [List.length_take, List.length_drop]; omega
      by_cases hlen : (T.getD k []).length = j - i
      · refine (ih (k + 1) (decide ((L.drop i).take (j - i) = T.getD k [])) (by omega) ?_).step fun q => ?_
        · have : (decide ((L.drop i).take (j - i) = T.getD k []) = true ∨ (L.drop i).take (j - i) ∈ T.drop (k + 1)) ↔ (false = true ∨ (L.drop i).take (j - i) ∈ T.drop k) := by
            rw [hdr, List.mem_cons, decide_eq_true_eq]; simp
          simp only [this]; exact h
        · simp only [seineref03_Occ.l2, List.length_map]
          rw [rdOf_bb T k hkl, bb_size, bb_size, w64 (by omega) (by omega), w64 (by omega) (by omega), if_pos (by omega), if_neg (by simp), if_pos (by omega), if_pos (by omega), if_pos (by omega), if_pos (by omega), if_pos (by omega), Int.toNat_natCast, Int.toNat_natCast, bb_extract, bbeq, w64s k (by omega)]
      · refine (ih (k + 1) false (by omega) ?_).step fun q => ?_
        · have : (false = true ∨ (L.drop i).take (j - i) ∈ T.drop (k + 1)) ↔ (false = true ∨ (L.drop i).take (j - i) ∈ T.drop k) := by
            rw [hdr, List.mem_cons]
            constructor
            · rintro (h | h)
              · exact .inl h
              · exact .inr (.inr h)
            · rintro (h | h | h)
              · exact .inl h
              · exact absurd (by rw [← h, hpl]) hlen
              · exact .inr h
          simp only [this]; exact h
        · simp only [seineref03_Occ.l2, List.length_map]
          rw [rdOf_bb T k hkl, bb_size, w64 (by omega) (by omega), w64 (by omega) (by omega), if_pos (by omega), if_neg (by simp), if_pos (by omega), if_neg (by omega), w64s k (by omega)]
/-- What begins at a place and ends from another one on. -/
def rowFrom (T : List Txt) (L : Txt) (i j : Nat) : List Pr := ((List.range' j (L.length + 1 - j)).filter fun j => decide ((L.drop i).take (j - i) ∈ T)).map fun (j : Nat) => ((i : Int), (j : Int))
theorem rowFrom_step (T : List Txt) (L : Txt) (i j : Nat) (hj : j ≤ L.length) : rowFrom T L i j = (if (L.drop i).take (j - i) ∈ T then [((i : Int), (j : Int))] else []) ++ rowFrom T L i (j + 1) := by
  unfold rowFrom
  rw [show L.length + 1 - j = (L.length + 1 - (j + 1)) + 1 by omega, List.range'_succ, List.filter_cons]
  by_cases h : (L.drop i).take (j - i) ∈ T
  · rw [if_pos h, if_pos (decide_eq_true h)]; rfl
  · rw [if_neg h, if_neg (by simpa using h)]; rfl
theorem rowFrom_end (T : List Txt) (L : Txt) (i j : Nat) (hj : L.length < j) : rowFrom T L i j = [] := by
  unfold rowFrom
  rw [show L.length + 1 - j = 0 by omega]; rfl
theorem refOcc_l1 (T : List Txt) (L : Txt) (hT : T.length ≤ 1000000) (hL : L.length ≤ 1000000) (i : Nat) (R : List S57) :
    ∀ (d j : Nat) (out : List Pr), j + d = L.length + 1 → i < j → out.length + d ≤ 2000000000000 → Evl (fun q => seineref03_Occ.l0 q (bb L) (T.map bb) ((out ++ rowFrom T L i j).map toS) ((i + 1 : Nat) : Int)) R →
      Evl (fun q => seineref03_Occ.l1 q (bb L) (T.map bb) (out.map toS) (i : Int) (j : Int)) R := by
  intro d
  induction d with
  | zero =>
    intro j out hj hij ho h
    rw [rowFrom_end T L i j (by omega), List.append_nil] at h
    refine h.step fun q => ?_
    simp only [seineref03_Occ.l1, bb_size]
    rw [if_neg (by omega), w64 (by omega) (by omega)]
    push_cast; rfl
  | succ d ih =>
    intro j out hj hij ho h
    rw [rowFrom_step T L i j (by omega), ← List.append_assoc] at h
    have h1 := ih (j + 1) (out ++ if (L.drop i).take (j - i) ∈ T then [((i : Int), (j : Int))] else []) (by omega) (by omega) (by rw [List.length_append]; split <;> simp <;> omega) h
    have h2 := refOcc_l2 T L hT hL out i j hij (by omega) (by omega) R T.length 0 false (by omega) (by simpa using h1)
    refine h2.step fun q => ?_
    simp only [seineref03_Occ.l1, bb_size]
    rw [if_pos (by omega)]; rfl
theorem refOcc (T : List Txt) (L : Txt) (hT : T.length ≤ 1000000) (hL : L.length ≤ 1000000) : Evl (fun q => seineref03_Occ.f q (bb L) (T.map bb)) ((occ T L).map toS) := by
  have key : ∀ (d i : Nat), i + d = L.length → Evl (fun q => seineref03_Occ.l0 q (bb L) (T.map bb) ((occTo T L i).map toS) (i : Int)) ((occ T L).map toS) := by
    intro d
    induction d with
    | zero =>
      intro i hi
      obtain rfl : i = L.length := by omega
      refine ⟨1, fun q hq => ?_⟩
      obtain ⟨m, rfl⟩ : ∃ m, q = m + 1 := ⟨q - 1, by omega⟩
      simp only [seineref03_Occ.l0, bb_size]
      rw [if_neg (by omega)]; rfl
    | succ d ih =>
      intro i hi
      have hol := occTo_len T L i
      have hol2 : i * L.length ≤ 1000000 * 1000000 := Nat.mul_le_mul (by omega) hL
      have h := ih (i + 1) (by omega)
      rw [occTo_succ] at h
      have hrow : occRow T L i (L.length - i) = rowFrom T L i (i + 1) := by unfold occRow rowFrom; rw [show L.length + 1 - (i + 1) = L.length - i by omega]
      rw [hrow] at h
      have h1 := refOcc_l1 T L hT hL i _ (L.length - i) (i + 1) (occTo T L i) (by omega) (by omega) (by omega) h
      refine h1.step fun q => ?_
      simp only [seineref03_Occ.l0, bb_size]
      rw [if_pos (by omega), w64 (by omega) (by omega)]
      push_cast; rfl
  have := key L.length 0 (by omega)
  exact this
end Go.Proofs.YtdiljmhikajjiaaGreat
end
section
namespace Go.Proofs.YtdiljmhikajjiaaGreat
open Go.RowKit Seine.Trie Seine.Links Seine.Sparse Go.Proofs.YtdiljmhikajjiaaGreatW.PrintWords Go.Proofs.YtdiljmhikajjiaaGreat.Ref
theorem Evl.out {α : Type} {f : Nat → Option α} {r : α} (h : Evl f r) : ∃ N, ∀ k, N ≤ k → f k = some r := h
theorem refStep (P : List Txt) (hT : Tree P) (c : UInt8) (hP : P.length ≤ 1000000) : ∀ (k : Nat) (s : Txt), s.length = k → s.length ≤ 1000000 → ∀ (n : Nat), n + s.length ≤ 1000000000 →
    Evl (fun q => seineref08_Step.l0 q (P.map bb) (bb s) (c.toNat : Int) (n : Int)) (bb (lng P (s ++ [c])), ((n + looks1 P s c - 1 : Nat) : Int)) := by
  intro k
  induction k using Nat.strongRecOn with
  | _ k ih =>
    intro s hk hs n hn
    have hone : strOfNums [(c.toNat : Int)] = bb [c] := bb_nums [c]
    obtain ⟨N, hN⟩ := (refPlace P (s ++ [c]) (by omega)).out
    have hsz : (bb s).size + (bb [c]).size ≤ 9223372036854775807 := by rw [bb_size, bb_size]; simp; omega
    by_cases hm : s ++ [c] ∈ P
    · refine ⟨N + 1, fun q hq => ?_⟩
      obtain ⟨m, rfl⟩ : ∃ m, q = m + 1 := ⟨q - 1, by omega⟩
      simp only [seineref08_Step.l0, Option.bind_some]
      rw [hone, if_pos hsz, bb_append, hN m (by omega)]
      simp only [Option.bind_some]
      rw [if_pos (place_mem.2 hm), step_hit hT hm, looks1_hit hm, Nat.add_sub_cancel]
    · have hneg : ¬ place P (s ++ [c]) ≥ 0 := by have := place_neg.2 hm; omega
      by_cases hs0 : s = []
      · subst hs0
        refine ⟨N + 1, fun q hq => ?_⟩
        obtain ⟨m, rfl⟩ : ∃ m, q = m + 1 := ⟨q - 1, by omega⟩
        simp only [seineref08_Step.l0, Option.bind_some]
        rw [hone, if_pos hsz, bb_append, hN m (by omega)]
        simp only [Option.bind_some]
        rw [if_neg hneg, if_pos (by rw [bb_toList]), List.nil_append, step_root hT (by simpa using hm), looks1_root, Nat.add_sub_cancel]; rfl
      · obtain ⟨f, hf⟩ := fail_some hT hs0
        obtain ⟨f1, f2, f3, f4⟩ := failN_some hf
        have hrec := ih (s.drop f).length (by rw [List.length_drop]; omega) (s.drop f) rfl (by rw [List.length_drop]; omega) (n + 1) (by rw [List.length_drop]; omega)
        have hlk := looks1_pos P (s.drop f) c
        have hres : (bb (lng P (s ++ [c])), ((n + looks1 P s c - 1 : Nat) : Int)) = (bb (lng P (s.drop f ++ [c])), ((n + 1 + looks1 P (s.drop f) c - 1 : Nat) : Int)) := by
          rw [step_fall hT hm hf, looks1_fall hm hf, show n + (1 + looks1 P (s.drop f) c) - 1 = n + 1 + looks1 P (s.drop f) c - 1 by omega]
        have hl1 : ∀ (d i : Nat), i + d = f → 1 ≤ i → Evl (fun q => seineref08_Step.l1 q (P.map bb) (bb s) (c.toNat : Int) (n : Int) (i : Int)) (bb (lng P (s ++ [c])), ((n + looks1 P s c - 1 : Nat) : Int)) := by
          intro d
          induction d with
          | zero =>
            intro i hi hi1
            obtain rfl : i = f := by omega
            obtain ⟨M, hM⟩ := hrec
            obtain ⟨K, hK⟩ := (refPlace P (s.drop i) (by omega)).out
            refine ⟨M + K + 1, fun q hq => ?_⟩
            obtain ⟨m, rfl⟩ : ∃ m, q = m + 1 := ⟨q - 1, by omega⟩
            have hex : (bb s).extract (i : Int).toNat (bb s).size = bb (s.drop i) := by rw [Int.toNat_natCast, bb_from]
            simp only [seineref08_Step.l1]
            rw [hex, bb_size, if_pos (by omega), if_pos (by omega), hK m (by omega)]
            simp only [Option.bind_some]
            rw [if_neg (by have := place_mem.2 f3; omega), w64s n (by omega), hres]
            exact hM m (by omega)
          | succ d ihd =>
            intro i hi hi1
            obtain ⟨M, hM⟩ := ihd (i + 1) (by omega) (by omega)
            obtain ⟨K, hK⟩ := (refPlace P (s.drop i) (by omega)).out
            refine ⟨M + K + 1, fun q hq => ?_⟩
            obtain ⟨m, rfl⟩ : ∃ m, q = m + 1 := ⟨q - 1, by omega⟩
            have hex : (bb s).extract (i : Int).toNat (bb s).size = bb (s.drop i) := by rw [Int.toNat_natCast, bb_from]
            simp only [seineref08_Step.l1]
            rw [hex, bb_size, if_pos (by omega), if_pos (by omega), hK m (by omega)]
            simp only [Option.bind_some]
            rw [if_pos (place_neg.2 (f4 i hi1 (by omega))), w64s i (by omega)]
            exact hM m (by omega)
        obtain ⟨M, hM⟩ := hl1 (f - 1) 1 (by omega) (by omega)
        refine ⟨M + N + 1, fun q hq => ?_⟩
        obtain ⟨m, rfl⟩ : ∃ m, q = m + 1 := ⟨q - 1, by omega⟩
        simp only [seineref08_Step.l0, Option.bind_some]
        rw [hone, if_pos hsz, bb_append, hN m (by omega)]
        simp only [Option.bind_some]
        rw [if_neg hneg, if_neg (by rw [bb_toList]; exact hs0)]
        exact hM m (by omega)
theorem refStep1 (P : List Txt) (hT : Tree P) (c : UInt8) (hP : P.length ≤ 1000000) (s : Txt) (hs : s.length ≤ 1000000) : Evl (fun q => seineref08_Step.f q (P.map bb) (bb s) (c.toNat : Int)) (bb (lng P (s ++ [c])), (looks1 P s c : Int)) := by
  have := refStep P hT c hP _ s rfl hs 1 (by omega)
  rw [show 1 + looks1 P s c - 1 = looks1 P s c by omega] at this
  exact this
theorem refLooks (P : List Txt) (hT : Tree P) (hP : P.length ≤ 1000000) (L : Txt) (hL : L.length ≤ 1000000) : Evl (fun q => seineref08_Looks.f q (P.map bb) (bb L)) (looksTo P L L.length : Int) := by
  have key : ∀ (d i : Nat), i + d = L.length → Evl (fun q => seineref08_Looks.l0 q (P.map bb) (bb L) (bb (lng P (L.take i))) (looksTo P L i : Int) (i : Int)) (looksTo P L L.length : Int) := by
    intro d
    induction d with
    | zero =>
      intro i hi
      obtain rfl : i = L.length := by omega
      refine ⟨1, fun q hq => ?_⟩
      obtain ⟨m, rfl⟩ : ∃ m, q = m + 1 := ⟨q - 1, by omega⟩
      simp only [seineref08_Looks.l0, bb_size]
      rw [if_neg (by omega)]
    | succ d ih =>
      intro i hi
      have hil : i < L.length := by omega
      have hlen := lng_len hT (L.take i)
      rw [List.length_take] at hlen
      obtain ⟨N, hN⟩ := (refStep1 P hT (L.getD i 0) hP (lng P (L.take i)) (by omega)).out
      obtain ⟨M, hM⟩ := ih (i + 1) (by omega)
      have hc := (looksTo_cost hT L (i + 1) (by omega)).2
      have hsx : looksTo P L (i + 1) = looksTo P L i + looks1 P (lng P (L.take i)) (L.getD i 0) := rfl
      refine ⟨N + M + 1, fun q hq => ?_⟩
      obtain ⟨m, rfl⟩ : ∃ m, q = m + 1 := ⟨q - 1, by omega⟩
      simp only [seineref08_Looks.l0, bb_size]
      rw [if_pos (by omega), if_pos (by omega), bt_bb L i hil, hN m (by omega)]
      simp only [Option.bind_some]
      rw [← lng_step hT, ← take_snoc' L i hil, w64s i (by omega), w64 (by omega) (by omega)]
      have := hM m (by omega)
      rw [hsx] at this
      push_cast at this ⊢
      exact this
  have := key L.length 0 (by omega)
  exact this
end Go.Proofs.YtdiljmhikajjiaaGreat
end
section
namespace Go.Proofs.YtdiljmhikajjiaaGreat
open Go.RowKit Seine.Trie Seine.Eng Seine.Sparse Go.Proofs.YtdiljmhikajjiaaGreatW.PrintWords Go.Proofs.YtdiljmhikajjiaaGreat.Ref
open Seine.Sort (occ put sortP Pr Rise lt occTo_len)
theorem refIn (l : List Txt) (s : Txt) (hl : l.length ≤ 1000000) : Evl (fun k => seineref04_In.f k (l.map bb) (bb s)) (decide (s ∈ l)) := by
  have key : ∀ (d i : Nat), i + d = l.length → Evl (fun k => seineref04_In.l0 k (l.map bb) (bb s) (i : Int)) (decide (s ∈ l.drop i)) := by
    intro d
    induction d with
    | zero =>
      intro i h
      refine ⟨1, fun k hk => ?_⟩
      obtain ⟨m, rfl⟩ : ∃ m, k = m + 1 := ⟨k - 1, by omega⟩
      simp only [seineref04_In.l0, List.length_map]
      rw [if_neg (by omega), List.drop_eq_nil_of_le (by omega)]
      simp
    | succ d ih =>
      intro i h
      have hi : i < l.length := by omega
      have e : l.drop i = l.getD i [] :: l.drop (i + 1) := by
        rw [List.drop_eq_getElem_cons hi]; simp [List.getD_eq_getElem?_getD, hi]
      by_cases he : l.getD i [] = s
      · refine ⟨1, fun k hk => ?_⟩
        obtain ⟨m, rfl⟩ : ∃ m, k = m + 1 := ⟨k - 1, by omega⟩
        simp only [seineref04_In.l0, List.length_map]
        rw [if_pos (by omega), if_pos (by omega), rdOf_bb l i hi, bb_toList, bb_toList, if_pos he, e, he]
        exact congrArg some (decide_eq_true List.mem_cons_self).symm
      · have e2 : decide (s ∈ l.drop i) = decide (s ∈ l.drop (i + 1)) := by
          rw [e, decide_eq_decide, List.mem_cons]
          exact ⟨fun h => h.elim (fun h => absurd h.symm he) id, .inr⟩
        rw [e2]
        refine (ih (i + 1) (by omega)).step fun k => ?_
        simp only [seineref04_In.l0, List.length_map]
        rw [if_pos (by omega), if_pos (by omega), rdOf_bb l i hi, bb_toList, bb_toList, if_neg he, w64 (by omega) (by omega)]
        rfl
  exact key l.length 0 (by omega)
theorem refOf (l : List Txt) (hl : l.length ≤ 1000000) : Evl (fun k => seineref04_Of.f k (l.map bb)) ((pset l).map bb, decide (([] : Txt) ∈ l)) := by
  have key : ∀ (d i : Nat), i + d = l.length → Evl (fun k => seineref04_Of.l0 k (l.map bb) (i : Int) ((pset (l.take i)).map bb) (decide (([] : Txt) ∈ l.take i))) ((pset l).map bb, decide (([] : Txt) ∈ l)) := by
    intro d
    induction d with
    | zero =>
      intro i h
      refine ⟨1, fun k hk => ?_⟩
      obtain ⟨m, rfl⟩ : ∃ m, k = m + 1 := ⟨k - 1, by omega⟩
      simp only [seineref04_Of.l0, List.length_map]
      rw [if_neg (by omega), List.take_of_length_le (by omega)]
    | succ d ih =>
      intro i h
      have hi : i < l.length := by omega
      have hps := pset_take hi
      have hsn := take_snoc_txt l i hi
      have hpl := pset_len (l.take i)
      rw [List.length_take] at hpl
      obtain ⟨N, hN⟩ := (refIn (pset (l.take i)) (l.getD i []) (by omega)).out
      obtain ⟨M, hM⟩ := ih (i + 1) (by omega)
      refine ⟨N + M + 1, fun q hq => ?_⟩
      obtain ⟨m, rfl⟩ : ∃ m, q = m + 1 := ⟨q - 1, by omega⟩
      have hm := hM m (by omega)
      simp only [seineref04_Of.l0, List.length_map]
      rw [if_pos (by omega), if_pos (by omega), rdOf_bb l i hi, bb_toList]
      by_cases he : l.getD i [] = []
      · rw [if_pos he, w64 (by omega) (by omega)]
        rw [hps, hsn, he] at hm
        have e1 : addP (pset (l.take i)) [] = pset (l.take i) := by unfold addP; rw [if_pos (.inl rfl)]
        have e2 : decide (([] : Txt) ∈ l.take i ++ [[]]) = true := by simp
        rw [e1, e2] at hm
        exact hm
      · rw [if_neg he, hN m (by omega)]
        simp only [Option.bind_some]
        have e2 : decide (([] : Txt) ∈ l.take i ++ [l.getD i []]) = decide (([] : Txt) ∈ l.take i) := by
          rw [decide_eq_decide, List.mem_append, List.mem_singleton]
          exact ⟨fun h => h.elim id (fun h => absurd h.symm he), .inl⟩
        rw [hps, hsn, e2] at hm
        by_cases hin : l.getD i [] ∈ pset (l.take i)
        · rw [if_pos (decide_eq_true hin), w64 (by omega) (by omega)]
          have e1 : addP (pset (l.take i)) (l.getD i []) = pset (l.take i) := by unfold addP; rw [if_pos (.inr hin)]
          rw [e1] at hm
          exact hm
        · rw [if_neg (by rw [decide_eq_true_eq]; exact hin), if_pos (by omega), w64 (by omega) (by omega)]
          have e1 : addP (pset (l.take i)) (l.getD i []) = pset (l.take i) ++ [l.getD i []] := by
            unfold addP; rw [if_neg]; rintro (h | h)
            · exact he h
            · exact hin h
          rw [e1, List.map_append] at hm
          exact hm
  have := key l.length 0 (by omega)
  exact this
theorem rd_toS (xs : List Pr) {i : Nat} (h : i < xs.length) : rd_T57 (xs.map toS) (i : Int) = toS (xs.getD i (0, 0)) := by
  unfold rd_T57
  rw [Int.toNat_natCast]
  simp [List.getD_eq_getElem?_getD, h]
theorem refLess (x p : Pr) : seineref03_Less.f x.1 x.2 p.1 p.2 = some (decide (lt x p)) := by
  unfold seineref03_Less.f
  by_cases h1 : x.1 < p.1
  · rw [if_pos h1, decide_eq_true (show lt x p from .inl h1)]
  · rw [if_neg h1]
    by_cases h2 : x.1 = p.1
    · rw [if_pos h2]
      by_cases h3 : x.2 < p.2
      · rw [decide_eq_true h3, decide_eq_true (show lt x p from .inr ⟨h2, h3⟩)]
      · rw [decide_eq_false h3, decide_eq_false (show ¬ lt x p from fun h => h.elim h1 (fun h => h3 h.2))]
    · rw [if_neg h2, decide_eq_false (show ¬ lt x p from fun h => h.elim h1 (fun h => h2 h.1))]
theorem refPut (xs : List Pr) (p : Pr) (hl : xs.length ≤ 1000000) : Evl (fun k => seineref03_Put.f k (xs.map toS) p.1 p.2) ((put xs p).map toS) := by
  have step : ∀ (i : Nat), i < xs.length → xs.drop i = xs.getD i (0, 0) :: xs.drop (i + 1) := fun i hi => by
    rw [List.drop_eq_getElem_cons hi]; simp [List.getD_eq_getElem?_getD, hi]
  have done : ∀ (d i : Nat) (out : List Pr), i + d = xs.length → out.length ≤ i + 1 → Evl (fun k => seineref03_Put.l0 k (xs.map toS) (out.map toS) true (i : Int) p.1 p.2) ((out ++ xs.drop i).map toS) := by
    intro d
    induction d with
    | zero =>
      intro i out h ho
      refine ⟨1, fun k hk => ?_⟩
      obtain ⟨m, rfl⟩ : ∃ m, k = m + 1 := ⟨k - 1, by omega⟩
      simp only [seineref03_Put.l0, List.length_map]
      rw [if_neg (by omega), if_pos (by simp), List.drop_eq_nil_of_le (by omega), List.append_nil]
    | succ d ih =>
      intro i out h ho
      have hi : i < xs.length := by omega
      have := ih (i + 1) (out ++ [xs.getD i (0, 0)]) (by omega) (by simp; omega)
      rw [step i hi]
      rw [List.append_assoc, List.singleton_append] at this
      obtain ⟨M, hM⟩ := this.out
      refine ⟨M + 2, fun q hq => ?_⟩
      obtain ⟨m, rfl⟩ : ∃ m, q = m + 2 := ⟨q - 2, by omega⟩
      have hm := hM m (by omega)
      simp only [seineref03_Put.l0, seineref03_Put.j1, List.length_map]
      rw [if_pos (by omega), if_pos (by simp), if_neg (by simp), if_pos (by omega), if_pos (by omega), if_pos (by omega), rd_toS xs hi, w64 (by omega) (by omega)]
      rw [List.map_append] at hm
      exact hm
  have wait : ∀ (d i : Nat), i + d = xs.length → Evl (fun k => seineref03_Put.l0 k (xs.map toS) ((xs.take i).map toS) false (i : Int) p.1 p.2) ((xs.take i ++ put (xs.drop i) p).map toS) := by
    intro d
    induction d with
    | zero =>
      intro i h
      refine ⟨1, fun k hk => ?_⟩
      obtain ⟨m, rfl⟩ : ∃ m, k = m + 1 := ⟨k - 1, by omega⟩
      simp only [seineref03_Put.l0, List.length_map, List.length_take]
      rw [if_neg (by omega), if_neg (by simp), if_pos (by omega), List.drop_eq_nil_of_le (by omega)]
      rw [List.map_append]
      rfl
    | succ d ih =>
      intro i h
      have hi : i < xs.length := by omega
      have hsn : xs.take (i + 1) = xs.take i ++ [xs.getD i (0, 0)] := by
        rw [List.take_succ_eq_append_getElem hi]; simp [List.getD_eq_getElem?_getD, hi]
      rw [step i hi]
      by_cases hlt : lt (xs.getD i (0, 0)) p
      · have := ih (i + 1) (by omega)
        rw [hsn] at this
        obtain ⟨M, hM⟩ := this.out
        refine ⟨M + 2, fun q hq => ?_⟩
        obtain ⟨m, rfl⟩ : ∃ m, q = m + 2 := ⟨q - 2, by omega⟩
        have hm := hM m (by omega)
        simp only [seineref03_Put.l0, List.length_map]
        rw [if_pos (by omega), if_neg (by simp), if_pos (by omega), rd_toS xs hi]
        show (seineref03_Less.f (xs.getD i (0, 0)).1 (xs.getD i (0, 0)).2 p.1 p.2).bind _ = _
        rw [refLess, decide_eq_true hlt]
        simp only [Option.bind_some, Bool.not_true, seineref03_Put.j1, List.length_map, List.length_take]
        rw [if_neg (by simp), if_pos (by omega), if_pos (by omega), if_pos (by omega), rd_toS xs hi, w64 (by omega) (by omega)]
        unfold put
        rw [if_pos hlt]
        rw [List.map_append, List.append_assoc, List.singleton_append] at hm
        exact hm
      · by_cases he : xs.getD i (0, 0) = p
        · have := done d (i + 1) (xs.take i ++ [xs.getD i (0, 0)]) (by omega) (by simp; omega)
          obtain ⟨M, hM⟩ := this.out
          refine ⟨M + 2, fun q hq => ?_⟩
          obtain ⟨m, rfl⟩ : ∃ m, q = m + 2 := ⟨q - 2, by omega⟩
          have hm := hM m (by omega)
          simp only [seineref03_Put.l0, List.length_map]
          rw [if_pos (by omega), if_neg (by simp), if_pos (by omega), rd_toS xs hi]
          show (seineref03_Less.f (xs.getD i (0, 0)).1 (xs.getD i (0, 0)).2 p.1 p.2).bind _ = _
          rw [refLess, decide_eq_false hlt]
          simp only [Option.bind_some, Bool.not_false, seineref03_Put.j1, List.length_map, List.length_take]
          rw [if_pos (by simp), if_pos (by omega), if_pos (by omega), rd_toS xs hi, if_neg (by show ¬ ((!((xs.getD i (0, 0)).1 == p.1) || !((xs.getD i (0, 0)).2 == p.2)) = true); rw [he]; simp), if_pos (by omega), w64 (by omega) (by omega)]
          unfold put
          rw [if_neg hlt, if_pos he]
          rw [List.map_append, List.append_assoc, List.singleton_append] at hm
          exact hm
        · have := done d (i + 1) ((xs.take i ++ [p]) ++ [xs.getD i (0, 0)]) (by omega) (by simp; omega)
          obtain ⟨M, hM⟩ := this.out
          refine ⟨M + 2, fun q hq => ?_⟩
          obtain ⟨m, rfl⟩ : ∃ m, q = m + 2 := ⟨q - 2, by omega⟩
          have hm := hM m (by omega)
          simp only [seineref03_Put.l0, List.length_map]
          rw [if_pos (by omega), if_neg (by simp), if_pos (by omega), rd_toS xs hi]
          show (seineref03_Less.f (xs.getD i (0, 0)).1 (xs.getD i (0, 0)).2 p.1 p.2).bind _ = _
          rw [refLess, decide_eq_false hlt]
          have hne : (!((xs.getD i (0, 0)).1 == p.1) || !((xs.getD i (0, 0)).2 == p.2)) = true := by
            rw [Prod.ext_iff] at he
            simp only [Bool.or_eq_true, Bool.not_eq_true', beq_eq_false_iff_ne]
            omega
          simp only [Option.bind_some, Bool.not_false, seineref03_Put.j1, List.length_map, List.length_take]
          rw [if_pos (by simp), if_pos (by omega), if_pos (by omega), rd_toS xs hi, if_pos (show (!((toS (xs.getD i (0, 0))).f0 == p.1) || !((toS (xs.getD i (0, 0))).f1 == p.2)) = true from hne), if_pos (by omega), if_pos (by rw [List.length_append, List.length_map, List.length_take]; simp; omega), w64 (by omega) (by omega)]
          unfold put
          rw [if_neg hlt, if_neg he]
          simp only [List.map_append, List.map_cons, List.map_nil, List.append_assoc, List.singleton_append, List.cons_append, List.nil_append] at hm ⊢
          exact hm
  have := wait xs.length 0 (by omega)
  exact this
theorem findE_succ (P : List Txt) (L : Txt) (i : Nat) : sortP (occ P L ++ empties (i + 1)) = put (sortP (occ P L ++ empties i)) ((i : Int), (i : Int)) := by
  rw [empties_succ, ← List.append_assoc]
  unfold sortP
  rw [List.foldl_append]
  rfl
theorem findE_len (P : List Txt) (L : Txt) (i : Nat) : (sortP (occ P L ++ empties i)).length ≤ L.length * L.length + i := by
  have h1 := Seine.Sort.sortP_len (occ P L ++ empties i)
  have h2 : (occ P L).length ≤ L.length * L.length := occTo_len P L L.length
  rw [List.length_append, empties_length] at h1
  omega
theorem refFind (P : List Txt) (e : Bool) (L : Txt) (hP : P.length ≤ 1000000) (hL : L.length ≤ 900) : Evl (fun k => seineref17_Find.f k (P.map bb) e (bb L)) ((if e = true then sortP (occ P L ++ empties (L.length + 1)) else occ P L).map toS) := by
  have hLL : L.length * L.length ≤ 900 * 900 := Nat.mul_le_mul hL hL
  refine Evl.bind (refOcc P L hP (by omega)) ?_
  cases e with
  | false =>
    refine ⟨1, fun k hk => ?_⟩
    obtain ⟨m, rfl⟩ : ∃ m, k = m + 1 := ⟨k - 1, by omega⟩
    simp only [seineref17_Find.l0, bb_size]
    rw [if_pos (by omega)]
    simp
  | true =>
    have key : ∀ (d i : Nat), i + d = L.length + 1 → Evl (fun k => seineref17_Find.l0 k (bb L) ((sortP (occ P L ++ empties i)).map toS) (i : Int) (P.map bb) true) ((sortP (occ P L ++ empties (L.length + 1))).map toS) := by
      intro d
      induction d with
      | zero =>
        intro i h
        obtain rfl : i = L.length + 1 := by omega
        refine ⟨1, fun k hk => ?_⟩
        obtain ⟨m, rfl⟩ : ∃ m, k = m + 1 := ⟨k - 1, by omega⟩
        simp only [seineref17_Find.l0, bb_size]
        rw [if_neg (by omega)]
      | succ d ih =>
        intro i h
        have hn := ih (i + 1) (by omega)
        rw [findE_succ] at hn
        have hl := findE_len P L i
        obtain ⟨N, hN⟩ := (refPut (sortP (occ P L ++ empties i)) ((i : Int), (i : Int)) (by omega)).out
        obtain ⟨M, hM⟩ := hn.out
        refine ⟨N + M + 1, fun q hq => ?_⟩
        obtain ⟨m, rfl⟩ : ∃ m, q = m + 1 := ⟨q - 1, by omega⟩
        simp only [seineref17_Find.l0, bb_size]
        rw [if_pos (by omega), if_pos (by simp), hN m (by omega)]
        simp only [Option.bind_some]
        rw [w64 (by omega) (by omega)]
        have hm := hM m (by omega)
        push_cast at hm
        exact hm
    have h0 := key (L.length + 1) 0 (by omega)
    have e0 : sortP (occ P L ++ empties 0) = occ P L := by
      show sortP (occ P L ++ []) = _
      rw [List.append_nil]
      exact Seine.Sort.sortP_rise (Seine.Sort.rise_occ _ _)
    rw [e0] at h0
    exact h0
theorem refWrong (tag : Int) (l : List Txt) (hl : l.length ≤ 1000) (hs : ∀ t ∈ l, t.length ≤ 60) : Evl (fun k => seineref17_Wrong.f k tag ((pset l).map bb) (decide (([] : Txt) ∈ l))) (wrongF tag l) := by
  have hpl := pset_len l
  have htot : tot (pset l) ≤ 1000000 := by have := short_tot' (pset l) (fun t ht => hs t (mem_pset.1 ht).1); omega
  obtain ⟨N, hN⟩ := (refPaths (pset l) (by omega) htot).out
  refine ⟨N + 2, fun q hq => ?_⟩
  obtain ⟨m, rfl⟩ : ∃ m, q = m + 2 := ⟨q - 2, by omega⟩
  have hm := hN m (by omega)
  unfold seineref17_Wrong.f wrongF
  simp only [seineref17_Wrong.j0, seineref17_Wrong.j1, List.length_map, hm, Option.bind_some]
  by_cases h0 : tag < 0
  · simp [h0]
  · by_cases h3 : 3 < tag
    · simp [h0, h3]
    · have h3' : ¬ tag > 3 := h3
      by_cases h2 : tag = 2
      · subst h2
        by_cases h1 : (pset l).length = 1
        · by_cases he : ([] : Txt) ∈ l <;> simp [h1, he]
        · simp [h1]
          intro h; omega
      · by_cases h1 : tag = 1
        · subst h1
          by_cases h16 : (paths (pset l)).length ≤ 160
          · simp [h16]; omega
          · simp [h16]; omega
        · simp [h0, h3, h2, h1]
theorem refCounts (tag : Int) (l : List Txt) (L : Txt) (hl : l.length ≤ 1000) (hs : ∀ t ∈ l, t.length ≤ 60) (h0 : 0 ≤ tag) (hL : L.length ≤ 900) : Evl (fun k => seineref17_Counts.f k tag ((pset l).map bb) (decide (([] : Txt) ∈ l)) (bb L)) ((scanN tag l L : Int), (lookN tag l L : Int)) := by
  have hpl := pset_len l
  have htot : tot (pset l) ≤ 1000000 := by have := short_tot' (pset l) (fun t ht => hs t (mem_pset.1 ht).1); omega
  have hpa := paths_len (pset l)
  obtain ⟨N, hN⟩ := (refPaths (pset l) (by omega) htot).out
  obtain ⟨M, hM⟩ := (refLooks (paths (pset l)) (paths_tree (pset l)) (by have := short_tot' (pset l) (fun t ht => hs t (mem_pset.1 ht).1); omega) L (by omega)).out
  refine ⟨N + M + 2, fun q hq => ?_⟩
  obtain ⟨m, rfl⟩ : ∃ m, q = m + 1 := ⟨q - 1, by omega⟩
  have hm := hN m (by omega)
  have hm2 := hM m (by omega)
  unfold seineref17_Counts.f scanN lookN
  simp only [seineref17_Counts.j0, List.length_map, hm, Option.bind_some, hm2, bb_size]
  by_cases hp : pset l = []
  · simp [hp]
  · have hp0 : ¬ (((pset l).length : Int) = 0) := by
      have := List.length_pos_iff.2 hp; omega
    rw [if_neg hp0]
    by_cases h1 : 1 < tag
    · simp [h1]
    · by_cases h2 : tag = 1
      · subst h2; simp [hp]
      · simp [h1, h2, hp]
end Go.Proofs.YtdiljmhikajjiaaGreat
end
section
namespace Go.Proofs.YtdiljmhikajjiaaGreat
open Go.RowKit Seine.Trie Seine.Eng Seine.Sparse Go.Proofs.YtdiljmhikajjiaaGreatW.PrintWords Go.Proofs.YtdiljmhikajjiaaGreat.Ref
open Seine.Sort (occ put sortP Pr Rise lt occTo_len)
theorem rof_calls (w : World) (A : Option Addr) (c : Nat) (l : List Txt) (h : KdS w A l) (hc : l.length ≤ c) (hl : l.length ≤ 1000000) :
    Calls Tryz.prog 15 #[.slice A l.length c] w fun e w' => ∃ A' c', e = .returned (.agg #[.slice A' (pset l).length c', .bool (decide (([] : Txt) ∈ l))]) ∧ (pset l).length ≤ c' ∧ KdS w' A' (pset l) ∧ Below w.heap.size w w' := by
  obtain ⟨k, hk⟩ := (refOf l hl).get
  have := seineref04_Of.calls k A c (l.map bb) _ _ w h.row (by rw [List.length_map]; exact hc) hk
  rw [List.length_map] at this
  refine this.mono ?_
  rintro e w' ⟨v, rfl, hR, hb⟩
  obtain ⟨A', c', rfl, hc', hS⟩ := KdS.of_R hR
  exact ⟨A', c', rfl, hc', hS, hb⟩
theorem rwrong_calls (w : World) (tag : Int) (A : Option Addr) (c : Nat) (l : List Txt) (h : KdS w A (pset l)) (hc : (pset l).length ≤ c) (hl : l.length ≤ 1000) (hs : ∀ t ∈ l, t.length ≤ 60) :
    Calls Tryz.prog 16 #[.int .i64 tag, .agg #[.slice A (pset l).length c, .bool (decide (([] : Txt) ∈ l))]] w fun e w' => e = .returned (.int .i64 (wrongF tag l)) ∧ Below w.heap.size w w' := by
  obtain ⟨k, hk⟩ := (refWrong tag l hl hs).get
  have := seineref17_Wrong.calls k tag A c ((pset l).map bb) _ _ w h.row (by rw [List.length_map]; exact hc) hk
  rw [List.length_map] at this
  exact this
theorem rcounts_calls (w : World) (tag : Int) (A : Option Addr) (c : Nat) (l : List Txt) (h : KdS w A (pset l)) (hc : (pset l).length ≤ c) (hl : l.length ≤ 1000) (hs : ∀ t ∈ l, t.length ≤ 60) (h0 : 0 ≤ tag) (L : Txt) (hL : L.length ≤ 900) :
    Calls Tryz.prog 21 #[.int .i64 tag, .agg #[.slice A (pset l).length c, .bool (decide (([] : Txt) ∈ l))], .string (bb L)] w fun e w' => e = .returned (.tuple #[.int .i64 (scanN tag l L : Int), .int .i64 (lookN tag l L : Int)]) ∧ Below w.heap.size w w' := by
  obtain ⟨k, hk⟩ := (refCounts tag l L hl hs h0 hL).get
  have := seineref17_Counts.calls k tag A c ((pset l).map bb) _ (bb L) _ _ w h.row (by rw [List.length_map]; exact hc) hk
  rw [List.length_map] at this
  exact this
theorem rfind_calls (w : World) (A : Option Addr) (c : Nat) (l : List Txt) (h : KdS w A (pset l)) (hc : (pset l).length ≤ c) (hl : l.length ≤ 1000) (L : Txt) (hL : L.length ≤ 900) :
    Calls Tryz.prog 22 #[.agg #[.slice A (pset l).length c, .bool (decide (([] : Txt) ∈ l))], .string (bb L)] w fun e w' => ∃ A' c', e = .returned (.slice A' (findF l L).length c') ∧ (findF l L).length ≤ c' ∧ Prs w' A' (findF l L) ∧ Below w.heap.size w w' := by
  have hpl := pset_len l
  obtain ⟨k, hk⟩ := (refFind (pset l) (decide (([] : Txt) ∈ l)) L (by omega) hL).get
  have e : (if decide (([] : Txt) ∈ l) = true then sortP (occ (pset l) L ++ empties (L.length + 1)) else occ (pset l) L) = findF l L := by
    unfold findF
    rw [occ_pset]
    simp only [decide_eq_true_eq]
  rw [e] at hk
  have := seineref17_Find.calls k A c ((pset l).map bb) _ (bb L) _ w h.row (by rw [List.length_map]; exact hc) hk
  rw [List.length_map] at this
  refine this.mono ?_
  rintro e w' ⟨v, rfl, hR, hb⟩
  obtain ⟨A', c', rfl, hc', hC⟩ := Kd.R_reads hR
  rw [List.length_map] at hc' hC ⊢
  exact ⟨A', c', rfl, hc', prs_of_C hC, hb⟩
end Go.Proofs.YtdiljmhikajjiaaGreat
end
