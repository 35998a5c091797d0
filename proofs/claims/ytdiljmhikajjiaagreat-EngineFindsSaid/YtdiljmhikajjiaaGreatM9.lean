/- Joined texts: Dfa, LinksWalk5, Dfa2, Dfa3, Dfa4, Dfa5. -/
import Derived.Test.YtdiljmhikajjiaaGreatM8
import Derived.Test.YtdiljmhikajjiaaGreatM6
import Derived.WalkSpells
import Derived.Deep.RegionHeld
import Derived.Laws.CopyOwn
import Derived.Laws.OwnMore
import Derived.Deep.DeepCutAuto
import Derived.Scope
set_option linter.unusedVariables false
set_option linter.unusedSimpArgs false
section
namespace Go.Proofs.YtdiljmhikajjiaaGreat
open Go.RowKit Seine.Trie Seine.Dfa
set_option maxRecDepth 100000 in
set_option maxHeartbeats 1600000 in
theorem row_calls (w : World) (g nb cp N m W a b : Nat) (F : UInt8 → Nat) (n : Int) (hm : m ≤ 256) (hW : m + 1 = W) (hC : w.rangeAt g 2 (clsCells F m)) (hg : g < w.heap.size)
    (h259 : w.cell? ⟨g, 259, none⟩ = some (.slice (some ⟨nb, 0, none⟩) N cp)) (hn : n = (a : Int)) (ha : a ≤ 1000000) (hb : a * W = b) (hbN : b + W ≤ N) (hNc : N ≤ cp) (hcp : cp ≤ 1000000000000) :
    Calls Tryz.prog 73 #[.pointer (some ⟨g, 0, none⟩), .int .i64 n] w fun e w' => e = .returned (.slice (some ⟨nb, b, none⟩) W (cp - b)) ∧ Below w.heap.size w w' := by
  subst hn
  have hlen := As.mk (clen_calls w F m hm)
  rw [hW] at hlen
  have hsz := zero_cls.2
  have hmul : (a : Int) * (W : Int) = (b : Int) := by rw [← hb]; push_cast; rfl
  have hW1 : 1 ≤ W := by omega
  have hW2 : W ≤ 257 := by omega
  obtain ⟨C, hCC⟩ : ∃ C, clsCells F m = C := ⟨_, rfl⟩
  have hCs : C.length = 257 := by rw [← hCC]; exact clsCells_length _ _
  have hV : clsV F m = C.toArray := by rw [← hCC]; rfl
  rw [hCC] at hC
  rw [hV] at hlen
  replace hC := As.mk hC
  replace hb := As.mk hb
  replace hW := As.mk hW
  clear hV hCC
  go_enter Tryz.func73, Tryz.ntmps73
  go_wp2_with (first
    | (refine wpList_load_mid (w := w) rfl 103 (.tmp 8) rfl g 2 rfl C _ hC.out Tryz.underlying103 rfl (by rw [hCs]; exact hsz) ?_)
    | (go_at_call 71; refine Calls.mono hlen.out ?_; rintro e w1 ⟨rfl, hb1⟩; have q259 := (hb1.cell (p := ⟨g, 259, none⟩) hg).trans h259; replace hb1 := As.mk hb1))
  rw [show b + W - b = W by omega]
  go_ret
  exact ⟨rfl, hb1.out⟩
end Go.Proofs.YtdiljmhikajjiaaGreat
end
section
namespace Go.Proofs.YtdiljmhikajjiaaGreat
open Go.RowKit Go.Maps Seine.Trie Seine.Links
set_option maxRecDepth 100000 in
set_option maxHeartbeats 400000 in
theorem cloneInts_calls (w : World) (ad : Addr) (c : Nat) (xs : List Int) (h : Ints w (some ad) xs) (hl : xs.length ≤ 1000000) :
    Calls Tryz.prog 91 #[.slice (some ad) xs.length c] w (RetInts w xs) := by
  obtain ⟨n, hn⟩ : ∃ n, xs.length = n := ⟨_, rfl⟩
  rw [hn] at hl ⊢
  have hn := As.mk hn
  have H := As.mk h
  clear h
  obtain ⟨i0, hi, hz0, hz1, hz2⟩ := info_parts info_int
  have hown : As ((w.alloc (.cells #[] 3)).ownsRow w.heap.size 3 1 (.slice (some ⟨w.heap.size, 0, none⟩) 0 0) 0 []) := ⟨ownsRow_of_block (cs := []) (heap_alloc_new w _) rfl (Nat.le_refl _) (Nat.zero_le _)⟩
  have hcells : As (∀ j u, (intVals xs)[j]? = some u → (w.alloc (.cells #[] 3)).cell? (ad.add j) = some u) := ⟨fun j u hj => by
    have hjl : j < (intVals xs).length := (List.getElem?_eq_some_iff.1 hj).1
    obtain ⟨ad2, e2, hc2⟩ := Row.at_ (H.out.alloc (.cells #[] 3)) hjl
    injection e2 with e2
    subst e2
    rw [hc2, ← hj]; exact (List.getElem?_eq_getElem hjl).symm⟩
  have hone : As (∀ u ∈ intVals xs, u.oneCell' = true) := ⟨fun u hu => by obtain ⟨x, _, rfl⟩ := List.mem_map.1 hu; rfl⟩
  have hnl : As ((intVals xs).length = n * 1) := ⟨by rw [intVals_length, hn.out, Nat.mul_one]⟩
  have hnil : ∀ (w : World) (a : Addr) (n c : Nat), (binOp .eql 105 (.slice (some a) n c) (.slice none 0 0)).run Tryz.prog w = .ok (.bool false) w := fun w a n c => Lib.run_eql_slice_nil w _ _ (some a) n c 0 0 Tryz.underlying105
  go_enter Tryz.func91, Tryz.ntmps91
  go_wp2_with (at_builtin
               refine wpList_append_own_at _ rfl (.tmp 5) (.tmp 6) 105 rfl w.heap.size 3 i0 _ 1 8 Tryz.underlying105 hi hz0 hz1 hz2 rfl (by decide) (.slice (some ⟨w.heap.size, 0, none⟩) 0 0) 0 [] rfl hown.out ad n c (intVals xs) rfl hnl.out hcells.out hone.out (by unfold maxLen; omega) (by omega) (by simp) ?_
               intro v' w' h2 h3 h4 h5)
  go_ret
  refine ⟨v', rfl, ?_, ?_⟩
  · unfold OwnInts; rw [hn.out]; simpa using h2
  · exact ((Below.refl _ _).alloc (Nat.le_refl _) _).grown h3 (by simp) (fun k hk => Nat.le_of_eq (Option.some.inj hk))
/-- The nodes' order, by numbers. -/
def orderF (P : List Txt) : List Int := (op P P.length).map (place P)
theorem orderF_length {P : List Txt} (hT : Tree P) : (orderF P).length = P.length := by
  unfold orderF
  rw [List.length_map]
  have h1 := op_len hT P.length
  have h2 := nodup_len hT.nodup (fun x hx => op_all hT _ x rfl hx)
  omega
theorem lorder_calls (w : World) (base g : Nat) (P l : List Txt) (hT : Tree P) (hl : P.length ≤ 1000000) (h : LinksOf w base g P l) :
    Calls Tryz.prog 72 #[.pointer (some ⟨g, 0, none⟩)] w (RetInts w (orderF P)) := by
  obtain ⟨v, q3, q4, hgl, hgb, ho, hne, _⟩ := LinksAt.order h
  have hlen := op_len hT P.length
  have hpos : 0 < (op P P.length).length := (List.getElem?_eq_some_iff.1 (op_root P P.length)).1
  have hoi : OwnInts w base v (orderF P) := by unfold OwnInts orderF; rw [List.length_map]; simpa [intVals, intCells, Function.comp_def] using ho
  have hol : (orderF P).length = (op P P.length).length := by unfold orderF; rw [List.length_map]
  obtain ⟨b, cp, rfl, _, _⟩ := hoi.form (by omega)
  have hcl := As.mk (cloneInts_calls w ⟨b, 0, none⟩ cp (orderF P) (Row.of_own hoi) (by omega))
  clear hoi ho hne hol hpos hlen
  go_enter Tryz.func72, Tryz.ntmps72
  go_wp2_with (go_at_call 91; refine hcl.out.mono ?_; rintro e w' ⟨v, rfl, ho2, hb2⟩)
  go_ret
  exact ⟨v, rfl, ho2, hb2⟩
end Go.Proofs.YtdiljmhikajjiaaGreat
end
section
namespace Go.Proofs.YtdiljmhikajjiaaGreat
open Go.RowKit Seine.Trie Seine.Dfa
/-- What `build` writes: an array's values from a place on. -/
theorem fold_get (o : Nat) : ∀ (L : List Value) (k : Nat) (Z : Array Value) (i : Nat), o + k + L.length ≤ Z.size →
    ((L.zipIdx k).foldl (fun cs x => cs.setIfInBounds (o + x.2) x.1) Z)[i]? = if o + k ≤ i ∧ i < o + k + L.length then L[i - (o + k)]? else Z[i]?
  | [], k, Z, i, h => by
    rw [if_neg (by simp)]; rfl
  | v :: r, k, Z, i, h => by
    rw [List.zipIdx_cons, List.foldl_cons, fold_get o r (k + 1) _ i (by simp at h ⊢; omega)]
    simp only [List.length_cons] at h ⊢
    by_cases h1 : o + (k + 1) ≤ i ∧ i < o + (k + 1) + r.length
    · rw [if_pos h1, if_pos (by omega), show i - (o + k) = (i - (o + (k + 1))) + 1 by omega, List.getElem?_cons_succ]
    · rw [if_neg h1]
      by_cases h2 : i = o + k
      · subst h2
        rw [if_pos (by omega), Array.getElem?_setIfInBounds_self_of_lt (by omega)]; simp
      · rw [if_neg (by omega), Array.getElem?_setIfInBounds_ne (by omega)]
theorem fold_arr (o n : Nat) (C Z : Array Value) (hn : C.size = n) (i : Nat) (h : o + n ≤ Z.size) :
    (Array.foldl (fun cs x => cs.setIfInBounds (o + x.2) x.1) Z C.zipIdx 0 n)[i]? = if o ≤ i ∧ i < o + n then C[i - o]? else Z[i]? := by
  subst hn
  have := fold_get o C.toList 0 Z i (by simpa using h)
  simp only [Nat.add_zero, Array.length_toList, Array.getElem?_toList] at this
  rw [← this, ← Array.toList_zipIdx, Array.foldl_toList]
  simp
/-- A table of n rows of W numbers. -/
def tabL (G : Nat → Nat → Int) (n W : Nat) : List Value := (List.range (n * W)).map fun i => .int .i64 (G (i / W) (i % W))
theorem tabL_length (G : Nat → Nat → Int) (n W : Nat) : (tabL G n W).length = n * W := by simp [tabL]
theorem tabL_lt {n W a k : Nat} (ha : a < n) (hk : k < W) : a * W + k < n * W := by
  have h1 : (a + 1) * W ≤ n * W := Nat.mul_le_mul_right _ ha
  rw [Nat.succ_mul] at h1; omega
theorem tabL_at (G : Nat → Nat → Int) {n W a k : Nat} (ha : a < n) (hk : k < W) : (tabL G n W)[a * W + k]? = some (.int .i64 (G a k)) := by
  unfold tabL
  rw [List.getElem?_map, List.getElem?_range (tabL_lt ha hk)]
  have h1 : (a * W + k) / W = a := by rw [Nat.mul_comm, Nat.mul_add_div (by omega), Nat.div_eq_of_lt hk]; rfl
  have h2 : (a * W + k) % W = k := by rw [Nat.mul_comm, Nat.mul_add_mod, Nat.mod_eq_of_lt hk]
  simp [h1, h2]
/-- The block of a table machine: its trie, its links, its classes, its rows. -/
def DfaBlk (w : World) (g tg lg : Nat) (F : UInt8 → Nat) (m : Nat) (v : Value) : Prop :=
  ∃ D : Array Value, w.heap[g]? = some (.cells D 107 (0, 0)) ∧ D.size = 260 ∧ D[0]? = some (.pointer (some ⟨tg, 0, none⟩)) ∧ D[1]? = some (.pointer (some ⟨lg, 0, none⟩)) ∧ (∀ i u, (clsCells F m)[i]? = some u → D[2 + i]? = some u) ∧ D[259]? = some v
theorem DfaBlk.range {w : World} {g tg lg : Nat} {F : UInt8 → Nat} {m : Nat} {v : Value} (h : DfaBlk w g tg lg F m v) : w.rangeAt g 2 (clsCells F m) := fun i u hu => by
  obtain ⟨D, h1, _, _, _, h5, _⟩ := h
  rw [cell_of_blk h1]; exact h5 i u hu
theorem DfaBlk.cells {w : World} {g tg lg : Nat} {F : UInt8 → Nat} {m : Nat} {v : Value} (h : DfaBlk w g tg lg F m v) :
    w.cell? ⟨g, 0, none⟩ = some (.pointer (some ⟨tg, 0, none⟩)) ∧ w.cell? ⟨g, 1, none⟩ = some (.pointer (some ⟨lg, 0, none⟩)) ∧ w.cell? ⟨g, 259, none⟩ = some v := by
  obtain ⟨D, h1, _, h3, h4, _, h6⟩ := h
  exact ⟨by rw [cell_of_blk h1]; exact h3, by rw [cell_of_blk h1]; exact h4, by rw [cell_of_blk h1]; exact h6⟩
theorem DfaBlk.below {w w' : World} {g tg lg : Nat} {F : UInt8 → Nat} {m : Nat} {v : Value} (h : DfaBlk w g tg lg F m v) (hb : Below w.heap.size w w') : DfaBlk w' g tg lg F m v := by
  obtain ⟨D, h1, h2⟩ := h
  exact ⟨D, blkBelow hb h1, h2⟩
end Go.Proofs.YtdiljmhikajjiaaGreat
end
section
namespace Go.Proofs.YtdiljmhikajjiaaGreat
open Go.RowKit Seine.Trie Seine.Dfa Seine.Links
/-- What a state's row holds where the rows of `done` are made. -/
def gridF (P l : List Txt) (done : List Txt) (a k : Nat) : Int := match P[a]? with | some s => if s ∈ done then rowF P l s k else 0 | none => 0
theorem gridF_nil (P l : List Txt) : gridF P l [] = fun _ _ => 0 := by
  funext a k; unfold gridF; split <;> simp
theorem gridF_same (P l : List Txt) (done done' : List Txt) (h : ∀ x, x ∈ done ↔ x ∈ done') : gridF P l done = gridF P l done' := by
  funext a k; unfold gridF; split
  · simp only [h]
  · rfl
theorem gridF_snoc (P l : List Txt) (done : List Txt) {a : Nat} {s : Txt} (ha : P[a]? = some s) (hn : P.Nodup) (b k : Nat) :
    gridF P l (done ++ [s]) b k = if b = a then rowF P l s k else gridF P l done b k := by
  unfold gridF
  by_cases h : b = a
  · subst h; rw [if_pos rfl, ha]; simp
  · rw [if_neg h]
    cases hb : P[b]? with
    | none => rfl
    | some t =>
      have hts : t ≠ s := fun e => h (by
        subst e
        obtain ⟨ha1, ha2⟩ := List.getElem?_eq_some_iff.1 ha
        obtain ⟨hb1, hb2⟩ := List.getElem?_eq_some_iff.1 hb
        exact (List.getElem_inj hn).1 (hb2.trans ha2.symm))
      simp [hts]
/-- A grid with one row changed. -/
def updF (G : Nat → Nat → Int) (a : Nat) (R : Nat → Int) (b k : Nat) : Int := if b = a then R k else G b k
theorem updF_same (G : Nat → Nat → Int) (a : Nat) : updF G a (G a) = G := by
  funext b k; unfold updF; by_cases h : b = a
  · subst h; rw [if_pos rfl]
  · rw [if_neg h]
theorem tab_get (G : Nat → Nat → Int) {n W i : Nat} (hW : 0 < W) (h : i < n * W) : (tabL G n W)[i]? = some (.int .i64 (G (i / W) (i % W))) := by
  have h1 : i % W < W := Nat.mod_lt _ hW
  have h2 : i / W < n := by rw [Nat.div_lt_iff_lt_mul hW]; exact h
  have := tabL_at G h2 h1
  rwa [Nat.div_add_mod'] at this
theorem tab_none (G : Nat → Nat → Int) {n W i : Nat} (h : n * W ≤ i) : (tabL G n W)[i]? = none := List.getElem?_eq_none (by rw [tabL_length]; exact h)
theorem row_of {n W i a : Nat} (hW : 0 < W) (h1 : a * W ≤ i) (h2 : i < a * W + W) : i / W = a ∧ i % W = i - a * W := by
  obtain ⟨k, rfl⟩ : ∃ k, i = a * W + k := ⟨i - a * W, by omega⟩
  have hk : k < W := by omega
  refine ⟨?_, ?_⟩
  · rw [Nat.mul_comm, Nat.mul_add_div (by omega), Nat.div_eq_of_lt hk]; rfl
  · rw [Nat.mul_comm a W, Nat.mul_add_mod, Nat.mod_eq_of_lt hk]; omega
theorem tab_set (G : Nat → Nat → Int) {n W a k : Nat} (ha : a < n) (hk : k < W) (R R' : Nat → Int) (x : Int) (h : ∀ j, R' j = if j = k then x else R j) :
    (tabL (updF G a R) n W).toArray.setIfInBounds (a * W + k) (.int .i64 x) = (tabL (updF G a R') n W).toArray := by
  apply Array.toList_inj.1
  rw [Array.toList_setIfInBounds]
  apply List.ext_getElem?
  intro i
  have hW : 0 < W := by omega
  have hlt := tabL_lt ha hk
  show ((tabL (updF G a R) n W).set (a * W + k) (.int .i64 x))[i]? = (tabL (updF G a R') n W)[i]?
  rw [List.getElem?_set]
  by_cases hi : i < n * W
  · rw [tab_get _ hW hi, tab_get _ hW hi]
    by_cases e : a * W + k = i
    · subst e
      obtain ⟨e1, e2⟩ := row_of (n := n) (i := a * W + k) (a := a) hW (by omega) (by omega)
      rw [if_pos rfl, if_pos (by rw [tabL_length]; exact hlt), e1, e2]
      unfold updF
      rw [if_pos rfl, h, if_pos (by omega)]
    · rw [if_neg e]
      unfold updF
      by_cases hia : i / W = a
      · rw [if_pos hia, if_pos hia, h, if_neg (fun c => e (by rw [← c, ← hia, Nat.div_add_mod']))]
      · rw [if_neg hia, if_neg hia]
  · rw [tab_none _ (by omega), tab_none _ (by omega), if_neg (by omega)]
def rowVals (R : Nat → Int) (W : Nat) : List Value := (List.range W).map fun k => .int .i64 (R k)
theorem rowVals_length (R : Nat → Int) (W : Nat) : (rowVals R W).length = W := by simp [rowVals]
theorem rowVals_get (R : Nat → Int) {W k : Nat} (h : k < W) : (rowVals R W)[k]? = some (.int .i64 (R k)) := by
  unfold rowVals; rw [List.getElem?_map, List.getElem?_range h]; rfl
theorem tab_splice (G : Nat → Nat → Int) {n W a : Nat} (ha : a < n) (hW : 0 < W) (R : Nat → Int) : splice (tabL G n W) (a * W) (rowVals R W) = tabL (updF G a R) n W := by
  have hlt : a * W + W ≤ n * W := by rw [← Nat.succ_mul]; exact Nat.mul_le_mul_right _ ha
  unfold splice
  rw [rowVals_length]
  apply List.ext_getElem?
  intro i
  have hl1 : ((tabL G n W).take (a * W)).length = a * W := by rw [List.length_take, tabL_length]; omega
  by_cases h1 : i < a * W
  · rw [List.getElem?_append_left (by omega), List.getElem?_take_of_lt h1, tab_get _ hW (by omega), tab_get _ hW (by omega)]
    unfold updF
    rw [if_neg]
    intro e
    have := Nat.div_lt_iff_lt_mul hW |>.2 h1
    omega
  · rw [List.getElem?_append_right (by omega), hl1]
    by_cases h2 : i < a * W + W
    · obtain ⟨e1, e2⟩ := row_of (n := n) (i := i) (a := a) hW (by omega) h2
      rw [List.getElem?_append_left (by rw [rowVals_length]; omega), rowVals_get _ (by omega), tab_get _ hW (by omega), e1, e2]
      unfold updF
      rw [if_pos rfl]
    · rw [List.getElem?_append_right (by rw [rowVals_length]; omega), rowVals_length, List.getElem?_drop, show a * W + W + (i - a * W - W) = i by omega]
      by_cases h3 : i < n * W
      · rw [tab_get _ hW h3, tab_get _ hW h3]
        unfold updF
        rw [if_neg]
        intro e
        have h4 : (a + 1) * W ≤ i := by rw [Nat.succ_mul]; omega
        have := (Nat.le_div_iff_mul_le hW).2 h4
        omega
      · rw [tab_none _ (by omega), tab_none _ (by omega)]
theorem gridF_done (P l done : List Txt) {a : Nat} {s : Txt} (ha : P[a]? = some s) (hn : P.Nodup) : gridF P l (done ++ [s]) = updF (gridF P l done) a (rowF P l s) := by
  funext b k; rw [gridF_snoc P l done ha hn]; rfl
theorem gridF_in (P l done : List Txt) {a : Nat} {s : Txt} (ha : P[a]? = some s) (hs : s ∈ done) : gridF P l done a = rowF P l s := by
  funext k; unfold gridF; rw [ha]; simp [hs]
theorem gridF_out (P l done : List Txt) {a : Nat} {s : Txt} (ha : P[a]? = some s) (hs : s ∉ done) : gridF P l done a = fun _ => 0 := by
  funext k; unfold gridF; rw [ha]; simp [hs]
theorem order_before {P : List Txt} (hT : Tree P) {i : Nat} {s x : Txt} (h : (op P P.length)[i]? = some s) (hx : x ∈ P) (hl : x.length < s.length) : x ∈ (op P P.length).take i := by
  have hi := (List.getElem?_eq_some_iff.1 h).1
  have hil : i < P.length := Nat.lt_of_lt_of_le hi (op_len hT _)
  have h2 := op_back (Nat.le_of_lt hil) h (op_long (Nat.le_of_lt hil) hi)
  obtain ⟨j, hj, e⟩ := op_before hT i h2 x hx hl
  have e2 := op_get (Nat.le_of_lt hil) e
  exact List.mem_of_getElem? (by rw [List.getElem?_take_of_lt hj]; exact e2)
theorem order_new {P : List Txt} {i n : Nat} {s : Txt} (h : (op P n)[i]? = some s) : s ∉ (op P n).take i := fun hm => by
  obtain ⟨j, hj, e⟩ := List.mem_iff_getElem.1 hm
  rw [List.length_take] at hj
  rw [List.getElem_take] at e
  have := nodup_get (op_nodup P n) (i := j) (j := i) (x := s) (by rw [List.getElem?_eq_getElem (by omega), e]) h
  omega
theorem gridF_zero (P l : List Txt) : gridF P l ((op P P.length).take 0) = fun _ _ => 0 := by rw [List.take_zero]; exact gridF_nil P l
theorem tab_zero (n W : Nat) : tabL (fun _ _ => 0) n W = List.replicate (n * W) (.int .i64 0) := by
  unfold tabL
  apply List.ext_getElem?
  intro i
  by_cases h : i < n * W
  · rw [List.getElem?_map, List.getElem?_range h, List.getElem?_replicate, if_pos h]; rfl
  · rw [List.getElem?_eq_none (by simp; omega), List.getElem?_eq_none (by simp; omega)]
theorem DfaBlk.set {w : World} {g tg lg : Nat} {F : UInt8 → Nat} {m : Nat} {v : Value} (h : DfaBlk w g tg lg F m v) (u : Value) : DfaBlk (w.setCell ⟨g, 259, none⟩ u) g tg lg F m u := by
  obtain ⟨D, h1, h2, h3, h4, h5, h6⟩ := h
  refine ⟨_, blk_set h1 259 u, by simpa using h2, ?_, ?_, fun i x hx => ?_, ?_⟩
  · rw [Array.getElem?_setIfInBounds_ne (by omega)]; exact h3
  · rw [Array.getElem?_setIfInBounds_ne (by omega)]; exact h4
  · have := (List.getElem?_eq_some_iff.1 hx).1
    rw [clsCells_length] at this
    rw [Array.getElem?_setIfInBounds_ne (by omega)]; exact h5 i x hx
  · rw [Array.getElem?_setIfInBounds_self_of_lt (by omega)]
theorem DfaBlk.keep {S : Nat → Prop} {w w' : World} {g tg lg : Nat} {F : UInt8 → Nat} {m : Nat} {v : Value} (h : DfaBlk w g tg lg F m v) (hk : Keeps S w w') (hS : ¬ S g) : DfaBlk w' g tg lg F m v := by
  obtain ⟨D, h1, h2⟩ := h
  exact ⟨D, blk_keep h1 hk hS, h2⟩
theorem DfaBlk.size {w : World} {g tg lg : Nat} {F : UInt8 → Nat} {m : Nat} {v : Value} (h : DfaBlk w g tg lg F m v) : w.heap.size > g := by
  obtain ⟨D, h1, h2⟩ := h
  exact block_lt h1
theorem keepsRow (w : World) (g : Nat) (cs : Array Value) : Keeps (fun k => k = g) w (w.setRow g cs) := ⟨rfl, rfl, rfl, by simp [World.setRow], fun i hi hn => setRow_other w g i cs hn⟩
end Go.Proofs.YtdiljmhikajjiaaGreat
end
section
namespace Go.Proofs.YtdiljmhikajjiaaGreat
open Go.RowKit Seine.Trie Seine.Dfa Seine.Links
open Go in
theorem take_lit {P : Program} {l : List Oper} {Q : Exit → Act → World → Prop} {md : Region.Mode} {S : World → Prop} (i : Nat) {oi : Oper} {v : Value} {fuel : Nat} {listed : Array Bool} {a : Act} {w : World} (hi : (l.drop i).head? = some oi)
    (hs : Region.noSelect l.toArray = true) (hf : Region.free md l.toArray listed i = true) (hr : (Region.ready md l.toArray listed).contains i = true)
    (hQ : ∀ c a w, Q (.panic c) (a.put oi.dst v) w → Q (.panic c) a w) (hy : YieldsIf P l.toArray S oi v a) (hS : S w)
    (h : wpAnyH P md l.toArray Q S fuel (listed.setIfInBounds i true) (a.put oi.dst v) w) : wpAnyH P md l.toArray Q S (fuel + 1) listed a w :=
  wpAnyH_take (by rw [List.getElem?_toArray, ← hi, List.head?_drop]) hs hf hr hQ hy hS h
theorem copy_src {w : World} {nb n W f b j : Nat} {G : Nat → Nat → Int} {v : Value} (h : w.heap[nb]? = some (.cells (tabL G n W).toArray 3 (0, 0))) (hf : f < n) (hb : f * W = b) (hj : (rowVals (G f) W)[j]? = some v) : w.cell? ((⟨nb, b, none⟩ : Addr).add j) = some v := by
  have hjl := (List.getElem?_eq_some_iff.1 hj).1
  rw [rowVals_length] at hjl
  rw [rowVals_get _ hjl] at hj
  rw [Addr.add_mid, cell_of_blk h, ← hb, List.getElem?_toArray, tabL_at G hf hjl, hj]
set_option maxRecDepth 100000 in
set_option maxHeartbeats 1600000 in
theorem fill_calls (w : World) (base lb g tg lg : Nat) (P l : List Txt) (F : UInt8 → Nat) (m W n : Nat) (ht : TrieAt w base tg P (place l)) (hb : DfaBlk w g tg lg F m (.slice none 0 0)) (hm : m ≤ 256) (hW : m + 1 = W) (hn : P.length = n) (hn2 : n ≤ 160) (hlk : LinksOf w lb lg P l) (hl : P.length ≤ 1000000) (hPl : paths l = P) (hF : ∀ c, F c = clsF l c) (hmw : (listTo (stands l) 256).length = m) :
    Calls Tryz.prog 47 #[.pointer (some ⟨g, 0, none⟩)] w fun e w' => e = .returned (.tuple #[]) ∧ ∃ nb, w.heap.size ≤ nb ∧ w'.heap[nb]? = some (.cells (tabL (gridF P l P) n W).toArray 3 (0, 0)) ∧ DfaBlk w' g tg lg F m (.slice (some ⟨nb, 0, none⟩) (n * W) (n * W)) ∧ Keeps (fun k => k = g) w w' := by
  have hT0 := As.mk ht
  have hTr := As.mk ht.tree
  have hnd := As.mk (fun v (hv : Below w.heap.size w v) => nodes_calls v base tg P (place l) (ht.below hv))
  have hlen := As.mk (fun v => clen_calls v F m hm)
  rw [hW] at hlen
  rw [hn] at hnd
  obtain ⟨c0, c1, c2⟩ := hb.cells
  have hr := As.mk hb.range
  have hsz := zero_cls.2
  obtain ⟨C, hCC⟩ : ∃ C, clsCells F m = C := ⟨_, rfl⟩
  have hCs : C.length = 257 := by rw [← hCC]; exact clsCells_length _ _
  have hV : clsV F m = C.toArray := by rw [← hCC]; rfl
  rw [hCC] at hr
  rw [hV] at hlen
  have hglt := As.mk (World.block_lt_of_cell? w _ c0)
  have hrC : ∀ v, Below w.heap.size w v → v.rangeAt g 2 C := fun v hv j u hu => (hv.cell (p := ⟨g, 2 + j, none⟩) hglt.out).trans (hr.out j u hu)
  have hg0 : ∀ v, Below w.heap.size w v → v.cell? ⟨g, 0, none⟩ = some (.pointer (some ⟨tg, 0, none⟩)) := fun v hv => (hv.cell (p := ⟨g, 0, none⟩) hglt.out).trans c0
  replace hrC := As.mk hrC
  obtain ⟨N, hN⟩ : ∃ N, n * W = N := ⟨_, rfl⟩
  have hNb : N ≤ 50000 := by rw [← hN]; exact Nat.le_trans (Nat.mul_le_mul hn2 (by omega : W ≤ 257)) (by decide)
  obtain ⟨Z, hZ, hmk⟩ := make_ints N (by omega)
  have hmul : (n : Int) * (W : Int) = (N : Int) := by rw [← hN]; push_cast; rfl
  have hwN : IntKind.i64.wrap (N : Int) = (N : Int) := by rw [IntKind.wrap_i64]; omega
  replace hN := As.mk hN
  replace hZ := As.mk hZ
  have hw0 : Below w.heap.size w w.drew := (Below.refl _ _).drew
  replace hsz := As.mk hsz
  replace hCC := As.mk hCC
  clear hV c0
  go_enter Tryz.func47, Tryz.ntmps47
  refine wp_scope_straight ?_
  go_upto_region 0 with fail
  go_cut [9] (fun v9 wx => v9 = .pointer (some ⟨g, 0, none⟩) ∧ ∃ nb, As (w.heap.size ≤ nb) ∧ As (wx.heap[nb]? = some (.cells (tabL (fun _ _ => 0) n W).toArray 3 (0, 0))) ∧ As (DfaBlk wx g tg lg F m (.slice (some ⟨nb, 0, none⟩) (n * W) (n * W))) ∧ As (Keeps (fun k => k = g) w wx))
  case first =>
    refine wp_region_held_drew (S := fun v => Keeps (fun k => k = g) w v ∧ v.cell? ⟨g, 0, none⟩ = some (.pointer (some ⟨tg, 0, none⟩)) ∧ v.rangeAt g 2 C) (by kernel_rfl) ⟨Keeps.of_below hw0 _, hg0 _ hw0, hrC.out _ hw0⟩ (fun hHeld => ?_)
    refine take_lit 0 (v := ?_) rfl (by kernel_rfl) (by kernel_rfl) (by kernel_rfl) (fun _ _ _ h => h) (Or.inl ⟨by rfl, ?_⟩) (by assumption) ?_
    rotate_left 1
    · (intro w hSw; (try dsimp only at hSw); first | (go_simp; done) | (go_simp; with_reducible rfl))
    (simp only [Act.put, List.setIfInBounds_toArray, List.set_cons_zero, List.set_cons_succ])
    refine take_lit 1 (v := ?_) rfl (by kernel_rfl) (by kernel_rfl) (by kernel_rfl) (fun _ _ _ h => h) (Or.inl ⟨by rfl, ?_⟩) (by assumption) ?_
    rotate_left 1
    · (intro w hSw; (try dsimp only at hSw); first | (go_simp; done) | (go_simp; with_reducible rfl))
    (simp only [Act.put, List.setIfInBounds_toArray, List.set_cons_zero, List.set_cons_succ])
    refine take_lit 2 (v := ?_) rfl (by kernel_rfl) (by kernel_rfl) (by kernel_rfl) (fun _ _ _ h => h) (Or.inl ⟨by rfl, ?_⟩) (by assumption) ?_
    rotate_left 1
    · (intro w hSw; (try dsimp only at hSw); first | (go_simp; done) | (go_simp; with_reducible rfl))
    (simp only [Act.put, List.setIfInBounds_toArray, List.set_cons_zero, List.set_cons_succ])
    refine take_lit 3 (v := ?_) rfl (by kernel_rfl) (by kernel_rfl) (by kernel_rfl) (fun _ _ _ h => h) (Or.inl ⟨by rfl, ?_⟩) (by assumption) ?_
    rotate_left 1
    · (intro w hSw; (try dsimp only at hSw); first | (go_simp; done) | (go_simp; with_reducible rfl))
    (simp only [Act.put, List.setIfInBounds_toArray, List.set_cons_zero, List.set_cons_succ])
    refine take_lit 4 (v := ?_) rfl (by kernel_rfl) (by kernel_rfl) (by kernel_rfl) (fun _ _ _ h => h) (Or.inl ⟨by rfl, ?_⟩) (by assumption) ?_
    rotate_left 1
    · (intro w hSw; (try dsimp only at hSw); first | (go_simp; done) | (go_simp; with_reducible rfl))
    (simp only [Act.put, List.setIfInBounds_toArray, List.set_cons_zero, List.set_cons_succ])
    refine take_lit 6 (v := ?_) rfl (by kernel_rfl) (by kernel_rfl) (by kernel_rfl) (fun _ _ _ h => h) (Or.inl ⟨by rfl, ?_⟩) (by assumption) ?_
    rotate_left 1
    · (intro w hSw; (try dsimp only at hSw); first | (go_simp; done) | (go_simp; with_reducible rfl))
    (simp only [Act.put, List.setIfInBounds_toArray, List.set_cons_zero, List.set_cons_succ])
    refine take_lit 7 (v := ?_) rfl (by kernel_rfl) (by kernel_rfl) (by kernel_rfl) (fun _ _ _ h => h) (Or.inl ⟨by rfl, ?_⟩) (by assumption) ?_
    rotate_left 1
    · (intro w hSw; (try dsimp only at hSw); first | (go_simp; done) | (go_simp; with_reducible rfl))
    (simp only [Act.put, List.setIfInBounds_toArray, List.set_cons_zero, List.set_cons_succ])
    refine take_lit 8 (v := ?_) rfl (by kernel_rfl) (by kernel_rfl) (by kernel_rfl) (fun _ _ _ h => h) (Or.inl ⟨by rfl, ?_⟩) (by assumption) ?_
    rotate_left 1
    · (intro w hSw; (try dsimp only at hSw); first | (go_simp; done) | (go_simp; with_reducible rfl))
    (simp only [Act.put, List.setIfInBounds_toArray, List.set_cons_zero, List.set_cons_succ])
    refine take_lit 9 rfl (by kernel_rfl) (by kernel_rfl) (by kernel_rfl) (fun _ _ _ h => h) (yieldsIf_load_mid (by rfl) _ _ rfl _ _ rfl C _ (fun v hv => hv.2.2) Tryz.underlying103 rfl (by rw [hCs]; exact hsz.out)) (by assumption) ?_
    (simp only [Act.put, List.setIfInBounds_toArray, List.set_cons_zero, List.set_cons_succ])
    refine wpAnyH_ready (rs := [5]) (by kernel_rfl) (by simp) ?_
    refine AllReadyH.cons rfl (fun K hK => ?_) AllReadyH.nil
    go_simp
    go_wp2_with (go_at_call 43; refine Calls.mono (hnd.out _ hw0) ?_; rintro e w' ⟨rfl, rfl⟩)
    refine hK.out _ _ hHeld (fun hHeld => ?_)
    clear hK K
    refine wpAnyH_ready (rs := [10]) (by kernel_rfl) (by simp) ?_
    refine AllReadyH.cons rfl (fun K hK => ?_) AllReadyH.nil
    go_simp
    go_wp2_with (go_at_call 71; refine Calls.mono (hlen.out _) ?_; rintro e w1 ⟨rfl, hbx⟩)
    have hB1 : Below w.heap.size w w1 := belowNext hw0 hbx
    refine hK.out _ _ ⟨Keeps.of_below hB1 _, hg0 _ hB1, hrC.out _ hB1⟩ (fun hHeld => ?_)
    clear hK K
    refine take_lit 11 (v := ?_) rfl (by kernel_rfl) (by kernel_rfl) (by kernel_rfl) (fun _ _ _ h => h) (Or.inl ⟨by rfl, ?_⟩) (by assumption) ?_
    rotate_left 1
    · (intro w hSw; (try dsimp only at hSw); first | (go_simp; done) | (go_simp; with_reducible rfl))
    (simp only [Act.put, List.setIfInBounds_toArray, List.set_cons_zero, List.set_cons_succ])
    refine wpAnyH_ready (rs := [12]) (by kernel_rfl) (by simp) ?_
    refine AllReadyH.cons rfl (fun K hK => ?_) AllReadyH.nil
    go_simp
    have ht2 := heap_alloc_new w1 (.cells Z.toArray 3)
    have hs1 := hB1.size
    have hB2 : Below w.heap.size w (w1.alloc (.cells Z.toArray 3)) := hB1.alloc hs1 _
    have hnb : w.heap.size ≤ w1.heap.size := hs1
    obtain ⟨nb, hnbe⟩ : ∃ k, w1.heap.size = k := ⟨_, rfl⟩
    rw [hnbe] at ht2 hnb ⊢
    obtain ⟨w2, hw2⟩ : ∃ v, w1.alloc (.cells Z.toArray 3) = v := ⟨_, rfl⟩
    rw [hw2] at hB2 ht2 ⊢
    refine hK.out _ _ ⟨Keeps.of_below hB2 _, hg0 _ hB2, hrC.out _ hB2⟩ (fun hHeld => ?_)
    clear hK K hw2 hnbe
    refine take_lit 13 (v := ?_) rfl (by kernel_rfl) (by kernel_rfl) (by kernel_rfl) (fun _ _ _ h => h) (Or.inl ⟨by rfl, ?_⟩) (by assumption) ?_
    rotate_left 1
    · (intro w hSw; (try dsimp only at hSw); first | (go_simp; done) | (go_simp; with_reducible rfl))
    (simp only [Act.put, List.setIfInBounds_toArray, List.set_cons_zero, List.set_cons_succ])
    refine take_lit 14 (v := ?_) rfl (by kernel_rfl) (by kernel_rfl) (by kernel_rfl) (fun _ _ _ h => h) (Or.inl ⟨by rfl, ?_⟩) (by assumption) ?_
    rotate_left 1
    · (intro w hSw; (try dsimp only at hSw); first | (go_simp; done) | (go_simp; with_reducible rfl))
    (simp only [Act.put, List.setIfInBounds_toArray, List.set_cons_zero, List.set_cons_succ])
    obtain ⟨D, k1, k2, k3, k4, k5, k6⟩ := hb.below hB2
    have e259 : w2.cell? ⟨g, 259, none⟩ = some (.slice none 0 0) := by rw [cell_of_blk k1]; exact k6
    have f259 : w2.frozen? ⟨g, 259, none⟩ = false := free_of_blk k1 _
    replace k1 := As.mk k1
    replace ht2 := As.mk ht2
    refine wpAnyH_ready (rs := [15]) (by kernel_rfl) (by simp) ?_
    refine AllReadyH.cons rfl (fun K hK => ?_) AllReadyH.nil
    go_simp
    have hD3 := DfaBlk.set (hb.below hB2) (.slice (some ⟨nb, 0, none⟩) N N)
    have hK3 : Keeps (fun k => k = g) w (w2.setCell ⟨g, 259, none⟩ (.slice (some ⟨nb, 0, none⟩) N N)) := (Keeps.of_below hB2 _).trans ((keepsSt w2 ⟨g, 259, none⟩ _).mono fun _ _ h => h)
    have ht3 : (w2.setCell ⟨g, 259, none⟩ (.slice (some ⟨nb, 0, none⟩) N N)).heap[nb]? = some (.cells (tabL (fun _ _ => 0) n W).toArray 3 (0, 0)) := by
      rw [tab_zero, hN.out, ← hZ.out]
      exact blk_far (p := ⟨g, 259, none⟩) ht2.out (by have := hglt.out; show nb ≠ g; omega) _
    refine hK.out _ _ ⟨hK3, hD3.cells.1, hCC.out ▸ hD3.range⟩ (fun hHeld => ?_)
    clear hK K
    refine wpAnyH_done (by kernel_rfl) ?_ _
    go_wp2_with fail
    go_meet
    case rel => exact ⟨rfl, nb, ⟨hnb⟩, ⟨ht3⟩, ⟨hN.out.symm ▸ hD3⟩, ⟨hK3⟩⟩
  case rest =>
    obtain ⟨rfl, nb, hnb, htab, hD0, hK0⟩ := hcut
    obtain ⟨W0, hW0⟩ : ∃ W, wc = W := ⟨_, rfl⟩
    rw [hW0] at htab hD0 hK0 ⊢
    rw [hN.out] at hD0
    clear hW0 hnd hlen hr hrC hg0 hmul hmk hwN hw0 c1 c2
    have hT := hTr.out
    obtain ⟨D, d1, _⟩ := hb
    have hgblk : ∀ b, b = g → ∃ cs t fr, w.heap[b]? = some (.cells cs t fr) ∧ t ≠ 133 ∧ t ≠ 129 := fun b e => ⟨_, _, _, e ▸ d1, by decide, by decide⟩
    have hgblk2 : ∀ b, b = g → ∃ cs t fr, w.heap[b]? = some (.cells cs t fr) ∧ t ≠ 137 ∧ t ≠ 3 := fun b e => ⟨_, _, _, e ▸ d1, by decide, by decide⟩
    have hL0 := LinksAt.keepOf hlk hK0.out hgblk2
    have cOr := As.mk (lorder_calls W0 lb lg P l hT hl hL0)
    have hgs := block_lt htab.out
    have hg1 : W0.cell? ⟨g, 1, none⟩ = some (.pointer (some ⟨lg, 0, none⟩)) := hD0.out.cells.2.1
    have hol := orderF_length hT
    go_wp2_with fail
    apply wp_label
    go_wp2_with (go_at_call 72; refine Calls.mono cOr.out ?_; intro e W1 h1; obtain ⟨vO, heO, hoO, hbO⟩ := h1.out; subst heO; obtain ⟨AO, cO, rfl, hcO⟩ := own_slice hoO)
    rw [hol, hn] at hcO
    have hS0 := hK0.out.size
    have hS1 := hbO.size
    have KT := As.mk (fun (v : World) (hv : Keeps (fun k => k = nb) W1 v) => (by
      have hk1 : Keeps (fun k => k = g) w v := by
        have ha : Keeps (fun k => k = g ∨ w.heap.size ≤ k) w W0 := hK0.out.mono fun k _ h => .inl h
        have hb2 : Keeps (fun k => k = g ∨ w.heap.size ≤ k) W0 W1 := Keeps.of_below hbO _
        have hc : Keeps (fun k => k = g ∨ w.heap.size ≤ k) W1 v := hv.mono fun k _ h => .inr (by have := hnb.out; omega)
        exact ((ha.trans hb2).trans hc).mono fun k hk h => h.elim id (fun h => absurd h (by omega))
      exact ⟨hT0.out.keepOf hk1 hgblk, LinksAt.keepOf hlk hk1 hgblk2, (hD0.out.below hbO).keep hv (by have := hnb.out; have := hglt.out; omega), own_keep hoO hv (fun b c hbb _ _ e => by omega)⟩ : TrieAt v base tg P (place l) ∧ LinksOf v lb lg P l ∧ DfaBlk v g tg lg F m (.slice (some ⟨nb, 0, none⟩) N N) ∧ OwnInts v W0.heap.size (.slice AO (orderF P).length cO) (orderF P)))
    have htab1 := As.mk (blkBelow hbO htab.out)
    obtain ⟨O, hO⟩ : ∃ O, op P P.length = O := ⟨_, rfl⟩
    have hOl : O.length = n := by rw [← hO, ← hn]; have h9 := hol; unfold orderF at h9; rw [List.length_map] at h9; exact h9
    go_loopg [30] (n + 1) (fun gk v30 wr => ∃ i : Nat, As (n + 1 ≤ gk + i) ∧ i ≤ n ∧ v30 = .int .i64 i ∧ As (wr.heap[nb]? = some (.cells (tabL (gridF P l (O.take i)) n W).toArray 3 (0, 0))) ∧ As (Keeps (fun k => k = nb) W1 wr))
    case atStart => exact ⟨0, ⟨by omega⟩, Nat.zero_le _, rfl, ⟨by rw [← hO, gridF_zero]; exact htab1.out⟩, ⟨Keeps.refl _ _⟩⟩
    case round =>
      obtain ⟨i, hgk, hi, rfl, htr, hkr⟩ := hrel
      by_cases hlt : i < n
      · obtain ⟨gp, rfl⟩ : ∃ gp, gk = gp + 1 := ⟨gk - 1, by have := hgk.out; omega⟩
        obtain ⟨_, _, hDr, hOr⟩ := KT.out wr hkr.out
        obtain ⟨ado, rfl, hco⟩ := Ints.at_ (Row.of_own hOr) (i := i) (by rw [hol, hn]; exact hlt)
        have hsm : O[i]? = some (O.getD i []) := by rw [List.getD_eq_getElem?_getD, List.getElem?_eq_getElem (by omega)]; rfl
        obtain ⟨s, hs⟩ : ∃ s, O.getD i [] = s := ⟨_, rfl⟩
        rw [hs] at hsm
        have hsP : s ∈ P := op_sub hT (i := P.length) (by rw [hO]; exact List.mem_of_getElem? hsm)
        obtain ⟨a, hpa, haP⟩ := place_nat' hsP
        have haN : a < n := by rw [← hn]; exact (List.getElem?_eq_some_iff.1 haP).1
        have hga : (orderF P).getD i 0 = (a : Int) := by rw [← hpa]; unfold orderF; rw [hO, List.getD_eq_getElem?_getD, List.getElem?_map, hsm]; rfl
        rw [hga] at hco
        have htk : O.take (i + 1) = O.take i ++ [s] := by rw [List.take_succ_eq_append_getElem (by omega)]; congr 2; exact (List.getElem?_eq_some_iff.1 hsm).2
        have hdone : As (gridF P l (O.take (i + 1)) = updF (gridF P l (O.take i)) a (rowF P l s)) := ⟨by rw [htk]; exact gridF_done P l _ haP hT.nodup⟩
        have hW1 : 0 < W := by omega
        obtain ⟨b0, hb0⟩ : ∃ b, a * W = b := ⟨_, rfl⟩
        have hb0N : b0 + W ≤ N := by rw [← hb0, ← hN.out, ← Nat.succ_mul]; exact Nat.mul_le_mul_right _ haN
        have cRow := As.mk (fun (v : World) (hk : Keeps (fun k => k = nb) W1 v) (x b : Nat) (hx : x ≤ 1000000) (hxb : x * W = b) (hbN : b + W ≤ N) => (by
          obtain ⟨_, _, k3, _⟩ := KT.out v hk
          exact row_calls v g nb N N m W x b F (x : Int) hm hW k3.range k3.size k3.cells.2.2 rfl hx hxb hbN (Nat.le_refl _) (by omega) :
          Calls Tryz.prog 73 #[.pointer (some ⟨g, 0, none⟩), .int .i64 (x : Int)] v fun e w' => e = .returned (.slice (some ⟨nb, b, none⟩) W (N - b)) ∧ Below v.heap.size v w'))
        have cRa := As.mk (fun (v : World) (hk : Keeps (fun k => k = nb) W1 v) => cRow.out v hk a b0 (by omega) hb0 hb0N)
        have cKid := As.mk (fun (v : World) (hk : Keeps (fun k => k = nb) W1 v) => (by
          have := kids_calls v base tg P (place l) (KT.out v hk).1 hl (a : Int)
          rw [kidsF_eq haP] at this; exact this : Calls Tryz.prog 63 #[.pointer (some ⟨tg, 0, none⟩), .int .i64 (a : Int)] v (RetByt v (kids P s))))
        have cFa := As.mk (fun (v : World) (hk : Keeps (fun k => k = nb) W1 v) => (by
          have := lfail_calls v lb lg P (failF P) _ _ _ (KT.out v hk).2.1 (a : Int)
          rw [show askF P (failF P) (-1) (a : Int) = failF P s by unfold askF; rw [if_pos (by omega), Int.toNat_natCast, List.getD_eq_getElem?_getD, haP]; rfl] at this; exact this : Calls Tryz.prog 74 #[.pointer (some ⟨lg, 0, none⟩), .int .i64 (a : Int)] v fun e w' => e = .returned (.int .i64 (failF P s)) ∧ v = w'))
        have hg0 := As.mk (fun (v : World) (hk : Keeps (fun k => k = nb) W1 v) => (KT.out v hk).2.2.1.cells.1)
        have hg1 := As.mk (fun (v : World) (hk : Keeps (fun k => k = nb) W1 v) => (KT.out v hk).2.2.1.cells.2.1)
        obtain ⟨G, hG⟩ : ∃ G, gridF P l (O.take i) = G := ⟨_, rfl⟩
        rw [hG] at htr hdone
        replace hG := As.mk hG
        replace hpa := As.mk hpa
        replace hs := As.mk hs
        replace hb0 := As.mk hb0
        clear hga htk
        by_cases hs0 : s = []
        · have hf : failF P s = -1 := by rw [hs0]; rfl
          rw [hf] at cFa
          go_wp2_with (first
            | (go_at_call 73; refine Calls.mono (cRa.out _ hkr.out) ?_; rintro e w3 ⟨rfl, hb3⟩; have hk3 := As.mk (hkr.out.trans (Keeps.of_below hb3 _)); have d1 := hg1.out _ hk3.out; have d0 := hg0.out _ hk3.out; have ht3 := As.mk (blkBelow hb3 htr.out); clear hb3)
            | (go_at_call 74; refine Calls.mono (cFa.out _ hk3.out) ?_; rintro e w4 ⟨rfl, rfl⟩))
          have hq := As.mk (show w3.heap[nb]? = some (.cells (tabL (updF G a (fun _ => 0)) n W).toArray 3 (0, 0)) by
            have h9 := gridF_out P l (O.take i) haP (by rw [← hO] at hsm ⊢; exact order_new hsm)
            rw [hG.out] at h9
            rw [← h9, updF_same]; exact ht3.out)
          have hbase : As (∀ k, rowK P l s (fun _ => 0) (kids P s).length k = rowF P l s k) := ⟨fun k => by have := rowK_root l k; rw [hPl, ← hs0] at this; exact this⟩
          obtain ⟨base0, hbs⟩ : ∃ b : Nat → Int, (fun _ => (0 : Int)) = b := ⟨_, rfl⟩
          rw [hbs] at hq hbase
          clear hbs ht3
          obtain ⟨wq, hwq⟩ : ∃ v, w3 = v := ⟨_, rfl⟩
          rw [hwq] at hq hk3 d0 ⊢
          have hkq := hk3
          clear hwq d1 hk3
          replace hs0 := As.mk hs0
          replace hf := As.mk hf
          have hstep := As.mk (fun (j : Nat) (c : UInt8) (hj : (kids P s)[j]? = some c) (k : Nat) => (by have := rowK_step l s base0 j c (by rw [hPl]; exact hj) k; rw [hPl, ← hF] at this; exact this : rowK P l s base0 (j + 1) k = if k = F c then place P (s ++ [c]) else rowK P l s base0 j k))
          obtain ⟨kn, hkn⟩ : ∃ k, (kids P s).length = k := ⟨_, rfl⟩
          have hkn2 : kn ≤ 256 := by rw [← hkn]; unfold kids; exact Nat.le_trans (List.length_filter_le _ _) (by simp)
          have hqs := block_lt hq.out
          rcases Nat.eq_zero_or_pos kn with hkz | hkp
          · --
            have hfin : As (updF G a base0 = gridF P l (O.take (i + 1))) := ⟨by rw [hdone.out]; congr 1; funext k; rw [← hbase.out, hkn, hkz, rowK_zero]⟩
            rw [hkz] at hkn
            go_wp2_with (go_at_call 63; refine Calls.mono (cKid.out _ hkq.out) ?_; intro e w6 h6; obtain ⟨A6, c6, he6, hc6, hr6, hg6, hb6⟩ := h6.rowg; subst he6; clear h6)
            go_roundg gp
            case measure => exact Nat.lt_succ_self _
            case rel => exact ⟨i + 1, ⟨by have := hgk.out; omega⟩, hlt, (by first | rfl | go_num | (congr 1; omega)), ⟨by rw [← hfin.out]; exact blkBelow hb6 hq.out⟩, ⟨hkq.out.trans (Keeps.of_below hb6 _)⟩⟩
          · --
            have hkz : ¬ kn = 0 := by omega
            have hkz2 : ((kn : Int) == 0) = false := by simp; omega
            go_wp2_with (go_at_call 63; refine Calls.mono (cKid.out _ hkq.out) ?_; intro e w6 h6; obtain ⟨A6, c6, he6, hc6, hr6, hg6, hb6⟩ := h6.rowg; subst he6; clear h6)
            have hk6 := As.mk (hkq.out.trans (Keeps.of_below hb6 _))
            have hq6 := As.mk (blkBelow hb6 hq.out)
            obtain ⟨Kd, hKd⟩ : ∃ q, kids P s = q := ⟨_, rfl⟩
            rw [hKd] at hkn hc6 hr6 hbase hstep cKid
            rw [hkn] at hc6 hbase
            replace hKd := As.mk hKd
            replace hkn := As.mk hkn
            replace hr6 := As.mk hr6
            replace hg6 := As.mk hg6
            have hrk0 : rowK P l s base0 0 = base0 := funext fun k => rowK_zero P l s base0 k
            clear hb6
            go_loopg [61] (kn + 1) (fun g2 v61 wy => ∃ j : Nat, As (kn + 1 ≤ g2 + j) ∧ j ≤ kn ∧ v61 = .int .i64 j ∧ As (wy.heap[nb]? = some (.cells (tabL (updF G a (rowK P l s base0 j)) n W).toArray 3 (0, 0))) ∧ As (Keeps (fun k => k = nb) w6 wy))
            case atStart => exact ⟨0, ⟨by omega⟩, Nat.zero_le _, rfl, ⟨by rw [hrk0]; exact hq6.out⟩, ⟨Keeps.refl _ _⟩⟩
            case round =>
              obtain ⟨j, hgk2, hj, rfl, htq, hkw⟩ := hrel
              by_cases hjl : j < kn
              · --
                obtain ⟨gq, rfl⟩ : ∃ gq, gk = gq + 1 := ⟨gk - 1, by have := hgk2.out; omega⟩
                have hrw := Row.keep hr6.out hkw.out (fun ad e _ hS => by have := hg6.out ad e; omega)
                obtain ⟨adk, rfl, hck⟩ := Byt.at_ hrw (i := j) (by rw [hkn.out]; exact hjl)
                have hKj : Kd[j]? = some (Kd.getD j 0) := by rw [List.getD_eq_getElem?_getD, List.getElem?_eq_getElem (by rw [hkn.out]; exact hjl)]; rfl
                obtain ⟨c, hc⟩ : ∃ c, Kd.getD j 0 = c := ⟨_, rfl⟩
                rw [hc] at hck hKj
                have hst := hstep.out j c hKj
                have hFlt : F c < W := by rw [hF, ← hW, ← hmw]; exact clsF_lt l c
                have cCls := As.mk (fun v => class_calls v F m c (c.toNat : Int) rfl)
                rw [show clsV F m = C.toArray by rw [← hCC.out]; rfl] at cCls
                have cStp := As.mk (fun (v : World) (hk : Keeps (fun k => k = nb) W1 v) => step_calls v base tg P (place l) (KT.out v hk).1 hl (a : Int) (c.toNat : Int) c rfl)
                rw [stepF_at haP c] at cStp
                obtain ⟨k0, hk0⟩ : ∃ k, F c = k := ⟨_, rfl⟩
                rw [hk0] at cCls hFlt hst
                obtain ⟨x0, hx0⟩ : ∃ x, place P (s ++ [c]) = x := ⟨_, rfl⟩
                rw [hx0] at cStp hst
                have hkW := hk6.out.trans hkw.out
                have hkd : Keeps (fun k => k = nb) W1 wr.drew := hkW.drew
                have hg0p := hg0.out
                have hset := As.mk (tab_set G haN hFlt (rowK P l s base0 j) (rowK P l s base0 (j + 1)) x0 hst)
                rw [hb0.out] at hset
                have hsl := As.mk (by have h9 := tabL_lt haN hFlt; rw [hb0.out, hN.out] at h9; exact h9 : b0 + k0 < N)
                replace hst := As.mk hst
                replace hc := As.mk hc
                replace hk0 := As.mk hk0
                replace hx0 := As.mk hx0
                clear hrw hKj d0
                go_wp2_with fail
                refine wp_region_held_drew (S := fun v => Keeps (fun k => k = nb) W1 v) (by kernel_rfl) hkd (fun hHeld => ?_)
                refine take_lit 0 (v := ?_) rfl (by kernel_rfl) (by kernel_rfl) (by kernel_rfl) (fun _ _ _ h => h) (Or.inl ⟨by rfl, ?_⟩) (by assumption) ?_
                rotate_left 1
                · (intro w hSw; (try dsimp only at hSw); first | (go_simp; done) | (go_simp; with_reducible rfl))
                (simp only [Act.put, List.setIfInBounds_toArray, List.set_cons_zero, List.set_cons_succ])
                refine take_lit 1 (v := ?_) rfl (by kernel_rfl) (by kernel_rfl) (by kernel_rfl) (fun _ _ _ h => h) (Or.inl ⟨by rfl, ?_⟩) (by assumption) ?_
                rotate_left 1
                · (intro w hSw; (try dsimp only at hSw); first | (go_simp; done) | (go_simp; with_reducible rfl))
                (simp only [Act.put, List.setIfInBounds_toArray, List.set_cons_zero, List.set_cons_succ])
                refine take_lit 2 (v := ?_) rfl (by kernel_rfl) (by kernel_rfl) (by kernel_rfl) (fun _ _ _ h => h) (Or.inl ⟨by rfl, ?_⟩) (by assumption) ?_
                rotate_left 1
                · (intro w hSw; (try dsimp only at hSw); first | (go_simp; done) | (go_simp; with_reducible rfl))
                (simp only [Act.put, List.setIfInBounds_toArray, List.set_cons_zero, List.set_cons_succ])
                refine take_lit 3 (v := ?_) rfl (by kernel_rfl) (by kernel_rfl) (by kernel_rfl) (fun _ _ _ h => h) (Or.inl ⟨by rfl, ?_⟩) (by assumption) ?_
                rotate_left 1
                · (intro w hSw; (try dsimp only at hSw); first | (go_simp; done) | (go_simp; with_reducible rfl))
                (simp only [Act.put, List.setIfInBounds_toArray, List.set_cons_zero, List.set_cons_succ])
                refine take_lit 4 rfl (by kernel_rfl) (by kernel_rfl) (by kernel_rfl) (fun _ _ _ h => h) (yieldsIf_load_mid (by rfl) _ _ rfl _ _ rfl C _ (fun v hv => hCC.out ▸ (KT.out v hv).2.2.1.range) Tryz.underlying103 rfl (by rw [hCs]; exact hsz.out)) (by assumption) ?_
                (simp only [Act.put, List.setIfInBounds_toArray, List.set_cons_zero, List.set_cons_succ])
                refine take_lit 5 (v := ?_) rfl (by kernel_rfl) (by kernel_rfl) (by kernel_rfl) (fun _ _ _ h => h) (Or.inl ⟨by rfl, ?_⟩) (by assumption) ?_
                rotate_left 1
                · (intro w hSw; (try dsimp only at hSw); first | (go_simp; done) | (go_simp; with_reducible rfl))
                (simp only [Act.put, List.setIfInBounds_toArray, List.set_cons_zero, List.set_cons_succ])
                refine take_lit 7 (v := ?_) rfl (by kernel_rfl) (by kernel_rfl) (by kernel_rfl) (fun _ _ _ h => h) (Or.inl ⟨by rfl, ?_⟩) (by assumption) ?_
                rotate_left 1
                · (intro w hSw; (try dsimp only at hSw); first | (go_simp; done) | (go_simp; with_reducible rfl))
                (simp only [Act.put, List.setIfInBounds_toArray, List.set_cons_zero, List.set_cons_succ])
                refine take_lit 8 (v := ?_) rfl (by kernel_rfl) (by kernel_rfl) (by kernel_rfl) (fun _ _ _ h => h) (Or.inl ⟨by rfl, ?_⟩) (by assumption) ?_
                rotate_left 1
                · (intro w hSw; (try dsimp only at hSw); first | (go_simp; done) | (go_simp; with_reducible rfl))
                (simp only [Act.put, List.setIfInBounds_toArray, List.set_cons_zero, List.set_cons_succ])
                refine take_lit 9 (v := ?_) rfl (by kernel_rfl) (by kernel_rfl) (by kernel_rfl) (fun _ _ _ h => h) (Or.inl ⟨by rfl, ?_⟩) (by assumption) ?_
                rotate_left 1
                · (intro w hSw; (try dsimp only at hSw); first | (go_simp; done) | (go_simp; with_reducible rfl))
                (simp only [Act.put, List.setIfInBounds_toArray, List.set_cons_zero, List.set_cons_succ])
                refine take_lit 10 (v := ?_) rfl (by kernel_rfl) (by kernel_rfl) (by kernel_rfl) (fun _ _ _ h => h) (Or.inl ⟨by rfl, ?_⟩) (by assumption) ?_
                rotate_left 1
                · (intro w hSw; (try dsimp only at hSw); first | (go_simp; done) | (go_simp; with_reducible rfl))
                (simp only [Act.put, List.setIfInBounds_toArray, List.set_cons_zero, List.set_cons_succ])
                refine take_lit 11 (v := ?_) rfl (by kernel_rfl) (by kernel_rfl) (by kernel_rfl) (fun _ _ _ h => h) (Or.inl ⟨by rfl, ?_⟩) (by assumption) ?_
                rotate_left 1
                · (intro w hSw; (try dsimp only at hSw); first | (go_simp; done) | (go_simp; with_reducible rfl))
                (simp only [Act.put, List.setIfInBounds_toArray, List.set_cons_zero, List.set_cons_succ])
                refine take_lit 12 (v := ?_) rfl (by kernel_rfl) (by kernel_rfl) (by kernel_rfl) (fun _ _ _ h => h) (Or.inl ⟨by rfl, ?_⟩) (by assumption) ?_
                rotate_left 1
                · (intro w hSw; (try dsimp only at hSw); first | (go_simp; done) | (go_simp; with_reducible rfl))
                (simp only [Act.put, List.setIfInBounds_toArray, List.set_cons_zero, List.set_cons_succ])
                refine wpAnyH_ready (rs := [6]) (by kernel_rfl) (by simp) ?_
                refine AllReadyH.cons rfl (fun K hK => ?_) AllReadyH.nil
                go_simp
                go_wp2_with (go_at_call 75; refine Calls.mono (cCls.out _) ?_; rintro e w7 ⟨rfl, hb7⟩)
                have hk7 : Keeps (fun k => k = nb) W1 w7 := hkd.trans (Keeps.of_below hb7 _)
                have hk7w : Keeps (fun k => k = nb) w6 w7 := hkw.out.drew.trans (Keeps.of_below hb7 _)
                have ht7 : w7.heap[nb]? = some (.cells (tabL (updF G a (rowK P l s base0 j)) n W).toArray 3 (0, 0)) := blkBelow hb7 htq.out
                clear hb7
                refine hK.out _ _ hk7 (fun hHeld => ?_)
                clear hK K
                refine wpAnyH_ready (rs := [13]) (by kernel_rfl) (by simp) ?_
                refine AllReadyH.cons rfl (fun K hK => ?_) AllReadyH.nil
                go_simp
                go_wp2_with (go_at_call 64; refine Calls.mono (cStp.out _ hk7) ?_; rintro e w8 ⟨rfl, rfl⟩)
                refine hK.out _ _ hk7 (fun hHeld => ?_)
                clear hK K
                have hcell : w7.cell? ⟨nb, b0 + k0, none⟩ = some ((tabL (updF G a (rowK P l s base0 j)) n W)[b0 + k0]'(by rw [tabL_length, hN.out]; exact hsl.out)) := by rw [cell_of_blk ht7, List.getElem?_toArray, List.getElem?_eq_getElem]
                have hfro : w7.frozen? ⟨nb, b0 + k0, none⟩ = false := free_of_blk ht7 _
                obtain ⟨uu, huu⟩ : ∃ u, (tabL (updF G a (rowK P l s base0 j)) n W)[b0 + k0]'(by rw [tabL_length, hN.out]; exact hsl.out) = u := ⟨_, rfl⟩
                rw [huu] at hcell
                clear huu
                replace ht7 := As.mk ht7
                refine take_lit 14 (v := ?_) rfl (by kernel_rfl) (by kernel_rfl) (by kernel_rfl) (fun _ _ _ h => h) (Or.inl ⟨by rfl, ?_⟩) (by assumption) ?_
                rotate_left 1
                · (intro w hSw; (try dsimp only at hSw); first | (go_simp; done) | (go_simp; with_reducible rfl))
                (simp only [Act.put, List.setIfInBounds_toArray, List.set_cons_zero, List.set_cons_succ])
                refine wpAnyH_ready (rs := [15]) (by kernel_rfl) (by simp) ?_
                refine AllReadyH.cons rfl (fun K hK => ?_) AllReadyH.nil
                go_simp
                have hk9 : Keeps (fun k => k = nb) w7 (w7.setCell ⟨nb, b0 + k0, none⟩ (.int .i64 x0)) := (keepsSt w7 ⟨nb, b0 + k0, none⟩ _).mono fun _ _ h => h
                refine hK.out _ _ (hk7.trans hk9) (fun hHeld => ?_)
                clear hK K
                refine wpAnyH_done (by kernel_rfl) ?_ _
                go_wp2_with fail
                go_roundg gq
                case measure => exact Nat.lt_succ_self _
                case rel => exact ⟨j + 1, ⟨by have := hgk2.out; omega⟩, hjl, (by first | rfl | go_num | (congr 1; omega)), ⟨by rw [← hset.out]; exact blk_set ht7.out (b0 + k0) _⟩, ⟨hk7w.trans hk9⟩⟩
              · --
                obtain rfl : j = kn := by omega
                have hfin : As (updF G a (rowK P l s base0 j) = gridF P l (O.take (i + 1))) := ⟨by rw [hdone.out]; congr 1; funext k; exact hbase.out k⟩
                rw [hfin.out] at htq
                go_wp2_with fail
                go_roundg gp
                case measure => exact Nat.lt_succ_self _
                case rel => exact ⟨i + 1, ⟨by have := hgk.out; omega⟩, hlt, (by first | rfl | go_num | (congr 1; omega)), htq, ⟨hk6.out.trans hkw.out⟩⟩
        · --
          obtain ⟨m0, hm0⟩ := fail_some hT hs0
          obtain ⟨z1, z2, z3, _⟩ := failN_some hm0
          have hf : failF P s = place P (s.drop m0) := by unfold failF; rw [hm0]
          obtain ⟨f0, hpf, hfP⟩ := place_nat' z3
          rw [hpf] at hf
          rw [hf] at cFa
          have hfN : f0 < n := by rw [← hn]; exact (List.getElem?_eq_some_iff.1 hfP).1
          obtain ⟨b1, hb1⟩ : ∃ b, f0 * W = b := ⟨_, rfl⟩
          have hb1N : b1 + W ≤ N := by rw [← hb1, ← hN.out, ← Nat.succ_mul]; exact Nat.mul_le_mul_right _ hfN
          have hGf : As (G f0 = rowF P l (s.drop m0)) := ⟨by rw [← hG.out]; exact gridF_in P l _ hfP (by rw [← hO] at hsm ⊢; exact order_before hT hsm z3 (by rw [List.length_drop]; omega))⟩
          have cRf := As.mk (fun (v : World) (hk : Keeps (fun k => k = nb) W1 v) => cRow.out v hk f0 b1 (by omega) hb1 hb1N)
          have haf : a ≠ f0 := fun e => by
            rw [e, hfP] at haP
            injection haP with haP
            have := congrArg List.length haP
            rw [List.length_drop] at this; omega
          have hszi : (Tryz.prog.info? 3).map (·.size) = some 1 := by kernel_rfl
          replace hb1 := As.mk hb1
          clear hpf
          go_wp2_with (first
            | (go_at_call 73; with_reducible refine Calls.mono (cRa.out _ hkr.out) ?_; rintro e w3 ⟨rfl, hb3⟩; have hk3 := As.mk (hkr.out.trans (Keeps.of_below hb3 _)); have d1 := hg1.out _ hk3.out; have ht3 := As.mk (blkBelow hb3 htr.out); clear hb3)
            | (go_at_call 73; with_reducible refine Calls.mono (cRf.out _ hk3.out) ?_; rintro e w5 ⟨rfl, hb5⟩; have hk5 := As.mk (hk3.out.trans (Keeps.of_below hb5 _)); have ht5 := As.mk (blkBelow hb5 ht3.out); clear hb5)
            | (go_at_call 74; refine Calls.mono (cFa.out _ hk3.out) ?_; rintro e w4 ⟨rfl, rfl⟩)
            | (refine wpList_copy_own rfl (.tmp 45) (.tmp 48) 105 105 rfl 3 Tryz.underlying105 hszi nb b0 W (N - b0) ⟨nb, b1, none⟩ W (N - b1) rfl rfl _ 3 ht5.out (rowVals (G f0) W) (by rw [rowVals_length]; show W = min W W; omega) (fun j v hj => copy_src ht5.out hfN hb1.out hj) (by rw [rowVals_length, List.size_toArray, tabL_length, hN.out]; exact hb0N) (fun v hv => by obtain ⟨x, _, rfl⟩ := List.mem_map.1 hv; rfl) ?_
               have hk6 : As (Keeps (fun k => k = nb) W1 (w5.setRow nb ((tabL G n W).toArray.toList.take b0 ++ (rowVals (G f0) W ++ (tabL G n W).toArray.toList.drop (b0 + (rowVals (G f0) W).length))).toArray)) := ⟨hk5.out.trans (keepsRow _ _ _)⟩
               have hq : As ((w5.setRow nb ((tabL G n W).toArray.toList.take b0 ++ (rowVals (G f0) W ++ (tabL G n W).toArray.toList.drop (b0 + (rowVals (G f0) W).length))).toArray).heap[nb]? = some (.cells (tabL (updF G a (G f0)) n W).toArray 3 (0, 0))) := ⟨by rw [setRow_heap _ _ _ _ _ _ ht5.out, ← tab_splice G haN hW1 (G f0), hb0.out]; rfl⟩
               generalize w5.setRow nb ((tabL G n W).toArray.toList.take b0 ++ (rowVals (G f0) W ++ (tabL G n W).toArray.toList.drop (b0 + (rowVals (G f0) W).length))).toArray = wq at hk6 hq ⊢
               have d0 := hg0.out _ hk6.out))
          have hkq := hk6
          have hbase : As (∀ k, rowK P l s (G f0) (kids P s).length k = rowF P l s k) := ⟨fun k => by have := rowK_done l s m0 (by rw [hPl]; exact hm0) k; rw [hPl] at this; rw [hGf.out]; exact this⟩
          obtain ⟨base0, hbs⟩ : ∃ b : Nat → Int, G f0 = b := ⟨_, rfl⟩
          rw [hbs] at hq hbase
          clear hbs ht3 ht5 hk3 hk5 hk6 d1 hGf cRf
          replace hs0 := As.mk hs0
          replace hf := As.mk hf
          have hstep := As.mk (fun (j : Nat) (c : UInt8) (hj : (kids P s)[j]? = some c) (k : Nat) => (by have := rowK_step l s base0 j c (by rw [hPl]; exact hj) k; rw [hPl, ← hF] at this; exact this : rowK P l s base0 (j + 1) k = if k = F c then place P (s ++ [c]) else rowK P l s base0 j k))
          obtain ⟨kn, hkn⟩ : ∃ k, (kids P s).length = k := ⟨_, rfl⟩
          have hkn2 : kn ≤ 256 := by rw [← hkn]; unfold kids; exact Nat.le_trans (List.length_filter_le _ _) (by simp)
          have hqs := block_lt hq.out
          rcases Nat.eq_zero_or_pos kn with hkz | hkp
          · --
            have hfin : As (updF G a base0 = gridF P l (O.take (i + 1))) := ⟨by rw [hdone.out]; congr 1; funext k; rw [← hbase.out, hkn, hkz, rowK_zero]⟩
            rw [hkz] at hkn
            go_wp2_with (go_at_call 63; refine Calls.mono (cKid.out _ hkq.out) ?_; intro e w6 h6; obtain ⟨A6, c6, he6, hc6, hr6, hg6, hb6⟩ := h6.rowg; subst he6; clear h6)
            go_roundg gp
            case measure => exact Nat.lt_succ_self _
            case rel => exact ⟨i + 1, ⟨by have := hgk.out; omega⟩, hlt, (by first | rfl | go_num | (congr 1; omega)), ⟨by rw [← hfin.out]; exact blkBelow hb6 hq.out⟩, ⟨hkq.out.trans (Keeps.of_below hb6 _)⟩⟩
          · --
            have hkz : ¬ kn = 0 := by omega
            have hkz2 : ((kn : Int) == 0) = false := by simp; omega
            go_wp2_with (go_at_call 63; refine Calls.mono (cKid.out _ hkq.out) ?_; intro e w6 h6; obtain ⟨A6, c6, he6, hc6, hr6, hg6, hb6⟩ := h6.rowg; subst he6; clear h6)
            have hk6 := As.mk (hkq.out.trans (Keeps.of_below hb6 _))
            have hq6 := As.mk (blkBelow hb6 hq.out)
            obtain ⟨Kd, hKd⟩ : ∃ q, kids P s = q := ⟨_, rfl⟩
            rw [hKd] at hkn hc6 hr6 hbase hstep cKid
            rw [hkn] at hc6 hbase
            replace hKd := As.mk hKd
            replace hkn := As.mk hkn
            replace hr6 := As.mk hr6
            replace hg6 := As.mk hg6
            have hrk0 : rowK P l s base0 0 = base0 := funext fun k => rowK_zero P l s base0 k
            clear hb6
            go_loopg [61] (kn + 1) (fun g2 v61 wy => ∃ j : Nat, As (kn + 1 ≤ g2 + j) ∧ j ≤ kn ∧ v61 = .int .i64 j ∧ As (wy.heap[nb]? = some (.cells (tabL (updF G a (rowK P l s base0 j)) n W).toArray 3 (0, 0))) ∧ As (Keeps (fun k => k = nb) w6 wy))
            case atStart => exact ⟨0, ⟨by omega⟩, Nat.zero_le _, rfl, ⟨by rw [hrk0]; exact hq6.out⟩, ⟨Keeps.refl _ _⟩⟩
            case round =>
              obtain ⟨j, hgk2, hj, rfl, htq, hkw⟩ := hrel
              by_cases hjl : j < kn
              · --
                obtain ⟨gq, rfl⟩ : ∃ gq, gk = gq + 1 := ⟨gk - 1, by have := hgk2.out; omega⟩
                have hrw := Row.keep hr6.out hkw.out (fun ad e _ hS => by have := hg6.out ad e; omega)
                obtain ⟨adk, rfl, hck⟩ := Byt.at_ hrw (i := j) (by rw [hkn.out]; exact hjl)
                have hKj : Kd[j]? = some (Kd.getD j 0) := by rw [List.getD_eq_getElem?_getD, List.getElem?_eq_getElem (by rw [hkn.out]; exact hjl)]; rfl
                obtain ⟨c, hc⟩ : ∃ c, Kd.getD j 0 = c := ⟨_, rfl⟩
                rw [hc] at hck hKj
                have hst := hstep.out j c hKj
                have hFlt : F c < W := by rw [hF, ← hW, ← hmw]; exact clsF_lt l c
                have cCls := As.mk (fun v => class_calls v F m c (c.toNat : Int) rfl)
                rw [show clsV F m = C.toArray by rw [← hCC.out]; rfl] at cCls
                have cStp := As.mk (fun (v : World) (hk : Keeps (fun k => k = nb) W1 v) => step_calls v base tg P (place l) (KT.out v hk).1 hl (a : Int) (c.toNat : Int) c rfl)
                rw [stepF_at haP c] at cStp
                obtain ⟨k0, hk0⟩ : ∃ k, F c = k := ⟨_, rfl⟩
                rw [hk0] at cCls hFlt hst
                obtain ⟨x0, hx0⟩ : ∃ x, place P (s ++ [c]) = x := ⟨_, rfl⟩
                rw [hx0] at cStp hst
                have hkW := hk6.out.trans hkw.out
                have hkd : Keeps (fun k => k = nb) W1 wr.drew := hkW.drew
                have hg0p := hg0.out
                have hset := As.mk (tab_set G haN hFlt (rowK P l s base0 j) (rowK P l s base0 (j + 1)) x0 hst)
                rw [hb0.out] at hset
                have hsl := As.mk (by have h9 := tabL_lt haN hFlt; rw [hb0.out, hN.out] at h9; exact h9 : b0 + k0 < N)
                replace hst := As.mk hst
                replace hc := As.mk hc
                replace hk0 := As.mk hk0
                replace hx0 := As.mk hx0
                clear hrw hKj d0
                go_wp2_with fail
                refine wp_region_held_drew (S := fun v => Keeps (fun k => k = nb) W1 v) (by kernel_rfl) hkd (fun hHeld => ?_)
                refine take_lit 0 (v := ?_) rfl (by kernel_rfl) (by kernel_rfl) (by kernel_rfl) (fun _ _ _ h => h) (Or.inl ⟨by rfl, ?_⟩) (by assumption) ?_
                rotate_left 1
                · (intro w hSw; (try dsimp only at hSw); first | (go_simp; done) | (go_simp; with_reducible rfl))
                (simp only [Act.put, List.setIfInBounds_toArray, List.set_cons_zero, List.set_cons_succ])
                refine take_lit 1 (v := ?_) rfl (by kernel_rfl) (by kernel_rfl) (by kernel_rfl) (fun _ _ _ h => h) (Or.inl ⟨by rfl, ?_⟩) (by assumption) ?_
                rotate_left 1
                · (intro w hSw; (try dsimp only at hSw); first | (go_simp; done) | (go_simp; with_reducible rfl))
                (simp only [Act.put, List.setIfInBounds_toArray, List.set_cons_zero, List.set_cons_succ])
                refine take_lit 2 (v := ?_) rfl (by kernel_rfl) (by kernel_rfl) (by kernel_rfl) (fun _ _ _ h => h) (Or.inl ⟨by rfl, ?_⟩) (by assumption) ?_
                rotate_left 1
                · (intro w hSw; (try dsimp only at hSw); first | (go_simp; done) | (go_simp; with_reducible rfl))
                (simp only [Act.put, List.setIfInBounds_toArray, List.set_cons_zero, List.set_cons_succ])
                refine take_lit 3 (v := ?_) rfl (by kernel_rfl) (by kernel_rfl) (by kernel_rfl) (fun _ _ _ h => h) (Or.inl ⟨by rfl, ?_⟩) (by assumption) ?_
                rotate_left 1
                · (intro w hSw; (try dsimp only at hSw); first | (go_simp; done) | (go_simp; with_reducible rfl))
                (simp only [Act.put, List.setIfInBounds_toArray, List.set_cons_zero, List.set_cons_succ])
                refine take_lit 4 rfl (by kernel_rfl) (by kernel_rfl) (by kernel_rfl) (fun _ _ _ h => h) (yieldsIf_load_mid (by rfl) _ _ rfl _ _ rfl C _ (fun v hv => hCC.out ▸ (KT.out v hv).2.2.1.range) Tryz.underlying103 rfl (by rw [hCs]; exact hsz.out)) (by assumption) ?_
                (simp only [Act.put, List.setIfInBounds_toArray, List.set_cons_zero, List.set_cons_succ])
                refine take_lit 5 (v := ?_) rfl (by kernel_rfl) (by kernel_rfl) (by kernel_rfl) (fun _ _ _ h => h) (Or.inl ⟨by rfl, ?_⟩) (by assumption) ?_
                rotate_left 1
                · (intro w hSw; (try dsimp only at hSw); first | (go_simp; done) | (go_simp; with_reducible rfl))
                (simp only [Act.put, List.setIfInBounds_toArray, List.set_cons_zero, List.set_cons_succ])
                refine take_lit 7 (v := ?_) rfl (by kernel_rfl) (by kernel_rfl) (by kernel_rfl) (fun _ _ _ h => h) (Or.inl ⟨by rfl, ?_⟩) (by assumption) ?_
                rotate_left 1
                · (intro w hSw; (try dsimp only at hSw); first | (go_simp; done) | (go_simp; with_reducible rfl))
                (simp only [Act.put, List.setIfInBounds_toArray, List.set_cons_zero, List.set_cons_succ])
                refine take_lit 8 (v := ?_) rfl (by kernel_rfl) (by kernel_rfl) (by kernel_rfl) (fun _ _ _ h => h) (Or.inl ⟨by rfl, ?_⟩) (by assumption) ?_
                rotate_left 1
                · (intro w hSw; (try dsimp only at hSw); first | (go_simp; done) | (go_simp; with_reducible rfl))
                (simp only [Act.put, List.setIfInBounds_toArray, List.set_cons_zero, List.set_cons_succ])
                refine take_lit 9 (v := ?_) rfl (by kernel_rfl) (by kernel_rfl) (by kernel_rfl) (fun _ _ _ h => h) (Or.inl ⟨by rfl, ?_⟩) (by assumption) ?_
                rotate_left 1
                · (intro w hSw; (try dsimp only at hSw); first | (go_simp; done) | (go_simp; with_reducible rfl))
                (simp only [Act.put, List.setIfInBounds_toArray, List.set_cons_zero, List.set_cons_succ])
                refine take_lit 10 (v := ?_) rfl (by kernel_rfl) (by kernel_rfl) (by kernel_rfl) (fun _ _ _ h => h) (Or.inl ⟨by rfl, ?_⟩) (by assumption) ?_
                rotate_left 1
                · (intro w hSw; (try dsimp only at hSw); first | (go_simp; done) | (go_simp; with_reducible rfl))
                (simp only [Act.put, List.setIfInBounds_toArray, List.set_cons_zero, List.set_cons_succ])
                refine take_lit 11 (v := ?_) rfl (by kernel_rfl) (by kernel_rfl) (by kernel_rfl) (fun _ _ _ h => h) (Or.inl ⟨by rfl, ?_⟩) (by assumption) ?_
                rotate_left 1
                · (intro w hSw; (try dsimp only at hSw); first | (go_simp; done) | (go_simp; with_reducible rfl))
                (simp only [Act.put, List.setIfInBounds_toArray, List.set_cons_zero, List.set_cons_succ])
                refine take_lit 12 (v := ?_) rfl (by kernel_rfl) (by kernel_rfl) (by kernel_rfl) (fun _ _ _ h => h) (Or.inl ⟨by rfl, ?_⟩) (by assumption) ?_
                rotate_left 1
                · (intro w hSw; (try dsimp only at hSw); first | (go_simp; done) | (go_simp; with_reducible rfl))
                (simp only [Act.put, List.setIfInBounds_toArray, List.set_cons_zero, List.set_cons_succ])
                refine wpAnyH_ready (rs := [6]) (by kernel_rfl) (by simp) ?_
                refine AllReadyH.cons rfl (fun K hK => ?_) AllReadyH.nil
                go_simp
                go_wp2_with (go_at_call 75; refine Calls.mono (cCls.out _) ?_; rintro e w7 ⟨rfl, hb7⟩)
                have hk7 : Keeps (fun k => k = nb) W1 w7 := hkd.trans (Keeps.of_below hb7 _)
                have hk7w : Keeps (fun k => k = nb) w6 w7 := hkw.out.drew.trans (Keeps.of_below hb7 _)
                have ht7 : w7.heap[nb]? = some (.cells (tabL (updF G a (rowK P l s base0 j)) n W).toArray 3 (0, 0)) := blkBelow hb7 htq.out
                clear hb7
                refine hK.out _ _ hk7 (fun hHeld => ?_)
                clear hK K
                refine wpAnyH_ready (rs := [13]) (by kernel_rfl) (by simp) ?_
                refine AllReadyH.cons rfl (fun K hK => ?_) AllReadyH.nil
                go_simp
                go_wp2_with (go_at_call 64; refine Calls.mono (cStp.out _ hk7) ?_; rintro e w8 ⟨rfl, rfl⟩)
                refine hK.out _ _ hk7 (fun hHeld => ?_)
                clear hK K
                have hcell : w7.cell? ⟨nb, b0 + k0, none⟩ = some ((tabL (updF G a (rowK P l s base0 j)) n W)[b0 + k0]'(by rw [tabL_length, hN.out]; exact hsl.out)) := by rw [cell_of_blk ht7, List.getElem?_toArray, List.getElem?_eq_getElem]
                have hfro : w7.frozen? ⟨nb, b0 + k0, none⟩ = false := free_of_blk ht7 _
                obtain ⟨uu, huu⟩ : ∃ u, (tabL (updF G a (rowK P l s base0 j)) n W)[b0 + k0]'(by rw [tabL_length, hN.out]; exact hsl.out) = u := ⟨_, rfl⟩
                rw [huu] at hcell
                clear huu
                replace ht7 := As.mk ht7
                refine take_lit 14 (v := ?_) rfl (by kernel_rfl) (by kernel_rfl) (by kernel_rfl) (fun _ _ _ h => h) (Or.inl ⟨by rfl, ?_⟩) (by assumption) ?_
                rotate_left 1
                · (intro w hSw; (try dsimp only at hSw); first | (go_simp; done) | (go_simp; with_reducible rfl))
                (simp only [Act.put, List.setIfInBounds_toArray, List.set_cons_zero, List.set_cons_succ])
                refine wpAnyH_ready (rs := [15]) (by kernel_rfl) (by simp) ?_
                refine AllReadyH.cons rfl (fun K hK => ?_) AllReadyH.nil
                go_simp
                have hk9 : Keeps (fun k => k = nb) w7 (w7.setCell ⟨nb, b0 + k0, none⟩ (.int .i64 x0)) := (keepsSt w7 ⟨nb, b0 + k0, none⟩ _).mono fun _ _ h => h
                refine hK.out _ _ (hk7.trans hk9) (fun hHeld => ?_)
                clear hK K
                refine wpAnyH_done (by kernel_rfl) ?_ _
                go_wp2_with fail
                go_roundg gq
                case measure => exact Nat.lt_succ_self _
                case rel => exact ⟨j + 1, ⟨by have := hgk2.out; omega⟩, hjl, (by first | rfl | go_num | (congr 1; omega)), ⟨by rw [← hset.out]; exact blk_set ht7.out (b0 + k0) _⟩, ⟨hk7w.trans hk9⟩⟩
              · --
                obtain rfl : j = kn := by omega
                have hfin : As (updF G a (rowK P l s base0 j) = gridF P l (O.take (i + 1))) := ⟨by rw [hdone.out]; congr 1; funext k; exact hbase.out k⟩
                rw [hfin.out] at htq
                go_wp2_with fail
                go_roundg gp
                case measure => exact Nat.lt_succ_self _
                case rel => exact ⟨i + 1, ⟨by have := hgk.out; omega⟩, hlt, (by first | rfl | go_num | (congr 1; omega)), htq, ⟨hk6.out.trans hkw.out⟩⟩
      · obtain rfl : i = n := by omega
        obtain ⟨_, _, hDr, _⟩ := KT.out wr hkr.out
        rw [show O.take i = O by rw [← hOl, List.take_length]] at htr
        rw [gridF_same P l O P (fun x => by rw [← hO]; exact ⟨fun h => op_sub hT h, fun h => op_all hT _ x rfl h⟩)] at htr
        rw [← hN.out] at hDr
        have hKw : Keeps (fun k => k = g) w wr := by
          have ha : Keeps (fun k => k = g ∨ w.heap.size ≤ k) w W0 := hK0.out.mono fun k _ h => .inl h
          have hb2 : Keeps (fun k => k = g ∨ w.heap.size ≤ k) W0 W1 := Keeps.of_below hbO _
          have hc : Keeps (fun k => k = g ∨ w.heap.size ≤ k) W1 wr := hkr.out.mono fun k _ h => .inr (by have := hnb.out; omega)
          exact ((ha.trans hb2).trans hc).mono fun k hk h => h.elim id (fun h => absurd h (by omega))
        replace hDr := As.mk hDr
        replace hKw := As.mk hKw
        go_wp2_with fail
        unfold Exit.noGoto
        go_end0
        exact ⟨rfl, nb, hnb.out, htr.out, hDr.out, hKw.out⟩
end Go.Proofs.YtdiljmhikajjiaaGreat
end
section
namespace Go.Proofs.YtdiljmhikajjiaaGreat
open Go.RowKit Seine.Trie Seine.Dfa Seine.Links
/-- All bytes' classes. -/
def tblCells (F : UInt8 → Nat) : List Value := (List.range 256).map fun i => Value.int .i64 (F (UInt8.ofNat i) : Int)
theorem tblCells_length (F : UInt8 → Nat) : (tblCells F).length = 256 := by simp [tblCells]
theorem tblCells_at (F : UInt8 → Nat) (c : UInt8) : (tblCells F)[c.toNat]? = some (.int .i64 (F c : Int)) := by
  unfold tblCells
  rw [List.getElem?_map, List.getElem?_range c.toNat_lt]; simp
theorem tbl_cls (F : UInt8 → Nat) (n : Nat) {i : Nat} {u : Value} (h : (tblCells F)[i]? = some u) : (clsCells F n)[i]? = some u := by
  have hi := (List.getElem?_eq_some_iff.1 h).1
  unfold clsCells tblCells at *
  rw [List.getElem?_append_left hi]; exact h
def tblV (F : UInt8 → Nat) : Array Value := (tblCells F).toArray
theorem tblV_size (F : UInt8 → Nat) : (tblV F).size = 256 := by simp [tblV, tblCells_length]
theorem tblV_one (F : UInt8 → Nat) : (tblV F).all (·.oneCell') = true := by
  refine all_oneCell_toArray ?_
  intro v hv
  obtain ⟨i, _, rfl⟩ := List.mem_map.1 hv; rfl
theorem zero_tbl : (∀ w, (zeroValue 101).run Tryz.prog w = .ok (.agg (tblV (fun _ => 0))) w) ∧ (Tryz.prog.info? 101).map (·.size) = some 256 :=
  zero_of_info (by kernel_rfl)
set_option maxRecDepth 100000 in
set_option maxHeartbeats 1600000 in
theorem ctable_calls (w : World) (F : UInt8 → Nat) (n : Nat) :
    Calls Tryz.prog 135 #[.agg (clsV F n)] w fun e w' => e = .returned (.agg (tblV F)) ∧ Below w.heap.size w w' := by
  have hzv := zero_tbl.1
  have hsz := zero_tbl.2
  obtain ⟨Z, hZ⟩ : ∃ Z, tblV (fun _ => 0) = Z := ⟨_, rfl⟩
  have hZs : Z.size = 256 := by rw [← hZ]; exact tblV_size _
  rw [hZ] at hzv
  have hr : ∀ (i : Nat) (u : Value), (tblCells F)[i]? = some u → (clsV F n)[i]? = some u := fun i u h => by
    have := tbl_cls F n h
    unfold clsV; rw [List.getElem?_toArray]; exact this
  obtain ⟨C, hC⟩ : ∃ C, clsV F n = C := ⟨_, rfl⟩
  rw [hC] at hr ⊢
  obtain ⟨T, hT⟩ : ∃ T, tblCells F = T := ⟨_, rfl⟩
  have hTl : T.length = 256 := by rw [← hT]; exact tblCells_length _
  have hTV : tblV F = T.toArray := by rw [← hT]; rfl
  have hT1 : T.toArray.all (·.oneCell') = true := by rw [← hTV]; exact tblV_one F
  rw [hT] at hr
  rw [hTV]
  obtain ⟨gb, hgb⟩ : ∃ g, w.heap.size = g := ⟨_, rfl⟩
  have z0 : ((w.alloc (.cells C 103)).alloc (.cells Z 101)).heap[gb]? = some (.cells C 103 (0, 0)) := by rw [← hgb]; exact blk_old (heap_alloc_new w _)
  have z1 : ((w.alloc (.cells C 103)).alloc (.cells Z 101)).heap[gb + 1]? = some (.cells Z 101 (0, 0)) := by rw [← hgb]; exact blk_new1 w _ _
  have zB : Below gb w ((w.alloc (.cells C 103)).alloc (.cells Z 101)) := by rw [← hgb]; exact ((Below.refl _ _).alloc (Nat.le_refl _) _).alloc (by simp) _
  obtain ⟨W1, hW1⟩ : ∃ W, (w.alloc (.cells C 103)).alloc (.cells Z 101) = W := ⟨_, rfl⟩
  rw [hW1] at z0 z1 zB
  have hra : As (W1.rangeAt gb 0 T) := ⟨fun j u hu => by rw [Nat.zero_add, cell_of_blk z0]; exact hr j u hu⟩
  have hq0 := blk_all (d := T.toArray) z1 (by rw [List.size_toArray, hTl, hZs])
  have hl0 := below_sets (base := gb) (Nat.le_succ gb) T 0 zB
  have hth := there_blk z1 (o := 0) (n := 256) (by omega)
  replace z0 := As.mk z0
  replace z1 := As.mk z1
  replace zB := As.mk zB
  replace hth := As.mk hth
  replace hsz := As.mk hsz
  replace hr := As.mk hr
  replace hgb := As.mk hgb
  replace hq0 := As.mk hq0
  replace hl0 := As.mk hl0
  clear hC hT hTV hZ
  go_enter Tryz.func135, Tryz.ntmps135
  go_wp2_with (first
    | (rw [hW1])
    | (rw [hgb.out])
    | (refine wpList_load_mid (w := W1) rfl 101 (.tmp 3) rfl gb 0 rfl T _ hra.out Tryz.underlying101 rfl (by rw [hTl]; exact hsz.out) ?_)
    | (refine wpList_store_mid (w := W1) rfl 101 (.tmp 2) (.tmp 4) rfl (gb + 1) 0 T.toArray rfl rfl (by rw [List.size_toArray, hTl]; exact hth.out) (by rw [List.size_toArray, hTl]; exact hsz.out) hT1 ?_))
  refine bodyPost_ret (v := .agg T.toArray) (results_cell_row (p := 2) (ty := 101) rfl _ _ (gb + 1) _ T.toArray _ _ rfl hq0.out Tryz.underlying101 rfl (by rw [List.size_toArray, hTl]; exact hsz.out)) rfl ⟨rfl, hl0.out⟩
/-- A table's numbers, row by row. -/
def tabI (G : Nat → Nat → Int) (n W : Nat) : List Int := (List.range (n * W)).map fun i => G (i / W) (i % W)
theorem tabI_length (G : Nat → Nat → Int) (n W : Nat) : (tabI G n W).length = n * W := by simp [tabI]
theorem tabI_vals (G : Nat → Nat → Int) (n W : Nat) : intVals (tabI G n W) = tabL G n W := by unfold intVals tabI tabL; rw [List.map_map]; rfl
/-- A dense handle on a table. -/
def TabD (w : World) (eb : Nat) (mo : Option Nat) (F : UInt8 → Nat) (n W : Nat) (G : Nat → Nat → Int) : Prop :=
  ∃ cb wb sb A c, w.heap[eb]? = some (.cells #[.pointer (madr mo), .func (.func 136) #[] #[.pointer (some ⟨cb, 0, none⟩), .pointer (some ⟨wb, 0, none⟩), .pointer (some ⟨sb, 0, none⟩)]] 211 (0, 0)) ∧
    w.heap[cb]? = some (.cells (tblV F) 101 (0, 0)) ∧ w.heap[wb]? = some (.cells #[.int .i64 (W : Int)] 3 (0, 0)) ∧ w.heap[sb]? = some (.cells #[.slice A (n * W) c] 105 (0, 0)) ∧ n * W ≤ c ∧ Row w A (tabL G n W) ∧ (∀ ad, A = some ad → ¬ OnlyM mo ad.block)
theorem TabD.below {w w' : World} {eb : Nat} {mo : Option Nat} {F : UInt8 → Nat} {n W : Nat} {G : Nat → Nat → Int} (h : TabD w eb mo F n W G) (hb : Below w.heap.size w w') : TabD w' eb mo F n W G := by
  obtain ⟨cb, wb, sb, A, c, h1, h2, h3, h4, h5, h6, h7⟩ := h
  exact ⟨cb, wb, sb, A, c, blkBelow hb h1, blkBelow hb h2, blkBelow hb h3, blkBelow hb h4, h5, Row.below h6 hb, h7⟩
theorem TabD.keep {w w' : World} {eb : Nat} {mo : Option Nat} {F : UInt8 → Nat} {n W : Nat} {G : Nat → Nat → Int} {cn : Cn} (h : TabD w eb mo F n W G) (hm : Mo w mo cn) (hk : Keeps (OnlyM mo) w w') : TabD w' eb mo F n W G := by
  obtain ⟨cb, wb, sb, A, c, h1, h2, h3, h4, h5, h6, h7⟩ := h
  exact ⟨cb, wb, sb, A, c, blk_keep h1 hk (hm.far h1 (.inl (by simp))), blk_keep h2 hk (hm.far h2 (.inl (by rw [tblV_size]; decide))), blk_keep h3 hk (hm.far h3 (.inl (by simp))), blk_keep h4 hk (hm.far h4 (.inl (by simp))), h5, Row.keep h6 hk (fun ad e _ => h7 ad e), h7⟩
set_option maxRecDepth 100000 in
set_option maxHeartbeats 1600000 in
theorem mdense_calls (w : World) (mo : Option Nat) (cn : Cn) (hm : Mo w mo cn) (F : UInt8 → Nat) (n W : Nat) (G : Nat → Nat → Int) (nb : Nat) (ht : w.heap[nb]? = some (.cells (tabL G n W).toArray 3 (0, 0))) (hNb : n * W ≤ 50000) :
    Calls Tryz.prog 134 #[.pointer (madr mo), .agg (tblV F), .int .i64 (W : Int), .slice (some ⟨nb, 0, none⟩) (n * W) (n * W)] w fun e w' => ∃ eb, e = .returned (.pointer (some ⟨eb, 0, none⟩)) ∧ TabD w' eb mo F n W G ∧ Below w.heap.size w w' := by
  obtain ⟨N, hN⟩ : ∃ N, n * W = N := ⟨_, rfl⟩
  have hIl : (tabI G n W).length = N := by rw [tabI_length, hN]
  have hrow : Ints w (some ⟨nb, 0, none⟩) (tabI G n W) := by
    unfold Ints; rw [tabI_vals]; exact rowOfBlk ht
  have cCl := As.mk (fun v (hv : Below w.heap.size w v) => cloneInts_calls v ⟨nb, 0, none⟩ N (tabI G n W) (Row.below hrow hv) (by omega))
  rw [hIl] at cCl
  rw [hN] at hNb ⊢
  have hmo := As.mk hm
  obtain ⟨T, hT⟩ : ∃ T, tblV F = T := ⟨_, rfl⟩
  have hTs : T.size = 256 := by rw [← hT]; exact tblV_size _
  rw [hT]
  replace hT := As.mk hT
  replace hN := As.mk hN
  replace hIl := As.mk hIl
  clear ht hm
  obtain ⟨gb, hgb⟩ : ∃ g, w.heap.size = g := ⟨_, rfl⟩
  have b3 : (((w.alloc (.cells T 101)).alloc (.cells #[.int .i64 (W : Int)] 3)).alloc (.cells #[.slice (some ⟨nb, 0, none⟩) N N] 105)).heap[gb + 1 + 1]? = some (.cells #[.slice (some ⟨nb, 0, none⟩) N N] 105 (0, 0)) := by
    rw [← hgb]
    have := heap_alloc_new ((w.alloc (.cells T 101)).alloc (.cells #[.int .i64 (W : Int)] 3)) (.cells #[.slice (some ⟨nb, 0, none⟩) N N] 105)
    simpa using this
  have b2 : (((w.alloc (.cells T 101)).alloc (.cells #[.int .i64 (W : Int)] 3)).alloc (.cells #[.slice (some ⟨nb, 0, none⟩) N N] 105)).heap[gb + 1]? = some (.cells #[.int .i64 (W : Int)] 3 (0, 0)) := by rw [← hgb]; exact blk_old (blk_new1 _ _ _)
  have b1 : (((w.alloc (.cells T 101)).alloc (.cells #[.int .i64 (W : Int)] 3)).alloc (.cells #[.slice (some ⟨nb, 0, none⟩) N N] 105)).heap[gb]? = some (.cells T 101 (0, 0)) := by rw [← hgb]; exact blk_old (blk_old (heap_alloc_new _ _))
  have hB : Below w.heap.size w (((w.alloc (.cells T 101)).alloc (.cells #[.int .i64 (W : Int)] 3)).alloc (.cells #[.slice (some ⟨nb, 0, none⟩) N N] 105)) := (((Below.refl _ _).alloc (Nat.le_refl _) _).alloc (by simp) _).alloc (by simp; omega) _
  obtain ⟨W1, hW1⟩ : ∃ W', (((w.alloc (.cells T 101)).alloc (.cells #[.int .i64 (W : Int)] 3)).alloc (.cells #[.slice (some ⟨nb, 0, none⟩) N N] 105)) = W' := ⟨_, rfl⟩
  rw [hW1] at b1 b2 b3 hB
  have s0 : W1.cell? ⟨gb + 1 + 1, 0, none⟩ = some (.slice (some ⟨nb, 0, none⟩) N N) := cell_of_blk b3 0
  replace b1 := As.mk b1
  replace b2 := As.mk b2
  replace b3 := As.mk b3
  replace hB := As.mk hB
  go_enter Tryz.func134, Tryz.ntmps134
  go_wp2_with (first
    | (rw [hW1])
    | (rw [hgb])
    | (go_at_call 91; refine Calls.mono (cCl.out _ hB.out) ?_; intro e w2 h2; obtain ⟨v2, he2, ho2', hb2⟩ := h2.out; subst he2; have ho2 : w2.ownsRow W1.heap.size 3 1 v2 N (tabL G n W) := (by rw [← tabI_vals, ← hIl.out]; exact ho2'); obtain ⟨A2, c2, rfl, hc2⟩ := own_slice ho2; have e3 := blkBelow hb2 b3.out; have f3 : w2.cell? ⟨gb + 1 + 1, 0, none⟩ = some (.slice (some ⟨nb, 0, none⟩) N N) := cell_of_blk e3 0; have g3 : w2.frozen? ⟨gb + 1 + 1, 0, none⟩ = false := free_of_blk e3 0; replace e3 := As.mk e3))
  go_ret
  have hrw := Row.of_own ho2
  have hW1s := block_lt b3.out
  have hAg : ∀ ad, A2 = some ad → W1.heap.size ≤ ad.block := fun ad e => by
    rcases own_addr ho2 with e' | ⟨q, e', hq⟩
    · rw [e] at e'; cases e'
    · rw [e] at e'; injection e' with e'; subst e'; exact hq
  have k0 : Keeps (fun k => k = gb + 1 + 1) w2 (w2.setCell ⟨gb + 1 + 1, 0, none⟩ (.slice A2 N c2)) := (keepsSt w2 ⟨gb + 1 + 1, 0, none⟩ _).mono fun _ _ h => h
  have kB : Below w.heap.size w (w2.setCell ⟨gb + 1 + 1, 0, none⟩ (.slice A2 N c2)) := ((hB.out.trans (hb2.mono hB.out.size)).setCell (p := ⟨gb + 1 + 1, 0, none⟩) (by rw [hgb]; show gb ≤ gb + 1 + 1; omega) _)
  have s3 := kB.size
  refine ⟨_, rfl, ⟨gb, gb + 1, gb + 1 + 1, A2, c2, ?_, ?_, ?_, ?_, by rw [hN.out]; exact hc2, ?_, fun ad e hS => ?_⟩, ?_⟩
  · have := heap_alloc_new (w2.setCell ⟨gb + 1 + 1, 0, none⟩ (.slice A2 N c2)) (.cells #[.pointer (madr mo), .func (.func 136) #[] #[.pointer (some ⟨gb, 0, none⟩), .pointer (some ⟨gb + 1, 0, none⟩), .pointer (some ⟨gb + 1 + 1, 0, none⟩)]] 211)
    rw [show (w2.setCell ⟨gb + 1 + 1, 0, none⟩ (.slice A2 N c2)).heap.size = w2.heap.size by simp [World.setCell]] at this
    exact this
  · rw [hT.out]; exact blk_old (blk_keep (blkBelow hb2 b1.out) k0 (by omega))
  · exact blk_old (blk_keep (blkBelow hb2 b2.out) k0 (by omega))
  · rw [hN.out]; exact blk_old (blk_set e3.out 0 _)
  · exact Row.alloc (Row.keep hrw k0 (fun ad e _ hS => by have := hAg ad e; omega)) _
  · have h1 := block_lt (hmo.out _ hS)
    have h2 := hAg ad e
    have h3 := hB.out.size
    omega
  · rw [hgb] at kB s3; exact kB.alloc s3 _
set_option maxRecDepth 100000 in
set_option maxHeartbeats 1600000 in
theorem mdlook_calls (w : World) (cb wb sb : Nat) (F : UInt8 → Nat) (n W : Nat) (G : Nat → Nat → Int) (A : Option Addr) (cp : Nat) (h2 : w.heap[cb]? = some (.cells (tblV F) 101 (0, 0))) (h3 : w.heap[wb]? = some (.cells #[.int .i64 (W : Int)] 3 (0, 0))) (h4 : w.heap[sb]? = some (.cells #[.slice A (n * W) cp] 105 (0, 0))) (h5 : n * W ≤ cp) (h6 : Row w A (tabL G n W))
    (hNb : n * W ≤ 50000) (a : Nat) (ha : a < n) (c : UInt8) (hc : F c < W) :
    Calls Tryz.prog 136 #[.agg #[.int .i64 (a : Int), .int .u8 (c.toNat : Int)], .pointer (some ⟨cb, 0, none⟩), .pointer (some ⟨wb, 0, none⟩), .pointer (some ⟨sb, 0, none⟩)] w fun e w' => e = .returned (.int .i64 (G a (F c))) ∧ Below w.heap.size w w' := by
  have hB : Below w.heap.size w (w.alloc (.cells #[.int .i64 (a : Int), .int .u8 (c.toNat : Int)] 208)) := (Below.refl _ _).alloc (Nat.le_refl _) _
  have hlt := tabL_lt ha hc
  obtain ⟨ad, rfl, hcell⟩ := Row.at_ (Row.below h6 hB) (j := a * W + F c) (by rw [tabL_length]; exact hlt)
  have hc256 := c.toNat_lt
  have c1 : (w.alloc (.cells #[.int .i64 (a : Int), .int .u8 (c.toNat : Int)] 208)).cell? ⟨cb, c.toNat, none⟩ = some (.int .i64 (F c : Int)) := by
    rw [cell_of_blk (blk_old h2)]; unfold tblV; rw [List.getElem?_toArray]; exact tblCells_at F c
  have c2 : (w.alloc (.cells #[.int .i64 (a : Int), .int .u8 (c.toNat : Int)] 208)).cell? ⟨wb, 0, none⟩ = some (.int .i64 (W : Int)) := cell_of_blk (blk_old h3) 0
  have c3 : (w.alloc (.cells #[.int .i64 (a : Int), .int .u8 (c.toNat : Int)] 208)).cell? ⟨sb, 0, none⟩ = some (.slice (some ad) (n * W) cp) := cell_of_blk (blk_old h4) 0
  have hv : (tabL G n W)[a * W + F c]'(by rw [tabL_length]; exact hlt) = .int .i64 (G a (F c)) := by
    have := tabL_at G ha hc
    rw [List.getElem?_eq_getElem (by rw [tabL_length]; exact hlt)] at this
    injection this
  rw [hv] at hcell
  clear hv h2 h3 h4 h6
  obtain ⟨r, hr⟩ : ∃ r, G a (F c) = r := ⟨_, rfl⟩
  rw [hr] at hcell ⊢
  clear hr
  obtain ⟨k, hk⟩ : ∃ k, F c = k := ⟨_, rfl⟩
  rw [hk] at hc hlt hcell c1
  clear hk
  obtain ⟨x, hx⟩ : ∃ x, c.toNat = x := ⟨_, rfl⟩
  rw [hx] at hc256 c1 ⊢
  rw [hx] at hB hcell c2 c3
  clear hx
  have haN : (a + 1) * W ≤ n * W := Nat.mul_le_mul_right _ ha
  rw [Nat.succ_mul] at haN
  obtain ⟨N, hN⟩ : ∃ N, n * W = N := ⟨_, rfl⟩
  obtain ⟨p, hp⟩ : ∃ p, a * W = p := ⟨_, rfl⟩
  have hmul : (a : Int) * (W : Int) = (p : Int) := by rw [← hp]; push_cast; rfl
  have hquo : (a : Int) ≤ ((N : Int) - 1 - (k : Int)) / (W : Int) := by
    rw [Int.le_ediv_iff_mul_le (by omega), hmul]; rw [hp, hN] at haN; omega
  rw [hN, hp] at hlt haN
  rw [hN] at h5 hNb c3
  rw [hp] at hcell
  replace hN := As.mk hN
  replace hp := As.mk hp
  obtain ⟨W1, hW1⟩ : ∃ W', w.alloc (.cells #[.int .i64 (a : Int), .int .u8 (x : Int)] 208) = W' := ⟨_, rfl⟩
  have e0 : W1.cell? ⟨w.heap.size, 0, none⟩ = some (.int .i64 (a : Int)) := by rw [← hW1]; exact cell_of_blk (heap_alloc_new _ _) 0
  have e1 : W1.cell? ⟨w.heap.size, 1, none⟩ = some (.int .u8 (x : Int)) := by rw [← hW1]; exact cell_of_blk (heap_alloc_new _ _) 1
  rw [hW1] at hB hcell c1 c2 c3
  obtain ⟨gb, hgb⟩ : ∃ g, w.heap.size = g := ⟨_, rfl⟩
  rw [hgb] at e0 e1
  replace hB := As.mk hB
  have d1 : decide ((a : Int) < 0) = false := decide_eq_false (by omega)
  have d2 : decide ((k : Int) < 0) = false := decide_eq_false (by omega)
  have d3 : decide (W ≤ k) = false := decide_eq_false (by omega)
  have d4 : decide (N ≤ k) = false := decide_eq_false (by omega)
  have w1 : IntKind.i64.wrap ((N : Int) - 1) = (N : Int) - 1 := by rw [IntKind.wrap_i64]; omega
  have w2 : IntKind.i64.wrap ((N : Int) - 1 - (k : Int)) = (N : Int) - 1 - (k : Int) := by rw [IntKind.wrap_i64]; omega
  have hW0 : ((W : Int) == 0) = false := by simp; omega
  have hW0' : ¬ (W : Int) = 0 := by omega
  have hW00 : ¬ W = 0 := by omega
  go_enter Tryz.func136, Tryz.ntmps136
  go_wp2_with (first | (rw [hW1]) | (rw [hgb]))
  go_quiet (fail)
  go_wp2
  go_ret
  exact ⟨rfl, below_drewN hB.out _⟩
theorem mlookd_calls (w : World) (eb : Nat) (mo : Option Nat) (F : UInt8 → Nat) (n W : Nat) (G : Nat → Nat → Int) (ht : TabD w eb mo F n W G) (cn : Cn) (hm : Mo w mo cn) (hok : cn.ok) (hNb : n * W ≤ 50000) (a : Nat) (ha : a < n) (c : UInt8) (hc : F c < W) :
    Calls Tryz.prog 131 #[.pointer (some ⟨eb, 0, none⟩), .int .i64 (a : Int), .int .u8 (c.toNat : Int)] w fun e w' => e = .returned (.int .i64 (G a (F c))) ∧ Mo w' mo { cn with l := cn.l + 1 } ∧ Keeps (OnlyM mo) w w' := by
  have hk := As.mk (fun (w' : World) (k : Keeps (OnlyM mo) w w') => ht.keep hm k)
  have hmo := As.mk hm
  obtain ⟨cb, wb, sb, A, cp, h1, h2, h3, h4, h5, h6, h7⟩ := ht
  have c0 : w.cell? ⟨eb, 0, none⟩ = some (.pointer (madr mo)) := cell_of_blk h1 0
  have hlt := block_lt h1
  obtain ⟨s, l, hh, m⟩ := cn
  have hs1 : IntKind.i64.wrap (l + 1) = l + 1 := by have := hok.2.2.1; have := hok.2.2.2.1; simp only [IntKind.wrap, IntKind.signed, IntKind.bits] at *; simp; omega
  cases mo with
  | none =>
    have hB : Below w.heap.size w (w.alloc (.cells #[.int .i64 0, .int .i64 1, .int .i64 0, .int .i64 0] 49)) := (Below.refl _ _).alloc (Nat.le_refl _) _
    have d1 := (hB.cell (p := ⟨eb, 1, none⟩) hlt).trans (cell_of_blk h1 1)
    have cl := As.mk (fun v (hv : Below w.heap.size w v) => mdlook_calls v cb wb sb F n W G A cp (blkBelow hv h2) (blkBelow hv h3) (blkBelow hv h4) h5 (Row.below h6 hv) hNb a ha c hc)
    unfold madr at c0
    simp only [Option.map_none, Option.map_some] at c0
    simp at d1
    generalize G a (F c) = r at *
    replace hB := As.mk hB
    clear h1 h2 h3 h4 h5 h6 h7 hk hmo hok hm
    go_enter Tryz.func131, Tryz.ntmps131
    go_wp2_with (first
      | (go_at_call 136; refine Calls.mono (cl.out _ hB.out) ?_; rintro e w1 ⟨rfl, hb⟩)
      | (go_at_call 132; refine Calls.mono (mcount_none _) ?_; rintro e w1 ⟨rfl, rfl⟩))
    go_ret
    exact ⟨rfl, Mo.none_ _ _, (Keeps.of_below hB.out _).trans (Keeps.of_below hb _)⟩
  | some g =>
    have hg := hmo.out g rfl
    have g0 : w.cell? ⟨g, 1, none⟩ = some (.int .i64 l) := cell_of_blk hg 1
    have f0 : w.frozen? ⟨g, 1, none⟩ = false := free_of_blk hg 1
    have hK : Keeps (OnlyM (some g)) w (w.setCell ⟨g, 1, none⟩ (.int .i64 (l + 1))) := (keepsSt w ⟨g, 1, none⟩ _).mono fun k _ e => by unfold OnlyM; exact congrArg some e.symm
    have hM : MtAt (w.setCell ⟨g, 1, none⟩ (.int .i64 (l + 1))) g ⟨s, l + 1, hh, m⟩ := by
      have := blk_set hg 1 (.int .i64 (l + 1))
      unfold MtAt
      rw [this]
      simp [cnCells]
    obtain ⟨cb', wb', sb', A', cp', k1, k2, k3, k4, k5, k6, _⟩ := hk.out _ hK
    have d1 : (w.setCell ⟨g, 1, none⟩ (.int .i64 (l + 1))).cell? ⟨eb, 1, none⟩ = some (.func (.func 136) #[] #[.pointer (some ⟨cb', 0, none⟩), .pointer (some ⟨wb', 0, none⟩), .pointer (some ⟨sb', 0, none⟩)]) := cell_of_blk k1 1
    have cl := As.mk (mdlook_calls _ cb' wb' sb' F n W G A' cp' k2 k3 k4 k5 k6 hNb a ha c hc)
    unfold madr at c0
    simp only [Option.map_none, Option.map_some] at c0
    generalize G a (F c) = r at *
    replace hK := As.mk hK
    replace hM := As.mk hM
    clear h1 h2 h3 h4 h5 h6 h7 hk hmo hok k1 k2 k3 k4 k5 k6 hg hm
    go_enter Tryz.func131, Tryz.ntmps131
    go_wp2_with (first
      | (go_at_call 136; refine Calls.mono cl.out ?_; rintro e w1 ⟨rfl, hb⟩)
      | (go_at_call 132; refine Calls.mono (mcount_some _ _) ?_; rintro e w1 ⟨rfl, rfl⟩))
    go_ret
    exact ⟨rfl, Mo.some_ (hM.out.below hb), hK.out.trans (Keeps.of_below hb _)⟩
end Go.Proofs.YtdiljmhikajjiaaGreat
end
