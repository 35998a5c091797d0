/- Bytes in memory, and slices.Reverse of such a row of the call's own. -/
import Derived.Test.YtcapmihfhioafaaDoorProg
import Derived.Test.YtcapmihfhioafaaDoorBase2
import Derived.Test.YtcapmihfhioafaaDoorTriePure
import Derived.RegionTactic
import Derived.BigRegion
import Derived.WalkMore
set_option linter.unusedVariables false
set_option linter.unusedSimpArgs false
namespace Go.Proofs.YtcapmihfhioafaaDoor
open Go.RowKit Seine.Trie

def byCells (b : Txt) : List Value := b.map fun c => .int .u8 (c.toNat : Int)
theorem byCells_length (b : Txt) : (byCells b).length = b.length := by simp [byCells]
theorem byCells_snoc (b : Txt) (c : UInt8) : byCells (b ++ [c]) = byCells b ++ [.int .u8 (c.toNat : Int)] := by simp [byCells]
/-- A slice of bytes. -/
abbrev Byt (w : World) (A : Option Addr) (b : Txt) : Prop := Row w A (byCells b)
abbrev OwnByt (w : World) (base : Nat) (v : Value) (b : Txt) : Prop := w.ownsRow base 5 1 v b.length (byCells b)
theorem Byt.at_ {w : World} {A : Option Addr} {b : Txt} (h : Byt w A b) {i : Nat} (hi : i < b.length) : ∃ ad, A = some ad ∧ w.cell? (ad.add i) = some (.int .u8 ((b.getD i 0).toNat : Int)) := by
  obtain ⟨ad, h1, h2⟩ := Row.at_ h (j := i) (by rw [byCells_length]; exact hi)
  exact ⟨ad, h1, by rw [h2]; simp [byCells, hi]⟩
theorem info_u8 : (Tryd.prog.info? 5).map (fun i => (i.zero, i.size, i.bytes)) = some (some (.int .u8 0), 1, 1) := by kernel_rfl
theorem ownByt_snoc {w : World} {base : Nat} {v : Value} {b : Txt} {c : UInt8} (h : w.ownsRow base 5 1 v (b.length + 1) (byCells b ++ [.int .u8 (c.toNat : Int)])) : OwnByt w base v (b ++ [c]) := by
  have h1 : (b ++ [c]).length = b.length + 1 := by simp
  unfold OwnByt; rw [h1, byCells_snoc]; exact h
theorem OwnByt.row {w : World} {base : Nat} {v : Value} {b : Txt} (h : OwnByt w base v b) : ∃ A c, v = .slice A b.length c ∧ b.length ≤ c ∧ Byt w A b := by
  obtain ⟨A, c, rfl, hc⟩ := own_slice h
  exact ⟨A, c, rfl, hc, Row.of_own h⟩

theorem byt_one2 {b : Txt} : ∀ u ∈ byCells b, u.oneCell' = true := fun u hu => by
  obtain ⟨x, _, rfl⟩ := List.mem_map.1 hu; rfl
/-- Bytes in new memory. -/
def RetByt (w : World) (b : Txt) (e : Ending) (w' : World) : Prop := ∃ v, e = .returned v ∧ OwnByt w' w.heap.size v b ∧ Below w.heap.size w w'
theorem RetByt.open_ {w w' : World} {b : Txt} {e : Ending} (h : RetByt w b e w') : ∃ v, e = .returned v ∧ OwnByt w' w.heap.size v b ∧ Below w.heap.size w w' := h
theorem RetByt.row {w w' : World} {b : Txt} {e : Ending} (h : RetByt w b e w') : ∃ A c, e = .returned (.slice A b.length c) ∧ Byt w' A b ∧ Below w.heap.size w w' := by
  obtain ⟨v, rfl, ho, hb⟩ := h
  obtain ⟨A, c, rfl, _, hr⟩ := ho.row
  exact ⟨A, c, rfl, hr, hb⟩
theorem RetByt.rowc {w w' : World} {b : Txt} {e : Ending} (h : RetByt w b e w') : ∃ A c, e = .returned (.slice A b.length c) ∧ b.length ≤ c ∧ Byt w' A b ∧ Below w.heap.size w w' := by
  obtain ⟨v, rfl, ho, hb⟩ := h
  obtain ⟨A, c, rfl, hc, hr⟩ := ho.row
  exact ⟨A, c, rfl, hc, hr, hb⟩
theorem litByt {w : World} {b : Nat} (l : Txt) (cs : List Value) (hcs : cs = byCells l) {t : Nat} {fr : Nat × Nat} (h : w.heap[b]? = some (.cells cs.toArray t fr)) : Byt w (some ⟨b, 0, none⟩) l := by
  subst hcs; exact rowOfBlk h
theorem Byt.none0 (w : World) : Byt w none [] := .inl rfl
/-- the bytes, of which k are exchanged from each end -/
def revK (b : Txt) (k : Nat) : Txt := (List.range b.length).map fun j => if j < k ∨ b.length - 1 - j < k then b.getD (b.length - 1 - j) 0 else b.getD j 0
theorem revK_length (b : Txt) (k : Nat) : (revK b k).length = b.length := by simp [revK]
theorem revK_get (b : Txt) (k j : Nat) (h : j < b.length) : (revK b k).getD j 0 = if j < k ∨ b.length - 1 - j < k then b.getD (b.length - 1 - j) 0 else b.getD j 0 := by
  simp [revK, List.getD_eq_getElem?_getD, h]
theorem txt_ext {a b : Txt} (hl : a.length = b.length) (h : ∀ j, j < a.length → a.getD j 0 = b.getD j 0) : a = b := by
  apply List.ext_getElem hl
  intro j h1 h2
  have := h j h1
  simpa [List.getD_eq_getElem?_getD, h1, h2] using this
theorem revK_zero (b : Txt) : revK b 0 = b := by
  apply txt_ext (revK_length b 0)
  intro j hj
  rw [revK_length] at hj
  rw [revK_get b 0 j hj, if_neg (by omega)]
theorem revK_done (b : Txt) (k : Nat) (h : b.length ≤ 2 * k + 1) : revK b k = b.reverse := by
  apply txt_ext (by rw [revK_length]; simp)
  intro j hj
  rw [revK_length] at hj
  rw [revK_get b k j hj]
  have hr : b.reverse.getD j 0 = b.getD (b.length - 1 - j) 0 := by
    rw [List.getD_eq_getElem?_getD, List.getElem?_reverse hj, ← List.getD_eq_getElem?_getD]
  rw [hr]
  split
  · rfl
  · have : b.length - 1 - j = j := by omega
    rw [this]
theorem revK_next (b : Txt) (k : Nat) (h : 2 * k + 1 < b.length) : ((revK b k).set k ((revK b k).getD (b.length - 1 - k) 0)).set (b.length - 1 - k) ((revK b k).getD k 0) = revK b (k + 1) := by
  apply txt_ext (by simp [revK_length])
  intro j hj
  have hj : j < b.length := by simpa [revK_length] using hj
  have hset : ∀ (l : Txt) (i j : Nat) (x : UInt8), j < l.length → (l.set i x).getD j 0 = if i = j then x else l.getD j 0 := by
    intro l i j x hl
    simp only [List.getD_eq_getElem?_getD, List.getElem?_set]
    split <;> simp_all
  rw [hset _ _ _ _ (by simpa [revK_length] using hj), hset _ _ _ _ (by simpa [revK_length] using hj), revK_get b k k (by omega), revK_get b k _ (by omega), revK_get b k j hj, revK_get b (k + 1) j hj]
  by_cases h1 : b.length - 1 - k = j
  · rw [if_pos h1, if_neg (by omega), if_pos (by omega)]
    congr 1; omega
  · rw [if_neg h1]
    by_cases h2 : k = j
    · rw [if_pos h2, if_neg (by omega), if_pos (by omega)]
      congr 1; omega
    · rw [if_neg h2]
      by_cases h3 : j < k ∨ b.length - 1 - j < k
      · rw [if_pos h3, if_pos (by omega)]
      · rw [if_neg h3, if_neg (by omega)]
theorem byCells_set (b : Txt) (i : Nat) (c : UInt8) : (byCells b).set i (.int .u8 (c.toNat : Int)) = byCells (b.set i c) := by simp [byCells, List.map_set]

end Go.Proofs.YtcapmihfhioafaaDoor
