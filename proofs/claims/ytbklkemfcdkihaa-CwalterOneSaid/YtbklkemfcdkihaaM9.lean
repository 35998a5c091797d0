/- Joined texts: OneOcc. -/
import Derived.Test.YtbklkemfcdkihaaM8
import Derived.Test.YtbklkemfcdkihaaM2
section
/- What one text's search finds is what stands in the line. -/
set_option linter.unusedVariables false
namespace Go.Proofs.Ytbklkemfcdkihaa
open Go.RowKit Seine.Trie Seine.Two
open Seine.Sort (occ mem_occ Occ rise_ext rise_occ Rise lt)
theorem mem_occFrom {b l : Txt} {p : Pr} : p ∈ occFrom b l 0 ↔ ∃ i : Nat, p = ((i : Int), (i : Int) + (b.length : Int)) ∧ isAt b l i = true := by
  unfold occFrom
  rw [List.mem_map]
  constructor
  · rintro ⟨i, hi, rfl⟩
    exact ⟨i, rfl, (List.mem_filter.1 hi).2⟩
  · rintro ⟨i, rfl, h⟩
    have := isAt_le h
    exact ⟨i, List.mem_filter.2 ⟨by rw [List.mem_range'_1]; omega, h⟩, rfl⟩
theorem rise_occFrom (b l : Txt) : Rise (occFrom b l 0) := by
  unfold occFrom Rise
  rw [List.pairwise_map]
  refine List.Pairwise.filter _ ?_
  have : (List.range' 0 (l.length + 1 - 0)).Pairwise (· < ·) := List.pairwise_lt_range'
  exact this.imp fun h => by unfold lt; left; simpa using h
theorem occFrom_occ {b : Txt} (hb : 0 < b.length) (l : Txt) : occFrom b l 0 = occ [b] l := by
  refine rise_ext (rise_occFrom b l) (rise_occ _ _) fun p => ?_
  rw [mem_occFrom, mem_occ]
  unfold Occ
  constructor
  · rintro ⟨i, rfl, h⟩
    obtain ⟨h1, h2⟩ := of_decide_eq_true h
    refine ⟨i, i + b.length, by rw [Prod.mk.injEq]; exact ⟨rfl, by push_cast; rfl⟩, by omega, h1, ?_⟩
    rw [show i + b.length - i = b.length by omega, h2]; simp
  · rintro ⟨i, j, rfl, h1, h2, h3⟩
    rw [List.mem_singleton] at h3
    have hl : b.length = j - i := by
      rw [← h3, List.length_take, List.length_drop]; omega
    refine ⟨i, by rw [Prod.mk.injEq]; exact ⟨rfl, by omega⟩, decide_eq_true ⟨by omega, ?_⟩⟩
    rw [hl]; exact h3
end Go.Proofs.Ytbklkemfcdkihaa
end
