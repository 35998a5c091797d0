/- What a decimal numeral's bytes tell: the number again, digits alone, no nought ahead. No program, no memory. -/
import Derived.Test.YtcapmihfhioafaaDoorTriePure
import Derived.Lib.ItoaLen
set_option linter.unusedVariables false
namespace Seine.Back
open Go.Lib Seine.Trie
/-- The number that digits tell. -/
def num (ds : Txt) : Nat := ds.foldl (fun n c => n * 10 + (c.toNat - 48)) 0
theorem num_snoc (ds : Txt) (c : UInt8) : num (ds ++ [c]) = num ds * 10 + (c.toNat - 48) := by unfold num; rw [List.foldl_append]; rfl
theorem digit_nat {k : Nat} (h : k < 10) : (UInt8.ofNat (48 + k)).toNat = 48 + k := by rw [UInt8.toNat_ofNat']; omega
theorem dec_num (u : Nat) : num (decDigits u) = u := by
  induction u using Nat.strongRecOn with
  | _ u ih =>
    rw [decDigits]
    split
    · rename_i h
      show 0 * 10 + ((UInt8.ofNat (48 + u)).toNat - 48) = u
      rw [digit_nat h]; omega
    · rename_i h
      rw [num_snoc, ih _ (by omega), digit_nat (Nat.mod_lt _ (by omega))]
      omega
theorem dec_digit (u : Nat) : ∀ c ∈ decDigits u, 48 ≤ c.toNat ∧ c.toNat ≤ 57 := by
  induction u using Nat.strongRecOn with
  | _ u ih =>
    intro c hc
    rw [decDigits] at hc
    split at hc
    · rename_i h
      rw [List.mem_singleton] at hc; subst hc
      rw [digit_nat h]; omega
    · rename_i h
      rw [List.mem_append, List.mem_singleton] at hc
      rcases hc with hc | rfl
      · exact ih _ (by omega) c hc
      · have := Nat.mod_lt u (show 10 > 0 by omega)
        rw [digit_nat this]; omega
theorem dec_pos (u : Nat) : 0 < (decDigits u).length := by rw [decDigits_length]; exact nDigits_pos u
theorem dec_head (u : Nat) (h : 1 ≤ u) : ((decDigits u).getD 0 0).toNat ≠ 48 := by
  induction u using Nat.strongRecOn with
  | _ u ih =>
    rw [decDigits]
    split
    · rename_i h1
      show (UInt8.ofNat (48 + u)).toNat ≠ 48
      rw [digit_nat h1]; omega
    · rename_i h1
      rw [List.getD_eq_getElem?_getD, List.getElem?_append_left (dec_pos _), ← List.getD_eq_getElem?_getD]
      exact ih _ (by omega) (by omega)
theorem pow_le_nDigits (u : Nat) (h : 1 ≤ u) : 10 ^ (nDigits u - 1) ≤ u := by
  induction u using Nat.strongRecOn with
  | _ u ih =>
    by_cases h1 : u < 10
    · rw [nDigits_small h1]; simpa using h
    · rw [nDigits_big h1, Nat.add_sub_cancel]
      have h2 := ih (u / 10) (by omega) (by omega)
      have h3 := nDigits_pos (u / 10)
      obtain ⟨k, hk⟩ : ∃ k, nDigits (u / 10) = k + 1 := ⟨nDigits (u / 10) - 1, by omega⟩
      rw [hk, Nat.add_sub_cancel] at h2
      rw [hk, Nat.pow_succ]
      omega
theorem dec_19 (u : Nat) (h : u ≤ 9223372036854775808) : (decDigits u).length ≤ 19 := by
  rw [decDigits_length]
  rcases Nat.eq_zero_or_pos u with rfl | h0
  · rw [nDigits_small (by omega)]; omega
  · have h1 := pow_le_nDigits u h0
    rcases Nat.lt_or_ge (nDigits u) 20 with h2 | h2
    · omega
    · have : 10 ^ 19 ≤ 10 ^ (nDigits u - 1) := Nat.pow_le_pow_right (by omega) (by omega)
      have h3 : (10 : Nat) ^ 19 = 10000000000000000000 := by decide
      omega
theorem fold_le (b : Txt) : ∀ n : Nat, n ≤ b.foldl (fun n c => n * 10 + (c.toNat - 48)) n := by
  induction b with
  | nil => intro n; exact Nat.le_refl n
  | cons c b ih => intro n; exact Nat.le_trans (by omega) (ih (n * 10 + (c.toNat - 48)))
theorem num_mono (a b : Txt) : num a ≤ num (a ++ b) := by
  unfold num
  rw [List.foldl_append]
  exact fold_le b _
theorem num_take (ds : Txt) (k : Nat) : num (ds.take k) ≤ num ds := by
  have := num_mono (ds.take k) (ds.drop k)
  rwa [List.take_append_drop] at this
theorem num_take_succ (ds : Txt) (k : Nat) (h : k < ds.length) : num (ds.take (k + 1)) = num (ds.take k) * 10 + ((ds.getD k 0).toNat - 48) := by
  rw [List.take_succ_eq_append_getElem h, num_snoc, List.getD_eq_getElem?_getD, List.getElem?_eq_getElem h]; rfl
/-- A number's bytes: a sign or none, then digits. -/
structure Digits (n : Int) (D ds : Txt) (s : Nat) : Prop where
  eq : D = (if n < 0 then [45] else []) ++ ds
  sg : s = if n < 0 then 1 else 0
  num : Seine.Back.num ds = n.natAbs
  dig : ∀ c ∈ ds, 48 ≤ c.toNat ∧ c.toNat ≤ 57
  pos : 0 < ds.length
  len : ds.length ≤ 19
  head : (ds.getD 0 0).toNat ≠ 48 ∨ ds.length = 1
theorem digits_of (n : Int) (h0 : -9223372036854775808 ≤ n) (h1 : n ≤ 9223372036854775807) : Digits n (itoa n) (decDigits n.natAbs) (if n < 0 then 1 else 0) := by
  refine ⟨?_, rfl, dec_num _, dec_digit _, dec_pos _, dec_19 _ (by omega), ?_⟩
  · unfold itoa
    by_cases h : n < 0
    · rw [if_pos h, if_pos h]; rfl
    · rw [if_neg h, if_neg h, show n.natAbs = n.toNat by omega]; rfl
  · rcases Nat.eq_zero_or_pos n.natAbs with h | h
    · right; rw [h, decDigits_length, nDigits_small (by omega)]
    · left; exact dec_head _ h
end Seine.Back
