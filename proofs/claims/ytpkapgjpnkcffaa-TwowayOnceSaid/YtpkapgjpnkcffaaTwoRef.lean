/- The reference on the next place, and the law's 'few', by their contracts. -/
import Derived.Test.YtpkapgjpnkcffaaTwoScan
import Derived.Test.YtpkapgjpnkcffaaRefx
set_option linter.unusedVariables false
set_option linter.unusedSimpArgs false
namespace Go.Proofs.Ytpkapgjpnkcffaa
open Go.RowKit Seine.Trie Seine.Two Go.Proofs.YtpkapgjpnkcffaaW.PrintWords Go.Proofs.Ytpkapgjpnkcffaa.Ref

theorem nextF_eq {b l : Txt} {p : Nat} {r : Int} (h : Seine.Two.next (bx b) b.length (bx l) l.length p r) : nextF b l p = r := next_one (nextF_spec b l p) h
theorem refNext (b l : Txt) (z : Int) (hb : b.length ≤ 1000000) (hl : l.length ≤ 1000000) : Evl (fun k => seineref13_Next.f k (bb b) (bb l) z) (nextF b l z.toNat) := by
  have key : ∀ (d i : Nat), i + d = l.length + 1 → (∀ j, z.toNat ≤ j → j < i → isAt b l j = false) → Evl (fun k => seineref13_Next.l0 k (bb b) (bb l) z (i : Int)) (nextF b l z.toNat) := by
    intro d
    induction d with
    | zero =>
      intro i h hno
      refine ⟨1, fun k hk => ?_⟩
      obtain ⟨q, rfl⟩ : ∃ q, k = q + 1 := ⟨k - 1, by omega⟩
      simp only [seineref13_Next.l0, bb_size]
      rw [w64 (by omega) (by omega), if_neg (by omega)]
      congr 1
      symm
      rcases Int.lt_or_le (nextF b l z.toNat) 0 with h0 | h0
      · exact (nextF_none h0).1
      · obtain ⟨i', _, h1, h2, _⟩ := nextF_some h0
        have := isAt_le h2
        rw [hno i' h1 (by omega)] at h2; cases h2
    | succ d ih =>
      intro i h hno
      by_cases hfit : i + b.length ≤ l.length
      · by_cases hz : z ≤ (i : Int)
        · have hex : (bb l).extract (i : Int).toNat ((i : Int) + (b.length : Int)).toNat = bb ((l.drop i).take b.length) := by
            rw [bb_extract, Int.toNat_natCast, show ((i : Int) + (b.length : Int)).toNat - i = b.length by omega]
          by_cases hat : (l.drop i).take b.length = b
          · refine ⟨1, fun k hk => ?_⟩
            obtain ⟨q, rfl⟩ : ∃ q, k = q + 1 := ⟨k - 1, by omega⟩
            have his : isAt b l i = true := decide_eq_true ⟨hfit, hat⟩
            simp only [seineref13_Next.l0, bb_size]
            rw [w64 (by omega) (by omega), if_pos (by omega), if_pos (by omega), if_pos (by omega), if_pos (by omega), hex, bb_toList, bb_toList, if_pos hat]
            congr 1
            symm
            refine nextF_eq ⟨fun _ => ⟨by omega, by rw [Int.toNat_natCast]; exact (match_iff _ _ _).2 his, fun j a c hm => ?_⟩, fun h0 => by omega⟩
            rw [match_iff, hno j a (by omega)] at hm; cases hm
          · have his : isAt b l i = false := decide_eq_false (fun h => hat h.2)
            refine (ih (i + 1) (by omega) (fun j a c => ?_)).step fun k => ?_
            · rcases Nat.lt_or_ge j i with e | e
              · exact hno j a e
              · obtain rfl : j = i := by omega
                exact his
            · simp only [seineref13_Next.l0, bb_size]
              rw [w64 (by omega) (by omega), if_pos (by omega), if_pos (by omega), if_pos (by omega), if_pos (by omega), hex, bb_toList, bb_toList, if_neg hat, w64 (by omega) (by omega)]
              rfl
        · refine (ih (i + 1) (by omega) (fun j a c => by omega)).step fun k => ?_
          simp only [seineref13_Next.l0, bb_size]
          rw [w64 (by omega) (by omega), if_pos (by omega), if_neg (by omega), w64 (by omega) (by omega)]
          rfl
      · refine ⟨1, fun k hk => ?_⟩
        obtain ⟨q, rfl⟩ : ∃ q, k = q + 1 := ⟨k - 1, by omega⟩
        simp only [seineref13_Next.l0, bb_size]
        rw [w64 (by omega) (by omega), if_neg (by omega)]
        congr 1
        symm
        rcases Int.lt_or_le (nextF b l z.toNat) 0 with h0 | h0
        · exact (nextF_none h0).1
        · obtain ⟨i', _, h1, h2, _⟩ := nextF_some h0
          have := isAt_le h2
          rw [hno i' h1 (by omega)] at h2; cases h2
  exact key (l.length + 1) 0 (by omega) (fun j a c => by omega)
theorem rnext_calls (w : World) (b l : Txt) (z : Int) (hb : b.length ≤ 1000000) (hl : l.length ≤ 1000000) : Calls Try.prog 14 #[.string (bb b), .string (bb l), .int .i64 z] w fun e w' => e = .returned (.int .i64 (nextF b l z.toNat)) ∧ Below w.heap.size w w' := by
  obtain ⟨k, hk⟩ := (refNext b l z hb hl).get
  exact (seineref13_Next.calls k (bb b) (bb l) z _ w hk).mono fun e w' h => ⟨h.1, h.2.below⟩
theorem few_calls (w : World) (A B : Option Addr) (c d : Nat) (b l : Txt) (hb : Byt w A b) (hl : Byt w B l) (hc : b.length ≤ c) (hd : l.length ≤ d) (hbl : b.length ≤ 9223372036854775807) (hll : l.length ≤ 9223372036854775807) (r : Bool) (hr : r = decide (b.length ≤ 100 ∧ l.length ≤ 300)) :
    Calls Try.prog 10 #[.slice A b.length c, .slice B l.length d] w fun e w' => e = .returned (.bool r) ∧ Below w.heap.size w w' := by
  have hf : seinelaw13_few.f (nb b) (nb l) = some r := by
    subst hr
    simp only [seinelaw13_few.f, nb_length]
    by_cases h1 : b.length ≤ 100
    · rw [if_pos (by omega)]
      congr 1
      rw [decide_eq_decide]; omega
    · rw [if_neg (by omega)]
      congr 1
      symm
      exact decide_eq_false (fun h => h1 h.1)
  have := seinelaw13_few.calls A c (nb b) B d (nb l) r w (by rw [nb_length]; exact kdU8 hb hbl) (by rw [nb_length]; exact hc) (by rw [nb_length]; exact kdU8 hl hll) (by rw [nb_length]; exact hd) hf
  rw [nb_length, nb_length] at this
  exact this.mono fun e w' h => ⟨h.1, h.2.below⟩
end Go.Proofs.Ytpkapgjpnkcffaa
