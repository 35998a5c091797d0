/- Bytes in memory, and slices.Reverse of such a row of the call's own. -/
import Derived.Test.YtpkapgjpnkcffaaProg
import Derived.Test.YtpkapgjpnkcffaaBase2
import Derived.Test.YtpkapgjpnkcffaaTriePure
import Derived.RegionTactic
import Derived.BigRegion
import Derived.WalkMore
set_option linter.unusedVariables false
set_option linter.unusedSimpArgs false
namespace Go.Proofs.Ytpkapgjpnkcffaa
open Go.RowKit Seine.Trie

def byCells (b : Txt) : List Value := b.map fun c => .int .u8 (c.toNat : Int)
theorem byCells_length (b : Txt) : (byCells b).length = b.length := by simp [byCells]
theorem byCells_snoc (b : Txt) (c : UInt8) : byCells (b ++ [c]) = byCells b ++ [.int .u8 (c.toNat : Int)] := by simp [byCells]
/-- A slice of bytes. -/
abbrev Byt (w : World) (A : Option Addr) (b : Txt) : Prop := Row w A (byCells b)
abbrev OwnByt (w : World) (base : Nat) (v : Value) (b : Txt) : Prop := w.ownsRow base 5 1 v b.length (byCells b)
theorem Byt.at_ {w : World} {A : Option Addr} {b : Txt} (h : Byt w A b) {i : Nat} (hi : i < b.length) : ∃ ad, A = some ad ∧ w.cell? (ad.add i) = some (.int .u8 ((b.getD i 0).toNat : Int)) := by
  obtain ⟨ad, h1, h2⟩ := Row.at_ h (j := i) (by rw [byCells_length]; exact hi)
  exact ⟨ad, h1, by rw [h2]; simp [byCells, hi]⟩
theorem info_u8 : (Try.prog.info? 5).map (fun i => (i.zero, i.size, i.bytes)) = some (some (.int .u8 0), 1, 1) := by kernel_rfl
theorem ownByt_snoc {w : World} {base : Nat} {v : Value} {b : Txt} {c : UInt8} (h : w.ownsRow base 5 1 v (b.length + 1) (byCells b ++ [.int .u8 (c.toNat : Int)])) : OwnByt w base v (b ++ [c]) := by
  have h1 : (b ++ [c]).length = b.length + 1 := by simp
  unfold OwnByt; rw [h1, byCells_snoc]; exact h
theorem OwnByt.row {w : World} {base : Nat} {v : Value} {b : Txt} (h : OwnByt w base v b) : ∃ A c, v = .slice A b.length c ∧ b.length ≤ c ∧ Byt w A b := by
  obtain ⟨A, c, rfl, hc⟩ := own_slice h
  exact ⟨A, c, rfl, hc, Row.of_own h⟩

/-- the bytes, of which k are exchanged from each end -/
def revK (b : Txt) (k : Nat) : Txt := (List.range b.length).map fun j => if j < k ∨ b.length - 1 - j < k then b.getD (b.length - 1 - j) 0 else b.getD j 0
theorem revK_length (b : Txt) (k : Nat) : (revK b k).length = b.length := by simp [revK]
theorem revK_get (b : Txt) (k j : Nat) (h : j < b.length) : (revK b k).getD j 0 = if j < k ∨ b.length - 1 - j < k then b.getD (b.length - 1 - j) 0 else b.getD j 0 := by
  simp [revK, List.getD_eq_getElem?_getD, h]
theorem txt_ext {a b : Txt} (hl : a.length = b.length) (h : ∀ j, j < a.length → a.getD j 0 = b.getD j 0) : a = b := by
  apply List.ext_getElem hl
  intro j h1 h2
  have := h j h1
  simpa [List.getD_eq_getElem?_getD, h1, h2] using this
theorem revK_zero (b : Txt) : revK b 0 = b := by
  apply txt_ext (revK_length b 0)
  intro j hj
  rw [revK_length] at hj
  rw [revK_get b 0 j hj, if_neg (by omega)]
theorem revK_done (b : Txt) (k : Nat) (h : b.length ≤ 2 * k + 1) : revK b k = b.reverse := by
  apply txt_ext (by rw [revK_length]; simp)
  intro j hj
  rw [revK_length] at hj
  rw [revK_get b k j hj]
  have hr : b.reverse.getD j 0 = b.getD (b.length - 1 - j) 0 := by
    rw [List.getD_eq_getElem?_getD, List.getElem?_reverse hj, ← List.getD_eq_getElem?_getD]
  rw [hr]
  split
  · rfl
  · have : b.length - 1 - j = j := by omega
    rw [this]
theorem revK_next (b : Txt) (k : Nat) (h : 2 * k + 1 < b.length) : ((revK b k).set k ((revK b k).getD (b.length - 1 - k) 0)).set (b.length - 1 - k) ((revK b k).getD k 0) = revK b (k + 1) := by
  apply txt_ext (by simp [revK_length])
  intro j hj
  have hj : j < b.length := by simpa [revK_length] using hj
  have hset : ∀ (l : Txt) (i j : Nat) (x : UInt8), j < l.length → (l.set i x).getD j 0 = if i = j then x else l.getD j 0 := by
    intro l i j x hl
    simp only [List.getD_eq_getElem?_getD, List.getElem?_set]
    split <;> simp_all
  rw [hset _ _ _ _ (by simpa [revK_length] using hj), hset _ _ _ _ (by simpa [revK_length] using hj), revK_get b k k (by omega), revK_get b k _ (by omega), revK_get b k j hj, revK_get b (k + 1) j hj]
  by_cases h1 : b.length - 1 - k = j
  · rw [if_pos h1, if_neg (by omega), if_pos (by omega)]
    congr 1; omega
  · rw [if_neg h1]
    by_cases h2 : k = j
    · rw [if_pos h2, if_neg (by omega), if_pos (by omega)]
      congr 1; omega
    · rw [if_neg h2]
      by_cases h3 : j < k ∨ b.length - 1 - j < k
      · rw [if_pos h3, if_pos (by omega)]
      · rw [if_neg h3, if_neg (by omega)]
theorem byCells_set (b : Txt) (i : Nat) (c : UInt8) : (byCells b).set i (.int .u8 (c.toNat : Int)) = byCells (b.set i c) := by simp [byCells, List.map_set]

set_option maxHeartbeats 1600000 in
theorem reverse_calls (w : World) (base : Nat) (v : Value) (b : Txt) (ho : OwnByt w base v b) (hl : b.length ≤ 1000000) :
    Calls Try.prog 44 #[v] w fun e w' => e = .returned (.tuple #[]) ∧ OwnByt w' base v b.reverse ∧ Keeps (fun k => some k = v.ownBlock) w w' := by
  rcases Nat.eq_zero_or_pos b.length with h0 | h0
  · have hb : b = [] := List.eq_nil_of_length_eq_zero h0
    subst hb
    obtain ⟨A, c, rfl, hc⟩ := own_slice ho
    have ho := As.mk ho
    go_enter Try.func44, Try.ntmps44
    go_wp2
    refine wp_loop_rounds 1 ?_
    rw [rounds_succ]
    go_wp2
    go_end0
    exact ⟨rfl, ho.out, Keeps.refl _ _⟩
  · obtain ⟨g, cap, rfl, hg, hcap⟩ : ∃ g cap, v = .slice (some ⟨g, 0, none⟩) b.length cap ∧ base ≤ g ∧ b.length ≤ cap := by
      rcases ho.2 with ⟨_, h⟩ | ⟨g, cap, cur, hv, hg, hh, hnc, _⟩
      · omega
      · exact ⟨g, cap, hv, hg, hnc⟩
    have hR0 := As.mk (revK_zero b)
    have ho := As.mk ho
    have hdone := As.mk (fun k h => revK_done b k h)
    have hnext := As.mk (fun k h => revK_next b k h)
    obtain ⟨n, hn⟩ : ∃ n, b.length = n := ⟨_, rfl⟩
    have hrl := As.mk (fun k => (revK_length b k).trans hn)
    have ho1 : As (OwnByt w base (.slice (some ⟨g, 0, none⟩) n cap) (revK b 0)) := ⟨by rw [hR0.out, ← hn]; exact ho.out⟩
    rw [hn] at h0 hcap hl hdone hnext
    rw [hn]
    clear ho hR0 hn
    go_enter Try.func44, Try.ntmps44
    go_wp2
    go_loopw [2, 3] (fun vi vj wr => ∃ k : Nat, vi = .int .i64 k ∧ vj = .int .i64 ((n : Int) - 1 - k) ∧ 2 * k ≤ n ∧ As (OwnByt wr base (.slice (some ⟨g, 0, none⟩) n cap) (revK b k)) ∧ As (Keeps (fun k => some k = some g) w wr)) (fun vi _ _ => n - (intOf vi).toNat)
    case atStart => exact ⟨0, rfl, by go_num, by omega, ho1, ⟨Keeps.refl _ _⟩⟩
    case round =>
      obtain ⟨k, rfl, rfl, hk, hown, hkeep⟩ := hrel
      have hl2 := hrl.out k
      have hown' : wr.ownsRow base 5 1 (.slice (some ⟨g, 0, none⟩) n cap) n (byCells (revK b k)) := by
        have := hown.out; unfold OwnByt at this; rw [hl2] at this; exact this
      by_cases hlt : 2 * k + 1 < n
      · have hcell : ∀ j, j < n → wr.cell? ⟨g, j, none⟩ = some (.int .u8 (((revK b k).getD j 0).toNat : Int)) := fun j hj => by
          rw [World.ownsRow.cellAt hown' j (by omega)]
          simp [byCells, List.getD_eq_getElem?_getD, hl2, hj]
        have hnx := As.mk (hnext.out k hlt)
        obtain ⟨m, hm⟩ : ∃ m : Nat, n - 1 - k = m := ⟨_, rfl⟩
        have c0 := hcell k (by omega)
        have c1 := hcell m (by omega)
        have f0 := World.ownsRow.frozenAt hown' k
        have f1 := World.ownsRow.frozenAt hown' m
        have hmi : ((n : Int) - 1 - (k : Int)) = (m : Int) := by omega
        rw [hmi]
        have hm1 : m < n := by omega
        have hm2 : k < m := by omega
        rw [hm] at hnx
        have hm3 : n = m + k + 1 := by omega
        have hm3 := As.mk hm3
        clear hcell hm hmi
        generalize (revK b k).getD k 0 = x at *
        generalize (revK b k).getD m 0 = y at *
        go_wp2
        go_region
        all_goals
          go_wp2
          go_roundw
          case rel =>
            have s1 := World.ownsRow.stored hown' k (.int .u8 (y.toNat : Int))
            have s2 := World.ownsRow.stored s1.1 m (.int .u8 (x.toNat : Int))
            have hkk : Keeps (fun k => some k = some g) wr ((wr.setCell ⟨g, k, none⟩ (.int .u8 (y.toNat : Int))).setCell ⟨g, m, none⟩ (.int .u8 (x.toNat : Int))) := (Keeps.of_grown s1.2).trans (Keeps.of_grown s2.2)
            have hl3 := hrl.out (k + 1)
            refine ⟨k + 1, by go_num, ?_, by omega, ⟨?_⟩, ⟨(hkeep.out.trans hkk).drew⟩⟩
            · have := hm3.out; go_num
            · unfold OwnByt
              rw [hl3, ← hnx.out, ← byCells_set, ← byCells_set]
              exact s2.1.drew
          case measure => simp [intOf]; omega
      · have hfin := hdone.out k (by omega)
        rw [hfin] at hown
        go_wp2
        go_end0
        refine ⟨rfl, ?_, hkeep.out⟩
        exact hown.out
end Go.Proofs.Ytpkapgjpnkcffaa
