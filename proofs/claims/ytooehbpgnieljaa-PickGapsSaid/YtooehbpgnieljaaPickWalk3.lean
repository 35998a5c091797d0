/- The walks of package pick's Gaps, of its reference, and of the laws' 'good'. -/
import Derived.Test.YtooehbpgnieljaaPickWalk2
set_option linter.unusedVariables false
set_option linter.unusedSimpArgs false
namespace Go.Proofs.Ytooehbpgnieljaa
open Go.RowKit Seine.Pick
attribute [local go_sem high] eqPr

def GapRel (w wr : World) (s : List Pr × Int) (k : Nat) (v : Value) : Prop := OwnPrs wr w.heap.size v s.1 ∧ Below w.heap.size w wr ∧ s.1.length ≤ k
theorem GapRel.put {w w2 : World} {s : List Pr × Int} {k : Nat} {v' : Value} {a b at_ : Int} (h : w2.ownsRow w.heap.size 25 2 v' (s.1.length + 1) (prCells s.1 ++ [.int .i64 a, .int .i64 b])) (hb : Below w.heap.size w w2) (hl : s.1.length ≤ k) :
    GapRel w w2 (s.1 ++ [(a, b)], at_) (k + 1) v' := by
  refine ⟨?_, hb, by simp; omega⟩
  have : (s.1 ++ [(a, b)]).length = s.1.length + 1 := by simp
  unfold OwnPrs
  show w2.ownsRow _ _ _ _ (s.1 ++ [(a, b)]).length (prCells (s.1 ++ [(a, b)]))
  rw [this, prCells_snoc]; exact h
theorem GapRel.ret {w w2 : World} {s : List Pr} {v' : Value} {a b : Int} (h : w2.ownsRow w.heap.size 25 2 v' (s.length + 1) (prCells s ++ [.int .i64 a, .int .i64 b])) : OwnPrs w2 w.heap.size v' (s ++ [(a, b)]) := by
  have : (s ++ [(a, b)]).length = s.length + 1 := by simp
  unfold OwnPrs
  rw [this, prCells_snoc]; exact h

set_option maxHeartbeats 1600000 in
theorem gaps_calls (A : Option Addr) (c : Nat) (xs : List Pr) (n : Int) (w : World) (hx : Prs w A xs) (hl : xs.length ≤ 1000000000) :
    Calls Try.prog 15 #[.slice A xs.length c, .int .i64 n] w (RetPrs w (gaps xs n)) := by
  have hu25 := Try.underlying25
  have HX := As.mk hx
  clear hx
  obtain ⟨R, hR⟩ : ∃ R, gaps xs n = R := ⟨_, rfl⟩
  rw [hR]
  have HR := As.mk hR
  clear hR
  go_enter Try.func15, Try.ntmps15
  go_wp2
  go_loopw [5, 6, 11] (fun v t i wr => ∃ k : Nat, k ≤ xs.length ∧ i = .int .i64 k ∧ t = .int .i64 (gapsTo (xs.take k)).2 ∧ GapRel w wr (gapsTo (xs.take k)) k v) (fun _ _ i _ => xs.length - (intOf i).toNat)
  case atStart => exact ⟨0, Nat.zero_le _, rfl, rfl, World.ownsRow_nil _ _ _ _, Below.refl _ _, Nat.le_refl _⟩
  case round =>
    obtain ⟨k, hk, rfl, rfl, hrel⟩ := hrel
    by_cases hlt : k < xs.length
    · have hts := As.mk (show gapsTo (xs.take (k + 1)) = gapStep (gapsTo (xs.take k)) (xs.getD k (0, 0)) by rw [List.take_succ_eq_append_getElem hlt, gapsTo_snoc]; simp [hlt])
      obtain ⟨ad, rfl, a1, a2⟩ := Prs.at_ (HX.out.below hrel.2.1) hlt
      generalize xs.getD k (0, 0) = p at *
      generalize gapsTo (xs.take k) = st at *
      obtain ⟨s, e⟩ := p
      obtain ⟨acc, t⟩ := st
      obtain ⟨ho, hb, hn⟩ := hrel
      have ho : As (OwnPrs wr w.heap.size _ acc) := ⟨ho⟩
      have hn : acc.length ≤ k := hn
      by_cases h1 : t < s
      · rcases (show t < e ∨ e ≤ t by omega) with h2 | h2
        all_goals
          go_wp2_with (at_builtin
                       refine wpList_app1 _ rfl (.tmp 19) (.tmp 24) 22 rfl w.heap.size 25 _ 2 16 Try.underlying22 info_pr rfl (by decide) _ acc.length (prCells acc) rfl (ho.out.alloc _) [.int .i64 t, .int .i64 s] rfl (by simp [Value.oneCell']) _ rfl (by simp) (by omega) (by decide) (by have := hb.size; simp; omega) ?_
                       intro v' w2 ho2 hk2 hat hb2
                       have hbx : w2.heap[wr.heap.size]? = some (.cells #[.int .i64 s, .int .i64 e] 25 (0, 0)) := (hk2.block _ (by simp) (fun h => by have := own_blk ho.out h; omega)).trans (heap_alloc_new _ _)
                       have c1 := cell_of_blk hbx 1
                       simp at c1)
          go_roundw
          case rel => exact ⟨k + 1, by omega, by go_num, congrArg (Value.int .i64) (by rw [hts.out]; simp only [gapStep]; split <;> omega), by rw [hts.out]; simp only [gapStep]; rw [if_pos h1]; exact GapRel.put (s := (acc, t)) ho2 ((hb.alloc hb.size _).trans hb2) hn⟩
          case measure => simp [intOf]; omega
      · rcases (show t < e ∨ e ≤ t by omega) with h2 | h2
        all_goals
          go_wp2
          go_roundw
          case rel => exact ⟨k + 1, by omega, by go_num, congrArg (Value.int .i64) (by rw [hts.out]; simp only [gapStep]; split <;> omega), by rw [hts.out]; simp only [gapStep]; rw [if_neg (by omega)]; exact ⟨ho.out.alloc _, hb.alloc hb.size _, by show acc.length ≤ _; omega⟩⟩
          case measure => simp [intOf]; omega
    · have hfin : As (gapsTo (xs.take k) = gapsTo xs) := ⟨by rw [List.take_of_length_le (by omega)]⟩
      rw [hfin.out] at hrel
      rw [hfin.out]
      have HR2 : As (R = if (gapsTo xs).2 < n then (gapsTo xs).1 ++ [((gapsTo xs).2, n)] else (gapsTo xs).1) := ⟨by rw [← HR.out]; rfl⟩
      generalize gapsTo xs = st at *
      obtain ⟨acc, t⟩ := st
      obtain ⟨ho, hb, hn⟩ := hrel
      have ho : As (OwnPrs wr w.heap.size _ acc) := ⟨ho⟩
      have hn : acc.length ≤ k := hn
      by_cases h1 : t < n
      · go_wp2_with (at_builtin
                     refine wpList_app1 _ rfl (.tmp 34) (.tmp 38) 22 rfl w.heap.size 25 _ 2 16 Try.underlying22 info_pr rfl (by decide) _ acc.length (prCells acc) rfl ho.out [.int .i64 t, .int .i64 n] rfl (by simp [Value.oneCell']) _ rfl (by simp) (by omega) (by decide) (by have := hb.size; simp; omega) ?_
                     intro v' w2 ho2 hk2 hat hb2)
        go_ret
        exact ⟨_, rfl, by rw [HR2.out, if_pos (by omega)]; exact GapRel.ret ho2, hb.trans hb2⟩
      · go_wp2
        go_ret
        exact ⟨_, rfl, by rw [HR2.out, if_neg (by omega)]; exact ho.out, hb⟩

set_option maxHeartbeats 1600000 in
theorem refgaps_calls (A : Option Addr) (c : Nat) (xs : List Pr) (n : Int) (w : World) (hx : Prs w A xs) (hl : xs.length ≤ 1000000000) :
    Calls Try.prog 16 #[.slice A xs.length c, .int .i64 n] w (RetPrs w (gaps xs n)) := by
  have hu25 := Try.underlying25
  have HX := As.mk hx
  clear hx
  obtain ⟨R, hR⟩ : ∃ R, gaps xs n = R := ⟨_, rfl⟩
  rw [hR]
  have HR := As.mk hR
  clear hR
  go_enter Try.func16, Try.ntmps16
  go_wp2
  go_loopw [5, 6, 7] (fun v t i wr => ∃ k : Nat, k ≤ xs.length ∧ i = .int .i64 k ∧ t = .int .i64 (gapsTo (xs.take k)).2 ∧ GapRel w wr (gapsTo (xs.take k)) k v) (fun _ _ i _ => xs.length - (intOf i).toNat)
  case atStart => exact ⟨0, Nat.zero_le _, rfl, rfl, World.ownsRow_nil _ _ _ _, Below.refl _ _, Nat.le_refl _⟩
  case round =>
    obtain ⟨k, hk, rfl, rfl, hrel⟩ := hrel
    by_cases hlt : k < xs.length
    · have hts := As.mk (show gapsTo (xs.take (k + 1)) = gapStep (gapsTo (xs.take k)) (xs.getD k (0, 0)) by rw [List.take_succ_eq_append_getElem hlt, gapsTo_snoc]; simp [hlt])
      obtain ⟨ad, rfl, a1, a2⟩ := Prs.at_ (HX.out.below hrel.2.1) hlt
      have hbl := World.block_lt_of_cell? wr _ a2
      have hlt0 : ad.block < w.heap.size := by
        rcases HX.out with h | ⟨_, h, h2, _⟩
        · have := prCells_length xs; rw [h] at this; simp at this; omega
        · injection h with h; subst h; exact h2
      generalize xs.getD k (0, 0) = p at *
      generalize gapsTo (xs.take k) = st at *
      obtain ⟨s, e⟩ := p
      obtain ⟨acc, t⟩ := st
      obtain ⟨ho, hb, hn⟩ := hrel
      have ho : As (OwnPrs wr w.heap.size _ acc) := ⟨ho⟩
      have hn : acc.length ≤ k := hn
      by_cases h1 : t < s
      · rcases (show t < e ∨ e ≤ t by omega) with h2 | h2
        all_goals
          go_wp2_with (at_builtin
                       refine wpList_app1 _ rfl (.tmp 21) (.tmp 29) 22 rfl w.heap.size 25 _ 2 16 Try.underlying22 info_pr rfl (by decide) _ acc.length (prCells acc) rfl ho.out [.int .i64 t, .int .i64 s] rfl (by simp [Value.oneCell']) _ rfl (by simp) (by omega) (by decide) (by have := hb.size; simp; omega) ?_
                       intro v' w2 ho2 hk2 hat hb2
                       have c1 := (hb2.cell (p := ⟨(ad.add (k * 2)).block, (ad.add (k * 2)).off + 1, none⟩) (by show (ad.add (k * 2)).block < _; rw [Addr.block_add]; exact hlt0)).trans a2)
          go_roundw
          case rel => exact ⟨k + 1, by omega, by go_num, congrArg (Value.int .i64) (by rw [hts.out]; simp only [gapStep]; split <;> omega), by rw [hts.out]; simp only [gapStep]; rw [if_pos h1]; exact GapRel.put (s := (acc, t)) ho2 (hb.trans hb2) hn⟩
          case measure => simp [intOf]; omega
      · rcases (show t < e ∨ e ≤ t by omega) with h2 | h2
        all_goals
          go_wp2
          go_roundw
          case rel => exact ⟨k + 1, by omega, by go_num, congrArg (Value.int .i64) (by rw [hts.out]; simp only [gapStep]; split <;> omega), by rw [hts.out]; simp only [gapStep]; rw [if_neg (by omega)]; exact ⟨ho.out, hb, by show acc.length ≤ _; omega⟩⟩
          case measure => simp [intOf]; omega
    · have hfin : As (gapsTo (xs.take k) = gapsTo xs) := ⟨by rw [List.take_of_length_le (by omega)]⟩
      rw [hfin.out] at hrel
      rw [hfin.out]
      have HR2 : As (R = if (gapsTo xs).2 < n then (gapsTo xs).1 ++ [((gapsTo xs).2, n)] else (gapsTo xs).1) := ⟨by rw [← HR.out]; rfl⟩
      generalize gapsTo xs = st at *
      obtain ⟨acc, t⟩ := st
      obtain ⟨ho, hb, hn⟩ := hrel
      have ho : As (OwnPrs wr w.heap.size _ acc) := ⟨ho⟩
      have hn : acc.length ≤ k := hn
      by_cases h1 : t < n
      · go_wp2_with (at_builtin
                     refine wpList_app1 _ rfl (.tmp 46) (.tmp 50) 22 rfl w.heap.size 25 _ 2 16 Try.underlying22 info_pr rfl (by decide) _ acc.length (prCells acc) rfl ho.out [.int .i64 t, .int .i64 n] rfl (by simp [Value.oneCell']) _ rfl (by simp) (by omega) (by decide) (by have := hb.size; simp; omega) ?_
                     intro v' w2 ho2 hk2 hat hb2)
        go_ret
        exact ⟨_, rfl, by rw [HR2.out, if_pos (by omega)]; exact GapRel.ret ho2, hb.trans hb2⟩
      · go_wp2
        go_ret
        exact ⟨_, rfl, by rw [HR2.out, if_neg (by omega)]; exact ho.out, hb⟩
end Go.Proofs.Ytooehbpgnieljaa
