/- The walks of package pick, of its reference and of the laws' helpers. -/
import Derived.Test.YtooehbpgnieljaaProg
import Derived.Test.YtooehbpgnieljaaBase
import Derived.Test.YtooehbpgnieljaaPickPure
import Derived.Deep.QuietTactic
import Derived.BigQuiet
import Derived.Deep.DeepCutAuto
import Derived.Laws.StructEq
import Derived.WalkMore
set_option linter.unusedVariables false
set_option linter.unusedSimpArgs false
namespace Go.Proofs.Ytooehbpgnieljaa
open Go.RowKit Seine.Pick

theorem info_pr : (Try.prog.info? 25).map (fun i => (i.zero, i.size, i.bytes)) = some (some (.agg #[(.int .i64 0), (.int .i64 0)]), 2, 16) := by kernel_rfl
def prCells (xs : List Pr) : List Value := xs.flatMap fun p => [.int .i64 p.1, .int .i64 p.2]
theorem prCells_length (xs : List Pr) : (prCells xs).length = xs.length * 2 := by
  induction xs with
  | nil => rfl
  | cons x xs ih => exact (congrArg (· + 2) ih).trans (by show _ = (xs.length + 1) * 2; omega)
theorem prCells_snoc (xs : List Pr) (p : Pr) : prCells (xs ++ [p]) = prCells xs ++ [.int .i64 p.1, .int .i64 p.2] := by simp [prCells]
theorem prCells_at (xs : List Pr) (i : Nat) (h : i < xs.length) : (prCells xs)[i * 2]? = some (.int .i64 (xs.getD i (0, 0)).1) ∧ (prCells xs)[i * 2 + 1]? = some (.int .i64 (xs.getD i (0, 0)).2) := by
  induction xs generalizing i with
  | nil => simp at h
  | cons x xs ih =>
    cases i with
    | zero => simp [prCells]
    | succ i =>
      have := ih i (by simpa using h)
      have e1 : (i + 1) * 2 = i * 2 + 2 := by omega
      have e2 : prCells (x :: xs) = .int .i64 x.1 :: .int .i64 x.2 :: prCells xs := rfl
      rw [e1, e2]
      simpa using this
/-- A slice of pairs. -/
abbrev Prs (w : World) (A : Option Addr) (xs : List Pr) : Prop := Row w A (prCells xs)
abbrev OwnPrs (w : World) (base : Nat) (v : Value) (xs : List Pr) : Prop := w.ownsRow base 25 2 v xs.length (prCells xs)
theorem Prs.at_ {w : World} {A : Option Addr} {xs : List Pr} (h : Prs w A xs) {i : Nat} (hi : i < xs.length) : ∃ ad, A = some ad ∧
    w.cell? (ad.add (i * 2)) = some (.int .i64 (xs.getD i (0, 0)).1) ∧ w.cell? ⟨(ad.add (i * 2)).block, (ad.add (i * 2)).off + 1, none⟩ = some (.int .i64 (xs.getD i (0, 0)).2) := by
  obtain ⟨h1, h2⟩ := prCells_at xs i hi
  rcases h with h | ⟨ad, hA, _, hc⟩
  · rw [h] at h1; simp at h1
  · exact ⟨ad, hA, hc _ _ h1, by rw [← Addr.add_field _ _ _ (by omega)]; exact hc _ _ h2⟩

theorem eqPr (d : Nat) (w : World) (x0 y0 : Int) (x1 y1 : Int) :
    (Op.equalIn (d + 2) 25 (.agg #[.int .i64 x0, .int .i64 x1]) (.agg #[.int .i64 y0, .int .i64 y1])).run Try.prog w = .ok (x0 == y0 && (x1 == y1)) w := by
  have h := field_eq (P := Try.prog) (d := d + 1) (w := w) (xs := #[.int .i64 x0, .int .i64 x1]) (ys := #[.int .i64 y0, .int .i64 y1]) (f := ⟨"Start", 3, 0, false, "", "", 0⟩) (by decide) (by go_simp; rfl) (by go_simp; rfl) (by go_simp; rfl)
    (field_eq (f := ⟨"End", 3, 1, false, "", "", 8⟩) (by decide) (by go_simp; rfl) (by go_simp; rfl) (by go_simp; rfl) fields_none)
  rw [Bool.and_true] at h
  exact struct_eq Try.underlying25 (by kernel_rfl) h

attribute [local go_sem high] eqPr

set_option maxHeartbeats 400000 in
theorem same_calls (A B : Option Addr) (c d : Nat) (xs ys : List Pr) (w : World) (hx : Prs w A xs) (hy : Prs w B ys) (hl : xs.length ≤ 1000000000) (hk : ys.length ≤ 1000000000) :
    Calls Try.prog 12 #[.slice A xs.length c, .slice B ys.length d] w fun e w' => e = .returned (.bool (decide (xs = ys))) ∧ ∃ n, w' = w.drewN n := by
  have hu25 := Try.underlying25
  have HX := As.mk hx
  have HY := As.mk hy
  clear hx hy
  obtain ⟨r, hr⟩ : ∃ r, decide (xs = ys) = r := ⟨_, rfl⟩
  rw [hr]
  have HR := As.mk hr
  clear hr
  by_cases hn : xs.length = ys.length
  · have h1 : ((xs.length : Int) != (ys.length : Int)) = false := by simp [hn]
    have hf := As.mk hn
    clear hn
    go_enter Try.func12, Try.ntmps12
    go_wp2
    go_loopw [5] (fun v wr => ∃ (k : Nat) (n : Nat), k ≤ xs.length ∧ v = .int .i64 k ∧ As (xs.take k = ys.take k) ∧ wr = w.drewN n) (fun v _ => xs.length - (intOf v).toNat)
    case atStart => exact ⟨0, 0, Nat.zero_le _, rfl, ⟨rfl⟩, rfl⟩
    case round =>
      obtain ⟨k, n, hk, rfl, ht, rfl⟩ := hrel
      by_cases hlt : k < xs.length
      · obtain ⟨ad, rfl, a1, a2⟩ := Prs.at_ HX.out hlt
        have hlt2 : k < ys.length := by have := hf.out; omega
        obtain ⟨bd, rfl, b1, b2⟩ := Prs.at_ HY.out hlt2
        have hts := As.mk (show xs.take (k + 1) = xs.take k ++ [xs.getD k (0, 0)] by rw [List.take_succ_eq_append_getElem hlt]; simp [hlt])
        have hty := As.mk (show ys.take (k + 1) = ys.take k ++ [ys.getD k (0, 0)] by rw [List.take_succ_eq_append_getElem hlt2]; simp [hlt2])
        by_cases heq : xs.getD k (0, 0) = ys.getD k (0, 0)
        · have e1 : (!((xs.getD k (0, 0)).1 == (ys.getD k (0, 0)).1) || !((xs.getD k (0, 0)).2 == (ys.getD k (0, 0)).2)) = false := by rw [heq]; simp
          have he := As.mk heq
          clear heq
          generalize xs.getD k (0, 0) = p at *
          generalize ys.getD k (0, 0) = q at *
          go_wp2
          go_quiet (fail)
          go_wp2
          go_roundw
          case rel => exact ⟨k + 1, _, by omega, by go_num, ⟨by rw [hts.out, hty.out, ht.out, he.out]⟩, rfl⟩
          case measure => simp [intOf]; omega
        · have e1 : (!((xs.getD k (0, 0)).1 == (ys.getD k (0, 0)).1) || !((xs.getD k (0, 0)).2 == (ys.getD k (0, 0)).2)) = true := by
            have := heq
            rw [Prod.ext_iff] at this
            simp only [Bool.or_eq_true, Bool.not_eq_true', beq_eq_false_iff_ne]
            omega
          have hne : As (decide (xs = ys) = false) := ⟨by simp only [decide_eq_false_iff_not]; rintro rfl; exact heq rfl⟩
          clear heq hts hty ht
          generalize xs.getD k (0, 0) = p at *
          generalize ys.getD k (0, 0) = q at *
          go_wp2
          go_quiet (fail)
          go_wp2
          go_ret
          exact ⟨ret_bool (hne.out.symm.trans HR.out), _, World.drewN_drewN ..⟩
      · have hfin : As (decide (xs = ys) = true) := ⟨by
          have h1 := ht.out; have h2 := hf.out
          rw [List.take_of_length_le (by omega), List.take_of_length_le (by omega)] at h1
          simpa using h1⟩
        go_wp2
        go_ret
        exact ⟨ret_bool (hfin.out.symm.trans HR.out), _, rfl⟩
  · have h1 : ((xs.length : Int) != (ys.length : Int)) = true := by simp; omega
    have h2 : decide (xs = ys) = false := by simp; rintro rfl; exact hn rfl
    obtain rfl : r = false := by rw [← HR.out, h2]
    clear hn h2
    go_enter Try.func12, Try.ntmps12
    go_wp2
    go_ret
    exact ⟨rfl, 0, rfl⟩

/-- What a round of 'First' hands on: the result's block, the best one's, and all that was there. -/
def FirstRel (w wr : World) (b : Option Pr) : Prop :=
  wr.heap[w.heap.size]? = some (.cells #[.int .i64 0, .int .i64 0] 25 (0, 0)) ∧
  wr.heap[w.heap.size + 1]? = some (.cells #[.int .i64 (b.getD (0, 0)).1, .int .i64 (b.getD (0, 0)).2] 25 (0, 0)) ∧ Below w.heap.size w wr
theorem FirstRel.kept {w wr : World} {b : Option Pr} (h : FirstRel w wr b) (o : Obj) : FirstRel w (wr.alloc o) b := ⟨blk_old h.1, blk_old h.2.1, h.2.2.alloc h.2.2.size _⟩
theorem FirstRel.taken {w wr : World} {b : Option Pr} (h : FirstRel w wr b) (s e : Int) (o : Obj) :
    FirstRel w (((wr.setCell ⟨w.heap.size + 1, 0, none⟩ (.int .i64 s)).setCell ⟨w.heap.size + 1, 1, none⟩ (.int .i64 e)).alloc o) (some (s, e)) :=
  ⟨blk_old (blk_far (blk_far h.1 (by simp) _) (by simp) _), blk_old (blk_set (blk_set h.2.1 0 _) 1 _), ((h.2.2.setCell (by simp) _).setCell (by simp) _).alloc (by have := h.2.2.size; simpa using this) _⟩

set_option maxHeartbeats 1600000 in
theorem first_calls (A : Option Addr) (c : Nat) (xs : List Pr) (fr : Int) (w : World) (hx : Prs w A xs) (hl : xs.length ≤ 1000000000) :
    Calls Try.prog 10 #[.slice A xs.length c, .int .i64 fr] w fun e w' => e = .returned (.tuple #[.agg #[.int .i64 ((first xs fr).getD (0, 0)).1, .int .i64 ((first xs fr).getD (0, 0)).2], .bool (first xs fr).isSome]) ∧ Below w.heap.size w w' := by
  have hu25 := Try.underlying25
  have HX := As.mk hx
  clear hx
  obtain ⟨R, hR⟩ : ∃ R, first xs fr = R := ⟨_, rfl⟩
  rw [hR]
  have HR := As.mk hR
  clear hR
  go_enter Try.func10, Try.ntmps10
  go_wp2
  go_loopw [7, 13] (fun v i wr => ∃ k : Nat, k ≤ xs.length ∧ i = .int .i64 k ∧ v = .bool (first (xs.take k) fr).isSome ∧ FirstRel w wr (first (xs.take k) fr)) (fun _ i _ => xs.length - (intOf i).toNat)
  case atStart => exact ⟨0, Nat.zero_le _, rfl, rfl, blk_old (heap_alloc_new _ _), blk_new1 _ _ _, ((Below.refl _ _).alloc (Nat.le_refl _) _).alloc (by simp) _⟩
  case round =>
    obtain ⟨k, hk, rfl, rfl, hrel⟩ := hrel
    by_cases hlt : k < xs.length
    · have hts := As.mk (show first (xs.take (k + 1)) fr = stepF fr (first (xs.take k) fr) (xs.getD k (0, 0)) by rw [List.take_succ_eq_append_getElem hlt, first_snoc]; simp [hlt])
      obtain ⟨ad, rfl, a1, a2⟩ := Prs.at_ (HX.out.below hrel.2.2) hlt
      generalize xs.getD k (0, 0) = p at *
      generalize first (xs.take k) fr = b at *
      obtain ⟨s, e⟩ := p
      have c0 := cell_of_blk hrel.2.1 0
      have c1 := cell_of_blk hrel.2.1 1
      have f0 := free_of_blk hrel.2.1 0
      have f1 := free_of_blk hrel.2.1 1
      have hs : w.heap.size + 1 < wr.heap.size := block_lt hrel.2.1
      simp at c0 c1
      by_cases hv : s < e ∧ fr ≤ s
      · obtain ⟨hv1, hv2⟩ := hv
        cases b with
        | none =>
          have hK : As (stepF fr none (s, e) = some (s, e)) := ⟨by simp [stepF, live, hv1, hv2]⟩
          go_wp2
          go_roundw
          case rel => exact ⟨k + 1, by omega, by go_num, congrArg Value.bool (by rw [hts.out, hK.out]; rfl), by rw [hts.out, hK.out]; exact hrel.taken _ _ _⟩
          case measure => simp [intOf]; omega
        | some q =>
          obtain ⟨q1, q2⟩ := q
          have c0 : wr.cell? ⟨w.heap.size + 1, 0, none⟩ = some (.int .i64 q1) := c0
          have c1 : wr.cell? ⟨w.heap.size + 1, 1, none⟩ = some (.int .i64 q2) := c1
          have HK : As (stepF fr (some (q1, q2)) (s, e) = if beats (s, e) (q1, q2) then some (s, e) else some (q1, q2)) := ⟨by simp [stepF, live, hv1, hv2]⟩
          rcases (show s < q1 ∨ (s = q1 ∧ q2 < e) ∨ (s = q1 ∧ e ≤ q2) ∨ q1 < s by omega) with hq | ⟨rfl, hq⟩ | ⟨rfl, hq⟩ | hq
          · have hK := As.mk (HK.out.trans (if_pos (beats_iff.2 (by simp; omega))))
            go_wp2
            go_roundw
            case rel => exact ⟨k + 1, by omega, by go_num, congrArg Value.bool (by rw [hts.out, hK.out]; rfl), by rw [hts.out, hK.out]; exact hrel.taken _ _ _⟩
            case measure => simp [intOf]; omega
          · have hK := As.mk (HK.out.trans (if_pos (beats_iff.2 (by simp; omega))))
            go_wp2
            go_roundw
            case rel => exact ⟨k + 1, by omega, by go_num, congrArg Value.bool (by rw [hts.out, hK.out]; rfl), by rw [hts.out, hK.out]; exact hrel.taken _ _ _⟩
            case measure => simp [intOf]; omega
          · have hK := As.mk (HK.out.trans (if_neg (fun h => by have := beats_iff.1 h; simp at this; omega)))
            go_wp2
            go_roundw
            case rel => exact ⟨k + 1, by omega, by go_num, congrArg Value.bool (by rw [hts.out, hK.out]; rfl), by rw [hts.out, hK.out]; exact hrel.kept _⟩
            case measure => simp [intOf]; omega
          · have hK := As.mk (HK.out.trans (if_neg (fun h => by have := beats_iff.1 h; simp at this; omega)))
            go_wp2
            go_roundw
            case rel => exact ⟨k + 1, by omega, by go_num, congrArg Value.bool (by rw [hts.out, hK.out]; rfl), by rw [hts.out, hK.out]; exact hrel.kept _⟩
            case measure => simp [intOf]; omega
      · have hK : As (stepF fr b (s, e) = b) := ⟨if_neg (fun h => hv (live_iff.1 h))⟩
        rcases (show e ≤ s ∨ (s < e ∧ s < fr) by omega) with hv | ⟨hv, hv2⟩
        all_goals
          go_wp2
          go_roundw
          case rel => exact ⟨k + 1, by omega, by go_num, congrArg Value.bool (by rw [hts.out, hK.out]), by rw [hts.out, hK.out]; exact hrel.kept _⟩
          case measure => simp [intOf]; omega
    · have hfin : As (first (xs.take k) fr = R) := ⟨by rw [List.take_of_length_le (by omega)]; exact HR.out⟩
      rw [hfin.out] at hrel
      rw [hfin.out]
      have c0 := cell_of_blk hrel.2.1 0
      have c1 := cell_of_blk hrel.2.1 1
      have d0 := cell_of_blk hrel.1 0
      have d1 := cell_of_blk hrel.1 1
      have f0 := free_of_blk hrel.1 0
      have f1 := free_of_blk hrel.1 1
      have hs : w.heap.size + 1 < wr.heap.size := block_lt hrel.2.1
      simp at c0 c1 d0 d1
      go_wp2
      have e0 : (wr.setCell ⟨w.heap.size, 0, none⟩ (.int .i64 (R.getD (0, 0)).1)).cell? ⟨w.heap.size, 0, none⟩ = some (.int .i64 (R.getD (0, 0)).1) := cell_of_blk (blk_set hrel.1 0 _) 0
      have e1 : ((wr.setCell ⟨w.heap.size, 0, none⟩ (.int .i64 (R.getD (0, 0)).1)).setCell ⟨w.heap.size, 1, none⟩ (.int .i64 (R.getD (0, 0)).2)).cell? ⟨w.heap.size, 1, none⟩ = some (.int .i64 (R.getD (0, 0)).2) := cell_of_blk (blk_set (blk_set hrel.1 0 _) 1 _) 1
      refine bodyPost_ret (v := .tuple #[.agg #[.int .i64 (R.getD (0, 0)).1, .int .i64 (R.getD (0, 0)).2], .bool R.isSome]) (by simp [results, Try.results10, go_sem, e0, e1]) rfl ⟨rfl, ?_⟩
      exact (hrel.2.2.setCell (by simp) _).setCell (by simp) _
end Go.Proofs.Ytooehbpgnieljaa
