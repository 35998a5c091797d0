/- Joined texts: Shifts3, Pairs, SortWalk, SortWalk2, Cwalter, Cwalter2. -/
import Derived.Test.YtbklkemfcdkihaaM5
import Derived.ChangeKeysEq
import Derived.Still
import Derived.Test.YtbklkemfcdkihaaProg
import Derived.Test.YtbklkemfcdkihaaM1
import Derived.Deep.QuietTactic
import Derived.BigQuiet
import Derived.Deep.DeepCutAuto
import Derived.Laws.StructEq
import Derived.WalkMore
import Derived.Test.YtbklkemfcdkihaaM2
import Derived.RegionTactic
import Derived.BigRegion
import Derived.Deep.RegionWith
import Derived.Deep.LoopGhost
import Derived.WalkSpells
import Derived.StillTailTactics
import Derived.Test.YtbklkemfcdkihaaM4
import Derived.ScopeJumps
section
/- The walks of package shifts: a node's two numbers, how far. -/
set_option linter.unusedVariables false
set_option linter.unusedSimpArgs false
namespace Go.Proofs.Ytbklkemfcdkihaa
open Go.RowKit Seine.Trie Seine.Cw
attribute [local go_sem high] max2_i min2_i max_two' min_two'
theorem eqTwo (d : Nat) (w : World) (x0 x1 y0 y1 : Int) :
    (Op.equalIn (d + 2) 99 (.agg #[.int .i64 x0, .int .i64 x1]) (.agg #[.int .i64 y0, .int .i64 y1])).run Try.prog w = .ok (x0 == y0 && (x1 == y1)) w := by
  obtain ⟨i0, hi, _⟩ := info_parts info_int
  have h1 : Try.prog.cellsOf 3 = 1 := by kernel_rfl
  rw [run_equalIn_array (P := Try.prog) w (d + 1) _ _ Try.underlying99 hi, h1]
  have hr : List.range 2 = [0, 1] := rfl
  have p0 : ∀ a b : Int, (part 3 #[.int .i64 a, .int .i64 b] (0 * 1)).run Try.prog w = .ok (.int .i64 a) w := fun a b => by go_simp
  have p1 : ∀ a b : Int, (part 3 #[.int .i64 a, .int .i64 b] (1 * 1)).run Try.prog w = .ok (.int .i64 b) w := fun a b => by go_simp
  have e0 : ∀ a b : Int, (Op.equalIn (d + 1) 3 (.int .i64 a) (.int .i64 b)).run Try.prog w = .ok (a == b) w := fun a b => by go_simp
  rw [hr]
  simp only [Op.eqItems, Sem.run_bind, p0, p1, e0, Result.andThen_ok]
  cases h : (x0 == y0)
  · simp
  · have p1' : ∀ a b : Int, (part 3 #[.int .i64 a, .int .i64 b] 1).run Try.prog w = .ok (.int .i64 b) w := fun a b => by go_simp
    cases h2 : (x1 == y1) <;> simp [p1', e0, h2]
attribute [local go_sem high] eqTwo
set_option maxRecDepth 100000 in
theorem of_calls (w : World) (gs gb : Nat) (T : List Txt) (hne : T ≠ []) (h : ShAt w gs gb T) (a : Nat) (p : Txt) (hp : (paths T)[a]? = some p) :
    Calls Try.prog 88 #[.pointer (some ⟨gs, 0, none⟩), .int .i64 (a : Int)] w fun e w' => e = .returned (.agg #[.int .i64 (firstF T p : Int), .int .i64 (secondF T p : Int)]) ∧ Below w.heap.size w w' := by
  obtain ⟨base, v, hS⟩ := h hne
  have hal := (List.getElem?_eq_some_iff.1 hp).1
  obtain ⟨fb, fc, rfl, _, hfc⟩ := hS.2.2.form (by omega)
  have c1 : w.cell? ⟨gs, 1, none⟩ = some (.slice (some ⟨fb, 0, none⟩) (paths T).length fc) := cell_of_blk hS.1 1
  obtain ⟨d0, _, d1, _⟩ := hS.cells (b := fb) (c := fc) rfl hp
  generalize firstF T p = x at *
  generalize secondF T p = y at *
  generalize (paths T).length = n at *
  have hg := block_lt hS.1
  have hf : fb < w.heap.size := World.block_lt_of_cell? w _ d0
  clear hS h hp
  have e0 := cell_of_blk (heap_alloc_new w (.cells #[.int .i64 (x : Int), .int .i64 (y : Int)] 99)) 0
  have e1 := cell_of_blk (heap_alloc_new w (.cells #[.int .i64 (x : Int), .int .i64 (y : Int)] 99)) 1
  have hB : Below w.heap.size w (w.alloc (.cells #[.int .i64 (x : Int), .int .i64 (y : Int)] 99)) := (Below.refl _ _).alloc (Nat.le_refl _) _
  simp at e0 e1
  go_enter Try.func88, Try.ntmps88
  go_wp2
  refine bodyPost_ret (v := .agg #[.int .i64 (x : Int), .int .i64 (y : Int)]) (by simp [results, Try.results88, go_sem, e0, e1]) rfl ⟨rfl, hB⟩
set_option maxRecDepth 100000 in
theorem second_calls (w : World) (gs gb : Nat) (T : List Txt) (hne : T ≠ []) (h : ShAt w gs gb T) (a : Nat) (p : Txt) (hp : (paths T)[a]? = some p) :
    Calls Try.prog 82 #[.pointer (some ⟨gs, 0, none⟩), .int .i64 (a : Int)] w fun e w' => e = .returned (.int .i64 (secondF T p : Int)) ∧ Below w.heap.size w w' := by
  have co := As.mk (of_calls w gs gb T hne h a p hp)
  have i1 : ∀ (x y : Int) (w : World), (Instr.index 99 (.agg #[.int .i64 x, .int .i64 y]) (.int .i64 1)).run Try.prog w = .ok (.int .i64 y) w := fun x y w => by kernel_rfl
  clear h hp
  go_enter Try.func82, Try.ntmps82
  go_wp2_with (go_at_call 88; refine Calls.mono co.out ?_; rintro e w' ⟨rfl, hb⟩)
  go_ret
  exact ⟨rfl, hb⟩
theorem ShAt.back {w : World} {gs gb : Nat} {T : List Txt} (h : ShAt w gs gb T) (hne : T ≠ []) : BackAt w gb T ∧ w.cell? ⟨gs, 0, none⟩ = some (.pointer (some ⟨gb, 0, none⟩)) := by
  obtain ⟨base, v, h⟩ := h hne
  exact ⟨h.2.1, cell_of_blk h.1 0⟩
theorem farF_int (T : List Txt) (p : Txt) (c : UInt8) : min (secondF T p : Int) (max (firstF T p : Int) ((nearK T c : Int) - (p.length : Int) - 1)) = (farF T p c : Int) := by
  unfold farF; omega
set_option maxRecDepth 100000 in
set_option maxHeartbeats 1600000 in
theorem far_calls (w : World) (gs gb : Nat) (T : List Txt) (hT : ∀ t ∈ T, t ≠ []) (hne : T ≠ []) (h : ShAt w gs gb T) (a : Nat) (p : Txt) (hp : (paths T)[a]? = some p) (hl : least T ≤ 100000) (hpl : p.length ≤ 100000) (c : UInt8) :
    Calls Try.prog 83 #[.pointer (some ⟨gs, 0, none⟩), .int .i64 (a : Int), .int .u8 (c.toNat : Int)] w fun e w' => e = .returned (.int .i64 (farF T p c : Int)) ∧ Below w.heap.size w w' := by
  have co := As.mk (of_calls w gs gb T hne h a p hp)
  have hdp : askF (paths T) (fun p => p.length) 0 (a : Int) = (p.length : Int) := by
    unfold askF
    have := (List.getElem?_eq_some_iff.1 hp).1
    rw [if_pos (by omega), Int.toNat_natCast, List.getD_eq_getElem?_getD, hp]; rfl
  have hx0 := (first_spec hT hne p).1
  have hfar := farF_int T p c
  have hnk : nearK T c = if 0 < near T c then min (least T + 1) (near T c) else least T + 1 := rfl
  obtain ⟨x, hx⟩ : ∃ x, firstF T p = x := ⟨_, rfl⟩
  obtain ⟨y, hy⟩ : ∃ x, secondF T p = x := ⟨_, rfl⟩
  obtain ⟨z, hz⟩ : ∃ x, farF T p c = x := ⟨_, rfl⟩
  obtain ⟨L, hL⟩ : ∃ x, least T = x := ⟨_, rfl⟩
  obtain ⟨N, hN⟩ : ∃ x, near T c = x := ⟨_, rfl⟩
  rw [hx, hy] at co
  rw [hx, hy, hz] at hfar
  rw [hx] at hx0
  rw [hL, hN] at hnk
  rw [hz]
  rw [hL] at hl
  replace hL := As.mk hL
  replace hN := As.mk hN
  have hsh := As.mk h
  have hx1 : ((x : Int) == 0) = false := by simp; omega
  have hdp := As.mk hdp
  obtain ⟨pl, hpl2⟩ : ∃ n, p.length = n := ⟨_, rfl⟩
  rw [hpl2] at hfar hpl hdp
  replace hfar := As.mk hfar
  clear h hp hT hx hy hz hpl2
  by_cases hN0 : 0 < N
  · rw [if_pos hN0] at hnk
    have hmin : min ((L : Int) + 1) (N : Int) = (nearK T c : Int) := by omega
    have hkb : (nearK T c : Int) ≤ 100001 := by omega
    have hN1 : decide (0 < (N : Int)) = true := decide_eq_true (by omega)
    obtain ⟨kk, hkk⟩ : ∃ k, nearK T c = k := ⟨_, rfl⟩
    rw [hkk] at hmin hkb hfar
    have i1 : IntKind.i64.wrap ((kk : Int) - (pl : Int)) = (kk : Int) - (pl : Int) := IntWalk.i64_in _ (by omega)
    have i2 : IntKind.i64.wrap ((kk : Int) - (pl : Int) - 1) = (kk : Int) - (pl : Int) - 1 := IntWalk.i64_in _ (by omega)
    clear hkk hnk
    go_enter Try.func83, Try.ntmps83
    go_wp2_with (first
      | (go_at_call 88; refine Calls.mono co.out ?_; rintro e w1 ⟨rfl, hb1⟩
         have hB2 : Below w.heap.size w (w1.alloc (.cells #[.int .i64 (x : Int), .int .i64 (y : Int)] 99)) := hb1.alloc hb1.size _
         have hsh2 := hsh.out.below hB2
         obtain ⟨hbk2, q0⟩ := hsh2.back hne
         have e0 := cell_of_blk (heap_alloc_new w1 (.cells #[.int .i64 (x : Int), .int .i64 (y : Int)] 99)) 0
         have e1 := cell_of_blk (heap_alloc_new w1 (.cells #[.int .i64 (x : Int), .int .i64 (y : Int)] 99)) 1
         simp only [List.getElem?_toArray, List.getElem?_cons_succ, List.getElem?_cons_zero] at e0 e1
         obtain ⟨tb, tg, q1, ht⟩ := hbk2.open_ ⟨rfl⟩
         clear hsh2)
      | (go_at_call 51; refine Calls.mono (bleast_calls _ gb T hbk2) ?_; rintro e w' ⟨rfl, rfl⟩; rw [hL.out])
      | (go_at_call 89; refine Calls.mono (bnear_calls _ gb T hbk2 c) ?_; rintro e w' ⟨rfl, rfl⟩; rw [hN.out]))
    generalize w1.alloc (.cells #[.int .i64 (x : Int), .int .i64 (y : Int)] 99) = W2 at *
    have cd := As.mk (depth_calls W2.drew tb tg (paths T) (place T) (ht.below (Below.refl _ _).drew) (a : Int))
    rw [hdp.out] at cd
    refine wp_region_still_lit (by kernel_rfl) (by kernel_rfl) ?_
    iterate 13 still_step
    refine wpStill_step (fun K hK => ?_)
    go_simp
    refine ⟨_, cd.out.mono (fun e w' h => ⟨h.1, h.2.symm⟩), hK _ ?_⟩
    clear hK K
    repeat still_step
    refine wpStill_nil ?_
    go_wp2
    go_ret
    exact ⟨ret_int hfar.out, hB2.drew⟩
  · obtain rfl : N = 0 := by omega
    rw [if_neg hN0] at hnk
    have i1 : IntKind.i64.wrap ((L : Int) + 1 - (pl : Int)) = (L : Int) + 1 - (pl : Int) := IntWalk.i64_in _ (by omega)
    have i2 : IntKind.i64.wrap ((L : Int) + 1 - (pl : Int) - 1) = (L : Int) + 1 - (pl : Int) - 1 := IntWalk.i64_in _ (by omega)
    have hfar2 : As (min (y : Int) (max (x : Int) ((L : Int) + 1 - (pl : Int) - 1)) = (z : Int)) := ⟨by have := hfar.out; rw [hnk] at this; rw [← this]; push_cast; rfl⟩
    clear hnk hfar
    go_enter Try.func83, Try.ntmps83
    go_wp2_with (first
      | (go_at_call 88; refine Calls.mono co.out ?_; rintro e w1 ⟨rfl, hb1⟩
         have hB2 : Below w.heap.size w (w1.alloc (.cells #[.int .i64 (x : Int), .int .i64 (y : Int)] 99)) := hb1.alloc hb1.size _
         have hsh2 := hsh.out.below hB2
         obtain ⟨hbk2, q0⟩ := hsh2.back hne
         have e0 := cell_of_blk (heap_alloc_new w1 (.cells #[.int .i64 (x : Int), .int .i64 (y : Int)] 99)) 0
         have e1 := cell_of_blk (heap_alloc_new w1 (.cells #[.int .i64 (x : Int), .int .i64 (y : Int)] 99)) 1
         simp only [List.getElem?_toArray, List.getElem?_cons_succ, List.getElem?_cons_zero] at e0 e1
         obtain ⟨tb, tg, q1, ht⟩ := hbk2.open_ ⟨rfl⟩
         clear hsh2)
      | (go_at_call 51; refine Calls.mono (bleast_calls _ gb T hbk2) ?_; rintro e w' ⟨rfl, rfl⟩; rw [hL.out])
      | (go_at_call 89; refine Calls.mono (bnear_calls _ gb T hbk2 c) ?_; rintro e w' ⟨rfl, rfl⟩; rw [hN.out]))
    generalize w1.alloc (.cells #[.int .i64 (x : Int), .int .i64 (y : Int)] 99) = W2 at *
    have cd := As.mk (depth_calls W2.drew tb tg (paths T) (place T) (ht.below (Below.refl _ _).drew) (a : Int))
    rw [hdp.out] at cd
    refine wp_region_still_lit (by kernel_rfl) (by kernel_rfl) ?_
    iterate 13 still_step
    refine wpStill_step (fun K hK => ?_)
    go_simp
    refine ⟨_, cd.out.mono (fun e w' h => ⟨h.1, h.2.symm⟩), hK _ ?_⟩
    clear hK K
    repeat still_step
    refine wpStill_nil ?_
    go_wp2
    go_ret
    exact ⟨ret_int hfar2.out, hB2.drew⟩
end Go.Proofs.Ytbklkemfcdkihaa
end
section
/- Words for lists of pairs, and the walk of the reference's 'Same'. -/
set_option linter.unusedVariables false
set_option linter.unusedSimpArgs false
namespace Go.Proofs.Ytbklkemfcdkihaa
open Go.RowKit
abbrev Pr := Int × Int

theorem info_pr : (Try.prog.info? 41).map (fun i => (i.zero, i.size, i.bytes)) = some (some (.agg #[(.int .i64 0), (.int .i64 0)]), 2, 16) := by kernel_rfl
def prCells (xs : List Pr) : List Value := xs.flatMap fun p => [.int .i64 p.1, .int .i64 p.2]
theorem prCells_length (xs : List Pr) : (prCells xs).length = xs.length * 2 := by
  induction xs with
  | nil => rfl
  | cons x xs ih => exact (congrArg (· + 2) ih).trans (by show _ = (xs.length + 1) * 2; omega)
theorem prCells_snoc (xs : List Pr) (p : Pr) : prCells (xs ++ [p]) = prCells xs ++ [.int .i64 p.1, .int .i64 p.2] := by simp [prCells]
theorem prCells_at (xs : List Pr) (i : Nat) (h : i < xs.length) : (prCells xs)[i * 2]? = some (.int .i64 (xs.getD i (0, 0)).1) ∧ (prCells xs)[i * 2 + 1]? = some (.int .i64 (xs.getD i (0, 0)).2) := by
  induction xs generalizing i with
  | nil => simp at h
  | cons x xs ih =>
    cases i with
    | zero => simp [prCells]
    | succ i =>
      have := ih i (by simpa using h)
      have e1 : (i + 1) * 2 = i * 2 + 2 := by omega
      have e2 : prCells (x :: xs) = .int .i64 x.1 :: .int .i64 x.2 :: prCells xs := rfl
      rw [e1, e2]
      simpa using this
/-- A slice of pairs. -/
abbrev Prs (w : World) (A : Option Addr) (xs : List Pr) : Prop := Row w A (prCells xs)
abbrev OwnPrs (w : World) (base : Nat) (v : Value) (xs : List Pr) : Prop := w.ownsRow base 41 2 v xs.length (prCells xs)
theorem Prs.at_ {w : World} {A : Option Addr} {xs : List Pr} (h : Prs w A xs) {i : Nat} (hi : i < xs.length) : ∃ ad, A = some ad ∧
    w.cell? (ad.add (i * 2)) = some (.int .i64 (xs.getD i (0, 0)).1) ∧ w.cell? ⟨(ad.add (i * 2)).block, (ad.add (i * 2)).off + 1, none⟩ = some (.int .i64 (xs.getD i (0, 0)).2) := by
  obtain ⟨h1, h2⟩ := prCells_at xs i hi
  rcases h with h | ⟨ad, hA, _, hc⟩
  · rw [h] at h1; simp at h1
  · exact ⟨ad, hA, hc _ _ h1, by rw [← Addr.add_field _ _ _ (by omega)]; exact hc _ _ h2⟩

theorem eqPr (d : Nat) (w : World) (x0 y0 : Int) (x1 y1 : Int) :
    (Op.equalIn (d + 2) 41 (.agg #[.int .i64 x0, .int .i64 x1]) (.agg #[.int .i64 y0, .int .i64 y1])).run Try.prog w = .ok (x0 == y0 && (x1 == y1)) w := by
  have h := field_eq (P := Try.prog) (d := d + 1) (w := w) (xs := #[.int .i64 x0, .int .i64 x1]) (ys := #[.int .i64 y0, .int .i64 y1]) (f := ⟨"Start", 3, 0, false, "", "", 0⟩) (by decide) (by go_simp; rfl) (by go_simp; rfl) (by go_simp; rfl)
    (field_eq (f := ⟨"End", 3, 1, false, "", "", 8⟩) (by decide) (by go_simp; rfl) (by go_simp; rfl) (by go_simp; rfl) fields_none)
  rw [Bool.and_true] at h
  exact struct_eq Try.underlying41 (by kernel_rfl) h

attribute [local go_sem high] eqPr

set_option maxHeartbeats 400000 in
theorem same_calls (A B : Option Addr) (c d : Nat) (xs ys : List Pr) (w : World) (hx : Prs w A xs) (hy : Prs w B ys) (hl : xs.length ≤ 1000000000) (hk : ys.length ≤ 1000000000) :
    Calls Try.prog 12 #[.slice A xs.length c, .slice B ys.length d] w fun e w' => e = .returned (.bool (decide (xs = ys))) ∧ ∃ n, w' = w.drewN n := by
  have hu25 := Try.underlying41
  have HX := As.mk hx
  have HY := As.mk hy
  clear hx hy
  obtain ⟨r, hr⟩ : ∃ r, decide (xs = ys) = r := ⟨_, rfl⟩
  rw [hr]
  have HR := As.mk hr
  clear hr
  by_cases hn : xs.length = ys.length
  · have h1 : ((xs.length : Int) != (ys.length : Int)) = false := by simp [hn]
    have hf := As.mk hn
    clear hn
    go_enter Try.func12, Try.ntmps12
    go_wp2
    go_loopw [5] (fun v wr => ∃ (k : Nat) (n : Nat), k ≤ xs.length ∧ v = .int .i64 k ∧ As (xs.take k = ys.take k) ∧ wr = w.drewN n) (fun v _ => xs.length - (intOf v).toNat)
    case atStart => exact ⟨0, 0, Nat.zero_le _, rfl, ⟨rfl⟩, rfl⟩
    case round =>
      obtain ⟨k, n, hk, rfl, ht, rfl⟩ := hrel
      by_cases hlt : k < xs.length
      · obtain ⟨ad, rfl, a1, a2⟩ := Prs.at_ HX.out hlt
        have hlt2 : k < ys.length := by have := hf.out; omega
        obtain ⟨bd, rfl, b1, b2⟩ := Prs.at_ HY.out hlt2
        have hts := As.mk (show xs.take (k + 1) = xs.take k ++ [xs.getD k (0, 0)] by rw [List.take_succ_eq_append_getElem hlt]; simp [hlt])
        have hty := As.mk (show ys.take (k + 1) = ys.take k ++ [ys.getD k (0, 0)] by rw [List.take_succ_eq_append_getElem hlt2]; simp [hlt2])
        by_cases heq : xs.getD k (0, 0) = ys.getD k (0, 0)
        · have e1 : (!((xs.getD k (0, 0)).1 == (ys.getD k (0, 0)).1) || !((xs.getD k (0, 0)).2 == (ys.getD k (0, 0)).2)) = false := by rw [heq]; simp
          have he := As.mk heq
          clear heq
          generalize xs.getD k (0, 0) = p at *
          generalize ys.getD k (0, 0) = q at *
          go_wp2
          go_quiet (fail)
          go_wp2
          go_roundw
          case rel => exact ⟨k + 1, _, by omega, by go_num, ⟨by rw [hts.out, hty.out, ht.out, he.out]⟩, rfl⟩
          case measure => simp [intOf]; omega
        · have e1 : (!((xs.getD k (0, 0)).1 == (ys.getD k (0, 0)).1) || !((xs.getD k (0, 0)).2 == (ys.getD k (0, 0)).2)) = true := by
            have := heq
            rw [Prod.ext_iff] at this
            simp only [Bool.or_eq_true, Bool.not_eq_true', beq_eq_false_iff_ne]
            omega
          have hne : As (decide (xs = ys) = false) := ⟨by simp only [decide_eq_false_iff_not]; rintro rfl; exact heq rfl⟩
          clear heq hts hty ht
          generalize xs.getD k (0, 0) = p at *
          generalize ys.getD k (0, 0) = q at *
          go_wp2
          go_quiet (fail)
          go_wp2
          go_ret
          exact ⟨ret_bool (hne.out.symm.trans HR.out), _, World.drewN_drewN ..⟩
      · have hfin : As (decide (xs = ys) = true) := ⟨by
          have h1 := ht.out; have h2 := hf.out
          rw [List.take_of_length_le (by omega), List.take_of_length_le (by omega)] at h1
          simpa using h1⟩
        go_wp2
        go_ret
        exact ⟨ret_bool (hfin.out.symm.trans HR.out), _, rfl⟩
  · have h1 : ((xs.length : Int) != (ys.length : Int)) = true := by simp; omega
    have h2 : decide (xs = ys) = false := by simp; rintro rfl; exact hn rfl
    obtain rfl : r = false := by rw [← HR.out, h2]
    clear hn h2
    go_enter Try.func12, Try.ntmps12
    go_wp2
    go_ret
    exact ⟨rfl, 0, rfl⟩


theorem OwnPrs.row {w : World} {base : Nat} {v : Value} {xs : List Pr} (h : OwnPrs w base v xs) : ∃ A c, v = .slice A xs.length c ∧ xs.length ≤ c ∧ Prs w A xs := by
  obtain ⟨A, c, rfl, hc⟩ := own_slice h
  exact ⟨A, c, rfl, hc, Row.of_own h⟩
theorem ownPrs_snoc {w : World} {base : Nat} {v : Value} {xs : List Pr} {s e : Int} (h : w.ownsRow base 41 2 v (xs.length + 1) (prCells xs ++ [.int .i64 s, .int .i64 e])) : OwnPrs w base v (xs ++ [(s, e)]) := by
  unfold OwnPrs
  rw [List.length_append, prCells_snoc]
  exact h
/-- Pairs in new memory. -/
def RetPrs (w : World) (xs : List Pr) (e : Ending) (w' : World) : Prop := ∃ v, e = .returned v ∧ OwnPrs w' w.heap.size v xs ∧ Below w.heap.size w w'
theorem RetPrs.row {w w' : World} {xs : List Pr} {e : Ending} (h : RetPrs w xs e w') : ∃ A c, e = .returned (.slice A xs.length c) ∧ xs.length ≤ c ∧ Prs w' A xs ∧ Below w.heap.size w w' := by
  obtain ⟨v, rfl, ho, hb⟩ := h
  obtain ⟨A, c, rfl, hc, hr⟩ := OwnPrs.row ho
  exact ⟨A, c, rfl, hc, hr, hb⟩
end Go.Proofs.Ytbklkemfcdkihaa
end
section
/- The walks of package pairs: which stands ahead, two rows as one, in order. -/
set_option linter.unusedVariables false
set_option linter.unusedSimpArgs false
namespace Go.Proofs.Ytbklkemfcdkihaa
open Go.RowKit Seine.Sort
attribute [local go_sem high] eqPr
theorem pless_calls (w : World) (a1 a2 b1 b2 : Int) (r : Bool) (hr : r = decide (lt (a1, a2) (b1, b2))) :
    Calls Try.prog 56 #[.agg #[.int .i64 a1, .int .i64 a2], .agg #[.int .i64 b1, .int .i64 b2]] w fun e w' => e = .returned (.bool r) ∧ Below w.heap.size w w' := by
  have hb : ∀ o o', Below w.heap.size w ((w.alloc o).alloc o') := fun o o' => ((Below.refl _ _).alloc (Nat.le_refl _) _).alloc (by simp) _
  by_cases h : a1 = b1
  · have hr2 : r = decide (a2 < b2) := by rw [hr, decide_eq_decide]; unfold lt; simp; omega
    have hx : (!(a1 == b1)) = false := by simp [h]
    clear hr
    go_enter Try.func56, Try.ntmps56
    go_wp2
    go_ret
    exact ⟨ret_bool hr2.symm, hb _ _⟩
  · have hr2 : r = decide (a1 < b1) := by rw [hr, decide_eq_decide]; unfold lt; simp; omega
    have hx : (!(a1 == b1)) = true := by simp [h]
    clear hr
    go_enter Try.func56, Try.ntmps56
    go_wp2
    go_ret
    exact ⟨ret_bool hr2.symm, hb _ _⟩
theorem Prs.tail {w : World} {ad : Addr} {x : Pr} {xs : List Pr} (h : Prs w (some ad) (x :: xs)) : Prs w (some (ad.add 2)) xs := by
  rcases h with h | ⟨ad', e, hlt, hc⟩
  · simp [prCells] at h
  · injection e with e
    subst e
    refine .inr ⟨_, rfl, by rw [Addr.block_add]; exact hlt, fun j u hu => ?_⟩
    rw [Addr.add_add', Nat.add_comm 2 j]
    exact hc _ u (by simpa [prCells] using hu)
theorem Prs.head {w : World} {A : Option Addr} {x : Pr} {xs : List Pr} (h : Prs w A (x :: xs)) : ∃ ad, A = some ad ∧ w.cell? ad = some (.int .i64 x.1) ∧ w.cell? ⟨ad.block, ad.off + 1, none⟩ = some (.int .i64 x.2) := by
  obtain ⟨ad, e, h1, h2⟩ := Prs.at_ h (i := 0) (by simp)
  have h0 : ad.add 0 = ad := by simp [Addr.add]
  rw [Nat.zero_mul, h0] at h1 h2
  exact ⟨ad, e, h1, h2⟩
theorem Addr.add_two (ad : Addr) : ad.add 2 = ⟨ad.block, ad.off + 2, none⟩ := rfl
theorem prLast {w : World} {base : Nat} {v : Value} {out : List Pr} {x : Pr} (h : OwnPrs w base v (out ++ [x])) : ∃ b c, v = .slice (some ⟨b, 0, none⟩) (out.length + 1) c ∧ out.length + 1 ≤ c ∧ w.cell? ⟨b, out.length * 2, none⟩ = some (.int .i64 x.1) ∧ w.cell? ⟨b, out.length * 2 + 1, none⟩ = some (.int .i64 x.2) ∧ b < w.heap.size := by
  obtain ⟨A, c, e, hc, hr⟩ := OwnPrs.row h
  rw [List.length_append, List.length_singleton] at e hc
  rcases h.2 with ⟨_, h0⟩ | ⟨b, cap, cur, hv, _, hh, _⟩
  · simp at h0
  · rw [hv] at e
    injection e with e1 _ e3
    subst e1
    obtain ⟨ad, e4, h1, h2⟩ := Prs.at_ hr (i := out.length) (by simp)
    injection e4 with e4
    subst e4
    have hg : (out ++ [x]).getD out.length (0, 0) = x := by simp [List.getD_eq_getElem?_getD]
    rw [hg] at h1 h2
    have hadd : (⟨b, 0, none⟩ : Addr).add (out.length * 2) = ⟨b, out.length * 2, none⟩ := by unfold Addr.add; split <;> simp_all
    rw [hadd] at h1 h2
    exact ⟨b, c, by rw [hv, e3, List.length_append, List.length_singleton], hc, h1, h2, block_lt hh⟩
/-- Where two rows are put together: what is left of each, and what is out. -/
def JRel (w : World) (a b : List Pr) (n1 n2 gk : Nat) (v1 v2 v3 : Value) (wr : World) : Prop :=
  ∃ (A' B' : Option Addr) (m1 c' m2 d' : Nat) (a' b' out : List Pr) (u : Value), v1 = .slice A' m1 c' ∧ v2 = .slice B' m2 d' ∧ v3 = u ∧ As (a'.length = m1) ∧ As (b'.length = m2) ∧ As (m1 + m2 + 1 ≤ gk) ∧ m1 ≤ c' ∧ m2 ≤ d' ∧ c' ≤ 9223372036854775807 ∧ d' ≤ 9223372036854775807 ∧ As (out.length + m1 + m2 ≤ n1 + n2) ∧
    As (Prs w A' a') ∧ As (Prs w B' b') ∧ As (Join a b a' b' out) ∧ As (OwnPrs wr w.heap.size u out) ∧ As (Below w.heap.size w wr)
theorem JRel.nextA {w wr : World} {a b a' b' out : List Pr} {n1 n2 gk m1 m2 c' d' : Nat} {x : Pr} {B' : Option Addr} (hm1 : (x :: a').length = m1) (hm2 : b'.length = m2) (hgk : m1 + m2 + 1 ≤ gk + 1) (hmc : m1 ≤ c') (hmd : m2 ≤ d') (hc' : c' ≤ 9223372036854775807) (hd' : d' ≤ 9223372036854775807)
    (hout : out.length + m1 + m2 ≤ n1 + n2) (hJ : Join a b a' b' (push out x)) (hRB : Prs w B' b') (A'' : Option Addr) (hRA : Prs w A'' a') :
    ∀ v4 w4, OwnPrs w4 w.heap.size v4 (push out x) → Below w.heap.size w w4 → JRel w a b n1 n2 gk (.slice A'' (m1 - 1) (c' - 1)) (.slice B' m2 d') v4 w4 := fun v4 w4 ho4 hb4 => by
  have := push_len out x
  rw [List.length_cons] at hm1
  exact ⟨_, _, m1 - 1, c' - 1, m2, d', a', b', _, _, rfl, rfl, rfl, ⟨by omega⟩, ⟨hm2⟩, ⟨by omega⟩, by omega, hmd, by omega, hd', ⟨by omega⟩, ⟨hRA⟩, ⟨hRB⟩, ⟨hJ⟩, ⟨ho4⟩, ⟨hb4⟩⟩
theorem JRel.nextB {w wr : World} {a b a' b' out : List Pr} {n1 n2 gk m1 m2 c' d' : Nat} {x : Pr} {A' : Option Addr} (hm1 : a'.length = m1) (hm2 : (x :: b').length = m2) (hgk : m1 + m2 + 1 ≤ gk + 1) (hmc : m1 ≤ c') (hmd : m2 ≤ d') (hc' : c' ≤ 9223372036854775807) (hd' : d' ≤ 9223372036854775807)
    (hout : out.length + m1 + m2 ≤ n1 + n2) (hJ : Join a b a' b' (push out x)) (hRA : Prs w A' a') (B'' : Option Addr) (hRB : Prs w B'' b') :
    ∀ v4 w4, OwnPrs w4 w.heap.size v4 (push out x) → Below w.heap.size w w4 → JRel w a b n1 n2 gk (.slice A' m1 c') (.slice B'' (m2 - 1) (d' - 1)) v4 w4 := fun v4 w4 ho4 hb4 => by
  have := push_len out x
  rw [List.length_cons] at hm2
  exact ⟨_, _, m1, c', m2 - 1, d' - 1, a', b', _, _, rfl, rfl, rfl, ⟨hm1⟩, ⟨by omega⟩, ⟨by omega⟩, hmc, by omega, hc', by omega, ⟨by omega⟩, ⟨hRA⟩, ⟨hRB⟩, ⟨hJ⟩, ⟨ho4⟩, ⟨hb4⟩⟩
theorem zero_len {α : Type} {x : α} {l : List α} {m : Nat} (h : (x :: l).length = m) (h1 : m ≤ 1) : l = [] := by
  rw [List.length_cons] at h
  exact List.eq_nil_of_length_eq_zero (by omega)
theorem keepsTwo {wr W1 : World} (h : Below wr.heap.size wr W1) (x1 x2 : Value) : Keeps (fun k => k = wr.heap.size) wr ((W1.setCell ⟨wr.heap.size, 0, none⟩ x1).setCell ⟨wr.heap.size, 1, none⟩ x2).drew :=
  Keeps.drew (((Keeps.of_below h (fun k => k = wr.heap.size)).trans (keepsSt W1 ⟨wr.heap.size, 0, none⟩ x1)).trans (keepsSt (W1.setCell ⟨wr.heap.size, 0, none⟩ x1) ⟨wr.heap.size, 1, none⟩ x2))
theorem nil_or_snoc : ∀ (out : List Pr), out = [] ∨ ∃ pre z, out = pre ++ [z]
  | [] => .inl rfl
  | x :: l => .inr ⟨(x :: l).dropLast, (x :: l).getLast (by simp), (List.dropLast_concat_getLast (by simp)).symm⟩
theorem took_blk (wr : World) (x1 x2 z : Value) (t : TypeId) : (((wr.alloc (.cells #[z, z] t)).setCell ⟨wr.heap.size, 0, none⟩ x1).setCell ⟨wr.heap.size, 1, none⟩ x2).heap[wr.heap.size]? = some (.cells #[x1, x2] t (0, 0)) := by
  have := blk_set (blk_set (heap_alloc_new wr (.cells #[z, z] t)) 0 x1) 1 x2
  simpa using this
theorem push_new {out : List Pr} {x : Pr} (h : out.getLast? ≠ some x) : push out x = out ++ [x] := if_neg h
theorem push_old {out : List Pr} {x : Pr} (h : out.getLast? = some x) : push out x = out := if_pos h
def Pick (t : Bool) (a b : List Pr) : Prop := (t = true → ∃ x a2, a = x :: a2 ∧ ∀ y ∈ b, lt x y ∨ x = y) ∧ (t = false → ∃ y b2, b = y :: b2 ∧ ∀ x ∈ a, lt y x ∨ y = x)
theorem Pick.left {x : Pr} {a b : List Pr} (h : ∀ y ∈ b, lt x y ∨ x = y) : Pick true (x :: a) b := ⟨fun _ => ⟨x, a, rfl, h⟩, fun h => by cases h⟩
theorem Pick.right {y : Pr} {a b : List Pr} (h : ∀ x ∈ a, lt y x ∨ y = x) : Pick false a (y :: b) := ⟨fun h => (by cases h), fun _ => ⟨y, b, rfl, h⟩⟩
abbrev zeroPair : Obj := .cells #[.int .i64 0, .int .i64 0] 41
set_option maxRecDepth 100000 in
set_option maxHeartbeats 1600000 in
theorem joined_calls (A : Option Addr) (c : Nat) (a : List Pr) (B : Option Addr) (d : Nat) (b : List Pr) (w : World) (ha : Prs w A a) (hb : Prs w B b) (hac : a.length ≤ c) (hbd : b.length ≤ d) (hcm : c ≤ maxLen) (hdm : d ≤ maxLen) (ra : Rise a) (rb : Rise b) (hl : a.length + b.length ≤ 100000000) :
    Calls Try.prog 55 #[.slice A a.length c, .slice B b.length d, .func (.func 56) #[] #[]] w (RetPrs w (sortP (a ++ b))) := by
  have hu25 := Try.underlying41
  unfold maxLen at hcm hdm
  obtain ⟨R, hR⟩ : ∃ R, sortP (a ++ b) = R := ⟨_, rfl⟩
  rw [hR]
  replace hR := As.mk hR
  obtain ⟨n1, hn1⟩ : ∃ n, a.length = n := ⟨_, rfl⟩
  obtain ⟨n2, hn2⟩ : ∃ n, b.length = n := ⟨_, rfl⟩
  rw [hn1] at hac hl ⊢
  rw [hn2] at hbd hl ⊢
  have hstart : As (JRel w a b n1 n2 (n1 + n2 + 1) (.slice A n1 c) (.slice B n2 d) (.slice none 0 0) w) :=
    ⟨⟨A, B, n1, c, n2, d, a, b, [], _, rfl, rfl, rfl, ⟨hn1⟩, ⟨hn2⟩, ⟨by omega⟩, hac, hbd, by omega, by omega, ⟨by simp⟩, ⟨ha⟩, ⟨hb⟩, ⟨Join.start ra rb⟩, ⟨World.ownsRow_nil _ _ _ _⟩, ⟨Below.refl _ _⟩⟩⟩
  clear ha hb ra rb
  go_enter Try.func55, Try.ntmps55
  go_wp2
  go_loopg [0, 1, 7] (n1 + n2 + 1) (fun gk v1 v2 v3 wr => JRel w a b n1 n2 gk v1 v2 v3 wr)
  case atStart => exact hstart.out
  case round =>
    obtain ⟨A', B', m1, c', m2, d', a', b', out, v3, rfl, rfl, rfl, hm1, hm2, hgk, hmc, hmd, hc', hd', hout, hRA, hRB, hJ, hown, hbel⟩ := hrel
    by_cases hend : m1 = 0 ∧ m2 = 0
    · obtain ⟨rfl, rfl⟩ := hend
      obtain rfl := List.eq_nil_of_length_eq_zero hm1.out
      obtain rfl := List.eq_nil_of_length_eq_zero hm2.out
      go_wp2
      go_ret
      exact ⟨_, rfl, by rw [← hR.out, ← hJ.out.done]; exact hown.out, hbel.out⟩
    · obtain ⟨gp, rfl⟩ : ∃ gp, gk = gp + 1 := ⟨gk - 1, by have := hgk.out; omega⟩
      go_upto_region 2 with fail
      go_cut [16] from 9 to 62 (fun v16 wx => v16 = .bool true ∧ wr = wx)
      case first =>
        by_cases h1 : 0 < m1
        · have hz1 : decide (0 < (m1 : Int)) = true := decide_eq_true (by omega)
          go_wp2_with fail
          go_meet
          case rel => exact ⟨rfl, rfl⟩
        · obtain rfl : m1 = 0 := by omega
          have h2 : 0 < m2 := by omega
          have hz2 : decide (0 < (m2 : Int)) = true := decide_eq_true (by omega)
          go_wp2_with fail
          go_meet
          case rel => exact ⟨rfl, rfl⟩
      case rest =>
        obtain ⟨rfl, rfl⟩ := hcut
        go_upto_region 4 with fail
        have hW0 := As.mk ((Below.refl wr.heap.size wr).alloc (Nat.le_refl _) zeroPair)
        have hq0 := As.mk (show (wr.alloc zeroPair).heap[wr.heap.size]? = some (.cells #[.int .i64 0, .int .i64 0] 41 (0, 0)) from heap_alloc_new _ _)
        obtain ⟨W0, hWe⟩ : ∃ W, wr.alloc (.cells #[.int .i64 0, .int .i64 0] 41) = W := ⟨_, rfl⟩
        unfold zeroPair at hW0 hq0
        rw [hWe] at hW0 hq0 ⊢
        clear hWe
        have hB0 := As.mk (hbel.out.trans (hW0.out.mono hbel.out.size))
        go_cut [35] from 9 to 62 (fun v35 wx => ∃ t : Bool, v35 = .bool t ∧ As (Below wr.heap.size wr wx) ∧ As (wx.heap[wr.heap.size]? = some (.cells #[.int .i64 0, .int .i64 0] 41 (0, 0))) ∧ As (Pick t a' b'))
        case first =>
          cases b' with
          | nil =>
            obtain rfl : m2 = 0 := hm2.out.symm
            cases a' with
            | nil => exact absurd ⟨hm1.out.symm, rfl⟩ hend
            | cons x a' =>
              have hP := As.mk (Pick.left (a := a') (b := []) (x := x) (by simp))
              go_region
              go_wp2_with fail
              go_meet
              case rel => exact ⟨_, rfl, ⟨hW0.out.drew⟩, hq0, hP⟩
          | cons y b' =>
            have hp2 : 0 < m2 := by have := hm2.out; simp at this; omega
            have hz3 : ((m2 : Int) == 0) = false := by simp; omega
            cases a' with
            | nil =>
              obtain rfl : m1 = 0 := hm1.out.symm
              have hP := As.mk (Pick.right (a := []) (b := b') (y := y) (by simp))
              go_region
              go_wp2_with fail
              go_meet
              case rel => exact ⟨_, rfl, ⟨hW0.out.drew⟩, hq0, hP⟩
            | cons x a' =>
              have hp1 : 0 < m1 := by have := hm1.out; simp at this; omega
              have hz1 : decide (0 < (m1 : Int)) = true := decide_eq_true (by omega)
              have hP : As (Pick (!decide (lt y x)) (x :: a') (y :: b')) := ⟨by
                by_cases hlt : lt y x
                · rw [decide_eq_true hlt]; exact Pick.right (rise_head hJ.out.ra (.inl hlt))
                · rw [decide_eq_false hlt]
                  refine Pick.left (rise_head hJ.out.rb ?_)
                  rcases lt_tri x y with h | h | h
                  · exact .inl h
                  · exact .inr h
                  · exact absurd h hlt⟩
              have hc1 := Prs.head (Row.below hRA.out hB0.out)
              have hc2 := Prs.head (Row.below hRB.out hB0.out)
              have cl := As.mk (fun v => pless_calls v y.1 y.2 x.1 x.2 (decide (lt y x)) rfl)
              generalize decide (lt y x) = t at *
              obtain ⟨o1, o2⟩ := x
              obtain ⟨o3, o4⟩ := y
              obtain ⟨ad, rfl, p1, p2⟩ := hc1
              obtain ⟨bd, rfl, p3, p4⟩ := hc2
              simp only at p1 p2 p3 p4 cl
              go_still_tail 15, (by kernel_rfl)
              change wpList _ _ _ _ _ W0.drew
              go_wp2_with (go_at_call 56; refine Calls.mono (cl.out _) ?_; rintro e W1 ⟨rfl, hb⟩)
              go_meet
              case rel => exact ⟨_, rfl, ⟨belowNext (Below.drew hW0.out) hb⟩, ⟨blkBelow hb hq0.out⟩, hP⟩
        case rest =>
          obtain ⟨t, rfl, hW, hq1, hp⟩ := hcut
          obtain ⟨W1, hWc⟩ : ∃ W, wc = W := ⟨_, rfl⟩
          rw [hWc] at hW hq1 ⊢
          clear hWc hW0 hq0 hB0
          have hB1 := As.mk (hbel.out.trans (hW.out.mono hbel.out.size))
          go_upto_if 35 with fail
          go_cut [0, 1] from 9 to 62 (fun v0 v1 wx => ∃ x1 x2, As (wx.heap[wr.heap.size]? = some (.cells #[.int .i64 x1, .int .i64 x2] 41 (0, 0))) ∧ As (Keeps (fun k => k = wr.heap.size) wr wx) ∧ As (∀ v4 w4, OwnPrs w4 w.heap.size v4 (push out (x1, x2)) → Below w.heap.size w w4 → JRel w a b n1 n2 gp v0 v1 v4 w4))
          case first =>
            cases t with
            | true =>
              obtain ⟨⟨x1, x2⟩, a2, rfl, hmin⟩ := hp.out.1 rfl
              have hJ2 := As.mk (hJ.out.takeA hmin)
              have hp1 : 0 < m1 := by have := hm1.out; simp at this; omega
              clear hmin hp
              have k0 : W1.cell? ⟨wr.heap.size, 0, none⟩ = some (.int .i64 0) := cell_of_blk hq1.out 0
              have k1 : W1.cell? ⟨wr.heap.size, 1, none⟩ = some (.int .i64 0) := cell_of_blk hq1.out 1
              have f0 : W1.frozen? ⟨wr.heap.size, 0, none⟩ = false := free_of_blk hq1.out 0
              have f1 : W1.frozen? ⟨wr.heap.size, 1, none⟩ = false := free_of_blk hq1.out 1
              obtain ⟨ad, rfl, a1, a2⟩ := Prs.head (Row.below hRA.out hB1.out)
              by_cases hcl : c' = 1
              · subst hcl
                obtain rfl : m1 = 1 := by omega
                have ha0 := zero_len hm1.out (Nat.le_refl _)
                have hfin := As.mk (JRel.nextA (x := (x1, x2)) (n1 := n1) (n2 := n2) (out := out) (wr := wr) hm1.out hm2.out hgk.out hmc hmd hc' hd' hout.out hJ2.out hRB.out (some ad) (.inl (by rw [ha0]; rfl)))
                have hK2 : Keeps (fun k => k = wr.heap.size) wr ((W1.setCell ⟨wr.heap.size, 0, none⟩ (.int .i64 x1)).setCell ⟨wr.heap.size, 1, none⟩ (.int .i64 x2)).drew := keepsTwo hW.out _ _
                have hq2 : ((W1.setCell ⟨wr.heap.size, 0, none⟩ (.int .i64 x1)).setCell ⟨wr.heap.size, 1, none⟩ (.int .i64 x2)).drew.heap[wr.heap.size]? = some (.cells #[.int .i64 x1, .int .i64 x2] 41 (0, 0)) := by
                  have := blk_set (blk_set hq1.out 0 (.int .i64 x1)) 1 (.int .i64 x2)
                  simp only [List.setIfInBounds_toArray, List.set_cons_zero, List.set_cons_succ] at this
                  exact this
                go_wp2
                go_region
                all_goals
                  go_wp2_with fail
                  go_meet
                  case rel => exact ⟨x1, x2, ⟨hq2⟩, ⟨hK2⟩, hfin⟩
              · have hfin := As.mk (JRel.nextA (x := (x1, x2)) (n1 := n1) (n2 := n2) (out := out) (wr := wr) hm1.out hm2.out hgk.out hmc hmd hc' hd' hout.out hJ2.out hRB.out (some ⟨ad.block, ad.off + 2, none⟩) (Prs.tail hRA.out))
                have hK2 : Keeps (fun k => k = wr.heap.size) wr ((W1.setCell ⟨wr.heap.size, 0, none⟩ (.int .i64 x1)).setCell ⟨wr.heap.size, 1, none⟩ (.int .i64 x2)).drew := keepsTwo hW.out _ _
                have hq2 : ((W1.setCell ⟨wr.heap.size, 0, none⟩ (.int .i64 x1)).setCell ⟨wr.heap.size, 1, none⟩ (.int .i64 x2)).drew.heap[wr.heap.size]? = some (.cells #[.int .i64 x1, .int .i64 x2] 41 (0, 0)) := by
                  have := blk_set (blk_set hq1.out 0 (.int .i64 x1)) 1 (.int .i64 x2)
                  simp only [List.setIfInBounds_toArray, List.set_cons_zero, List.set_cons_succ] at this
                  exact this
                go_wp2
                go_region
                all_goals
                  go_wp2_with fail
                  go_meet
                  case rel => exact ⟨x1, x2, ⟨hq2⟩, ⟨hK2⟩, hfin⟩
            | false =>
              obtain ⟨⟨x1, x2⟩, b2, rfl, hmin⟩ := hp.out.2 rfl
              have hJ2 := As.mk (hJ.out.takeB hmin)
              have hp1 : 0 < m2 := by have := hm2.out; simp at this; omega
              clear hmin hp
              have k0 : W1.cell? ⟨wr.heap.size, 0, none⟩ = some (.int .i64 0) := cell_of_blk hq1.out 0
              have k1 : W1.cell? ⟨wr.heap.size, 1, none⟩ = some (.int .i64 0) := cell_of_blk hq1.out 1
              have f0 : W1.frozen? ⟨wr.heap.size, 0, none⟩ = false := free_of_blk hq1.out 0
              have f1 : W1.frozen? ⟨wr.heap.size, 1, none⟩ = false := free_of_blk hq1.out 1
              obtain ⟨ad, rfl, a1, a2⟩ := Prs.head (Row.below hRB.out hB1.out)
              by_cases hcl : d' = 1
              · subst hcl
                obtain rfl : m2 = 1 := by omega
                have ha0 := zero_len hm2.out (Nat.le_refl _)
                have hfin := As.mk (JRel.nextB (x := (x1, x2)) (n1 := n1) (n2 := n2) (out := out) (wr := wr) hm1.out hm2.out hgk.out hmc hmd hc' hd' hout.out hJ2.out hRA.out (some ad) (.inl (by rw [ha0]; rfl)))
                have hK2 : Keeps (fun k => k = wr.heap.size) wr ((W1.setCell ⟨wr.heap.size, 0, none⟩ (.int .i64 x1)).setCell ⟨wr.heap.size, 1, none⟩ (.int .i64 x2)).drew := keepsTwo hW.out _ _
                have hq2 : ((W1.setCell ⟨wr.heap.size, 0, none⟩ (.int .i64 x1)).setCell ⟨wr.heap.size, 1, none⟩ (.int .i64 x2)).drew.heap[wr.heap.size]? = some (.cells #[.int .i64 x1, .int .i64 x2] 41 (0, 0)) := by
                  have := blk_set (blk_set hq1.out 0 (.int .i64 x1)) 1 (.int .i64 x2)
                  simp only [List.setIfInBounds_toArray, List.set_cons_zero, List.set_cons_succ] at this
                  exact this
                go_wp2
                go_region
                all_goals
                  go_wp2_with fail
                  go_meet
                  case rel => exact ⟨x1, x2, ⟨hq2⟩, ⟨hK2⟩, hfin⟩
              · have hfin := As.mk (JRel.nextB (x := (x1, x2)) (n1 := n1) (n2 := n2) (out := out) (wr := wr) hm1.out hm2.out hgk.out hmc hmd hc' hd' hout.out hJ2.out hRA.out (some ⟨ad.block, ad.off + 2, none⟩) (Prs.tail hRB.out))
                have hK2 : Keeps (fun k => k = wr.heap.size) wr ((W1.setCell ⟨wr.heap.size, 0, none⟩ (.int .i64 x1)).setCell ⟨wr.heap.size, 1, none⟩ (.int .i64 x2)).drew := keepsTwo hW.out _ _
                have hq2 : ((W1.setCell ⟨wr.heap.size, 0, none⟩ (.int .i64 x1)).setCell ⟨wr.heap.size, 1, none⟩ (.int .i64 x2)).drew.heap[wr.heap.size]? = some (.cells #[.int .i64 x1, .int .i64 x2] 41 (0, 0)) := by
                  have := blk_set (blk_set hq1.out 0 (.int .i64 x1)) 1 (.int .i64 x2)
                  simp only [List.setIfInBounds_toArray, List.set_cons_zero, List.set_cons_succ] at this
                  exact this
                go_wp2
                go_region
                all_goals
                  go_wp2_with fail
                  go_meet
                  case rel => exact ⟨x1, x2, ⟨hq2⟩, ⟨hK2⟩, hfin⟩
          case rest =>
            obtain ⟨x1, x2, hq2, hK2, hfin⟩ := hcut
            obtain ⟨W2, hWc2⟩ : ∃ W, wc = W := ⟨_, rfl⟩
            rw [hWc2] at hq2 hK2 ⊢
            clear hWc2
            have hown2 := As.mk (own_keep hown.out hK2.out (fun q c _ hq _ => Nat.ne_of_lt (block_lt hq)))
            have hB2 := As.mk (hbel.out.trans (hK2.out.below (B := w.heap.size) (fun k hk hk2 => by have := hbel.out.size; omega) hbel.out.size))
            have y0 : W2.cell? ⟨wr.heap.size, 0, none⟩ = some (.int .i64 x1) := cell_of_blk hq2.out 0
            have y1 : W2.cell? ⟨wr.heap.size, 1, none⟩ = some (.int .i64 x2) := cell_of_blk hq2.out 1
            have s2 := hB2.out.size
            clear hq2 hK2 hW hq1 hp
            rcases nil_or_snoc out with rfl | ⟨pre, z, rfl⟩
            · obtain ⟨Ao, co, rfl, hco⟩ := own_slice hown2.out
              have hpu := As.mk (push_new (out := []) (x := (x1, x2)) (by simp))
              go_wp2
              go_region
              obtain ⟨W3, hW3⟩ : ∃ W, W2.drew = W := ⟨_, rfl⟩
              have hown3 := (show OwnPrs W2.drew w.heap.size _ _ from hown2.out)
              rw [hW3] at hown3
              replace hown3 := As.mk hown3
              have hB3 := As.mk (show Below w.heap.size w W3 by rw [← hW3]; exact hB2.out.drew)
              have y0 : W3.cell? ⟨wr.heap.size, 0, none⟩ = some (.int .i64 x1) := by rw [← hW3]; exact y0
              have y1 : W3.cell? ⟨wr.heap.size, 1, none⟩ = some (.int .i64 x2) := by rw [← hW3]; exact y1
              have s3 := hB3.out.size
              rw [hW3]
              clear hW3
              go_wp2_with (at_builtin
                           refine wpList_app1 _ rfl (.tmp 59) (.tmp 61) 30 rfl w.heap.size 41 _ 2 16 Try.underlying30 info_pr rfl (by decide) _ 0 (prCells []) rfl hown3.out [.int .i64 x1, .int .i64 x2] rfl (by simp [Value.oneCell']) _ rfl (by simp) (by omega) (by decide) s3 ?_
                           intro v4 w4 ho4 hk4 _ hb4)
              go_roundg gp
              case rel => exact hfin.out _ _ (by rw [hpu.out]; exact ho4) (hB3.out.trans hb4)
              case measure => omega
            · have hpl : (pre ++ [z]).length = pre.length + 1 := by simp
              obtain ⟨bo, co, rfl, hco, z1, z2, _⟩ := prLast hown2.out
              obtain ⟨z1', z2'⟩ := z
              obtain ⟨pl, hpl2⟩ : ∃ k, pre.length = k := ⟨_, rfl⟩
              rw [hpl2] at hpl hco z1 z2 ⊢
              have hob := hout.out
              rw [hpl] at hob
              have hpl3 := As.mk hpl2
              have hpl4 := As.mk hpl
              clear hpl hpl2
              by_cases hzx : z1' = x1 ∧ z2' = x2
              · obtain ⟨e1, e2⟩ := hzx
                subst e1
                subst e2
                have hpu := As.mk (push_old (out := pre ++ [(z1', z2')]) (x := (z1', z2')) (by simp))
                have hne0 : (((pl : Int) + 1) == 0) = false := by simp; omega
                go_wp2
                go_region
                go_wp2
                go_roundg gp
                case rel => exact hfin.out _ _ (by rw [hpu.out, ← hpl3.out]; exact hown2.out) hB2.out.drew
                case measure => omega
              · have hne0 : (((pl : Int) + 1) == 0) = false := by simp; omega
                have e1 : (!(z1' == x1) || !(z2' == x2)) = true := by
                  simp only [Bool.or_eq_true, Bool.not_eq_true', beq_eq_false_iff_ne]; omega
                have hpu := As.mk (push_new (out := pre ++ [(z1', z2')]) (x := (x1, x2)) (by simp; omega))
                clear hzx
                go_wp2
                go_region
                obtain ⟨W3, hW3⟩ : ∃ W, W2.drew = W := ⟨_, rfl⟩
                have hown3 := (show OwnPrs W2.drew w.heap.size _ _ from hown2.out)
                rw [hW3] at hown3
                replace hown3 := As.mk hown3
                have hB3 := As.mk (show Below w.heap.size w W3 by rw [← hW3]; exact hB2.out.drew)
                have y0 : W3.cell? ⟨wr.heap.size, 0, none⟩ = some (.int .i64 x1) := by rw [← hW3]; exact y0
                have y1 : W3.cell? ⟨wr.heap.size, 1, none⟩ = some (.int .i64 x2) := by rw [← hW3]; exact y1
                have s3 := hB3.out.size
                rw [hW3]
                clear hW3
                have hown4 : W3.ownsRow w.heap.size 41 2 (.slice (some ⟨bo, 0, none⟩) (pl + 1) co) (pl + 1) (prCells (pre ++ [(z1', z2')])) := by have := hown3.out; unfold OwnPrs at this; rwa [hpl4.out, hpl3.out] at this
                replace hown4 := As.mk hown4
                go_wp2_with (at_builtin
                             refine wpList_app1 _ rfl (.tmp 59) (.tmp 61) 30 rfl w.heap.size 41 _ 2 16 Try.underlying30 info_pr rfl (by decide) _ (pl + 1) (prCells (pre ++ [(z1', z2')])) rfl hown4.out [.int .i64 x1, .int .i64 x2] rfl (by simp [Value.oneCell']) _ rfl (by simp) (by omega) (by decide) s3 ?_
                             intro v4 w4 ho4 hk4 _ hb4)
                go_roundg gp
                case rel => exact hfin.out _ _ (by rw [hpu.out]; unfold OwnPrs; rw [List.length_append, List.length_append, List.length_singleton, hpl3.out, prCells_snoc]; exact ho4) (hB3.out.trans hb4)
                case measure => omega
end Go.Proofs.Ytbklkemfcdkihaa
end
section
/- The walks of package pairs: a copy, pairs in order. -/
set_option linter.unusedVariables false
set_option linter.unusedSimpArgs false
namespace Go.Proofs.Ytbklkemfcdkihaa
open Go.RowKit Seine.Sort
theorem prs_one {b : List Pr} : ∀ u ∈ prCells b, u.oneCell' = true := fun u hu => by
  obtain ⟨x, _, hx⟩ := List.mem_flatMap.1 hu
  rcases List.mem_cons.1 hx with rfl | hx
  · rfl
  · rw [List.mem_singleton] at hx; subst hx; rfl
set_option maxRecDepth 100000 in
set_option maxHeartbeats 400000 in
theorem clonePrs_calls (A : Option Addr) (c : Nat) (l : List Pr) (w : World) (h : Prs w A l) (hl : l.length ≤ 1000000) :
    Calls Try.prog 54 #[.slice A l.length c] w (RetPrs w l) := by
  obtain ⟨n, hn⟩ : ∃ n, l.length = n := ⟨_, rfl⟩
  rw [hn] at hl ⊢
  replace hn := As.mk hn
  have H := As.mk h
  clear h
  cases A with
  | none =>
    have hl0 : l = [] := by
      rcases H.out with h | ⟨ad, e, _⟩
      · have := congrArg List.length h; rw [prCells_length] at this; exact List.eq_nil_of_length_eq_zero (by rw [List.length_nil] at this; omega)
      · cases e
    subst hl0
    have hnil : ∀ (w : World) (n c : Nat), (binOp .eql 30 (.slice none n c) (.slice none 0 0)).run Try.prog w = .ok (.bool true) w := fun w n c => Lib.run_eql_slice_nil w _ _ none n c 0 0 Try.underlying30
    go_enter Try.func54, Try.ntmps54
    go_wp2
    go_ret
    exact ⟨_, rfl, World.ownsRow_nil _ _ _ _, Below.refl _ _⟩
  | some ad =>
    have hown : As ((w.alloc (.cells #[] 41)).ownsRow w.heap.size 41 2 (.slice (some ⟨w.heap.size, 0, none⟩) 0 0) 0 []) := ⟨⟨rfl, .inr ⟨_, 0, #[], rfl, Nat.le_refl _, heap_alloc_new w _, Nat.le_refl _, Nat.zero_le _, rfl, rfl⟩⟩⟩
    have hrow := As.mk (Row.alloc H.out (.cells #[] 41))
    have hnl : As ((prCells l).length = n * 2) := ⟨by rw [prCells_length, hn.out]⟩
    have hnil : ∀ (w : World) (a : Addr) (n c : Nat), (binOp .eql 30 (.slice (some a) n c) (.slice none 0 0)).run Try.prog w = .ok (.bool false) w := fun w a n c => Lib.run_eql_slice_nil w _ _ (some a) n c 0 0 Try.underlying30
    go_enter Try.func54, Try.ntmps54
    go_wp2_with (at_builtin
                 refine wpList_apps _ rfl (.tmp 5) (.tmp 6) 30 rfl w.heap.size 41 _ 2 16 Try.underlying30 info_pr rfl (by decide) _ 0 [] rfl hown.out (some ad) n c (prCells l) hrow.out hnl.out prs_one rfl (by omega) (by decide) (by simp) ?_
                 intro v' w' h2 h3)
    go_ret
    exact ⟨v', rfl, by unfold OwnPrs; rw [hn.out]; simpa using h2, ((Below.refl _ _).alloc (Nat.le_refl _) _).trans h3⟩
theorem Prs.take_ {w : World} {A : Option Addr} {l : List Pr} (h : Prs w A l) (m : Nat) : Prs w A (l.take m) := by
  rcases h with h | ⟨ad, e, hlt, hc⟩
  · have h0 : l = [] := by have := congrArg List.length h; rw [prCells_length] at this; exact List.eq_nil_of_length_eq_zero (by rw [List.length_nil] at this; omega)
    subst h0
    exact .inl (by simp [prCells])
  · refine .inr ⟨ad, e, hlt, fun j u hu => hc j u ?_⟩
    have : prCells l = prCells (l.take m) ++ prCells (l.drop m) := by unfold prCells; rw [← List.flatMap_append, List.take_append_drop]
    rw [this, List.getElem?_append_left (List.getElem?_eq_some_iff.1 hu).1]; exact hu
theorem Prs.drop_ {w : World} {ad : Addr} {l : List Pr} (h : Prs w (some ad) l) (m : Nat) (hm : m ≤ l.length) : Prs w (some (ad.add (m * 2))) (l.drop m) := by
  rcases h with h | ⟨ad', e, hlt, hc⟩
  · have h0 : l = [] := by have := congrArg List.length h; rw [prCells_length] at this; exact List.eq_nil_of_length_eq_zero (by rw [List.length_nil] at this; omega)
    subst h0
    exact .inl (by simp [prCells])
  · injection e with e
    subst e
    refine .inr ⟨_, rfl, by rw [Addr.block_add]; exact hlt, fun j u hu => ?_⟩
    rw [Addr.add_add']
    refine hc _ u ?_
    have : prCells l = prCells (l.take m) ++ prCells (l.drop m) := by unfold prCells; rw [← List.flatMap_append, List.take_append_drop]
    rw [this, List.getElem?_append_right (by rw [prCells_length, List.length_take]; omega), prCells_length, List.length_take, Nat.min_eq_left hm, Nat.add_sub_cancel_left]; exact hu
theorem RetPrs.out {w w' : World} {xs : List Pr} {e : Ending} (h : RetPrs w xs e w') : ∃ v, e = .returned v ∧ OwnPrs w' w.heap.size v xs ∧ Below w.heap.size w w' := h
theorem RetPrs.row2 {w w' : World} {xs : List Pr} {e : Ending} (h : RetPrs w xs e w') : ∃ A c, e = .returned (.slice A xs.length c) ∧ xs.length ≤ c ∧ c ≤ maxLen ∧ Prs w' A xs ∧ Below w.heap.size w w' := by
  obtain ⟨v, rfl, ho, hb⟩ := h
  obtain ⟨A, c, rfl, hc, hr⟩ := OwnPrs.row ho
  refine ⟨A, c, rfl, hc, ?_, hr, hb⟩
  rcases ho.2 with ⟨hv, _⟩ | ⟨g, cap, cur, hv, _, _, _, hcm, _⟩
  · injection hv with _ _ h; omega
  · injection hv with _ _ h; omega
set_option maxRecDepth 100000 in
set_option maxHeartbeats 1600000 in
theorem sort_calls (k : Nat) : ∀ (A : Option Addr) (c : Nat) (l : List Pr) (w : World), l.length ≤ k → Prs w A l → l.length ≤ c → c ≤ maxLen → l.length ≤ 1000000 →
    Calls Try.prog 26 #[.slice A l.length c] w (RetPrs w (sortP l)) := by
  induction k with
  | zero =>
    intro A c l w hk h hc hcm hl
    obtain rfl : l = [] := List.eq_nil_of_length_eq_zero (by omega)
    have cc := As.mk (clonePrs_calls A c [] w h (by simp))
    rw [List.length_nil] at cc ⊢
    clear h
    go_enter Try.func26, Try.ntmps26
    go_wp2_with (go_at_call 54; refine Calls.mono cc.out ?_; rintro e w1 ⟨v, rfl, ho, hb⟩)
    go_ret
    exact ⟨v, rfl, ho, hb⟩
  | succ k ih =>
    intro A c l w hk h hc hcm hl
    unfold maxLen at hcm
    by_cases h2 : l.length < 2
    · have hs := As.mk (sortP_short h2)
      have cc := As.mk (clonePrs_calls A c l w h hl)
      obtain ⟨n, hn⟩ : ∃ n, l.length = n := ⟨_, rfl⟩
      rw [hn] at h2 cc ⊢
      rw [hs.out]
      clear h hn
      go_enter Try.func26, Try.ntmps26
      go_wp2_with (go_at_call 54; refine Calls.mono cc.out ?_; rintro e w1 ⟨v, rfl, ho, hb⟩)
      go_ret
      exact ⟨v, rfl, ho, hb⟩
    · obtain ⟨ad, rfl, _, _⟩ := Prs.at_ h (i := 0) (by omega)
      have HX := As.mk h
      obtain ⟨n, hn⟩ : ∃ n, l.length = n := ⟨_, rfl⟩
      obtain ⟨m, hm⟩ : ∃ m, n / 2 = m := ⟨_, rfl⟩
      have ct := As.mk (fun v (hv : Below w.heap.size w v) => (by have := ih (some ad) c (l.take m) v (by rw [List.length_take]; omega) ((Prs.take_ HX.out m).below hv) (by rw [List.length_take]; omega) (by unfold maxLen; omega) (by rw [List.length_take]; omega); rw [List.length_take, Nat.min_eq_left (by omega)] at this; exact this : Calls Try.prog 26 #[.slice (some ad) m c] v (RetPrs v (sortP (l.take m)))))
      have cd := As.mk (fun v (hv : Below w.heap.size w v) => (by have := ih (some (ad.add (m * 2))) (c - m) (l.drop m) v (by rw [List.length_drop]; omega) ((Prs.drop_ HX.out m (by omega)).below hv) (by rw [List.length_drop]; omega) (by unfold maxLen; omega) (by rw [List.length_drop]; omega); rw [List.length_drop, hn] at this; exact this : Calls Try.prog 26 #[.slice (some (ad.add (m * 2))) (n - m) (c - m)] v (RetPrs v (sortP (l.drop m)))))
      have hlt := As.mk (show (sortP (l.take m)).length ≤ 1000000 by have := sortP_len (l.take m); rw [List.length_take] at this; omega)
      have hld := As.mk (show (sortP (l.drop m)).length ≤ 1000000 by have := sortP_len (l.drop m); rw [List.length_drop] at this; omega)
      have hrt := As.mk (rise_sortP (l.take m))
      have hrd := As.mk (rise_sortP (l.drop m))
      rw [← sortP_split l m]
      rw [hn] at hk hc hl h2 ⊢
      replace hn := As.mk hn
      generalize sortP (l.take m) = S1 at *
      generalize sortP (l.drop m) = S2 at *
      have hm1 : m < n := by omega
      have hm2 : 1 ≤ m := by omega
      have hmc : ¬ c = m := by omega
      have hmc1 : m ≤ c := by omega
      have hmn : m ≤ n := by omega
      have hq : (n : Int) / 2 = (m : Int) := by omega
      replace hm := As.mk hm
      clear h ih
      go_enter Try.func26, Try.ntmps26
      go_wp2_with fail
      go_region_with (first
        | (go_at_call 26; with_reducible refine Calls.mono (ct.out _ ?hb) ?_; (case hb => (repeat (first | (with_reducible assumption) | (with_reducible exact Below.refl _ _) | (with_reducible refine Below.drew ?_) | (with_reducible refine below_drewN ?_ _) | (with_reducible refine Below.alloc ?_ (by (first | omega | (simp only [World.size_alloc, World.size_drew]; done) | (simp only [World.size_alloc, World.size_drew]; omega))) _) | (refine Below.trans ?_ (Below.mono (by with_reducible assumption) (by (first | omega | (simp only [World.size_alloc, World.size_drew]; done) | (simp only [World.size_alloc, World.size_drew]; omega)))))))); intro e w1 h1; obtain ⟨A1, c1, he, hc1, hm1', hr1, hb1⟩ := h1.row2; subst he; clear h1)
        | (go_at_call 26; with_reducible refine Calls.mono (cd.out _ ?hb) ?_; (case hb => (repeat (first | (with_reducible assumption) | (with_reducible exact Below.refl _ _) | (with_reducible refine Below.drew ?_) | (with_reducible refine below_drewN ?_ _) | (with_reducible refine Below.alloc ?_ (by (first | omega | (simp only [World.size_alloc, World.size_drew]; done) | (simp only [World.size_alloc, World.size_drew]; omega))) _) | (refine Below.trans ?_ (Below.mono (by with_reducible assumption) (by (first | omega | (simp only [World.size_alloc, World.size_drew]; done) | (simp only [World.size_alloc, World.size_drew]; omega)))))))); intro e w2 h2; obtain ⟨A2, c2, he, hc2, hm2', hr2, hb2⟩ := h2.row2; subst he; clear h2)
        | (go_at_call 55; with_reducible refine Calls.mono (joined_calls A1 c1 S1 A2 c2 S2 _ ?p1 ?p2 hc1 hc2 hm1' hm2' hrt.out hrd.out ?p3) ?_; (case p1 => first | exact hr1 | exact Row.below hr1 hb2); (case p2 => first | exact hr2 | exact Row.below hr2 hb1); (case p3 => have := hlt.out; have := hld.out; omega); intro e w3 h3; obtain ⟨v3, he, ho3, hb3⟩ := h3.out; subst he))
      all_goals
        go_wp2_with fail
        go_ret
        have e1 := hb1.size
        have e2 := hb2.size
        simp only [World.size_drew] at e1 e2
        refine ⟨v3, rfl, own_base ho3 (by omega), ?_⟩
        (repeat (first | (with_reducible assumption) | (with_reducible exact Below.refl _ _) | (with_reducible refine Below.drew ?_) | (with_reducible refine below_drewN ?_ _) | (with_reducible refine Below.alloc ?_ (by (first | omega | (simp only [World.size_alloc, World.size_drew]; done) | (simp only [World.size_alloc, World.size_drew]; omega))) _) | (refine Below.trans ?_ (Below.mono (by with_reducible assumption) (by (first | omega | (simp only [World.size_alloc, World.size_drew]; done) | (simp only [World.size_alloc, World.size_drew]; omega)))))))
end Go.Proofs.Ytbklkemfcdkihaa
end
section
/- The walks of package cwalter: one for some texts, a window. -/
set_option linter.unusedVariables false
set_option linter.unusedSimpArgs false
namespace Go.Proofs.Ytbklkemfcdkihaa
open Go.RowKit Seine.Trie Seine.Links Seine.Cw
open Seine.Sort (sortP)
attribute [local go_sem high] max2_i min2_i max_two' min_two'
/-- What finds texts from their ends: T are the texts turned round. -/
def WalkAt (w : World) (g : Nat) (T : List Txt) : Prop :=
  ∃ gb gs, w.heap[g]? = some (.cells #[.pointer (some ⟨gb, 0, none⟩), .pointer (some ⟨gs, 0, none⟩)] 56 (0, 0)) ∧ BackAt w gb T ∧ ShAt w gs gb T
theorem WalkAt.below {w w' : World} {g : Nat} {T : List Txt} (h : WalkAt w g T) (hb : Below w.heap.size w w') : WalkAt w' g T := by
  obtain ⟨gb, gs, h1, h2, h3⟩ := h
  exact ⟨gb, gs, blkBelow hb h1, h2.below hb, h3.below hb⟩
theorem cnew_calls (w : World) (A : Option Addr) (c : Nat) (l : List Txt) (hx : Txts w A l) (hl : tot l ≤ 90000) (hll : l.length ≤ 1000000) :
    Calls Try.prog 13 #[.slice A l.length c] w fun e w' => ∃ g, e = .returned (.pointer (some ⟨g, 0, none⟩)) ∧ WalkAt w' g (turnT l) ∧ Below w.heap.size w w' := by
  have cb := As.mk (bbuild_calls w A c l hx (by omega) hll)
  have htot := turnT_tot l
  have hT := turnT_ne l
  obtain ⟨T, hTT⟩ : ∃ T, turnT l = T := ⟨_, rfl⟩
  rw [hTT] at cb htot hT ⊢
  have hpl := paths_len T
  have hd : ∀ p ∈ paths T, p.length ≤ 100000 := path_tot (l := T) (by omega)
  have cs := As.mk (fun (v : World) (gb : Nat) (h : BackAt v gb T) => (by
    by_cases hne : T = []
    · subst hne; exact shbuild_none v gb h
    · exact shbuild_calls v gb T (paths T) ⟨rfl⟩ (least T) _ ⟨rfl⟩ rfl (least_spec hT hne).1 (by omega) hd h : Calls Try.prog 24 #[.pointer (some ⟨gb, 0, none⟩)] v fun e w' => ∃ g, e = .returned (.pointer (some ⟨g, 0, none⟩)) ∧ ShAt w' g gb T ∧ Below v.heap.size v w'))
  generalize l.length = n at *
  clear hx hd hT hTT
  go_enter Try.func13, Try.ntmps13
  go_wp2_with (first
    | (go_at_call 23; refine Calls.mono cb.out ?_; rintro e w1 ⟨gb, rfl, hb1, hB1⟩)
    | (go_at_call 24; refine Calls.mono (cs.out _ gb hb1) ?_; rintro e w2 ⟨gs, rfl, hs2, hB2⟩))
  go_ret
  have hn := (Below.refl w2.heap.size w2).alloc (Nat.le_refl _) (.cells #[.pointer (some ⟨gb, 0, none⟩), .pointer (some ⟨gs, 0, none⟩)] 56)
  exact ⟨_, rfl, ⟨gb, gs, heap_alloc_new _ _, (hb1.below hB2).below hn, hs2.below hn⟩, belowNext (belowNext hB1 hB2) hn⟩
theorem fit_eq {P : List Txt} (hT : Tree P) {L : Txt} {e d : Nat} (he : e ≤ L.length) (hd : d ≤ e) (h1 : (rv L e).take d ∈ P) (h2 : d < e → (rv L e).take (d + 1) ∉ P) : fit P L e = (rv L e).take d := by
  obtain ⟨d', a1, a2, a3, a4, a5⟩ := fit_spec hT he
  rw [a2]
  rcases Nat.lt_trichotomy d' d with h | h | h
  · have := tree_take hT h1 (d' + 1)
    rw [List.take_take, Nat.min_eq_left (by omega)] at this
    exact absurd this (a5 (by omega))
  · rw [h]
  · have := tree_take hT a4 (d + 1)
    rw [List.take_take, Nat.min_eq_left (by omega)] at this
    exact absurd this (h2 (by omega))
/-- Pairs and a number, the pairs in new memory. -/
def RetPN (w : World) (xs : List Pr) (n : Int) (e : Ending) (w' : World) : Prop := ∃ v, e = .returned (.tuple #[v, .int .i64 n]) ∧ OwnPrs w' w.heap.size v xs ∧ Below w.heap.size w w'
theorem wins_len (T : List Txt) (L : Txt) (e : Nat) : ∀ d, (wins T L e d).length ≤ d
  | 0 => Nat.le_refl _
  | d + 1 => by
    have := wins_len T L e d
    rw [wins, List.length_append]; split <;> simp <;> omega
theorem stepF_at' {P : List Txt} {s : Txt} {a : Nat} (h : P[a]? = some s) (c : UInt8) : stepF P (a : Int) c = place P (s ++ [c]) := by
  unfold stepF
  have := (List.getElem?_eq_some_iff.1 h).1
  rw [if_pos (by omega), Int.toNat_natCast, List.getD_eq_getElem?_getD, h]; rfl
set_option maxRecDepth 100000 in
set_option maxHeartbeats 3200000 in
theorem window_calls (w : World) (g : Nat) (T P : List Txt) (hP : As (paths T = P)) (hT : ∀ t ∈ T, t ≠ []) (hne : T ≠ []) (h : WalkAt w g T) (hlt0 : least T ≤ 100000) (hpl : ∀ p ∈ P, p.length ≤ 100000) (hl : P.length ≤ 1000000)
    (A : Option Addr) (c : Nat) (L : Txt) (hx : Byt w A L) (hL : L.length ≤ 1000000) (e : Nat) (he1 : 0 < e) (he : e ≤ L.length) :
    Calls Try.prog 53 #[.pointer (some ⟨g, 0, none⟩), .slice A L.length c, .int .i64 (e : Int)] w (RetPN w (wins T L e (fit P L e).length) (farAt T L e : Int)) := by
  have hTr : As (Tree P) := ⟨by rw [← hP.out]; exact paths_tree T⟩
  have HW := As.mk h
  have HX := As.mk hx
  obtain ⟨n, hn⟩ : ∃ n, L.length = n := ⟨_, rfl⟩
  have hrl := As.mk (rv_length he)
  have hg := As.mk (fun k (hk : k < e) => rv_get he hk)
  have hfe := As.mk (fun d hd h1 h2 => fit_eq (L := L) (e := e) (d := d) hTr.out he hd h1 h2)
  rw [hn] at hL he ⊢
  replace hn := As.mk hn
  clear h hx
  go_enter Try.func53, Try.ntmps53
  go_wp2_with fail
  go_step3
  go_wp2_with fail
  go_step3
  go_wp2_with fail
  have h00 : As ((0 : Int) = place P ((rv L e).take 0)) := ⟨by rw [List.take_zero, place_at hTr.out.nodup hTr.out.root]; rfl⟩
  have h0m : As ((rv L e).take 0 ∈ P) := ⟨by rw [List.take_zero]; exact hTr.out.nil_mem⟩
  go_loopg [8, 9, 10] (e + 1) (fun gk v at_ i wr => ∃ (d : Nat) (u : Value), u = v ∧ As (e + 1 ≤ gk + d) ∧ d ≤ e ∧ (∃ z : Int, i = .int .i64 z ∧ z = (e : Int) - (d : Int) - 1) ∧ at_ = .int .i64 (place P ((rv L e).take d)) ∧ As ((rv L e).take d ∈ P) ∧ As (OwnPrs wr w.heap.size u (wins T L e d)) ∧ As (Below w.heap.size w wr))
  case atStart => exact ⟨0, _, rfl, ⟨by omega⟩, Nat.zero_le _, ⟨_, rfl, by go_num⟩, by rw [← h00.out], h0m, ⟨World.ownsRow_nil _ _ _ _⟩, ⟨Below.refl _ _⟩⟩
  case round =>
    obtain ⟨d, u, rfl, hgk, hd, ⟨z, rfl, hz⟩, rfl, hm, hown, hbel⟩ := hrel
    obtain ⟨gb, gs, g1, g2, g3⟩ := HW.out.below hbel.out
    obtain ⟨tb, tg, c1, g5⟩ := g2.open_ hP
    have c0 : wr.cell? ⟨g, 0, none⟩ = some (.pointer (some ⟨gb, 0, none⟩)) := cell_of_blk g1 0
    have c2 : wr.cell? ⟨g, 1, none⟩ = some (.pointer (some ⟨gs, 0, none⟩)) := cell_of_blk g1 1
    obtain ⟨a, ea, ha⟩ := place_nat hm.out
    rw [ea]
    have htd : ((rv L e).take d).length = d := by rw [List.length_take, hrl.out]; omega
    have hask : askF P (fun p => p.length) 0 (a : Int) = (d : Int) := by
      unfold askF
      have := (List.getElem?_eq_some_iff.1 ha).1
      rw [if_pos (by omega), Int.toNat_natCast, List.getD_eq_getElem?_getD, ha, Option.getD_some]
      show ((((rv L e).take d).length : Nat) : Int) = (d : Int)
      rw [htd]
    have cd := As.mk (fun (v : World) (hv : Below wr.heap.size wr v) => (by have := depth_calls v tb tg P (place T) (g5.below hv) (a : Int); rw [hask] at this; exact this : Calls Try.prog 81 #[.pointer (some ⟨tg, 0, none⟩), .int .i64 (a : Int)] v fun e w' => e = .returned (.int .i64 (d : Int)) ∧ v = w'))
    by_cases hlt : d < e
    · obtain ⟨gp, rfl⟩ : ∃ gp, gk = gp + 1 := ⟨gk - 1, by have := hgk.out; omega⟩
      have hXr := Row.below HX.out hbel.out
      obtain ⟨m, rfl⟩ : ∃ m : Nat, z = (m : Int) := ⟨e - d - 1, by omega⟩
      have hme : m = e - d - 1 := by omega
      obtain ⟨ad, rfl, ca⟩ := Byt.at_ hXr (i := m) (by rw [hn.out]; omega)
      have hgd := hg.out d hlt
      rw [← hme] at hgd
      have hm0 : 0 ≤ (m : Int) := by omega
      obtain ⟨x, hxx⟩ : ∃ x, L.getD m 0 = x := ⟨_, rfl⟩
      rw [hxx] at ca hgd
      have cst := step_calls wr.drew tb tg P (place T) (g5.below (Below.refl _ _).drew) hl (a : Int) (x.toNat : Int) x rfl
      rw [stepF_at' ha x, ← hgd] at cst
      have hmn : m < n := by omega
      replace hz := As.mk hz
      replace hme := As.mk hme
      by_cases hq : (rv L e).take (d + 1) ∈ P
      · obtain ⟨a', ea', ha'⟩ := place_nat hq
        rw [ea'] at cst
        replace cst := As.mk cst
        have cw := As.mk (bwhole_calls wr.drew gb T (g2.below (Below.refl _ _).drew) (a' : Int))
        rw [wholeN_at (T := T) (a := a') (p := (rv L e).take (d + 1)) (by rw [hP.out]; exact ha')] at cw
        have hw1 := As.mk (show wins T L e (d + 1) = wins T L e d ++ (if (rv L e).take (d + 1) ∈ T then [((e : Int) - ((d + 1 : Nat) : Int), (e : Int))] else []) from rfl)
        have hq' := As.mk hq
        have hwl := wins_len T L e d
        have hea := As.mk ea'
        obtain ⟨xs, hxs⟩ : ∃ xs, wins T L e d = xs := ⟨_, rfl⟩
        rw [hxs] at hown hw1 hwl
        have hna : decide ((a' : Int) < 0) = false := decide_eq_false (by omega)
        have hbd := As.mk hbel.out.drew
        have hod : As (OwnPrs wr.drew w.heap.size u xs) := ⟨own_below hown.out (Below.refl _ _).drew⟩
        clear hgd ea' ha' ha ea hq hask htd hXr g1 g2 g3 g5 hxs hxx
        obtain ⟨Au, cu, rfl, hcu⟩ := own_slice hod.out
        obtain ⟨xl, hxl⟩ : ∃ k, xs.length = k := ⟨_, rfl⟩
        rw [hxl] at hwl hcu ⊢
        have hodl := hod.out
        unfold OwnPrs at hodl
        rw [hxl] at hodl
        replace hodl := As.mk hodl
        clear hod
        replace hxl := As.mk hxl
        by_cases ht : (rv L e).take (d + 1) ∈ T
        · rw [decide_eq_true ht] at cw
          rw [if_pos ht] at hw1
          go_wp2_with fail
          refine wp_region_still_lit (by kernel_rfl) (by kernel_rfl) ?_
          iterate 12 still_step
          refine wpStill_step (fun K hK => ?_)
          go_simp
          refine ⟨_, cst.out.mono (fun e w' h => ⟨h.1, h.2.symm⟩), hK _ ?_⟩
          clear hK K
          repeat still_step
          refine wpStill_nil ?_
          rw [show ({ heap := wr.heap, tape := wr.tape, drawn := wr.drawn + 1, os := wr.os, output := wr.output } : World) = wr.drew from rfl]
          have c0d : wr.drew.cell? ⟨g, 0, none⟩ = some (.pointer (some ⟨gb, 0, none⟩)) := c0
          have c1d : wr.drew.cell? ⟨gb, 0, none⟩ = some (.pointer (some ⟨tg, 0, none⟩)) := c1
          have c2d : wr.drew.cell? ⟨g, 1, none⟩ = some (.pointer (some ⟨gs, 0, none⟩)) := c2
          have cad : wr.drew.cell? (ad.add m) = some (.int .u8 (x.toNat : Int)) := ca
          clear c0 c1 c2 ca
          generalize wr.drew = Wd at *
          go_wp2_with (first
            | (go_at_call 80; refine Calls.mono cw.out ?_; rintro e w' ⟨rfl, rfl⟩)
            | (at_builtin
               refine wpList_app1 _ rfl (.tmp 41) (.tmp 45) 30 rfl w.heap.size 41 _ 2 16 Try.underlying30 info_pr rfl (by decide) _ xl (prCells xs) rfl hodl.out [.int .i64 (m : Int), .int .i64 (e : Int)] rfl (by simp [Value.oneCell']) _ rfl (by simp) (by omega) (by decide) hbd.out.size ?_
               intro v' w2 ho2 hk2 hat2 hb2))
          go_roundg gp
          case rel =>
            refine ⟨d + 1, v', rfl, ⟨by have := hgk.out; omega⟩, by omega, ⟨_, rfl, by have := hz.out; go_num⟩, by rw [hea.out], hq', ⟨?_⟩, ⟨hbd.out.trans hb2⟩⟩
            rw [hw1.out]
            have h1 : ((e : Int) - ((d + 1 : Nat) : Int)) = (m : Int) := by have := hz.out; omega
            rw [h1]
            rw [← hxl.out] at ho2
            exact ownPrs_snoc ho2
          case measure => omega
        · rw [decide_eq_false ht] at cw
          rw [if_neg ht, List.append_nil] at hw1
          go_wp2_with fail
          refine wp_region_still_lit (by kernel_rfl) (by kernel_rfl) ?_
          iterate 12 still_step
          refine wpStill_step (fun K hK => ?_)
          go_simp
          refine ⟨_, cst.out.mono (fun e w' h => ⟨h.1, h.2.symm⟩), hK _ ?_⟩
          clear hK K
          repeat still_step
          refine wpStill_nil ?_
          rw [show ({ heap := wr.heap, tape := wr.tape, drawn := wr.drawn + 1, os := wr.os, output := wr.output } : World) = wr.drew from rfl]
          have c0d : wr.drew.cell? ⟨g, 0, none⟩ = some (.pointer (some ⟨gb, 0, none⟩)) := c0
          have c1d : wr.drew.cell? ⟨gb, 0, none⟩ = some (.pointer (some ⟨tg, 0, none⟩)) := c1
          have c2d : wr.drew.cell? ⟨g, 1, none⟩ = some (.pointer (some ⟨gs, 0, none⟩)) := c2
          have cad : wr.drew.cell? (ad.add m) = some (.int .u8 (x.toNat : Int)) := ca
          clear c0 c1 c2 ca
          generalize wr.drew = Wd at *
          go_wp2_with (go_at_call 80; refine Calls.mono cw.out ?_; rintro e w' ⟨rfl, rfl⟩)
          go_roundg gp
          case rel =>
            refine ⟨d + 1, _, rfl, ⟨by have := hgk.out; omega⟩, by omega, ⟨_, rfl, by have := hz.out; go_num⟩, by rw [hea.out], hq', ⟨?_⟩, hbd⟩
            rw [hw1.out]
            unfold OwnPrs
            rw [hxl.out]
            exact hodl.out
          case measure => omega
      · have hpn := place_none hq
        rw [hpn] at cst
        replace cst := As.mk cst
        have hfit := hfe.out d hd hm.out (fun _ => hq)
        have hfl : (fit P L e).length = d := by rw [hfit, htd]
        have hfa : farAt T L e = farF T ((rv L e).take d) x := by
          unfold farAt
          rw [hP.out, hfl, if_pos hlt, hfit, show e - d - 1 = m by have := hme.out; omega, hxx]
        have cfr := As.mk (fun (v : World) (hv : Below wr.heap.size wr v) => far_calls v gs gb T hT hne (g3.below hv) a ((rv L e).take d) (by rw [hP.out]; exact ha) hlt0 (hpl _ hm.out) x)
        rw [← hfa] at cfr
        have hbd := As.mk hbel.out.drew
        have hod : As (OwnPrs wr.drew w.heap.size u (wins T L e d)) := ⟨own_below hown.out (Below.refl _ _).drew⟩
        have hdr : Below wr.heap.size wr wr.drew := (Below.refl _ _).drew
        have cdd := As.mk (cd.out _ hdr)
        have hsz : wr.drew.heap.size = wr.heap.size := rfl
        replace hdr := As.mk hdr
        obtain ⟨wn, hwn⟩ : ∃ q, wins T L e d = q := ⟨_, rfl⟩
        rw [hwn] at hod
        replace hfl := As.mk hfl
        replace hwn := As.mk hwn
        have hfar := (farAt_spec hT hne L e).2
        obtain ⟨fa, hfaa⟩ : ∃ q, farAt T L e = q := ⟨_, rfl⟩
        rw [hfaa] at cfr hfar
        replace hfaa := As.mk hfaa
        have hz1 : (e : Int) - (d : Int) - 1 = (m : Int) := hz.out.symm
        have i1 : IntKind.i64.wrap ((e : Int) - (d : Int) - 1) = (m : Int) := by rw [IntWalk.i64_in _ (by omega)]; omega
        have k1 : ((m : Int)).toNat = m := by omega
        have k2 : (m : Int) < (n : Int) := by omega
        have hz2 : decide ((e : Int) - (d : Int) = 0) = false := decide_eq_false (by omega)
        have hz3 : (((e : Int) - (d : Int)) == 0) = false := by simp; omega
        clear hgd ha ea hq hask htd hXr g1 g2 g3 g5 hfit hfa hpn hown hxx
        go_wp2_with fail
        refine wp_region_still_lit (by kernel_rfl) (by kernel_rfl) ?_
        iterate 12 still_step
        refine wpStill_step (fun K hK => ?_)
        go_simp
        refine ⟨_, cst.out.mono (fun e w' h => ⟨h.1, h.2.symm⟩), hK _ ?_⟩
        clear hK K
        repeat still_step
        refine wpStill_nil ?_
        rw [show ({ heap := wr.heap, tape := wr.tape, drawn := wr.drawn + 1, os := wr.os, output := wr.output } : World) = wr.drew from rfl]
        have c0d : wr.drew.cell? ⟨g, 0, none⟩ = some (.pointer (some ⟨gb, 0, none⟩)) := c0
        have c1d : wr.drew.cell? ⟨gb, 0, none⟩ = some (.pointer (some ⟨tg, 0, none⟩)) := c1
        have c2d : wr.drew.cell? ⟨g, 1, none⟩ = some (.pointer (some ⟨gs, 0, none⟩)) := c2
        have cad : wr.drew.cell? (ad.add m) = some (.int .u8 (x.toNat : Int)) := ca
        clear c0 c1 c2 ca
        generalize wr.drew = Wd at *
        go_wp2_with (go_at_call 81; refine Calls.mono cdd.out ?_; rintro e w' ⟨rfl, rfl⟩)
        obtain ⟨ah, hah⟩ : ∃ z : Int, (e : Int) - (d : Int) = z := ⟨_, rfl⟩
        have i3 : IntKind.i64.wrap (ah - 1) = (m : Int) := by rw [← hah]; exact i1
        rw [hah]
        clear i1 hz1 hz2 hz3 hah
        have hdr2 := As.mk hdr.out.drew
        go_region_with (go_at_call 83; refine Calls.mono (cfr.out _ hdr2.out) ?_; rintro e w6 ⟨rfl, hb6⟩)
        all_goals
          go_wp2
          try rw [Exit.noGoto_ret]
          go_ret2
          have hs6 := hb6.size
          rw [hfl.out, hwn.out, hfaa.out]
          refine ⟨u, rfl, own_below (own_below hod.out (Below.refl _ _).drew) hb6, (hbd.out.drew).trans (hb6.mono ?_)⟩
          show w.heap.size ≤ Wd.heap.size
          exact hbd.out.size
    · obtain rfl : d = e := by omega
      have hfit := hfe.out d hd hm.out (fun h => absurd h (Nat.lt_irrefl _))
      have hfl : (fit P L d).length = d := by rw [hfit, htd]
      have hfa : farAt T L d = secondF T ((rv L d).take d) := by
        unfold farAt
        rw [hP.out, hfl, if_neg (Nat.lt_irrefl _), hfit]
      have csc := As.mk (second_calls wr gs gb T hne g3 a ((rv L d).take d) (by rw [hP.out]; exact ha))
      rw [← hfa] at csc
      have hfar := (farAt_spec hT hne L d).2
      obtain ⟨fa, hfaa⟩ : ∃ q, farAt T L d = q := ⟨_, rfl⟩
      rw [hfaa] at csc hfar
      obtain ⟨wn, hwn⟩ : ∃ q, wins T L d d = q := ⟨_, rfl⟩
      rw [hwn] at hown
      replace hfl := As.mk hfl
      replace hwn := As.mk hwn
      replace hfaa := As.mk hfaa
      have cdd := As.mk (cd.out _ (Below.refl _ _))
      obtain rfl : z = -1 := by omega
      have hdd : ((d : Int) - (d : Int)) = 0 := by omega
      clear hz ha ea hask htd g1 g2 g3 g5 hfit hfa
      go_wp2_with (first
        | (go_at_call 81; refine Calls.mono cdd.out ?_; rintro e w' ⟨rfl, rfl⟩)
        | (go_at_call 82; refine Calls.mono csc.out ?_; rintro e w6 ⟨rfl, hb6⟩))
      try rw [Exit.noGoto_ret]
      go_ret2
      rw [hfl.out, hwn.out, hfaa.out]
      exact ⟨u, rfl, own_below hown.out hb6, belowNext hbel.out hb6⟩
end Go.Proofs.Ytbklkemfcdkihaa
end
section
/- The walks of package cwalter: from window to window. -/
set_option linter.unusedVariables false
set_option linter.unusedSimpArgs false
namespace Go.Proofs.Ytbklkemfcdkihaa
open Go.RowKit Seine.Trie Seine.Links Seine.Cw
open Seine.Sort (sortP)
/-- append of a slice's elements, and what else stays. -/
theorem wpList_appsK {P : Program} {ops : Array Oper} {rest : List Oper} {o : Oper} {a : Act} {Q : Exit → Act → World → Prop} (w : World) (hgd : o.guard = none) (s x : Operand) (t : TypeId)
    (ho : o.op = .call { callee := .builtin .append, args := #[s, x], argTypes := #[t, t] })
    (base : Nat) (e : TypeId) (z : Value) (size bytes : Nat) (ht : P.underlying t = some (.slice e)) (hi : (P.info? e).map (fun i => (i.zero, i.size, i.bytes)) = some (some z, size, bytes))
    (hzs : z.cells.size = size) (hsz : 0 < size)
    (v : Value) (n : Nat) (xs : List Value) (hs : a.eval s = v) (hown : w.ownsRow base e size v n xs)
    (A : Option Addr) (m c : Nat) (cs : List Value) (hrow : Row w A cs) (hl : cs.length = m * size) (h1 : ∀ u ∈ cs, u.oneCell' = true) (hx : a.eval x = .slice A m c)
    (hlen : n + m ≤ 1000000000000) (hby : bytes ≤ 100) (hbase : base ≤ w.heap.size)
    (h : ∀ v' w', w'.ownsRow base e size v' (n + m) (xs ++ cs) → Below base w w' → Keeps (fun k => some k = v.ownBlock) w w' → wpList P ops Q rest (a.put o.dst v') w') :
    wpList P ops Q (o :: rest) a w := by
  obtain ⟨i, hi, hz, hsize, hbytes⟩ := info_parts hi
  rcases hrow with rfl | ⟨ad, rfl, hlt, hc⟩
  · obtain rfl : m = 0 := by
      have hl : 0 = m * size := by simpa using hl
      rcases Nat.mul_eq_zero.1 hl.symm with h | h
      · exact h
      · omega
    obtain ⟨A0, c0, rfl, hc0⟩ := own_slice hown
    refine wpList_app0 w hgd s x t ho e i ht hi A0 A n c0 c hs hc0 hx ?_
    exact h _ _ (by simpa using hown) (Below.refl _ _) (Keeps.refl _ _)
  · refine wpList_append_own_at w hgd s x t ho base e i z size bytes ht hi hz hsize hbytes hzs hsz v n xs hs hown ad m c cs hx hl hc h1
      (by simp only [maxLen]; omega) ?_ hbase ?_
    · have : (n + m) * bytes ≤ (n + m) * 100 := Nat.mul_le_mul_left _ hby
      omega
    · intro v' w' h2 h3 _ h5
      refine h v' w' h2 ((Below.refl base w).grown h3 hbase (fun k hk => ?_)) (Keeps.of_grown h3)
      rcases hown.2 with ⟨rfl, _⟩ | ⟨g, cap, cur, rfl, hg, _⟩
      · simp [Value.ownBlock] at hk
      · simp [Value.ownBlock] at hk; omega
/-- Pairs and whole numbers, in new memory. -/
def RetPI (w : World) (xs : List Pr) (ys : List Int) (e : Ending) (w' : World) : Prop := ∃ v u, e = .returned (.tuple #[v, u]) ∧ OwnPrs w' w.heap.size v xs ∧ OwnInts w' w.heap.size u ys ∧ Below w.heap.size w w'
theorem cwalk_none (w : World) (lv : Value) : Calls Try.prog 25 #[.pointer none, lv] w (RetPI w [] []) := by
  go_enter Try.func25, Try.ntmps25
  go_wp2
  go_step3
  go_wp2
  try rw [Exit.noGoto_ret]
  go_ret2
  exact ⟨_, _, rfl, World.ownsRow_nil _ _ _ _, World.ownsRow_nil _ _ _ _, Below.refl _ _⟩
theorem hitsOf_snoc (T : List Txt) (L : Txt) (E : List Nat) (e : Nat) : hitsOf T L (E ++ [e]) = hitsOf T L E ++ wins T L e (fit (paths T) L e).length := by unfold hitsOf; rw [List.flatMap_append]; simp
theorem fit_len {P : List Txt} (hT : Tree P) {L : Txt} {e : Nat} (he : e ≤ L.length) : (fit P L e).length ≤ e := by
  obtain ⟨d, h1, _, h3, _⟩ := fit_spec hT he
  omega
def natI (E : List Nat) : List Int := E.map fun (e : Nat) => (e : Int)
theorem natI_length (E : List Nat) : (natI E).length = E.length := by simp [natI]
theorem natI_snoc (E : List Nat) (e : Nat) : natI (E ++ [e]) = natI E ++ [(e : Int)] := by simp [natI]
/-- What is handed from window to window. -/
structure CwRel (w wr : World) (T : List Txt) (L : Txt) (e : Nat) (Es : List Nat) (v6 v7 : Value) : Prop where
  split : ends T L = Es ++ endsFrom T L (L.length + 1) e
  few : Es.length ≤ e
  pos : 0 < e
  small : e ≤ L.length + 100000
  hits : (hitsOf T L Es).length ≤ Es.length * L.length
  own6 : OwnPrs wr w.heap.size v6 (hitsOf T L Es)
  own7 : OwnInts wr w.heap.size v7 (natI Es)
  bel : Below w.heap.size w wr
theorem CwRel.next {w wr w' : World} {T : List Txt} {L : Txt} {e : Nat} {Es : List Nat} {v6 v7 v6' v7' : Value} (hT : ∀ t ∈ T, t ≠ []) (hne : T ≠ []) (h : CwRel w wr T L e Es v6 v7) (hlt0 : least T ≤ 100000) (he : e ≤ L.length)
    (h6 : OwnPrs w' w.heap.size v6' (hitsOf T L (Es ++ [e]))) (h7 : OwnInts w' w.heap.size v7' (natI (Es ++ [e]))) (hb : Below w.heap.size w w') : CwRel w w' T L (e + farAt T L e) (Es ++ [e]) v6' v7' := by
  obtain ⟨f1, f2⟩ := farAt_spec hT hne L e
  refine ⟨?_, ?_, by omega, by omega, ?_, h6, h7, hb⟩
  · rw [h.split, endsFrom_step hT hne L he, List.append_assoc]; rfl
  · rw [List.length_append, List.length_singleton]; have := h.few; omega
  · rw [hitsOf_snoc, List.length_append, List.length_append, List.length_singleton, Nat.add_mul]
    have h1 := wins_len T L e (fit (paths T) L e).length
    have h2 := fit_len (paths_tree T) he
    have := h.hits
    omega
theorem prCells_app (xs ys : List Pr) : prCells (xs ++ ys) = prCells xs ++ prCells ys := by unfold prCells; rw [List.flatMap_append]
theorem RetPN.open_ {w w' : World} {xs : List Pr} {n : Int} {e : Ending} (h : RetPN w xs n e w') : ∃ v, e = .returned (.tuple #[v, .int .i64 n]) ∧ OwnPrs w' w.heap.size v xs ∧ Below w.heap.size w w' := h
set_option maxRecDepth 100000 in
set_option maxHeartbeats 3200000 in
theorem cwalk_calls (w : World) (g : Nat) (T P : List Txt) (hP : As (paths T = P)) (hT : ∀ t ∈ T, t ≠ []) (hne : T ≠ []) (h : WalkAt w g T) (hlt0 : least T ≤ 100000) (hpl : ∀ p ∈ P, p.length ≤ 100000) (hl : P.length ≤ 1000000)
    (A : Option Addr) (c : Nat) (L : Txt) (hx : Byt w A L) (hL : L.length ≤ 900) :
    Calls Try.prog 25 #[.pointer (some ⟨g, 0, none⟩), .slice A L.length c] w (RetPI w (hitsOf T L (ends T L)) (natI (ends T L))) := by
  have hTr : As (Tree P) := ⟨by rw [← hP.out]; exact paths_tree T⟩
  have HW := As.mk h
  have HX := As.mk hx
  obtain ⟨gb, gs, g1, g2, g3⟩ := h
  have c0 : w.cell? ⟨g, 0, none⟩ = some (.pointer (some ⟨gb, 0, none⟩)) := cell_of_blk g1 0
  have cl := As.mk (bleast_calls w gb T g2)
  have hl0 := (least_spec hT hne).1
  have hE0 : ends T L = endsFrom T L (L.length + 1) (least T) := by unfold ends; rw [if_neg hne]
  have hR0 : As (CwRel w w T L (least T) [] (.slice none 0 0) (.slice none 0 0)) := ⟨⟨by rw [hE0]; rfl, Nat.zero_le _, hl0, by omega, Nat.zero_le _, World.ownsRow_nil _ _ _ _, World.ownsRow_nil _ _ _ _, Below.refl _ _⟩⟩
  obtain ⟨n, hn⟩ : ∃ n, L.length = n := ⟨_, rfl⟩
  obtain ⟨M, hM⟩ : ∃ n, least T = n := ⟨_, rfl⟩
  rw [hM] at cl hl0 hlt0 hR0
  rw [hn] at hL ⊢
  have hM0 : ((M : Int) == 0) = false := by simp; omega
  replace hn := As.mk hn
  replace hM := As.mk hM
  clear g1 g2 g3 hx hE0
  go_enter Try.func25, Try.ntmps25
  go_wp2
  refine wp_scope_jumps 0 (fun a' w' => ∃ (e : Nat) (Es : List Nat) (v6 v7 : Value) (u9 u10 u11 u12 u13 u14 u15 u16 u17 u18 u19 u20 u21 u22 u23 u24 u25 u26 u27 u28 u29 u30 u31 u32 u33 u34 u35 u36 u37 u38 u39 u40 u41 u42 u43 u44 u45 u46 u47 u48 : Value), a' = { tmps := #[.pointer (some ⟨g, 0, none⟩), .slice A n c, undef, undef, .slice none 0 0, .slice none 0 0, v6, v7, .int .i64 (e : Int), u9, u10, u11, u12, u13, u14, u15, u16, u17, u18, u19, u20, u21, u22, u23, u24, u25, u26, u27, u28, u29, u30, u31, u32, u33, u34, u35, u36, u37, u38, u39, u40, u41, u42, u43, u44, u45, u46, u47, u48], defers := [] } ∧ As (CwRel w w' T L e Es v6 v7)) (fun a' _ => n + 1 - (intOf (a'.tmps.getD 8 undef)).toNat) rfl ?_ ?_
  · go_wp2_with (go_at_call 51; refine Calls.mono cl.out ?_; rintro e w' ⟨rfl, rfl⟩)
    go_step3
    have hR := hR0
    have hpos := hR.out.pos
    have hsm := hR.out.small
    by_cases hel : M ≤ n
    · have cwin := As.mk (window_calls w g T P hP hT hne (HW.out.below hR.out.bel) (by rw [hM.out]; exact hlt0) hpl hl A c L (Row.below HX.out hR.out.bel) (by have := hn.out; omega) M hpos (by rw [hn.out]; exact hel))
      rw [hn.out] at cwin
      obtain ⟨f1, f2⟩ := farAt_spec hT hne L M
      have hmul : [].length * L.length ≤ (n + 100000) * 900 := Nat.mul_le_mul (by have := hR.out.few; have := hn.out; omega) (by have := hn.out; omega)
      have hits := hR.out.hits
      have hwl := wins_len T L M (fit P L M).length
      have hfl := fit_len hTr.out (L := L) (e := M) (by rw [hn.out]; exact hel)
      have hH := hitsOf_snoc T L [] M
      rw [hP.out] at hH
      obtain ⟨xs, hxs⟩ : ∃ xs, hitsOf T L [] = xs := ⟨_, rfl⟩
      obtain ⟨ys, hys⟩ : ∃ xs, wins T L M (fit P L M).length = xs := ⟨_, rfl⟩
      obtain ⟨far, hfar⟩ : ∃ f, farAt T L M = f := ⟨_, rfl⟩
      rw [hxs, hys] at hH
      rw [hxs] at hits
      rw [hys] at hwl cwin
      rw [hfar] at cwin f1 f2
      have ho6 := hR.out.own6
      have ho7 := hR.out.own7
      rw [hxs] at ho6
      unfold OwnPrs at ho6
      unfold OwnInts at ho7
      rw [natI_length] at ho7
      obtain ⟨xl, hxl⟩ : ∃ k, xs.length = k := ⟨_, rfl⟩
      obtain ⟨el, hel2⟩ : ∃ k, [].length = k := ⟨_, rfl⟩
      obtain ⟨yl, hyl⟩ : ∃ k, ys.length = k := ⟨_, rfl⟩
      rw [hxl] at ho6 hits
      rw [hel2] at ho7 hits hmul
      rw [hyl] at hwl
      obtain ⟨A6, c6, e6, hc6⟩ := own_slice ho6
      obtain ⟨A7, c7, e7, hc7⟩ := own_slice ho7
      have hbel := As.mk hR.out.bel
      have hfew := hR.out.few
      rw [hel2] at hfew
      have ho6' := As.mk ho6
      have ho7' := As.mk ho7
      replace hR := As.mk hR.out
      replace hH := As.mk hH
      replace hxl := As.mk hxl
      replace hyl := As.mk hyl
      replace hel2 := As.mk hel2
      replace hfar := As.mk hfar
      have hyn : ((prCells ys).length = yl * 2) := by rw [prCells_length, hyl.out]
      replace hyn := As.mk hyn
      have hfar2 := As.mk f1
      rw [hM.out] at f2
      have h100 : (n + 100000) * 900 ≤ 100000000 := by omega
      have hyle : yl ≤ 1000 := by omega
      have hxle : xl ≤ 100000000 := by omega
      have hele : el ≤ 1000000 := by omega
      clear hxs hys ho6 ho7 hfl hmul hits hwl
      cases e6
      cases e7
      go_wp2_with (first
        | (go_at_call 53; with_reducible refine Calls.mono cwin.out ?_; intro e w1 h1; obtain ⟨v, he, hov, hb1⟩ := h1.open_; subst he; obtain ⟨Av, cv, rfl, hcv, hrow⟩ := OwnPrs.row hov; rw [hyl.out] at hcv ⊢; have hs1 := hb1.size; have hbw := hbel.out.size; have ho61 := own_below ho6'.out hb1)
        | (at_builtin
           refine wpList_appsK _ rfl (.tmp 37) (.tmp 38) 30 rfl w.heap.size 41 _ 2 16 Try.underlying30 info_pr rfl (by decide) _ _ (prCells xs) rfl ho61 Av yl cv (prCells ys) hrow hyn.out prs_one rfl (by omega) (by decide) (by omega) ?_
           intro v6' w2 ho62 hb2 hk2
           have ho72 := own_keep (own_below ho7'.out hb1) hk2 (fun b c' _ hb' hb'' hS => own_not_type ho61 hb' (by decide) hS)
           have hs2 := hb2.size)
        | (at_builtin
           refine wpList_app1 _ rfl (.tmp 40) (.tmp 42) 37 rfl w.heap.size 3 _ 1 8 Try.underlying37 info_int rfl (by decide) _ _ _ rfl ho72 [.int .i64 (M : Int)] rfl (by simp [Value.oneCell']) _ rfl (by simp) (by omega) (by decide) (by omega) ?_
           intro v7' w3 ho73 hk3 hat3 hb3
           have ho63 := own_keep ho62 hk3 (fun b c' _ hb' hb'' hS => own_not_type ho72 hb' (by decide) hS)))
      go_step3
      have hb3' : Below w.heap.size w w3 := ((hbel.out.trans (hb1.mono (by omega))).trans hb2).trans hb3
      have hnx := CwRel.next (v6' := v6') (v7' := v7') hT hne hR.out (by rw [hM.out]; exact hlt0) (by rw [hn.out]; exact hel) (by
        rw [hH.out]; unfold OwnPrs; rw [List.length_append, hxl.out, hyl.out, prCells_app]; exact ho63) (by
        rw [natI_snoc]; refine ownInts_snoc ?_; rw [natI_length, hel2.out]; exact ho73) hb3'
      rw [hfar.out] at hnx
      exact ⟨rfl, _, _, _, _, _, _, _, _, _, _, _, _, _, _, _, _, _, _, _, _, _, _, _, _, _, _, _, _, _, _, _, _, _, _, _, _, _, _, _, _, _, _, _, _, by rw [Int.natCast_add], ⟨hnx⟩⟩
    · have hst := endsFrom_stop hT hne L (e := M) (by rw [hn.out]; omega)
      have hsp := hR.out.split
      rw [hst, List.append_nil] at hsp
      replace hR := As.mk hR.out
      replace hsp := As.mk hsp
      clear hst
      go_wp2
      simp only [Exit.jump]
      go_ret2
      rw [hsp.out]
      exact ⟨_, _, rfl, hR.out.own6, hR.out.own7, hR.out.bel⟩
  · rintro a' wr ⟨E0, Es, v6, v7, u9, u10, u11, u12, u13, u14, u15, u16, u17, u18, u19, u20, u21, u22, u23, u24, u25, u26, u27, u28, u29, u30, u31, u32, u33, u34, u35, u36, u37, u38, u39, u40, u41, u42, u43, u44, u45, u46, u47, u48, rfl, hR⟩
    have hpos := hR.out.pos
    have hsm := hR.out.small
    by_cases hel : E0 ≤ n
    · have cwin := As.mk (window_calls wr g T P hP hT hne (HW.out.below hR.out.bel) (by rw [hM.out]; exact hlt0) hpl hl A c L (Row.below HX.out hR.out.bel) (by have := hn.out; omega) E0 hpos (by rw [hn.out]; exact hel))
      rw [hn.out] at cwin
      obtain ⟨f1, f2⟩ := farAt_spec hT hne L E0
      have hmul : Es.length * L.length ≤ (n + 100000) * 900 := Nat.mul_le_mul (by have := hR.out.few; have := hn.out; omega) (by have := hn.out; omega)
      have hits := hR.out.hits
      have hwl := wins_len T L E0 (fit P L E0).length
      have hfl := fit_len hTr.out (L := L) (e := E0) (by rw [hn.out]; exact hel)
      have hH := hitsOf_snoc T L Es E0
      rw [hP.out] at hH
      obtain ⟨xs, hxs⟩ : ∃ xs, hitsOf T L Es = xs := ⟨_, rfl⟩
      obtain ⟨ys, hys⟩ : ∃ xs, wins T L E0 (fit P L E0).length = xs := ⟨_, rfl⟩
      obtain ⟨far, hfar⟩ : ∃ f, farAt T L E0 = f := ⟨_, rfl⟩
      rw [hxs, hys] at hH
      rw [hxs] at hits
      rw [hys] at hwl cwin
      rw [hfar] at cwin f1 f2
      have ho6 := hR.out.own6
      have ho7 := hR.out.own7
      rw [hxs] at ho6
      unfold OwnPrs at ho6
      unfold OwnInts at ho7
      rw [natI_length] at ho7
      obtain ⟨xl, hxl⟩ : ∃ k, xs.length = k := ⟨_, rfl⟩
      obtain ⟨el, hel2⟩ : ∃ k, Es.length = k := ⟨_, rfl⟩
      obtain ⟨yl, hyl⟩ : ∃ k, ys.length = k := ⟨_, rfl⟩
      rw [hxl] at ho6 hits
      rw [hel2] at ho7 hits hmul
      rw [hyl] at hwl
      obtain ⟨A6, c6, e6, hc6⟩ := own_slice ho6
      obtain ⟨A7, c7, e7, hc7⟩ := own_slice ho7
      have hbel := As.mk hR.out.bel
      have hfew := hR.out.few
      rw [hel2] at hfew
      have ho6' := As.mk ho6
      have ho7' := As.mk ho7
      replace hR := As.mk hR.out
      replace hH := As.mk hH
      replace hxl := As.mk hxl
      replace hyl := As.mk hyl
      replace hel2 := As.mk hel2
      replace hfar := As.mk hfar
      have hyn : ((prCells ys).length = yl * 2) := by rw [prCells_length, hyl.out]
      replace hyn := As.mk hyn
      have hfar2 := As.mk f1
      rw [hM.out] at f2
      have h100 : (n + 100000) * 900 ≤ 100000000 := by omega
      have hyle : yl ≤ 1000 := by omega
      have hxle : xl ≤ 100000000 := by omega
      have hele : el ≤ 1000000 := by omega
      clear hxs hys ho6 ho7 hfl hmul hits hwl
      cases e6
      cases e7
      go_wp2_with (first
        | (go_at_call 53; with_reducible refine Calls.mono cwin.out ?_; intro e w1 h1; obtain ⟨v, he, hov, hb1⟩ := h1.open_; subst he; obtain ⟨Av, cv, rfl, hcv, hrow⟩ := OwnPrs.row hov; rw [hyl.out] at hcv ⊢; have hs1 := hb1.size; have hbw := hbel.out.size; have ho61 := own_below ho6'.out hb1)
        | (at_builtin
           refine wpList_appsK _ rfl (.tmp 37) (.tmp 38) 30 rfl w.heap.size 41 _ 2 16 Try.underlying30 info_pr rfl (by decide) _ _ (prCells xs) rfl ho61 Av yl cv (prCells ys) hrow hyn.out prs_one rfl (by omega) (by decide) (by omega) ?_
           intro v6' w2 ho62 hb2 hk2
           have ho72 := own_keep (own_below ho7'.out hb1) hk2 (fun b c' _ hb' hb'' hS => own_not_type ho61 hb' (by decide) hS)
           have hs2 := hb2.size)
        | (at_builtin
           refine wpList_app1 _ rfl (.tmp 40) (.tmp 42) 37 rfl w.heap.size 3 _ 1 8 Try.underlying37 info_int rfl (by decide) _ _ _ rfl ho72 [.int .i64 (E0 : Int)] rfl (by simp [Value.oneCell']) _ rfl (by simp) (by omega) (by decide) (by omega) ?_
           intro v7' w3 ho73 hk3 hat3 hb3
           have ho63 := own_keep ho62 hk3 (fun b c' _ hb' hb'' hS => own_not_type ho72 hb' (by decide) hS)))
      go_step3
      have hb3' : Below w.heap.size w w3 := ((hbel.out.trans (hb1.mono (by omega))).trans hb2).trans hb3
      have hnx := CwRel.next (v6' := v6') (v7' := v7') hT hne hR.out (by rw [hM.out]; exact hlt0) (by rw [hn.out]; exact hel) (by
        rw [hH.out]; unfold OwnPrs; rw [List.length_append, hxl.out, hyl.out, prCells_app]; exact ho63) (by
        rw [natI_snoc]; refine ownInts_snoc ?_; rw [natI_length, hel2.out]; exact ho73) hb3'
      rw [hfar.out] at hnx
      exact ⟨rfl, ⟨_, _, _, _, _, _, _, _, _, _, _, _, _, _, _, _, _, _, _, _, _, _, _, _, _, _, _, _, _, _, _, _, _, _, _, _, _, _, _, _, _, _, _, _, by rw [Int.natCast_add], ⟨hnx⟩⟩, by have := hfar2.out; show n + 1 - ((E0 : Int) + (far : Int)).toNat < n + 1 - ((E0 : Int)).toNat; omega⟩
    · have hst := endsFrom_stop hT hne L (e := E0) (by rw [hn.out]; omega)
      have hsp := hR.out.split
      rw [hst, List.append_nil] at hsp
      replace hR := As.mk hR.out
      replace hsp := As.mk hsp
      clear hst
      go_wp2
      simp only [Exit.jump]
      go_ret2
      rw [hsp.out]
      exact ⟨_, _, rfl, hR.out.own6, hR.out.own7, hR.out.bel⟩
end Go.Proofs.Ytbklkemfcdkihaa
end
