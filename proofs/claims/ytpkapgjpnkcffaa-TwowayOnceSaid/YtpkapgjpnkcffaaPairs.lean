/- Words for lists of pairs, and the walk of the reference's 'Same'. -/
import Derived.Test.YtpkapgjpnkcffaaProg
import Derived.Test.YtpkapgjpnkcffaaBase2
import Derived.Deep.QuietTactic
import Derived.BigQuiet
import Derived.Deep.DeepCutAuto
import Derived.Laws.StructEq
import Derived.WalkMore
set_option linter.unusedVariables false
set_option linter.unusedSimpArgs false
namespace Go.Proofs.Ytpkapgjpnkcffaa
open Go.RowKit
abbrev Pr := Int × Int

theorem info_pr : (Try.prog.info? 35).map (fun i => (i.zero, i.size, i.bytes)) = some (some (.agg #[(.int .i64 0), (.int .i64 0)]), 2, 16) := by kernel_rfl
def prCells (xs : List Pr) : List Value := xs.flatMap fun p => [.int .i64 p.1, .int .i64 p.2]
theorem prCells_length (xs : List Pr) : (prCells xs).length = xs.length * 2 := by
  induction xs with
  | nil => rfl
  | cons x xs ih => exact (congrArg (· + 2) ih).trans (by show _ = (xs.length + 1) * 2; omega)
theorem prCells_snoc (xs : List Pr) (p : Pr) : prCells (xs ++ [p]) = prCells xs ++ [.int .i64 p.1, .int .i64 p.2] := by simp [prCells]
theorem prCells_at (xs : List Pr) (i : Nat) (h : i < xs.length) : (prCells xs)[i * 2]? = some (.int .i64 (xs.getD i (0, 0)).1) ∧ (prCells xs)[i * 2 + 1]? = some (.int .i64 (xs.getD i (0, 0)).2) := by
  induction xs generalizing i with
  | nil => simp at h
  | cons x xs ih =>
    cases i with
    | zero => simp [prCells]
    | succ i =>
      have := ih i (by simpa using h)
      have e1 : (i + 1) * 2 = i * 2 + 2 := by omega
      have e2 : prCells (x :: xs) = .int .i64 x.1 :: .int .i64 x.2 :: prCells xs := rfl
      rw [e1, e2]
      simpa using this
/-- A slice of pairs. -/
abbrev Prs (w : World) (A : Option Addr) (xs : List Pr) : Prop := Row w A (prCells xs)
abbrev OwnPrs (w : World) (base : Nat) (v : Value) (xs : List Pr) : Prop := w.ownsRow base 35 2 v xs.length (prCells xs)
theorem Prs.at_ {w : World} {A : Option Addr} {xs : List Pr} (h : Prs w A xs) {i : Nat} (hi : i < xs.length) : ∃ ad, A = some ad ∧
    w.cell? (ad.add (i * 2)) = some (.int .i64 (xs.getD i (0, 0)).1) ∧ w.cell? ⟨(ad.add (i * 2)).block, (ad.add (i * 2)).off + 1, none⟩ = some (.int .i64 (xs.getD i (0, 0)).2) := by
  obtain ⟨h1, h2⟩ := prCells_at xs i hi
  rcases h with h | ⟨ad, hA, _, hc⟩
  · rw [h] at h1; simp at h1
  · exact ⟨ad, hA, hc _ _ h1, by rw [← Addr.add_field _ _ _ (by omega)]; exact hc _ _ h2⟩

theorem eqPr (d : Nat) (w : World) (x0 y0 : Int) (x1 y1 : Int) :
    (Op.equalIn (d + 2) 35 (.agg #[.int .i64 x0, .int .i64 x1]) (.agg #[.int .i64 y0, .int .i64 y1])).run Try.prog w = .ok (x0 == y0 && (x1 == y1)) w := by
  have h := field_eq (P := Try.prog) (d := d + 1) (w := w) (xs := #[.int .i64 x0, .int .i64 x1]) (ys := #[.int .i64 y0, .int .i64 y1]) (f := ⟨"Start", 3, 0, false, "", "", 0⟩) (by decide) (by go_simp; rfl) (by go_simp; rfl) (by go_simp; rfl)
    (field_eq (f := ⟨"End", 3, 1, false, "", "", 8⟩) (by decide) (by go_simp; rfl) (by go_simp; rfl) (by go_simp; rfl) fields_none)
  rw [Bool.and_true] at h
  exact struct_eq Try.underlying35 (by kernel_rfl) h

attribute [local go_sem high] eqPr

set_option maxHeartbeats 400000 in
theorem same_calls (A B : Option Addr) (c d : Nat) (xs ys : List Pr) (w : World) (hx : Prs w A xs) (hy : Prs w B ys) (hl : xs.length ≤ 1000000000) (hk : ys.length ≤ 1000000000) :
    Calls Try.prog 15 #[.slice A xs.length c, .slice B ys.length d] w fun e w' => e = .returned (.bool (decide (xs = ys))) ∧ ∃ n, w' = w.drewN n := by
  have hu25 := Try.underlying35
  have HX := As.mk hx
  have HY := As.mk hy
  clear hx hy
  obtain ⟨r, hr⟩ : ∃ r, decide (xs = ys) = r := ⟨_, rfl⟩
  rw [hr]
  have HR := As.mk hr
  clear hr
  by_cases hn : xs.length = ys.length
  · have h1 : ((xs.length : Int) != (ys.length : Int)) = false := by simp [hn]
    have hf := As.mk hn
    clear hn
    go_enter Try.func15, Try.ntmps15
    go_wp2
    go_loopw [5] (fun v wr => ∃ (k : Nat) (n : Nat), k ≤ xs.length ∧ v = .int .i64 k ∧ As (xs.take k = ys.take k) ∧ wr = w.drewN n) (fun v _ => xs.length - (intOf v).toNat)
    case atStart => exact ⟨0, 0, Nat.zero_le _, rfl, ⟨rfl⟩, rfl⟩
    case round =>
      obtain ⟨k, n, hk, rfl, ht, rfl⟩ := hrel
      by_cases hlt : k < xs.length
      · obtain ⟨ad, rfl, a1, a2⟩ := Prs.at_ HX.out hlt
        have hlt2 : k < ys.length := by have := hf.out; omega
        obtain ⟨bd, rfl, b1, b2⟩ := Prs.at_ HY.out hlt2
        have hts := As.mk (show xs.take (k + 1) = xs.take k ++ [xs.getD k (0, 0)] by rw [List.take_succ_eq_append_getElem hlt]; simp [hlt])
        have hty := As.mk (show ys.take (k + 1) = ys.take k ++ [ys.getD k (0, 0)] by rw [List.take_succ_eq_append_getElem hlt2]; simp [hlt2])
        by_cases heq : xs.getD k (0, 0) = ys.getD k (0, 0)
        · have e1 : (!((xs.getD k (0, 0)).1 == (ys.getD k (0, 0)).1) || !((xs.getD k (0, 0)).2 == (ys.getD k (0, 0)).2)) = false := by rw [heq]; simp
          have he := As.mk heq
          clear heq
          generalize xs.getD k (0, 0) = p at *
          generalize ys.getD k (0, 0) = q at *
          go_wp2
          go_quiet (fail)
          go_wp2
          go_roundw
          case rel => exact ⟨k + 1, _, by omega, by go_num, ⟨by rw [hts.out, hty.out, ht.out, he.out]⟩, rfl⟩
          case measure => simp [intOf]; omega
        · have e1 : (!((xs.getD k (0, 0)).1 == (ys.getD k (0, 0)).1) || !((xs.getD k (0, 0)).2 == (ys.getD k (0, 0)).2)) = true := by
            have := heq
            rw [Prod.ext_iff] at this
            simp only [Bool.or_eq_true, Bool.not_eq_true', beq_eq_false_iff_ne]
            omega
          have hne : As (decide (xs = ys) = false) := ⟨by simp only [decide_eq_false_iff_not]; rintro rfl; exact heq rfl⟩
          clear heq hts hty ht
          generalize xs.getD k (0, 0) = p at *
          generalize ys.getD k (0, 0) = q at *
          go_wp2
          go_quiet (fail)
          go_wp2
          go_ret
          exact ⟨ret_bool (hne.out.symm.trans HR.out), _, World.drewN_drewN ..⟩
      · have hfin : As (decide (xs = ys) = true) := ⟨by
          have h1 := ht.out; have h2 := hf.out
          rw [List.take_of_length_le (by omega), List.take_of_length_le (by omega)] at h1
          simpa using h1⟩
        go_wp2
        go_ret
        exact ⟨ret_bool (hfin.out.symm.trans HR.out), _, rfl⟩
  · have h1 : ((xs.length : Int) != (ys.length : Int)) = true := by simp; omega
    have h2 : decide (xs = ys) = false := by simp; rintro rfl; exact hn rfl
    obtain rfl : r = false := by rw [← HR.out, h2]
    clear hn h2
    go_enter Try.func15, Try.ntmps15
    go_wp2
    go_ret
    exact ⟨rfl, 0, rfl⟩


theorem OwnPrs.row {w : World} {base : Nat} {v : Value} {xs : List Pr} (h : OwnPrs w base v xs) : ∃ A c, v = .slice A xs.length c ∧ xs.length ≤ c ∧ Prs w A xs := by
  obtain ⟨A, c, rfl, hc⟩ := own_slice h
  exact ⟨A, c, rfl, hc, Row.of_own h⟩
theorem ownPrs_snoc {w : World} {base : Nat} {v : Value} {xs : List Pr} {s e : Int} (h : w.ownsRow base 35 2 v (xs.length + 1) (prCells xs ++ [.int .i64 s, .int .i64 e])) : OwnPrs w base v (xs ++ [(s, e)]) := by
  unfold OwnPrs
  rw [List.length_append, prCells_snoc]
  exact h
/-- Pairs in new memory. -/
def RetPrs (w : World) (xs : List Pr) (e : Ending) (w' : World) : Prop := ∃ v, e = .returned v ∧ OwnPrs w' w.heap.size v xs ∧ Below w.heap.size w w'
theorem RetPrs.row {w w' : World} {xs : List Pr} {e : Ending} (h : RetPrs w xs e w') : ∃ A c, e = .returned (.slice A xs.length c) ∧ xs.length ≤ c ∧ Prs w' A xs ∧ Below w.heap.size w w' := by
  obtain ⟨v, rfl, ho, hb⟩ := h
  obtain ⟨A, c, rfl, hc, hr⟩ := OwnPrs.row ho
  exact ⟨A, c, rfl, hc, hr, hb⟩
end Go.Proofs.Ytpkapgjpnkcffaa
