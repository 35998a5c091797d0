/- Words for lists of pairs, and the walk of the reference's 'Same'. -/
import Derived.Test.YtcapmihfhioafaaDoorProg
import Derived.Test.YtcapmihfhioafaaDoorBase2
import Derived.Deep.QuietTactic
import Derived.BigQuiet
import Derived.Deep.DeepCutAuto
import Derived.Laws.StructEq
import Derived.WalkMore
set_option linter.unusedVariables false
set_option linter.unusedSimpArgs false
namespace Go.Proofs.YtcapmihfhioafaaDoor
open Go.RowKit
abbrev Pr := Int × Int

theorem info_pr : (Tryd.prog.info? 36).map (fun i => (i.zero, i.size, i.bytes)) = some (some (.agg #[(.int .i64 0), (.int .i64 0)]), 2, 16) := by kernel_rfl
def prCells (xs : List Pr) : List Value := xs.flatMap fun p => [.int .i64 p.1, .int .i64 p.2]
theorem prCells_length (xs : List Pr) : (prCells xs).length = xs.length * 2 := by
  induction xs with
  | nil => rfl
  | cons x xs ih => exact (congrArg (· + 2) ih).trans (by show _ = (xs.length + 1) * 2; omega)
theorem prCells_snoc (xs : List Pr) (p : Pr) : prCells (xs ++ [p]) = prCells xs ++ [.int .i64 p.1, .int .i64 p.2] := by simp [prCells]
theorem prCells_at (xs : List Pr) (i : Nat) (h : i < xs.length) : (prCells xs)[i * 2]? = some (.int .i64 (xs.getD i (0, 0)).1) ∧ (prCells xs)[i * 2 + 1]? = some (.int .i64 (xs.getD i (0, 0)).2) := by
  induction xs generalizing i with
  | nil => simp at h
  | cons x xs ih =>
    cases i with
    | zero => simp [prCells]
    | succ i =>
      have := ih i (by simpa using h)
      have e1 : (i + 1) * 2 = i * 2 + 2 := by omega
      have e2 : prCells (x :: xs) = .int .i64 x.1 :: .int .i64 x.2 :: prCells xs := rfl
      rw [e1, e2]
      simpa using this
/-- A slice of pairs. -/
abbrev Prs (w : World) (A : Option Addr) (xs : List Pr) : Prop := Row w A (prCells xs)
abbrev OwnPrs (w : World) (base : Nat) (v : Value) (xs : List Pr) : Prop := w.ownsRow base 36 2 v xs.length (prCells xs)
theorem Prs.at_ {w : World} {A : Option Addr} {xs : List Pr} (h : Prs w A xs) {i : Nat} (hi : i < xs.length) : ∃ ad, A = some ad ∧
    w.cell? (ad.add (i * 2)) = some (.int .i64 (xs.getD i (0, 0)).1) ∧ w.cell? ⟨(ad.add (i * 2)).block, (ad.add (i * 2)).off + 1, none⟩ = some (.int .i64 (xs.getD i (0, 0)).2) := by
  obtain ⟨h1, h2⟩ := prCells_at xs i hi
  rcases h with h | ⟨ad, hA, _, hc⟩
  · rw [h] at h1; simp at h1
  · exact ⟨ad, hA, hc _ _ h1, by rw [← Addr.add_field _ _ _ (by omega)]; exact hc _ _ h2⟩

theorem eqPr (d : Nat) (w : World) (x0 y0 : Int) (x1 y1 : Int) :
    (Op.equalIn (d + 2) 36 (.agg #[.int .i64 x0, .int .i64 x1]) (.agg #[.int .i64 y0, .int .i64 y1])).run Tryd.prog w = .ok (x0 == y0 && (x1 == y1)) w := by
  have h := field_eq (P := Tryd.prog) (d := d + 1) (w := w) (xs := #[.int .i64 x0, .int .i64 x1]) (ys := #[.int .i64 y0, .int .i64 y1]) (f := ⟨"Start", 3, 0, false, "", "", 0⟩) (by decide) (by go_simp; rfl) (by go_simp; rfl) (by go_simp; rfl)
    (field_eq (f := ⟨"End", 3, 1, false, "", "", 8⟩) (by decide) (by go_simp; rfl) (by go_simp; rfl) (by go_simp; rfl) fields_none)
  rw [Bool.and_true] at h
  exact struct_eq Tryd.underlying36 (by kernel_rfl) h

attribute [local go_sem high] eqPr



theorem OwnPrs.row {w : World} {base : Nat} {v : Value} {xs : List Pr} (h : OwnPrs w base v xs) : ∃ A c, v = .slice A xs.length c ∧ xs.length ≤ c ∧ Prs w A xs := by
  obtain ⟨A, c, rfl, hc⟩ := own_slice h
  exact ⟨A, c, rfl, hc, Row.of_own h⟩
theorem ownPrs_snoc {w : World} {base : Nat} {v : Value} {xs : List Pr} {s e : Int} (h : w.ownsRow base 36 2 v (xs.length + 1) (prCells xs ++ [.int .i64 s, .int .i64 e])) : OwnPrs w base v (xs ++ [(s, e)]) := by
  unfold OwnPrs
  rw [List.length_append, prCells_snoc]
  exact h
/-- Pairs in new memory. -/
def RetPrs (w : World) (xs : List Pr) (e : Ending) (w' : World) : Prop := ∃ v, e = .returned v ∧ OwnPrs w' w.heap.size v xs ∧ Below w.heap.size w w'
theorem RetPrs.row {w w' : World} {xs : List Pr} {e : Ending} (h : RetPrs w xs e w') : ∃ A c, e = .returned (.slice A xs.length c) ∧ xs.length ≤ c ∧ Prs w' A xs ∧ Below w.heap.size w w' := by
  obtain ⟨v, rfl, ho, hb⟩ := h
  obtain ⟨A, c, rfl, hc, hr⟩ := OwnPrs.row ho
  exact ⟨A, c, rfl, hc, hr, hb⟩
end Go.Proofs.YtcapmihfhioafaaDoor
