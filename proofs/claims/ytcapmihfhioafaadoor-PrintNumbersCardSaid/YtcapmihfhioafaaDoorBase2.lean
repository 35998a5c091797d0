/- Words for the walk: max and min of two numbers. -/
import Derived.Test.YtcapmihfhioafaaDoorBase
set_option linter.unusedVariables false
namespace Go.Proofs.YtcapmihfhioafaaDoor
open Go.RowKit
theorem Keeps.drew {S : Nat → Prop} {w w1 : World} (h : Keeps S w w1) : Keeps S w w1.drew := ⟨h.os, h.tape, h.output, h.size, h.block⟩
theorem Keeps.drewN {S : Nat → Prop} {w w1 : World} (h : Keeps S w w1) (n : Nat) : Keeps S w (w1.drewN n) := ⟨h.os, h.tape, h.output, h.size, h.block⟩
theorem Keeps.alloc {S : Nat → Prop} {w w1 : World} (h : Keeps S w w1) (o : Obj) : Keeps S w (w1.alloc o) := h.trans (Keeps.of_below ((Below.refl _ _).alloc (Nat.le_refl _) o) S)
theorem max2_i (k k' : IntKind) (x y : Int) : Builtin.max2 (.int k x) (.int k' y) = pure (.int k (max x y)) := by
  have : (if x < y then y else x) = max x y := by omega
  simp only [Builtin.max2, gt_iff_lt, this]
theorem min2_i (k k' : IntKind) (x y : Int) : Builtin.min2 (.int k x) (.int k' y) = pure (.int k (min x y)) := by
  have : (if y < x then y else x) = min x y := by omega
  simp only [Builtin.min2, this]
theorem max_two' (ats : Array TypeId) (ty : TypeId) (a b : Value) : Builtin.max_ ats ty #[a, b] = (Builtin.max2 a b >>= fun s => pure s) := by simp only [Builtin.max_, List.foldlM_cons, List.foldlM_nil]
theorem min_two' (ats : Array TypeId) (ty : TypeId) (a b : Value) : Builtin.min_ ats ty #[a, b] = (Builtin.min2 a b >>= fun s => pure s) := by simp only [Builtin.min_, List.foldlM_cons, List.foldlM_nil]
end Go.Proofs.YtcapmihfhioafaaDoor
