/- Words for the walk: max and min of two numbers. -/
import Derived.Test.YtcapmihfhioafaaDoorBase
set_option linter.unusedVariables false
namespace Go.Proofs.YtcapmihfhioafaaDoor
open Go.RowKit
theorem Keeps.drew {S : Nat → Prop} {w w1 : World} (h : Keeps S w w1) : Keeps S w w1.drew := ⟨h.os, h.tape, h.output, h.size, h.block⟩
theorem Keeps.drewN {S : Nat → Prop} {w w1 : World} (h : Keeps S w w1) (n : Nat) : Keeps S w (w1.drewN n) := ⟨h.os, h.tape, h.output, h.size, h.block⟩
theorem Keeps.alloc {S : Nat → Prop} {w w1 : World} (h : Keeps S w w1) (o : Obj) : Keeps S w (w1.alloc o) := h.trans (Keeps.of_below ((Below.refl _ _).alloc (Nat.le_refl _) o) S)
theorem max2_i (k k' : IntKind) (x y : Int) : Builtin.max2 (.int k x) (.int k' y) = pure (.int k (max x y)) := by
  have : (if x < y then y else x) = max x y := by omega
  simp only [Builtin.max2, gt_iff_lt, this]
theorem min2_i (k k' : IntKind) (x y : Int) : Builtin.min2 (.int k x) (.int k' y) = pure (.int k (min x y)) := by
  have : (if y < x then y else x) = min x y := by omega
  simp only [Builtin.min2, this]
theorem max_two' (ats : Array TypeId) (ty : TypeId) (a b : Value) : Builtin.max_ ats ty #[a, b] = (Builtin.max2 a b >>= fun s => pure s) := by simp only [Builtin.max_, List.foldlM_cons, List.foldlM_nil]
theorem min_two' (ats : Array TypeId) (ty : TypeId) (a b : Value) : Builtin.min_ ats ty #[a, b] = (Builtin.min2 a b >>= fun s => pure s) := by simp only [Builtin.min_, List.foldlM_cons, List.foldlM_nil]
theorem belowNext {w a b : World} (h : Below w.heap.size w a) (k : Below a.heap.size a b) : Below w.heap.size w b := h.trans (k.mono h.size)
theorem blkBelow {w w' : World} {b : Nat} {o : Obj} (hb : Below w.heap.size w w') (h : w.heap[b]? = some o) : w'.heap[b]? = some o := (hb.block b (block_lt h)).trans h
theorem heapNewAt {w : World} {o : Obj} {b : Nat} (h : b = w.heap.size) : (w.alloc o).heap[b]? = some o := by rw [h]; exact heap_alloc_new _ _
theorem blkDrew {w : World} {b : Nat} {o : Obj} (h : w.heap[b]? = some o) : w.drew.heap[b]? = some o := h
theorem rowOfBlk {w : World} {b t : Nat} {cs : List Value} {fr : Nat × Nat} (h : w.heap[b]? = some (.cells cs.toArray t fr)) : Row w (some ⟨b, 0, none⟩) cs :=
  .inr ⟨_, rfl, block_lt h, fun j u hu => by
    have : (⟨b, 0, none⟩ : Addr).add j = ⟨b, j, none⟩ := by unfold Addr.add; split <;> simp_all
    rw [this, cell_of_blk h]
    simpa using hu⟩
theorem keepsSt (w : World) (p : Addr) (u : Value) : Keeps (fun k => k = p.block) w (w.setCell p u) := ⟨rfl, rfl, rfl, by simp [World.setCell], fun i hi hn => Below.heap_setCell w p u i hn⟩
theorem own_addr {w : World} {base e size n c : Nat} {A : Option Addr} {cs : List Value} (h : w.ownsRow base e size (.slice A n c) n cs) : A = none ∨ ∃ g, A = some ⟨g, 0, none⟩ ∧ base ≤ g := by
  rcases h.2 with ⟨hv, _⟩ | ⟨g, cap, cur, hv, hg, _⟩
  · injection hv with h _ _; exact .inl h
  · injection hv with h _ _; exact .inr ⟨g, h, hg⟩
theorem blk_keep {S : Nat → Prop} {w w' : World} {b : Nat} {o : Obj} (h : w.heap[b]? = some o) (hk : Keeps S w w') (hS : ¬ S b) : w'.heap[b]? = some o := (hk.block b (block_lt h) hS).trans h
end Go.Proofs.YtcapmihfhioafaaDoor
