/- Joined texts: Base, Args, Base2, Maps, TriePure, TrieWalk, TrieWalk2, Bytes, TrieWalk3. -/
import Derived.WalkKit
import Derived.Deep.LoopGhost
import Derived.Deep.Draws
import Derived.Maps.AppendAt
import Derived.Laws.OwnMore
import Derived.Laws.StructEq
import Derived.Test.YtdiljmhikajjiaaGreatProg
import Derived.ProofKit
import Derived.Deep.Slices
import Derived.Deep.Fields
import Derived.ChangeSame
import Derived.Maps.OwnSet
import Derived.Maps.OwnOps
import Derived.Deep.QuietTactic
import Derived.BigQuiet
import Derived.Deep.DeepCutAuto
import Derived.StillTailTactics
import Derived.Deep.AppendLies
import Derived.Deep.RegionLaw
import Derived.WalkMore
import Derived.RegionTactic
import Derived.BigRegion
set_option linter.unusedVariables false
set_option linter.unusedSimpArgs false
section
namespace Go.Proofs.YtdiljmhikajjiaaGreat
open Go.RowKit
/-- A fact that the walk's simp doesn't look into. -/
structure As (p : Prop) : Prop where mk :: (out : p)
theorem Addr.block_add (a : Addr) (n : Nat) : (a.add n).block = a.block := by unfold Addr.add; split <;> rfl
theorem Addr.add_add' (a : Addr) (i j : Nat) : (a.add i).add j = a.add (i + j) := by
  unfold Addr.add
  by_cases hi : i = 0 <;> by_cases hj : j = 0 <;> simp [hi, hj, Nat.add_assoc]
theorem Addr.add_field (a : Addr) (i j : Nat) (hj : 0 < j) : a.add (i + j) = ⟨(a.add i).block, (a.add i).off + j, none⟩ := by
  rw [← Addr.add_add']
  show (if j = 0 then _ else _) = _
  rw [if_neg (by omega)]
/-- The cells cs stand at A. -/
def Row (w : World) (A : Option Addr) (cs : List Value) : Prop :=
  cs = [] ∨ ∃ ad, A = some ad ∧ ad.block < w.heap.size ∧ ∀ j u, cs[j]? = some u → w.cell? (ad.add j) = some u
/-- What was there stays, but for the blocks S. -/
structure Keeps (S : Nat → Prop) (w w' : World) : Prop where
  os : w'.os = w.os
  tape : w'.tape = w.tape
  output : w'.output = w.output
  size : w.heap.size ≤ w'.heap.size
  block : ∀ k, k < w.heap.size → ¬ S k → w'.heap[k]? = w.heap[k]?
section
variable {S : Nat → Prop} {w w' w1 w2 : World} {e : TypeId} {A : Option Addr} {cs : List Value}
theorem Keeps.refl (S : Nat → Prop) (w : World) : Keeps S w w := ⟨rfl, rfl, rfl, Nat.le_refl _, fun _ _ _ => rfl⟩
theorem Keeps.trans (h : Keeps S w w1) (k : Keeps S w1 w2) : Keeps S w w2 :=
  ⟨k.os.trans h.os, k.tape.trans h.tape, k.output.trans h.output, Nat.le_trans h.size k.size, fun i hi hn => (k.block i (Nat.lt_of_lt_of_le hi h.size) hn).trans (h.block i hi hn)⟩
theorem Keeps.mono {T : Nat → Prop} (h : Keeps S w w1) (hs : ∀ k, k < w.heap.size → S k → T k) : Keeps T w w1 :=
  ⟨h.os, h.tape, h.output, h.size, fun i hi hn => h.block i hi (fun hS => hn (hs i hi hS))⟩
theorem Keeps.of_below (h : Below w.heap.size w w1) (S : Nat → Prop) : Keeps S w w1 := ⟨h.os, h.tape, h.output, h.size, fun i hi _ => h.block i hi⟩
theorem Keeps.of_grown {row : Option Nat} (h : w.grownBy w1 row) : Keeps (fun k => some k = row) w w1 := ⟨h.os, h.tape, h.output, h.size, fun i hi hn => h.block i hi hn⟩
theorem Keeps.below {B : Nat} (h : Keeps S w w1) (hs : ∀ k, k < B → ¬ S k) (hB : B ≤ w.heap.size) : Below B w w1 :=
  ⟨h.os, h.tape, h.output, h.size, fun i hi => h.block i (by omega) (hs i hi)⟩
theorem Keeps.cell (h : Keeps S w w1) {p : Addr} (hp : p.block < w.heap.size) (hS : ¬ S p.block) : w1.cell? p = w.cell? p := World.cell?_of_block (w := w) (h.block p.block hp hS)
theorem block_lt {b : Nat} {o : Obj} (h : w.heap[b]? = some o) : b < w.heap.size := by
  rcases Nat.lt_or_ge b w.heap.size with hlt | hge
  · exact hlt
  · rw [Array.getElem?_eq_none hge] at h; cases h
theorem blk_old {b : Nat} {o o' : Obj} (h : w.heap[b]? = some o) : (w.alloc o').heap[b]? = some o := (Below.heap_alloc w o' b (block_lt h)).trans h
theorem blk_new1 (w : World) (o o' : Obj) : ((w.alloc o).alloc o').heap[w.heap.size + 1]? = some o' :=
  (congrArg (fun i : Nat => ((w.alloc o).alloc o').heap[i]?) (World.size_alloc w o).symm).trans (heap_alloc_new _ _)
theorem blk_far {b : Nat} {o : Obj} {p : Addr} (h : w.heap[b]? = some o) (hp : b ≠ p.block) (u : Value) : (w.setCell p u).heap[b]? = some o := (Below.heap_setCell w p u b hp).trans h
theorem blk_set {b t : Nat} {c : Array Value} (h : w.heap[b]? = some (.cells c t (0, 0))) (i : Nat) (u : Value) : (w.setCell ⟨b, i, none⟩ u).heap[b]? = some (.cells (c.setIfInBounds i u) t (0, 0)) := by
  simp [World.setCell, Array.getElem?_modify, h]
theorem cell_of_blk {b t : Nat} {c : Array Value} {fr : Nat × Nat} (h : w.heap[b]? = some (.cells c t fr)) (i : Nat) : w.cell? ⟨b, i, none⟩ = c[i]? := by
  simp [World.cell?, h]
theorem free_of_blk {b t : Nat} {c : Array Value} (h : w.heap[b]? = some (.cells c t (0, 0))) (i : Nat) : w.frozen? ⟨b, i, none⟩ = false := by
  simp [World.frozen?, h]
theorem ret_bool {a b : Bool} (h : a = b) : Ending.returned (.bool a) = .returned (.bool b) := by rw [h]
theorem ret_int {k : IntKind} {a b : Int} (h : a = b) : Ending.returned (.int k a) = .returned (.int k b) := by rw [h]
theorem below_drewN {B : Nat} (h : Below B w w1) (n : Nat) : Below B w (w1.drewN n) := ⟨h.os, h.tape, h.output, h.size, h.block⟩
theorem below_lift {B B' : Nat} {a b c : World} (h : Below B a b) (k : Below B' b c) (hB : B ≤ B') : Below B a c := h.trans (k.mono hB)
theorem Row.nil (w : World) (A : Option Addr) : Row w A [] := .inl rfl
theorem Row.keep (h : Row w A cs) (hk : Keeps S w w1) (hS : ∀ ad, A = some ad → ad.block < w.heap.size → ¬ S ad.block) : Row w1 A cs := by
  rcases h with h | ⟨ad, hA, hlt, hc⟩
  · exact .inl h
  · exact .inr ⟨ad, hA, Nat.lt_of_lt_of_le hlt hk.size, fun j u hu => (hk.cell (by rw [Addr.block_add]; exact hlt) (by rw [Addr.block_add]; exact hS _ hA hlt)).trans (hc j u hu)⟩
theorem Row.below (h : Row w A cs) (hb : Below w.heap.size w w1) : Row w1 A cs := h.keep (Keeps.of_below hb (fun _ => False)) (fun _ _ _ h => h)
theorem Row.drewN (h : Row w A cs) (n : Nat) : Row (w.drewN n) A cs := h
theorem Row.drew (h : Row w A cs) : Row w.drew A cs := h
theorem Row.alloc (h : Row w A cs) (o : Obj) : Row (w.alloc o) A cs := h.below ((Below.refl _ _).alloc (Nat.le_refl _) o)
theorem Row.at_ (h : Row w A cs) {j : Nat} (hj : j < cs.length) : ∃ ad, A = some ad ∧ w.cell? (ad.add j) = some cs[j] := by
  rcases h with rfl | ⟨ad, hA, _, hc⟩
  · simp at hj
  · exact ⟨ad, hA, hc j _ (List.getElem?_eq_getElem hj)⟩
theorem Row.new (w : World) (e : TypeId) (cs : List Value) : Row (w.alloc (.cells cs.toArray e)) (some ⟨w.heap.size, 0, none⟩) cs := by
  have hn : (w.alloc (.cells cs.toArray e)).heap[w.heap.size]? = some (.cells cs.toArray e (0, 0)) := heap_alloc_new w _
  refine .inr ⟨_, rfl, block_lt hn, fun j u hu => ?_⟩
  have : (⟨w.heap.size, 0, none⟩ : Addr).add j = ⟨w.heap.size, j, none⟩ := by unfold Addr.add; split <;> simp_all
  rw [this]
  unfold World.cell?
  rw [hn]
  simp [hu]
theorem Row.of_own {base size n c : Nat} (h : w.ownsRow base e size (.slice A n c) n cs) : Row w A cs := by
  obtain ⟨hl, h⟩ := h
  rcases h with ⟨hv, hn⟩ | ⟨g, cap, cur, hv, hg, hh, hnc, hcm, hcs, ht⟩
  · left; subst hn; exact List.eq_nil_of_length_eq_zero (by simpa using hl)
  · right
    injection hv with hA _ _
    refine ⟨⟨g, 0, none⟩, hA, block_lt hh, fun j u hu => ?_⟩
    have hown : w.ownsRow base e size (.slice (some ⟨g, 0, none⟩) n cap) n cs := ⟨hl, .inr ⟨g, cap, cur, rfl, hg, hh, hnc, hcm, hcs, ht⟩⟩
    exact hown.cells (g := g) rfl j u hu
theorem own_slice {base size n : Nat} {v : Value} (h : w.ownsRow base e size v n cs) : ∃ A c, v = .slice A n c ∧ n ≤ c := by
  rcases h.2 with ⟨hv, hn⟩ | ⟨g, cap, cur, hv, hg, hh, hnc, _⟩
  · exact ⟨_, _, by rw [hv, hn], by omega⟩
  · exact ⟨_, _, hv, hnc⟩
theorem own_keep {base size n : Nat} {v : Value} (h : w.ownsRow base e size v n cs) (hk : Keeps S w w1) (hS : ∀ b c, base ≤ b → w.heap[b]? = some (.cells c e (0, 0)) → some b = v.ownBlock → ¬ S b) : w1.ownsRow base e size v n cs := by
  refine ⟨h.1, ?_⟩
  rcases h.2 with h2 | ⟨g, cap, cur, hv, hg, hh, r⟩
  · exact .inl h2
  · exact .inr ⟨g, cap, cur, hv, hg, (hk.block g (block_lt hh) (hS g cur hg hh (by rw [hv]; rfl))).trans hh, r⟩
theorem own_below {base size n : Nat} {v : Value} (h : w.ownsRow base e size v n cs) (hb : Below w.heap.size w w1) : w1.ownsRow base e size v n cs :=
  own_keep h (Keeps.of_below hb (fun _ => False)) (fun _ _ _ _ _ h => h)
theorem own_blk {base size n k : Nat} {v : Value} (h : w.ownsRow base e size v n cs) (hk : some k = v.ownBlock) : base ≤ k ∧ k < w.heap.size := by
  rcases h.2 with ⟨rfl, _⟩ | ⟨g, cap, cur, rfl, hg, hh, _⟩
  · simp [Value.ownBlock] at hk
  · simp [Value.ownBlock] at hk; subst hk; exact ⟨hg, block_lt hh⟩
theorem own_base {base base' size n : Nat} {v : Value} (h : w.ownsRow base e size v n cs) (hb : base' ≤ base) : w.ownsRow base' e size v n cs := by
  refine ⟨h.1, ?_⟩
  rcases h.2 with h2 | ⟨g, cap, cur, hv, hg, r⟩
  · exact .inl h2
  · exact .inr ⟨g, cap, cur, hv, by omega, r⟩
end
section
variable {P : Program} {d : Nat} {xs ys : Array Value} {f : Field} {fs : List Field} {a b : Value} {r s : Bool} {w : World}
theorem struct_eq {t : TypeId} {fs : Array Field} (hu : P.underlying t = some (.struct fs)) (hp : P.stoodInHeld t = false) (h : (Op.eqFields d xs ys fs.toList).run P w = .ok r w) :
    (Op.equalIn (d + 1) t (.agg xs) (.agg ys)).run P w = .ok r w := by
  have hf : P.fieldsOf t = fs := by unfold Program.fieldsOf; rw [hu]
  rw [run_equalIn_struct (P := P) w d t xs ys (by rw [hf]; exact hu) hp, hf]
  exact h
theorem field_eq (hn : f.name ≠ "_") (ha : (part f.type xs f.offset).run P w = .ok a w) (hb : (part f.type ys f.offset).run P w = .ok b w) (he : (Op.equalIn d f.type a b).run P w = .ok r w)
    (hr : (Op.eqFields d xs ys fs).run P w = .ok s w) : (Op.eqFields d xs ys (f :: fs)).run P w = .ok (r && s) w := by
  rw [Op.eqFields]
  simp only [if_pos hn, Sem.run_bind, ha, hb, he, Result.andThen_ok]
  cases r
  · simp
  · simpa using hr
theorem fields_none : (Op.eqFields d xs ys []).run P w = .ok true w := by simp [Op.eqFields]
end
/-- append of one element, which was just laid in a block of its own. -/
theorem wpList_app1 {P : Program} {ops : Array Oper} {rest : List Oper} {o : Oper} {a : Act} {Q : Exit → Act → World → Prop} (w : World) (hgd : o.guard = none) (s x : Operand) (t : TypeId)
    (ho : o.op = .call { callee := .builtin .append, args := #[s, x], argTypes := #[t, t] })
    (base : Nat) (e : TypeId) (z : Value) (size bytes : Nat) (ht : P.underlying t = some (.slice e)) (hi : (P.info? e).map (fun i => (i.zero, i.size, i.bytes)) = some (some z, size, bytes))
    (hzs : z.cells.size = size) (hsz : 0 < size)
    (v : Value) (n : Nat) (xs : List Value) (hs : a.eval s = v) (hown : w.ownsRow base e size v n xs)
    (cs : List Value) (hl : cs.length = size) (h1 : ∀ u ∈ cs, u.oneCell' = true) (b : Nat) (hx : a.eval x = .slice (some ⟨b, 0, none⟩) 1 1) (hb : b = w.heap.size)
    (hlen : n ≤ 1000000000000) (hby : bytes ≤ 100) (hbase : base ≤ w.heap.size)
    (h : ∀ v' w', w'.ownsRow base e size v' (n + 1) (xs ++ cs) → Keeps (fun k => some k = v.ownBlock) w w' → (v'.ownBlock = v.ownBlock ∨ v'.ownBlock = some (w.heap.size + 1)) → Below base w w' → wpList P ops Q rest (a.put o.dst v') w') :
    wpList P ops Q (o :: rest) a (w.alloc (.cells cs.toArray e)) := by
  subst hb
  obtain ⟨i, hi, hz, hsize, hbytes⟩ := info_parts hi
  refine wpList_append_own_at (w.alloc (.cells cs.toArray e)) hgd s x t ho base e i z size bytes ht hi hz hsize hbytes hzs hsz v n xs hs (hown.alloc _) ⟨w.heap.size, 0, none⟩ 1 1 cs hx (by omega) ?_ h1
    (by simp only [maxLen]; omega) ?_ (by simp; omega) ?_
  · intro j u hu
    have hj : j < cs.length := by
      rcases Nat.lt_or_ge j cs.length with h | h
      · exact h
      · rw [List.getElem?_eq_none h] at hu; cases hu
    have : (⟨w.heap.size, 0, none⟩ : Addr).add j = ⟨w.heap.size, j, none⟩ := by unfold Addr.add; split <;> simp_all
    rw [this]
    have hn : (w.alloc (.cells cs.toArray e)).heap[w.heap.size]? = some (.cells cs.toArray e (0, 0)) := heap_alloc_new w _
    unfold World.cell?
    rw [hn]
    simp [hu]
  · have : (n + 1) * bytes ≤ (n + 1) * 100 := Nat.mul_le_mul_left _ hby
    omega
  · intro v' w' h2 h3 _ h5
    refine h v' w' h2 ((Keeps.of_below ((Below.refl _ _).alloc (Nat.le_refl _) _) _).trans ((Keeps.of_grown h3).mono (fun _ _ h => h))) (by simpa using h5) ?_
    refine ((Below.refl base w).alloc hbase _).grown h3 (by simp; omega) (fun k hk => ?_)
    rcases hown.2 with ⟨rfl, _⟩ | ⟨g, cap, cur, rfl, hg, _⟩
    · simp [Value.ownBlock] at hk
    · simp [Value.ownBlock] at hk; omega
end Go.Proofs.YtdiljmhikajjiaaGreat
end
section
set_option maxRecDepth 100000
namespace Go.Proofs.YtdiljmhikajjiaaGreat
open Go.ChangeShapes Go.WideShapes Go.Deep Go.RowKit
theorem own : ownKnob Tryz.prog.godebug = none := by kernel_rfl
theorem laidOut : laidOutB Tryz.prog = true := by kernel_rfl
section
variable {H : Type} {enc : TypeId × Value → H} {w : World} {base : Nat}
/-- A row out of its cells. -/
theorem row_of_cells {A : Option Addr} {cs : List Value} (h : 0 < cs.length → ∃ ad, A = some ad ∧ ∀ j u, cs[j]? = some u → w.cell? (ad.add j) = some u) : Row w A cs := by
  rcases Nat.eq_zero_or_pos cs.length with h0 | h0
  · exact .inl (List.eq_nil_of_length_eq_zero h0)
  · obtain ⟨ad, hA, hc⟩ := h h0
    refine .inr ⟨ad, hA, ?_, hc⟩
    have h1 := hc 0 cs[0] (List.getElem?_eq_getElem h0)
    have := World.block_lt_of_cell? w _ h1
    rwa [Addr.block_add] at this
/-- A slice of whole numbers. -/
theorem arg_ints {k : IntKind} {t e : TypeId} (ht : Tryz.prog.underlying t = some (.slice e)) (he : Tryz.prog.underlying e = some (.int k)) (hc : Tryz.prog.cellsOf e = 1) {v : Value} {d : DataW H} {p : List MemPlace}
    (hv : Value.okWide Tryz.prog w .any base t v) (h : DataW.Trod enc Tryz.prog w 0 (fun _ => true) true t v d p) :
    ∃ (A : Option Addr) (c : Nat) (xs : List Int), v = .slice A xs.length c ∧ Row w A (xs.map (Value.int k)) ∧ xs.length ≤ c ∧ c ≤ maxLen ∧ ∀ x ∈ xs, (Lit.int k x).wf = true := by
  obtain ⟨a0, len, cap, rfl⟩ := okWide_slice ht hv
  obtain ⟨fuel, hf⟩ := h
  rcases open_ints ht he hc hf with ⟨hcs, _⟩ | ⟨x, l, c, zs, hcs, _, hl, hm, hz, _, hcell, hwz⟩
  · simp [Value.cells] at hcs
    obtain ⟨rfl, rfl, rfl⟩ := hcs
    exact ⟨none, 0, [], rfl, .inl rfl, Nat.le_refl _, Nat.zero_le _, by simp⟩
  · simp [Value.cells] at hcs
    obtain ⟨rfl, rfl, rfl⟩ := hcs
    have hz : zs.length = cap := by simpa using hz
    have hlen : (zs.take len).length = len := by rw [List.length_take]; omega
    refine ⟨_, cap, zs.take len, by rw [hlen], row_of_cells (fun _ => ⟨x, rfl, fun j u hu => ?_⟩), by omega, hm, fun y hy => hwz y (List.mem_of_mem_take hy)⟩
    rw [List.getElem?_map, Option.map_eq_some_iff] at hu
    obtain ⟨y, hy, rfl⟩ := hu
    have hj : j < len := by
      rcases Nat.lt_or_ge j (zs.take len).length with h | h
      · omega
      · rw [List.getElem?_eq_none h] at hy; cases hy
    rw [List.getElem?_take_of_lt hj] at hy
    have := hcell j (by omega)
    rw [this, List.getD_eq_getElem?_getD, hy]; rfl
end
end Go.Proofs.YtdiljmhikajjiaaGreat
end
section
namespace Go.Proofs.YtdiljmhikajjiaaGreat
open Go.RowKit
theorem Keeps.drew {S : Nat → Prop} {w w1 : World} (h : Keeps S w w1) : Keeps S w w1.drew := ⟨h.os, h.tape, h.output, h.size, h.block⟩
theorem Keeps.drewN {S : Nat → Prop} {w w1 : World} (h : Keeps S w w1) (n : Nat) : Keeps S w (w1.drewN n) := ⟨h.os, h.tape, h.output, h.size, h.block⟩
theorem Keeps.alloc {S : Nat → Prop} {w w1 : World} (h : Keeps S w w1) (o : Obj) : Keeps S w (w1.alloc o) := h.trans (Keeps.of_below ((Below.refl _ _).alloc (Nat.le_refl _) o) S)
theorem max2_i (k k' : IntKind) (x y : Int) : Builtin.max2 (.int k x) (.int k' y) = pure (.int k (max x y)) := by
  have : (if x < y then y else x) = max x y := by omega
  simp only [Builtin.max2, gt_iff_lt, this]
theorem min2_i (k k' : IntKind) (x y : Int) : Builtin.min2 (.int k x) (.int k' y) = pure (.int k (min x y)) := by
  have : (if y < x then y else x) = min x y := by omega
  simp only [Builtin.min2, this]
theorem max_two' (ats : Array TypeId) (ty : TypeId) (a b : Value) : Builtin.max_ ats ty #[a, b] = (Builtin.max2 a b >>= fun s => pure s) := by simp only [Builtin.max_, List.foldlM_cons, List.foldlM_nil]
theorem min_two' (ats : Array TypeId) (ty : TypeId) (a b : Value) : Builtin.min_ ats ty #[a, b] = (Builtin.min2 a b >>= fun s => pure s) := by simp only [Builtin.min_, List.foldlM_cons, List.foldlM_nil]
theorem belowNext {w a b : World} (h : Below w.heap.size w a) (k : Below a.heap.size a b) : Below w.heap.size w b := h.trans (k.mono h.size)
theorem blkBelow {w w' : World} {b : Nat} {o : Obj} (hb : Below w.heap.size w w') (h : w.heap[b]? = some o) : w'.heap[b]? = some o := (hb.block b (block_lt h)).trans h
theorem heapNewAt {w : World} {o : Obj} {b : Nat} (h : b = w.heap.size) : (w.alloc o).heap[b]? = some o := by rw [h]; exact heap_alloc_new _ _
theorem blkDrew {w : World} {b : Nat} {o : Obj} (h : w.heap[b]? = some o) : w.drew.heap[b]? = some o := h
theorem rowOfBlk {w : World} {b t : Nat} {cs : List Value} {fr : Nat × Nat} (h : w.heap[b]? = some (.cells cs.toArray t fr)) : Row w (some ⟨b, 0, none⟩) cs :=
  .inr ⟨_, rfl, block_lt h, fun j u hu => by
    have : (⟨b, 0, none⟩ : Addr).add j = ⟨b, j, none⟩ := by unfold Addr.add; split <;> simp_all
    rw [this, cell_of_blk h]
    simpa using hu⟩
theorem keepsSt (w : World) (p : Addr) (u : Value) : Keeps (fun k => k = p.block) w (w.setCell p u) := ⟨rfl, rfl, rfl, by simp [World.setCell], fun i hi hn => Below.heap_setCell w p u i hn⟩
theorem own_addr {w : World} {base e size n c : Nat} {A : Option Addr} {cs : List Value} (h : w.ownsRow base e size (.slice A n c) n cs) : A = none ∨ ∃ g, A = some ⟨g, 0, none⟩ ∧ base ≤ g := by
  rcases h.2 with ⟨hv, _⟩ | ⟨g, cap, cur, hv, hg, _⟩
  · injection hv with h _ _; exact .inl h
  · injection hv with h _ _; exact .inr ⟨g, h, hg⟩
theorem blk_keep {S : Nat → Prop} {w w' : World} {b : Nat} {o : Obj} (h : w.heap[b]? = some o) (hk : Keeps S w w') (hS : ¬ S b) : w'.heap[b]? = some o := (hk.block b (block_lt h) hS).trans h
end Go.Proofs.YtdiljmhikajjiaaGreat
end
section
namespace Go.Proofs.YtdiljmhikajjiaaGreat
open Go.RowKit Go.Maps
/-- Block b of w is a map that holds just f. -/
def MapIs (P : Program) (k e : TypeId) (w : World) (b n : Nat) (f : Value → Option Int) : Prop :=
  ∃ D : DataW Unit, w.ownsMap P k (plainElem P e) b n D ∧ IsMap D ∧ (∀ key kl, keyOf P k key = some kl → Maps.has D kl = (f key).isSome ∧ ∀ c, f key = some c → D.atKey kl (.lit (.int .i64 0)) = .lit (.int .i64 c))
section
variable {P : Program} {t k e : TypeId} {w w' : World} {b n : Nat} {f : Value → Option Int}
theorem MapIs.made (w : World) (P : Program) (k e : TypeId) : MapIs P k e (w.alloc (.map #[] 0)) w.heap.size 0 (fun _ => none) :=
  ⟨.map [], World.ownsMap_made _ _ _ _, isMap_empty, fun key kl h => ⟨rfl, by simp⟩⟩
theorem MapIs.lt (h : MapIs P k e w b n f) : b < w.heap.size := by obtain ⟨D, h, _⟩ := h; exact h.lt
theorem MapIs.kept {row : Option Nat} (h : MapIs P k e w b n f) (hg : w.grownBy w' row) (hne : some b ≠ row) : MapIs P k e w' b n f := by
  obtain ⟨D, h1, h2⟩ := h; exact ⟨D, h1.kept hg hne, h2⟩
theorem MapIs.keep {S : Nat → Prop} (h : MapIs P k e w b n f) (hk : Keeps S w w') (hS : ¬ S b) : MapIs P k e w' b n f := by
  obtain ⟨D, ⟨es, clock, hb, r⟩, h2⟩ := h
  exact ⟨D, ⟨es, clock, (hk.block b (block_lt hb) hS).trans hb, r⟩, h2⟩
theorem MapIs.below (h : MapIs P k e w b n f) (hb : Below w.heap.size w w') : MapIs P k e w' b n f := h.keep (Keeps.of_below hb (fun _ => False)) (fun h => h)
theorem MapIs.is_map (h : MapIs P k e w b n f) : ∃ es clock, w.heap[b]? = some (.map es clock) := by
  obtain ⟨D, ⟨es, clock, hb, r⟩, h2⟩ := h; exact ⟨es, clock, hb⟩
theorem MapIs.mono {n' : Nat} (h : MapIs P k e w b n f) (hn : n ≤ n') : MapIs P k e w b n' f := by
  obtain ⟨D, h1, h2⟩ := h; exact ⟨D, h1.mono hn, h2⟩
/-- A look-up, with ok. -/
theorem MapIs.look (h : MapIs P k e w b n f) (K : Keyed P k) (ht : P.underlying t = some (.map k e)) (he : P.underlying e = some (.int .i64)) (hz : (zeroValue e).run P w = .ok (.int .i64 0) w) {key : Value} {kl : Lit} (hkey : keyOf P k key = some kl) :
    (Instr.lookup t (.map (some b)) key true).run P w = .ok (.tuple #[.int .i64 ((f key).getD 0), .bool (f key).isSome]) w := by
  obtain ⟨D, h1, _, h2⟩ := h
  obtain ⟨v, ps, hrun, hv⟩ := h1.look_ok K ht hz (plainElem_int (H := Unit) he (by decide)) hkey
  obtain ⟨c, rfl, hc, hwc⟩ := plainElem_int_inv he hv
  have hc : D.atKey kl (.lit (.int .i64 0)) = .lit (.int .i64 c) := congrArg Prod.fst hc
  obtain ⟨a1, a2⟩ := h2 key kl hkey
  rw [hrun, a1]
  cases hf : f key with
  | none =>
    rw [hf] at a1
    have := atKey_of_not_has a1 (.lit (.int .i64 0))
    rw [hc] at this
    injection this with this
    injection this with _ this
    subst this; rfl
  | some d =>
    have := a2 d hf
    rw [hc] at this
    injection this with this
    injection this with _ this
    subst this; rfl
/-- A store. -/
theorem MapIs.put (h : MapIs P k e w b n f) (K : Keyed P k) (ht : P.underlying t = some (.map k e)) (he : P.underlying e = some (.int .i64)) (hn : n < maxLen) {key : Value} {kl : Lit} (hkey : keyOf P k key = some kl) {v : Int} (hv : (Lit.int .i64 v).wf = true) {f' : Value → Option Int} (hf1 : f' key = some v) (hf2 : ∀ x, x ≠ key → f' x = f x) :
    ∃ w', (Instr.mapUpdate t (.map (some b)) key (.int .i64 v)).run P w = .ok () w' ∧ MapIs P k e w' b (n + 1) f' ∧ w.grownBy w' (some b) := by
  obtain ⟨D, h1, hm, h2⟩ := h
  obtain ⟨w', hrun, r1, r2⟩ := h1.update K ht hn hkey (plainElem_int (H := Unit) he hv)
  refine ⟨w', hrun, ⟨_, r1, hm.put _ _, fun key' kl' hkey' => ?_⟩, r2⟩
  by_cases hx : key' = key
  · subst hx
    rw [hkey] at hkey'
    injection hkey' with hkey'
    subst hkey'
    rw [hf1]
    refine ⟨has_put_same hm (K.key hkey) _, fun c hc => ?_⟩
    injection hc with hc
    subst hc
    exact atKey_put_same hm (K.key hkey) _ _
  · rw [hf2 _ hx]
    have hne : kl' ≠ kl := fun hh => by subst hh; exact hx (K.inj hkey' hkey)
    rw [has_put_other hne, atKey_put_other hne]
    exact h2 key' kl' hkey'
end
end Go.Proofs.YtdiljmhikajjiaaGreat
end
section
namespace Seine.Trie
abbrev Txt := List UInt8
/-- where a text stands among some; -1: nowhere -/
def place : List Txt → Txt → Int
  | [], _ => -1
  | x :: l, s => if x = s then 0 else if place l s < 0 then -1 else place l s + 1
theorem place_range (l : List Txt) (s : Txt) : -1 ≤ place l s ∧ place l s < l.length := by
  induction l with
  | nil => simp [place]
  | cons x l ih =>
    simp only [place, List.length_cons]
    refine ⟨?_, ?_⟩ <;> split <;> (try split) <;> omega
theorem place_mem {l : List Txt} {s : Txt} : 0 ≤ place l s ↔ s ∈ l := by
  induction l with
  | nil => simp [place]
  | cons x l ih =>
    simp only [place, List.mem_cons]
    by_cases h : x = s
    · simp [h]
    · rw [if_neg h]
      by_cases h2 : place l s < 0
      · rw [if_pos h2]
        have : s ∉ l := fun hm => by have := ih.2 hm; omega
        constructor
        · intro h3; omega
        · rintro (h3 | h3)
          · exact absurd h3.symm h
          · exact absurd h3 this
      · rw [if_neg h2]
        have : s ∈ l := ih.1 (by omega)
        simp [this]; omega
theorem place_neg {l : List Txt} {s : Txt} : place l s < 0 ↔ s ∉ l := by rw [← place_mem]; omega
theorem place_none {l : List Txt} {s : Txt} (h : s ∉ l) : place l s = -1 := by
  have := place_neg.2 h; have := (place_range l s).1; omega
theorem place_get {l : List Txt} {s : Txt} (h : s ∈ l) : l[(place l s).toNat]? = some s := by
  induction l with
  | nil => simp at h
  | cons x l ih =>
    simp only [place]
    by_cases hx : x = s
    · simp [hx]
    · rw [if_neg hx]
      have hm : s ∈ l := by simpa [Ne.symm hx] using h
      have h0 := place_mem.2 hm
      rw [if_neg (by omega), show (place l s + 1).toNat = (place l s).toNat + 1 by omega]
      simpa using ih hm
theorem place_at {l : List Txt} (hn : l.Nodup) {i : Nat} {s : Txt} (h : l[i]? = some s) : place l s = i := by
  induction l generalizing i with
  | nil => simp at h
  | cons x l ih =>
    simp only [place]
    cases i with
    | zero => simp at h; simp [h]
    | succ i =>
      have hs : l[i]? = some s := by simpa using h
      have hx : x ≠ s := by
        rintro rfl
        exact (List.nodup_cons.1 hn).1 (List.mem_of_getElem? hs)
      rw [if_neg hx, ih (List.nodup_cons.1 hn).2 hs, if_neg (by omega)]
      push_cast; rfl
theorem place_append {l m : List Txt} {s : Txt} (h : s ∈ l) : place (l ++ m) s = place l s := by
  induction l with
  | nil => simp at h
  | cons x l ih =>
    simp only [List.cons_append, place]
    by_cases hx : x = s
    · simp [hx]
    · rw [if_neg hx, if_neg hx, ih (by simpa [Ne.symm hx] using h)]
theorem place_append_not {l m : List Txt} {s : Txt} (h : s ∉ l) : place (l ++ m) s = if place m s < 0 then -1 else l.length + place m s := by
  induction l with
  | nil => simp only [List.nil_append, List.length_nil]; split
           · have := (place_range m s).1; omega
           · push_cast; omega
  | cons x l ih =>
    simp only [List.mem_cons, not_or] at h
    simp only [List.cons_append, place]
    rw [if_neg (Ne.symm h.1), ih h.2]
    by_cases hm : place m s < 0
    · simp [hm]
    · rw [if_neg hm, if_neg (by omega), if_neg (by omega)]; simp only [List.length_cons]; push_cast; omega
theorem place_snoc (l : List Txt) (t s : Txt) : place (l ++ [t]) s = if s ∈ l then place l s else if t = s then (l.length : Int) else -1 := by
  by_cases h : s ∈ l
  · rw [if_pos h, place_append h]
  · rw [if_neg h, place_append_not h]
    by_cases ht : t = s
    · simp [place, ht]
    · simp [place, ht]
def addPath (P : List Txt) (p : Txt) : List Txt := if p ∈ P then P else P ++ [p]
/-- the beginnings of a text, of its first n bytes -/
def addTo (P : List Txt) (b : Txt) : Nat → List Txt
  | 0 => P
  | n + 1 => addPath (addTo P b n) (b.take (n + 1))
def addText (P : List Txt) (b : Txt) : List Txt := addTo P b b.length
def paths (l : List Txt) : List Txt := l.foldl addText [[]]
theorem mem_addPath {P : List Txt} {p q : Txt} : q ∈ addPath P p ↔ q ∈ P ∨ q = p := by
  unfold addPath; split
  · constructor
    · exact .inl
    · rintro (h | rfl) <;> assumption
  · simp
theorem addPath_nodup {P : List Txt} {p : Txt} (h : P.Nodup) : (addPath P p).Nodup := by
  unfold addPath; split
  · exact h
  · rename_i hp
    rw [List.nodup_append]; refine ⟨h, by simp, ?_⟩
    rintro a ha b hb rfl; simp at hb; subst hb; exact hp ha
theorem addPath_prefix (P : List Txt) (p : Txt) : ∃ m, addPath P p = P ++ m := by
  unfold addPath; split
  · exact ⟨[], by simp⟩
  · exact ⟨[p], rfl⟩
/-- A list of beginnings: the empty one first, none twice, with each the one of a byte less. -/
structure Tree (P : List Txt) : Prop where
  root : P[0]? = some []
  nodup : P.Nodup
  up : ∀ p ∈ P, p ≠ [] → p.dropLast ∈ P
theorem Tree.nil_mem {P : List Txt} (h : Tree P) : [] ∈ P := List.mem_of_getElem? h.root
theorem Tree.start : Tree [[]] := ⟨rfl, by simp, by simp⟩
theorem Tree.len {P : List Txt} (h : Tree P) : 0 < P.length := by
  rcases Nat.eq_zero_or_pos P.length with h0 | h0
  · have := h.root; rw [List.eq_nil_of_length_eq_zero h0] at this; simp at this
  · exact h0
theorem Tree.put {P : List Txt} (h : Tree P) {p : Txt} (hp : p ≠ []) (hd : p.dropLast ∈ P) : Tree (addPath P p) := by
  refine ⟨?_, addPath_nodup h.nodup, fun q hq hne => ?_⟩
  · obtain ⟨m, e⟩ := addPath_prefix P p
    rw [e, List.getElem?_append_left h.len]; exact h.root
  · rw [mem_addPath] at hq ⊢
    rcases hq with hq | rfl
    · exact .inl (h.up q hq hne)
    · exact .inl hd
theorem take_dropLast {b : Txt} {n : Nat} (h : n < b.length) : (b.take (n + 1)).dropLast = b.take n := by
  rw [List.dropLast_eq_take, List.take_take, List.length_take]
  congr 1; omega
theorem addTo_spec {P : List Txt} (h : Tree P) (b : Txt) : ∀ n, n ≤ b.length → Tree (addTo P b n) ∧ b.take n ∈ addTo P b n ∧ ∀ q, q ∈ addTo P b n ↔ q ∈ P ∨ ∃ k, k ≤ n ∧ 0 < k ∧ q = b.take k := by
  intro n
  induction n with
  | zero => intro _; exact ⟨h, by rw [List.take_zero]; exact h.nil_mem, fun q => ⟨.inl, by rintro (h | ⟨k, h1, h2, _⟩); exact h; omega⟩⟩
  | succ n ih =>
    intro hn
    obtain ⟨h1, h2, h3⟩ := ih (by omega)
    have hne : b.take (n + 1) ≠ [] := by
      intro e; have := congrArg List.length e; rw [List.length_take, List.length_nil] at this; omega
    refine ⟨h1.put hne (by rw [take_dropLast (by omega)]; exact h2), by simp only [addTo]; rw [mem_addPath]; exact .inr rfl, fun q => ?_⟩
    simp only [addTo]
    rw [mem_addPath, h3]
    constructor
    · rintro ((h | ⟨k, a, b', c⟩) | rfl)
      · exact .inl h
      · exact .inr ⟨k, by omega, b', c⟩
      · exact .inr ⟨n + 1, Nat.le_refl _, by omega, rfl⟩
    · rintro (h | ⟨k, a, b', c⟩)
      · exact .inl (.inl h)
      · by_cases e : k = n + 1
        · subst e; exact .inr c
        · exact .inl (.inr ⟨k, by omega, b', c⟩)
theorem paths_snoc (l : List Txt) (b : Txt) : paths (l ++ [b]) = addText (paths l) b := by simp [paths, List.foldl_append]
theorem paths_spec (l : List Txt) : Tree (paths l) ∧ ∀ q, q ∈ paths l ↔ q = [] ∨ ∃ b ∈ l, ∃ k, k ≤ b.length ∧ q = b.take k := by
  have H : ∀ n (l : List Txt), l.length = n → Tree (paths l) ∧ ∀ q, q ∈ paths l ↔ q = [] ∨ ∃ b ∈ l, ∃ k, k ≤ b.length ∧ q = b.take k := by
    intro n
    induction n with
    | zero => intro l hl; rw [List.eq_nil_of_length_eq_zero hl]; exact ⟨Tree.start, by simp [paths]⟩
    | succ n ih =>
      intro l hl
      have hne : l ≠ [] := by intro h; simp [h] at hl
      obtain ⟨m, x, rfl⟩ : ∃ m x, l = m ++ [x] := ⟨l.dropLast, l.getLast hne, (List.dropLast_concat_getLast hne).symm⟩
      obtain ⟨h1, h2⟩ := ih m (by simp at hl; omega)
      rw [paths_snoc]
      obtain ⟨a1, a2, a3⟩ := addTo_spec h1 x x.length (Nat.le_refl _)
      refine ⟨a1, fun q => ?_⟩
      unfold addText
      rw [a3, h2]
      constructor
      · rintro ((rfl | ⟨b, hb, k, hk, e⟩) | ⟨k, hk, _, e⟩)
        · exact .inl rfl
        · exact .inr ⟨b, by simp [hb], k, hk, e⟩
        · exact .inr ⟨x, by simp, k, hk, e⟩
      · rintro (rfl | ⟨b, hb, k, hk, e⟩)
        · exact .inl (.inl rfl)
        · simp at hb
          rcases hb with hb | rfl
          · exact .inl (.inr ⟨b, hb, k, hk, e⟩)
          · rcases Nat.eq_zero_or_pos k with h0 | h0
            · subst h0; simp at e; exact .inl (.inl e)
            · exact .inr ⟨k, hk, h0, e⟩
  exact H _ l rfl
theorem paths_tree (l : List Txt) : Tree (paths l) := (paths_spec l).1
theorem mem_paths {l : List Txt} {q : Txt} : q ∈ paths l ↔ q = [] ∨ ∃ b ∈ l, ∃ k, k ≤ b.length ∧ q = b.take k := (paths_spec l).2 q
theorem text_mem_paths {l : List Txt} {b : Txt} (h : b ∈ l) : b ∈ paths l := mem_paths.2 (.inr ⟨b, h, b.length, Nat.le_refl _, by simp⟩)
theorem addTo_mono (P : List Txt) (b : Txt) : ∀ n, ∃ m, addTo P b n = P ++ m
  | 0 => ⟨[], by simp [addTo]⟩
  | n + 1 => by
    obtain ⟨m, e⟩ := addTo_mono P b n
    obtain ⟨m2, e2⟩ := addPath_prefix (addTo P b n) (b.take (n + 1))
    exact ⟨m ++ m2, by simp only [addTo]; rw [e2, e, List.append_assoc]⟩
theorem addTo_len (P : List Txt) (b : Txt) : ∀ n, (addTo P b n).length ≤ P.length + n
  | 0 => Nat.le_refl _
  | n + 1 => by
    have := addTo_len P b n
    simp only [addTo]; unfold addPath; split <;> simp <;> omega
/-- the node of a byte less -/
def parent (P : List Txt) (p : Txt) : Int := if p = [] then -1 else place P p.dropLast
def lastB (p : Txt) : UInt8 := p.getLast?.getD 0
/-- the bytes that lead on, rising -/
def kids (P : List Txt) (p : Txt) : List UInt8 := ((List.range 256).map UInt8.ofNat).filter fun c => decide (p ++ [c] ∈ P)
end Seine.Trie
end
section
namespace Go.Proofs.YtdiljmhikajjiaaGreat
open Go.RowKit Go.Maps Seine.Trie
theorem laidOut' : laidOutB Tryz.prog = true := by kernel_rfl
theorem edge_law : Keyed Tryz.prog 164 := Keyed.of_law (deep_law_laid laidOut' (m := 3) (by omega) (of_decide_eq_true (by kernel_rfl)) (by kernel_rfl) (by kernel_rfl))
theorem zero_int (w : World) : (zeroValue 3).run Tryz.prog w = .ok (.int .i64 0) w := by kernel_rfl
theorem edge_key (a : Int) (c : UInt8) (h0 : 0 ≤ a) (h1 : a ≤ 1000000000) : ∃ kl, keyOf Tryz.prog 164 (.agg #[.int .i64 a, .int .u8 (c.toNat : Int)]) = some kl := by
  have hc := c.toNat_lt
  have hs : Tryz.prog.types.size = (Tryz.prog.types.size - 1) + 1 := by decide +kernel
  have w1 : (Lit.int .i64 a).wf = true := by simp [Lit.wf, IntKind.min, IntKind.max, IntKind.signed, IntKind.bits]; omega
  have w2 : (Lit.int .u8 (c.toNat : Int)).wf = true := by simp [Lit.wf, IntKind.min, IntKind.max, IntKind.signed, IntKind.bits]; omega
  have hk : Tryz.prog.keyType 164 = true := by kernel_rfl
  have hf : (Value.agg #[.int .i64 a, .int .u8 (c.toNat : Int)]).formed Tryz.prog 164 = true := by
    simp only [Value.formed, Tryz.underlying164]; kernel_rfl
  unfold keyOf
  simp only [Tryz.underlying164, hk, hf, Bool.and_self, if_true]
  have h2 : Tryz.prog.keyLits (Tryz.prog.types.size + 1) 164 [.int .i64 a, .int .u8 (c.toNat : Int)] = some [.int .i64 a, .int .u8 (c.toNat : Int)] := by
    rw [hs]
    generalize Tryz.prog.types.size - 1 = n
    have c3 : Tryz.prog.cellsOf 3 = 1 := by kernel_rfl
    have c5 : Tryz.prog.cellsOf 5 = 1 := by kernel_rfl
    have c67 : Tryz.prog.cellsOf 164 = 2 := by kernel_rfl
    have k1 : Tryz.prog.keyLits (n + 1) 3 [.int .i64 a] = some [.int .i64 a] := by simp only [Program.keyLits, Tryz.underlying3, w1, and_self, if_true]
    have k2 : Tryz.prog.keyLits (n + 1) 5 [.int .u8 (c.toNat : Int)] = some [.int .u8 (c.toNat : Int)] := by simp only [Program.keyLits, Tryz.underlying5, w2, and_self, if_true]
    unfold Program.keyLits
    rw [Tryz.underlying164]
    simp [c67, c3, c5, k1, k2]
  simp only [Value.cells]
  show ∃ kl, Option.map _ (Tryz.prog.keyLits (Tryz.prog.types.size + 1) 164 [.int .i64 a, .int .u8 (c.toNat : Int)]) = some kl
  rw [h2]
  exact ⟨_, rfl⟩
def tnode (P : List Txt) (W : Txt → Int) (p : Txt) : List Value := [.int .i64 (parent P p), .int .i64 p.length, .int .i64 (W p), .int .u8 ((lastB p).toNat : Int)]
def nodeCells (P : List Txt) (W : Txt → Int) : List Value := P.flatMap (tnode P W)
/-- where an edge leads -/
def edgeF (P : List Txt) : Value → Option Int
  | .agg ⟨[.int .i64 a, .int .u8 c]⟩ => if 0 ≤ a ∧ a < P.length ∧ 0 ≤ c ∧ c < 256 ∧ 0 ≤ place P (P.getD a.toNat [] ++ [UInt8.ofNat c.toNat]) then some (place P (P.getD a.toNat [] ++ [UInt8.ofNat c.toNat])) else none
  | _ => none
theorem getD_app (P m : List Txt) {i : Nat} (h : i < P.length) : (P ++ m).getD i [] = P.getD i [] := by
  rw [List.getD_eq_getElem?_getD, List.getElem?_append_left h, ← List.getD_eq_getElem?_getD]
theorem ofNat_toNat (c : UInt8) : UInt8.ofNat ((c.toNat : Int)).toNat = c := by simp
theorem edgeF_at (P : List Txt) (a : Nat) (c : UInt8) (ha : a < P.length) : edgeF P (.agg #[.int .i64 (a : Int), .int .u8 (c.toNat : Int)]) = if P.getD a [] ++ [c] ∈ P then some (place P (P.getD a [] ++ [c])) else none := by
  have hc := c.toNat_lt
  unfold edgeF
  simp only [Int.toNat_natCast, UInt8.ofNat_toNat]
  by_cases h : P.getD a [] ++ [c] ∈ P
  · rw [if_pos h, if_pos ⟨by omega, by omega, by omega, by omega, place_mem.2 h⟩]
  · rw [if_neg h, if_neg (fun hh => h (place_mem.1 hh.2.2.2.2))]
theorem edgeF_new {P : List Txt} (hT : Tree P) {a : Nat} {c : UInt8} (ha : a < P.length) (hq : P.getD a [] ++ [c] ∉ P) : edgeF (P ++ [P.getD a [] ++ [c]]) (.agg #[.int .i64 (a : Int), .int .u8 (c.toNat : Int)]) = some (P.length : Int) := by
  have e : (P ++ [P.getD a [] ++ [c]]).getD a [] = P.getD a [] := getD_app _ _ ha
  rw [edgeF_at _ a c (by simp; omega), e, if_pos (by simp), place_snoc, if_neg hq, if_pos rfl]
theorem edgeF_old {P : List Txt} (hT : Tree P) {a : Nat} {c : UInt8} (ha : a < P.length) (hq : P.getD a [] ++ [c] ∉ P) (x : Value) (hx : x ≠ .agg #[.int .i64 (a : Int), .int .u8 (c.toNat : Int)]) :
    edgeF (P ++ [P.getD a [] ++ [c]]) x = edgeF P x := by
  unfold edgeF
  split
  · rename_i b d
    by_cases hr : 0 ≤ b ∧ 0 ≤ d ∧ d < 256
    · obtain ⟨hb0, hd0, hd1⟩ := hr
      by_cases hbl : b < P.length
      · have e : (P ++ [P.getD a [] ++ [c]]).getD b.toNat [] = P.getD b.toNat [] := getD_app _ _ (by omega)
        have hpl : place (P ++ [P.getD a [] ++ [c]]) (P.getD b.toNat [] ++ [UInt8.ofNat d.toNat]) = place P (P.getD b.toNat [] ++ [UInt8.ofNat d.toNat]) := by
          rw [place_snoc]
          split
          · rfl
          · rename_i hn
            rw [if_neg, place_none hn]
            intro he
            have h1 := List.append_inj' he rfl
            have hba : b.toNat = a := by
              have p1 := place_at hT.nodup (i := a) (s := P.getD a []) (by simp [List.getD_eq_getElem?_getD, ha])
              have p2 := place_at hT.nodup (i := b.toNat) (s := P.getD b.toNat []) (by simp [List.getD_eq_getElem?_getD, show b.toNat < P.length by omega])
              rw [h1.1, p2] at p1; omega
            have hdc : c = UInt8.ofNat d.toNat := by simpa using h1.2
            apply hx
            have : (c.toNat : Int) = d := by
              rw [hdc]; simp; omega
            rw [this, ← hba, Int.toNat_of_nonneg hb0]
        rw [e, hpl]
        have : b < (P ++ [P.getD a [] ++ [c]]).length := by simp; omega
        simp only [hbl, this]
      · have hno : ∀ h : 0 ≤ b ∧ b < ((P ++ [P.getD a [] ++ [c]]).length : Int) ∧ 0 ≤ d ∧ d < 256 ∧ 0 ≤ place (P ++ [P.getD a [] ++ [c]]) ((P ++ [P.getD a [] ++ [c]]).getD b.toNat [] ++ [UInt8.ofNat d.toNat]), False := by
         intro h
         have hbeq : b.toNat = P.length := by have := h.2.1; simp at this; omega
         have e : (P ++ [P.getD a [] ++ [c]]).getD b.toNat [] = P.getD a [] ++ [c] := by rw [hbeq]; simp
         have hm := place_mem.1 h.2.2.2.2
         rw [e] at hm
         simp only [List.mem_append, List.mem_singleton] at hm
         rcases hm with hm | hm
         · have := hT.up _ hm (by simp)
           rw [List.dropLast_concat] at this
           exact hq this
         · have := congrArg List.length hm; simp at this
        rw [if_neg hno, if_neg (fun h => hbl h.2.1)]
    · rw [if_neg (fun h => hr ⟨h.1, h.2.2.1, h.2.2.2.1⟩), if_neg (fun h => hr ⟨h.1, h.2.2.1, h.2.2.2.1⟩)]
  · rfl
theorem nodeCells_length (P : List Txt) (W : Txt → Int) : (nodeCells P W).length = P.length * 4 := by
  unfold nodeCells
  have : ∀ Q : List Txt, (Q.flatMap (tnode P W)).length = Q.length * 4 := by
    intro Q
    induction Q with
    | nil => rfl
    | cons x Q ih => rw [List.flatMap_cons, List.length_append, ih]; simp only [tnode, List.length_cons, List.length_nil]; omega
  exact this P
theorem flat4_at : ∀ (Q : List Txt) (f : Txt → List Value), (∀ x, (f x).length = 4) → ∀ i x, Q[i]? = some x → ∀ j, j < 4 → (Q.flatMap f)[i * 4 + j]? = (f x)[j]?
  | [], _, _, i, x, h, _, _ => by simp at h
  | y :: Q, f, hf, i, x, h, j, hj => by
    rw [List.flatMap_cons]
    cases i with
    | zero =>
      simp at h; subst h
      rw [Nat.zero_mul, Nat.zero_add, List.getElem?_append_left (by rw [hf]; exact hj)]
    | succ i =>
      have := flat4_at Q f hf i x (by simpa using h) j hj
      rw [List.getElem?_append_right (by rw [hf]; omega), hf, show (i + 1) * 4 + j - 4 = i * 4 + j by omega]
      exact this
theorem nodeCells_at (P : List Txt) (W : Txt → Int) {i : Nat} {x : Txt} (h : P[i]? = some x) (j : Nat) (hj : j < 4) : (nodeCells P W)[i * 4 + j]? = (tnode P W x)[j]? := flat4_at P (tnode P W) (fun _ => rfl) i x h j hj
theorem fm_congr {α β : Type} {f g : α → List β} : ∀ {l : List α}, (∀ x ∈ l, f x = g x) → l.flatMap f = l.flatMap g
  | [], _ => rfl
  | x :: l, h => by rw [List.flatMap_cons, List.flatMap_cons, h x (by simp), fm_congr (fun y hy => h y (by simp [hy]))]
theorem nodeCells_put {P : List Txt} (hT : Tree P) (W : Txt → Int) (q : Txt) : nodeCells (P ++ [q]) W = nodeCells P W ++ tnode (P ++ [q]) W q := by
  unfold nodeCells
  rw [List.flatMap_append]
  congr 1
  · apply fm_congr
    intro p hp
    unfold tnode parent
    split
    · rfl
    · rename_i hne
      rw [place_append (hT.up p hp hne)]
/-- The tree of the beginnings P, whose words are W, at block g; all of it from block base on. -/
def TrieAt (w : World) (base g : Nat) (P : List Txt) (W : Txt → Int) : Prop :=
  ∃ v mb, w.heap[g]? = some (.cells #[v, .map (some mb)] 133 (0, 0)) ∧ base ≤ g ∧ base ≤ mb ∧ w.ownsRow base 129 4 v P.length (nodeCells P W) ∧
    MapIs Tryz.prog 164 3 w mb P.length (edgeF P) ∧ Tree P
theorem keeps_set (w : World) (p : Addr) (u : Value) : Keeps (fun k => k = p.block) w (w.setCell p u) := ⟨rfl, rfl, rfl, by simp [World.setCell], fun k _ hk => Below.heap_setCell _ _ _ _ hk⟩
/-- A block of the call's own rows is a row of cells: no map, and no block of another type. -/
theorem own_not_map {w : World} {base e size n b : Nat} {v : Value} {cs : List Value} {es : Array MapEntry} {cl : Nat} (h : w.ownsRow base e size v n cs) (hm : w.heap[b]? = some (.map es cl)) : some b ≠ v.ownBlock := fun hb => by
  rcases h.2 with ⟨rfl, _⟩ | ⟨g, cap, cur, rfl, _, hh, _⟩
  · simp [Value.ownBlock] at hb
  · simp [Value.ownBlock] at hb
    subst hb
    rw [hh] at hm; cases hm
theorem own_not_type {w : World} {base e size n b t : Nat} {v : Value} {cs : List Value} {c : Array Value} {fr : Nat × Nat} (h : w.ownsRow base e size v n cs) (hm : w.heap[b]? = some (.cells c t fr)) (hne : e ≠ t) : some b ≠ v.ownBlock := fun hb => by
  rcases h.2 with ⟨rfl, _⟩ | ⟨g, cap, cur, rfl, _, hh, _⟩
  · simp [Value.ownBlock] at hb
  · simp [Value.ownBlock] at hb
    subst hb
    rw [hh] at hm
    injection hm with hm
    injection hm with _ hm
    exact hne hm
theorem info_node : (Tryz.prog.info? 129).map (fun i => (i.zero, i.size, i.bytes)) = some (some (.agg #[(.int .i64 0), (.int .i64 0), (.int .i64 0), (.int .u8 0)]), 4, 32) := by kernel_rfl
set_option maxRecDepth 100000 in
set_option maxHeartbeats 1600000 in
theorem grow_calls (w : World) (base g : Nat) (P : List Txt) (W : Txt → Int) (a : Nat) (pa : Txt) (c : UInt8) (ht : TrieAt w base g P W) (hPa : P[a]? = some pa) (hl : P.length ≤ 1000000) (hd : pa.length ≤ 1000000) (hW : pa ++ [c] ∉ P → W (pa ++ [c]) = -1) :
    Calls Tryz.prog 61 #[.pointer (some ⟨g, 0, none⟩), .int .i64 (a : Int), .int .u8 (c.toNat : Int)] w fun e w' =>
      e = .returned (.int .i64 (place (addPath P (pa ++ [c])) (pa ++ [c]))) ∧ TrieAt w' base g (addPath P (pa ++ [c])) W ∧ Below base w w' := by
  obtain ⟨v, mb, hg, hbg, hbm, hown, hmap, hT⟩ := ht
  have ha : a < P.length := (List.getElem?_eq_some_iff.1 hPa).1
  have hgd : P.getD a [] = pa := by rw [List.getD_eq_getElem?_getD, hPa]; rfl
  have hg := As.mk hg
  have hown := As.mk hown
  have hmap := As.mk hmap
  have hT := As.mk hT
  have hlt : g < w.heap.size := block_lt hg.out
  have c0 : w.cell? ⟨g, 0, none⟩ = some v := cell_of_blk hg.out 0
  have c1 : w.cell? ⟨g, 1, none⟩ = some (.map (some mb)) := cell_of_blk hg.out 1
  obtain ⟨kl, hkey⟩ := edge_key (a : Int) c (by omega) (by omega)
  have hkey := As.mk hkey
  have hat := As.mk (edgeF_at P a c ha)
  have hfn : As (pa ++ [c] ∉ P → edgeF (P ++ [pa ++ [c]]) (.agg #[.int .i64 (a : Int), .int .u8 (c.toNat : Int)]) = some (P.length : Int)) := ⟨fun h => by have := edgeF_new (c := c) hT.out ha; rw [hgd] at this; exact this h⟩
  have hfo : As (pa ++ [c] ∉ P → ∀ x, x ≠ .agg #[.int .i64 (a : Int), .int .u8 (c.toNat : Int)] → edgeF (P ++ [pa ++ [c]]) x = edgeF P x) := ⟨fun h => by have := edgeF_old (c := c) hT.out ha; rw [hgd] at this; exact this h⟩
  rw [hgd] at hat
  clear hgd
  by_cases hq : pa ++ [c] ∈ P
  · have hadd : As (addPath P (pa ++ [c]) = P) := ⟨if_pos hq⟩
    rw [hadd.out]
    rw [if_pos hq] at hat
    have hlk : ∀ nq, (Instr.lookup 131 (.map (some mb)) (.agg #[.int .i64 (a : Int), .int .u8 (c.toNat : Int)]) true).run Tryz.prog ((w.alloc (.cells #[.int .i64 (a : Int), .int .u8 (c.toNat : Int)] 164)).drewN nq) =
        .ok (.tuple #[.int .i64 (place P (pa ++ [c])), .bool true]) ((w.alloc (.cells #[.int .i64 (a : Int), .int .u8 (c.toNat : Int)] 164)).drewN nq) := fun nq => by
      have := MapIs.look (w := (w.alloc (.cells #[.int .i64 (a : Int), .int .u8 (c.toNat : Int)] 164)).drewN nq) (hmap.out.below (below_drewN ((Below.refl _ _).alloc (Nat.le_refl _) _) nq)) edge_law Tryz.underlying131 Tryz.underlying3 (zero_int _) hkey.out
      rw [hat.out] at this
      exact this
    generalize place P (pa ++ [c]) = r at *
    clear hadd hq hW hfn hfo hPa
    go_enter Tryz.func61, Tryz.ntmps61
    go_wp2
    go_quiet (fail)
    go_wp2
    go_ret
    refine ⟨rfl, ⟨v, mb, blk_old hg.out, hbg, hbm, hown.out.alloc _, hmap.out.below (below_drewN ((Below.refl _ _).alloc (Nat.le_refl _) _) _), hT.out⟩, below_drewN ((Below.refl _ _).alloc (by omega) _) _⟩
  · have hW := hW hq
    have hadd : As (addPath P (pa ++ [c]) = P ++ [pa ++ [c]]) := ⟨if_neg hq⟩
    rw [hadd.out]
    rw [if_neg hq] at hat
    have hpl : As (place (P ++ [pa ++ [c]]) (pa ++ [c]) = (P.length : Int)) := ⟨by rw [place_snoc, if_neg hq, if_pos rfl]⟩
    rw [hpl.out]
    have hlk : ∀ nq, (Instr.lookup 131 (.map (some mb)) (.agg #[.int .i64 (a : Int), .int .u8 (c.toNat : Int)]) true).run Tryz.prog ((w.alloc (.cells #[.int .i64 (a : Int), .int .u8 (c.toNat : Int)] 164)).drewN nq) =
        .ok (.tuple #[.int .i64 0, .bool false]) ((w.alloc (.cells #[.int .i64 (a : Int), .int .u8 (c.toNat : Int)] 164)).drewN nq) := fun nq => by
      have := MapIs.look (w := (w.alloc (.cells #[.int .i64 (a : Int), .int .u8 (c.toNat : Int)] 164)).drewN nq) (hmap.out.below (below_drewN ((Below.refl _ _).alloc (Nat.le_refl _) _) nq)) edge_law Tryz.underlying131 Tryz.underlying3 (zero_int _) hkey.out
      rw [hat.out] at this
      exact this
    obtain ⟨A, cp, rfl, hcp⟩ := own_slice hown.out
    have hmq0 := As.mk hPa
    clear hPa
    go_enter Tryz.func61, Tryz.ntmps61
    go_wp2
    go_quiet (fail)
    clear hlk
    go_wp2
    have hbel1 : Below w.heap.size w ((w.alloc (.cells #[.int .i64 (a : Int), .int .u8 (c.toNat : Int)] 164)).drewN nq) := below_drewN ((Below.refl _ _).alloc (Nat.le_refl _) _) nq
    have hg1 := As.mk ((hbel1.block g hlt).trans hg.out)
    have hown1 := As.mk (own_below hown.out hbel1)
    have hmap1 := As.mk (hmap.out.below hbel1)
    have hlt1 : g < ((w.alloc (.cells #[.int .i64 (a : Int), .int .u8 (c.toNat : Int)] 164)).drewN nq).heap.size := block_lt hg1.out
    have hed1 : ((w.alloc (.cells #[.int .i64 (a : Int), .int .u8 (c.toNat : Int)] 164)).drewN nq).heap[w.heap.size]? = some (.cells #[.int .i64 (a : Int), .int .u8 (c.toNat : Int)] 164 (0, 0)) := heap_alloc_new w _
    have hed1 := As.mk hed1
    have hbb1 := As.mk (hbel1.mono (show base ≤ w.heap.size by omega))
    clear hbel1 hg hown hmap c0 c1 hlt
    generalize (w.alloc (.cells #[.int .i64 (a : Int), .int .u8 (c.toNat : Int)] 164)).drewN nq = w1 at *
    generalize w.heap.size = eb at *
    have c0 : w1.cell? ⟨g, 0, none⟩ = some (.slice A P.length cp) := cell_of_blk hg1.out 0
    have c1 : w1.cell? ⟨g, 1, none⟩ = some (.map (some mb)) := cell_of_blk hg1.out 1
    have d0 : w1.cell? ⟨eb, 0, none⟩ = some (.int .i64 (a : Int)) := cell_of_blk hed1.out 0
    have d1 : w1.cell? ⟨eb, 1, none⟩ = some (.int .u8 (c.toNat : Int)) := cell_of_blk hed1.out 1
    obtain ⟨w2, hrun, hmap2, hgr2⟩ := MapIs.put (w := w1.drew) (f' := edgeF (P ++ [pa ++ [c]])) (hmap1.out.below ((Below.refl _ _).drew)) edge_law Tryz.underlying131 Tryz.underlying3 (by simp only [maxLen]; omega) hkey.out (v := (P.length : Int)) (by simp [Lit.wf, IntKind.min, IntKind.max, IntKind.signed, IntKind.bits]; omega) (hfn.out hq) (hfo.out hq)
    have hmap2 := As.mk hmap2
    have hgr2 := As.mk hgr2
    go_region
    have hne1 : g ≠ mb := fun h => by
      subst h
      obtain ⟨es, cl, hm⟩ := hmap1.out.is_map
      have hx := hg1.out
      rw [hm] at hx
      cases hx
    have hg2 := As.mk ((hgr2.out.block g (by simpa using hlt1) (by simpa using hne1)).trans hg1.out)
    have hown2 : As (w2.ownsRow base 129 4 (.slice A P.length cp) P.length (nodeCells P W)) := ⟨own_keep (w := w1.drew) hown1.out (Keeps.of_grown hgr2.out) (fun b c' hb hh _ hS => by
      obtain ⟨es, cl, hm⟩ := hmap1.out.is_map
      injection hS with hS
      subst hS
      have hh' : w1.heap[b]? = _ := hh
      rw [hm] at hh'
      cases hh')⟩
    have hb2 : As (Below base w1 w2) := ⟨((Below.refl base w1).drew).grown hgr2.out (by have := hbg; have := hlt1; simp; omega) (fun k hk => by injection hk with hk; omega)⟩
    have hsz2 := hb2.out.size
    have hlt2 : g < w2.heap.size := block_lt hg2.out
    have c0' : w2.cell? ⟨g, 0, none⟩ = some (.slice A P.length cp) := cell_of_blk hg2.out 0
    have c1' : w2.cell? ⟨g, 1, none⟩ = some (.map (some mb)) := cell_of_blk hg2.out 1
    have f0' := free_of_blk hg2.out 0
    clear c0 c1 d0 d1 hrun
    obtain ⟨ad, rfl, hdep⟩ := Row.at_ (Row.of_own hown2.out) (j := a * 4 + 1) (by rw [nodeCells_length]; omega)
    have hdep1 : (nodeCells P W)[a * 4 + 1]'(by rw [nodeCells_length]; omega) = .int .i64 (pa.length : Int) := by
      have := nodeCells_at P W hmq0.out 1 (by omega)
      rw [List.getElem?_eq_getElem (by rw [nodeCells_length]; omega)] at this
      simpa [tnode] using this
    rw [hdep1, Addr.add_field _ _ _ (by omega)] at hdep
    clear hdep1
    go_wp2
    have hneg := own_not_type hown2.out hg2.out (by decide)
    obtain ⟨es2, cl2, hm2⟩ := hmap2.out.is_map
    have hneb := As.mk (own_not_map hown2.out hm2)
    have hm2 := As.mk hm2
    have hneg := As.mk hneg
    obtain ⟨i0, hi0, hz0, hz1, hz2⟩ := info_parts info_node
    have hmq := As.mk hmq0.out
    have hq := As.mk hq
    have hW := As.mk hW
    clear hkey hat hmap1 hg1 hown1 hed1 hgr2 hfn hfo
    have hwr : IntKind.i64.wrap ((pa.length : Int) + 1) = (pa.length : Int) + 1 := IntWalk.i64_in _ (by omega)
    have hbs2 : base ≤ w2.heap.size := by have := hbg; omega
    go_region_law (first
      | (refine step_append_lies (w2.drew.alloc (.cells #[.int .i64 (a : Int), .int .i64 ((pa.length : Int) + 1), .int .i64 (-1), .int .u8 (c.toNat : Int)] 129)) rfl (.tmp 40) (.tmp 53) 130 rfl base 129 i0 _ 4 32 Tryz.underlying130 hi0 hz0 hz1 hz2 rfl (by decide) (.slice (some ad) P.length cp) P.length (nodeCells P W) (by simp [Act.eval, Act.put]) (hown2.out.drew.alloc _) ⟨w2.heap.size, 0, none⟩ 1 1 [.int .i64 (a : Int), .int .i64 ((pa.length : Int) + 1), .int .i64 (-1), .int .u8 (c.toNat : Int)] (by simp [Act.eval, Act.put]) rfl (World.news_of_block (heap_alloc_new w2.drew _)) (by simp [Value.oneCell']) (by omega) (by simp only [maxLen]; omega) (by omega) (by simp; omega) (w2.heap.size + 1) (by simp) ?_
         intro g3 cap3 w3 ho3 hgr3 hloc3 hlt3
         have hbg3 := hgr3.block g (by simp; omega) hneg.out
         have hg3 := As.mk (hbg3.trans (blk_old hg2.out))
         have e0 : w3.cell? ⟨g, 0, none⟩ = some (.slice (some ad) P.length cp) := cell_of_blk hg3.out 0
         have ef0 := free_of_blk hg3.out 0))
    all_goals
      go_wp2
      go_ret
      have hk3 : Keeps (fun k => some k = (Value.slice (some ad) P.length cp).ownBlock) w2 w3 := (Keeps.of_below (((Below.refl _ _).drew).alloc (by simp) _) _).trans ((Keeps.of_grown hgr3).mono (fun _ _ h => h))
      have hmap3 := hmap2.out.keep hk3 hneb.out
      have hmb3 := hmap3.is_map
      have hmg : ¬ mb = g := fun h => by
        obtain ⟨es, cl, hm⟩ := hmb3
        have hx := hg3.out
        rw [← h, hm] at hx; cases hx
      refine ⟨rfl, ⟨_, mb, blk_set hg3.out 0 _, hbg, hbm, ?_, ?_, ?_⟩, ?_⟩
      · have hlen : (P ++ [pa ++ [c]]).length = P.length + 1 := by simp
        rw [hlen, nodeCells_put hT.out]
        have hq' : tnode (P ++ [pa ++ [c]]) W (pa ++ [c]) = [.int .i64 (a : Int), .int .i64 ((pa.length : Int) + 1), .int .i64 (-1), .int .u8 (c.toNat : Int)] := by
          have hpl : place (P ++ [pa ++ [c]]) pa = (a : Int) := by
            rw [place_append (List.mem_of_getElem? hmq.out), place_at hT.out.nodup hmq.out]
          unfold tnode parent lastB
          rw [if_neg (by simp), List.dropLast_concat, hpl, hW.out]
          simp
        rw [hq']
        exact own_keep ho3 (keeps_set w3 ⟨g, 0, none⟩ _) (fun b c' _ hh hb hS => own_not_type ho3 hg3.out (by decide) ((show b = g from hS) ▸ hb))
      · have hlen : (P ++ [pa ++ [c]]).length = P.length + 1 := by simp
        rw [hlen]
        exact hmap3.keep (keeps_set w3 ⟨g, 0, none⟩ _) hmg
      · have := hT.out.put (p := pa ++ [c]) (by simp) (by rw [List.dropLast_concat]; exact List.mem_of_getElem? hmq.out)
        unfold addPath at this
        rw [if_neg hq.out] at this
        exact this
      · refine Below.setCell ((hbb1.out.trans hb2.out).trans ?_) (by exact hbg) _
        refine (((Below.refl base w2).drew).alloc (by simpa using hbs2) _).grown hgr3 (by simp; omega) (fun k hk => ?_)
        exact (own_blk hown2.out hk.symm).1
end Go.Proofs.YtdiljmhikajjiaaGreat
end
section
namespace Go.Proofs.YtdiljmhikajjiaaGreat
open Go.RowKit Go.Maps Seine.Trie
attribute [local go_sem] max2_i min2_i max_two' min_two'
theorem TrieAt.below {w w' : World} {base g : Nat} {P : List Txt} {W : Txt → Int} (h : TrieAt w base g P W) (hb : Below w.heap.size w w') : TrieAt w' base g P W := by
  obtain ⟨v, mb, hg, h1, h2, ho, hm, hT⟩ := h
  exact ⟨v, mb, (hb.block g (block_lt hg)).trans hg, h1, h2, own_below ho hb, hm.below hb, hT⟩
theorem TrieAt.tree {w : World} {base g : Nat} {P : List Txt} {W : Txt → Int} (h : TrieAt w base g P W) : Tree P := by obtain ⟨v, mb, hg, h1, h2, ho, hm, hT⟩ := h; exact hT
theorem TrieAt.read {w : World} {base g : Nat} {P : List Txt} {W : Txt → Int} (h : TrieAt w base g P W) : ∃ ad cp mb, w.cell? ⟨g, 0, none⟩ = some (.slice (some ad) P.length cp) ∧ w.cell? ⟨g, 1, none⟩ = some (.map (some mb)) ∧ P.length ≤ cp ∧
    MapIs Tryz.prog 164 3 w mb P.length (edgeF P) ∧
    As (∀ i p, P[i]? = some p → w.cell? (ad.add (i * 4)) = some (.int .i64 (parent P p)) ∧ w.cell? ⟨(ad.add (i * 4)).block, (ad.add (i * 4)).off + 1, none⟩ = some (.int .i64 p.length) ∧
      w.cell? ⟨(ad.add (i * 4)).block, (ad.add (i * 4)).off + 2, none⟩ = some (.int .i64 (W p)) ∧ w.cell? ⟨(ad.add (i * 4)).block, (ad.add (i * 4)).off + 3, none⟩ = some (.int .u8 ((lastB p).toNat : Int))) := by
  obtain ⟨v, mb, hg, h1, h2, ho, hm, hT⟩ := h
  obtain ⟨A, cp, rfl, hcp⟩ := own_slice ho
  have hr := Row.of_own ho
  have hl := hT.len
  obtain ⟨ad, rfl, _⟩ := hr.at_ (j := 0) (by rw [nodeCells_length]; omega)
  refine ⟨ad, cp, mb, cell_of_blk hg 0, cell_of_blk hg 1, hcp, hm, ⟨fun i p hi => ?_⟩⟩
  have hil : i < P.length := (List.getElem?_eq_some_iff.1 hi).1
  have key : ∀ j, j < 4 → ∀ u, (tnode P W p)[j]? = some u → w.cell? (ad.add (i * 4 + j)) = some u := by
    intro j hj u hu
    obtain ⟨ad', e, hc⟩ := hr.at_ (j := i * 4 + j) (by rw [nodeCells_length]; omega)
    injection e with e
    subst e
    have := nodeCells_at P W hi j hj
    rw [List.getElem?_eq_getElem (by rw [nodeCells_length]; omega), hu] at this
    injection this with this
    rw [hc, this]
  exact ⟨key 0 (by omega) _ rfl, by rw [← Addr.add_field _ _ _ (by omega)]; exact key 1 (by omega) _ rfl, by rw [← Addr.add_field _ _ _ (by omega)]; exact key 2 (by omega) _ rfl, by rw [← Addr.add_field _ _ _ (by omega)]; exact key 3 (by omega) _ rfl⟩
section
variable (w : World) (base g : Nat) (P : List Txt) (W : Txt → Int)
theorem nodes_calls (ht : TrieAt w base g P W) : Calls Tryz.prog 43 #[.pointer (some ⟨g, 0, none⟩)] w fun e w' => e = .returned (.int .i64 (P.length : Int)) ∧ w = w' := by
  obtain ⟨ad, cp, mb, c0, c1, hcp, _, _⟩ := ht.read
  go_enter Tryz.func43, Tryz.ntmps43
  go_wp2
  go_ret
  exact ⟨rfl, rfl⟩
theorem is_calls (ht : TrieAt w base g P W) (n : Int) (b : Bool) (hb : b = true ↔ 0 ≤ n ∧ n < P.length) : Calls Tryz.prog 66 #[.pointer (some ⟨g, 0, none⟩), .int .i64 n] w fun e w' => e = .returned (.bool b) ∧ w = w' := by
  have hc := As.mk (nodes_calls w base g P W ht)
  by_cases h0 : 0 ≤ n
  · have h0b : decide (0 ≤ n) = true := decide_eq_true h0
    by_cases h1 : n < P.length
    · obtain rfl : b = true := hb.2 ⟨h0, h1⟩
      clear hb
      go_enter Tryz.func66, Tryz.ntmps66
      go_wp2_with (go_at_call 43; refine hc.out.mono ?_; rintro e w' ⟨rfl, rfl⟩)
      go_ret
      exact ⟨rfl, rfl⟩
    · obtain rfl : b = false := by cases b with
        | false => rfl
        | true => exact absurd (hb.1 rfl).2 h1
      clear hb
      have h1b : decide (n < (P.length : Int)) = false := decide_eq_false h1
      go_enter Tryz.func66, Tryz.ntmps66
      go_wp2_with (go_at_call 43; refine hc.out.mono ?_; rintro e w' ⟨rfl, rfl⟩)
      go_ret
      exact ⟨rfl, rfl⟩
  · obtain rfl : b = false := by cases b with
      | false => rfl
      | true => exact absurd (hb.1 rfl).1 h0
    clear hb
    have h0b : decide (0 ≤ n) = false := decide_eq_false h0
    go_enter Tryz.func66, Tryz.ntmps66
    go_wp2
    go_ret
    exact ⟨rfl, rfl⟩
/-- where a byte leads -/
def stepF (P : List Txt) (n : Int) (c : UInt8) : Int := if 0 ≤ n ∧ n < P.length then place P (P.getD n.toNat [] ++ [c]) else -1
theorem step_calls (ht : TrieAt w base g P W) (hl : P.length ≤ 1000000) (n x : Int) (c : UInt8) (hx : x = (c.toNat : Int)) : Calls Tryz.prog 64 #[.pointer (some ⟨g, 0, none⟩), .int .i64 n, .int .u8 x] w fun e w' => e = .returned (.int .i64 (stepF P n c)) ∧ w = w' := by
  subst hx
  by_cases hn : 0 ≤ n ∧ n < P.length
  · have hc := As.mk (is_calls w base g P W ht n true (by simp [hn]))
    obtain ⟨ad, cp, mb, c0, c1, hcp, hm, _⟩ := ht.read
    obtain ⟨a, rfl⟩ := Int.eq_ofNat_of_zero_le hn.1
    obtain ⟨kl, hkey⟩ := edge_key (a : Int) c (by omega) (by omega)
    have hlk := MapIs.look hm edge_law Tryz.underlying131 Tryz.underlying3 (zero_int _) hkey
    have hS : As (stepF P (a : Int) c = place P (P.getD a [] ++ [c])) := ⟨by unfold stepF; rw [if_pos hn, Int.toNat_natCast]⟩
    rw [hS.out]
    rw [edgeF_at P a c (by omega)] at hlk
    by_cases hq : P.getD a [] ++ [c] ∈ P
    · rw [if_pos hq] at hlk
      have hlk : (Instr.lookup 131 (.map (some mb)) (.agg #[.int .i64 (a : Int), .int .u8 (c.toNat : Int)]) true).run Tryz.prog w = .ok (.tuple #[.int .i64 (place P (P.getD a [] ++ [c])), .bool true]) w := hlk
      generalize place P (P.getD a [] ++ [c]) = r at *
      clear hq hn hm hkey
      go_enter Tryz.func64, Tryz.ntmps64
      go_wp2_with (go_at_call 66; refine hc.out.mono ?_; rintro e w' ⟨rfl, rfl⟩)
      go_ret
      exact ⟨rfl, rfl⟩
    · rw [if_neg hq] at hlk
      rw [place_none hq]
      have hlk : (Instr.lookup 131 (.map (some mb)) (.agg #[.int .i64 (a : Int), .int .u8 (c.toNat : Int)]) true).run Tryz.prog w = .ok (.tuple #[.int .i64 0, .bool false]) w := hlk
      clear hq hn hm hkey
      go_enter Tryz.func64, Tryz.ntmps64
      go_wp2_with (go_at_call 66; refine hc.out.mono ?_; rintro e w' ⟨rfl, rfl⟩)
      go_ret
      exact ⟨rfl, rfl⟩
  · have hc := As.mk (is_calls w base g P W ht n false (by simp only [Bool.false_eq_true, false_iff]; exact hn))
    have hS : stepF P n c = -1 := if_neg hn
    rw [hS]
    clear hS hn
    go_enter Tryz.func64, Tryz.ntmps64
    go_wp2_with (go_at_call 66; refine hc.out.mono ?_; rintro e w' ⟨rfl, rfl⟩)
    go_ret
    exact ⟨rfl, rfl⟩
/-- what a node tells, or a number that is none -/
def askF (P : List Txt) (f : Txt → Int) (d n : Int) : Int := if 0 ≤ n ∧ n < P.length then f (P.getD n.toNat []) else d
theorem get_at {P : List Txt} {a : Nat} (h : a < P.length) : P[a]? = some (P.getD a []) := by simp [List.getD_eq_getElem?_getD, h]
theorem word_calls (ht : TrieAt w base g P W) (n : Int) : Calls Tryz.prog 88 #[.pointer (some ⟨g, 0, none⟩), .int .i64 n] w fun e w' => e = .returned (.int .i64 (askF P W (-1) n)) ∧ w = w' := by
  by_cases hn : 0 ≤ n ∧ n < P.length
  · have hc := As.mk (is_calls w base g P W ht n true (by simp [hn]))
    obtain ⟨ad, cp, mb, c0, c1, hcp, _, hcell⟩ := ht.read
    obtain ⟨a, rfl⟩ := Int.eq_ofNat_of_zero_le hn.1
    have hal : a < P.length := by omega
    obtain ⟨d0, d1, d2, d3⟩ := hcell.out a _ (get_at hal)
    have hS : askF P W (-1) (a : Int) = W (P.getD a []) := by unfold askF; rw [if_pos hn, Int.toNat_natCast]
    rw [hS]
    clear hS hn
    generalize W (P.getD a []) = r at *
    go_enter Tryz.func88, Tryz.ntmps88
    go_wp2_with (go_at_call 66; refine hc.out.mono ?_; rintro e w' ⟨rfl, rfl⟩)
    go_ret
    exact ⟨rfl, rfl⟩
  · have hc := As.mk (is_calls w base g P W ht n false (by simp only [Bool.false_eq_true, false_iff]; exact hn))
    have hS : askF P W (-1) n = -1 := if_neg hn
    rw [hS]
    clear hS hn
    go_enter Tryz.func88, Tryz.ntmps88
    go_wp2_with (go_at_call 66; refine hc.out.mono ?_; rintro e w' ⟨rfl, rfl⟩)
    go_ret
    exact ⟨rfl, rfl⟩
theorem depth_calls (ht : TrieAt w base g P W) (n : Int) : Calls Tryz.prog 97 #[.pointer (some ⟨g, 0, none⟩), .int .i64 n] w fun e w' => e = .returned (.int .i64 (askF P (fun p => p.length) 0 n)) ∧ w = w' := by
  by_cases hn : 0 ≤ n ∧ n < P.length
  · have hc := As.mk (is_calls w base g P W ht n true (by simp [hn]))
    obtain ⟨ad, cp, mb, c0, c1, hcp, _, hcell⟩ := ht.read
    obtain ⟨a, rfl⟩ := Int.eq_ofNat_of_zero_le hn.1
    have hal : a < P.length := by omega
    obtain ⟨d0, d1, d2, d3⟩ := hcell.out a _ (get_at hal)
    have hS : askF P (fun p => p.length) 0 (a : Int) = ((P.getD a []).length : Int) := by unfold askF; rw [if_pos hn, Int.toNat_natCast]
    rw [hS]
    clear hS hn d0 d2 d3
    generalize P.getD a [] = r at *
    go_enter Tryz.func97, Tryz.ntmps97
    go_wp2_with (go_at_call 66; refine hc.out.mono ?_; rintro e w' ⟨rfl, rfl⟩)
    go_ret
    exact ⟨rfl, rfl⟩
  · have hc := As.mk (is_calls w base g P W ht n false (by simp only [Bool.false_eq_true, false_iff]; exact hn))
    have hS : askF P (fun p => p.length) 0 n = 0 := if_neg hn
    rw [hS]
    clear hS hn
    go_enter Tryz.func97, Tryz.ntmps97
    go_wp2_with (go_at_call 66; refine hc.out.mono ?_; rintro e w' ⟨rfl, rfl⟩)
    go_ret
    exact ⟨rfl, rfl⟩
theorem parent_calls (ht : TrieAt w base g P W) (n : Int) : Calls Tryz.prog 45 #[.pointer (some ⟨g, 0, none⟩), .int .i64 n] w fun e w' => e = .returned (.int .i64 (askF P (parent P) (-1) n)) ∧ w = w' := by
  by_cases hn : 0 ≤ n ∧ n < P.length
  · have hc := As.mk (is_calls w base g P W ht n true (by simp [hn]))
    obtain ⟨ad, cp, mb, c0, c1, hcp, _, hcell⟩ := ht.read
    obtain ⟨a, rfl⟩ := Int.eq_ofNat_of_zero_le hn.1
    have hal : a < P.length := by omega
    obtain ⟨d0, d1, d2, d3⟩ := hcell.out a _ (get_at hal)
    have hS : askF P (parent P) (-1) (a : Int) = parent P (P.getD a []) := by unfold askF; rw [if_pos hn, Int.toNat_natCast]
    rw [hS]
    clear hS hn
    generalize parent P (P.getD a []) = r at *
    go_enter Tryz.func45, Tryz.ntmps45
    go_wp2_with (go_at_call 66; refine hc.out.mono ?_; rintro e w' ⟨rfl, rfl⟩)
    go_ret
    exact ⟨rfl, rfl⟩
  · have hc := As.mk (is_calls w base g P W ht n false (by simp only [Bool.false_eq_true, false_iff]; exact hn))
    have hS : askF P (parent P) (-1) n = -1 := if_neg hn
    rw [hS]
    clear hS hn
    go_enter Tryz.func45, Tryz.ntmps45
    go_wp2_with (go_at_call 66; refine hc.out.mono ?_; rintro e w' ⟨rfl, rfl⟩)
    go_ret
    exact ⟨rfl, rfl⟩
end
end Go.Proofs.YtdiljmhikajjiaaGreat
end
section
namespace Go.Proofs.YtdiljmhikajjiaaGreat
open Go.RowKit Seine.Trie
def byCells (b : Txt) : List Value := b.map fun c => .int .u8 (c.toNat : Int)
theorem byCells_length (b : Txt) : (byCells b).length = b.length := by simp [byCells]
theorem byCells_snoc (b : Txt) (c : UInt8) : byCells (b ++ [c]) = byCells b ++ [.int .u8 (c.toNat : Int)] := by simp [byCells]
/-- A slice of bytes. -/
abbrev Byt (w : World) (A : Option Addr) (b : Txt) : Prop := Row w A (byCells b)
abbrev OwnByt (w : World) (base : Nat) (v : Value) (b : Txt) : Prop := w.ownsRow base 5 1 v b.length (byCells b)
theorem Byt.at_ {w : World} {A : Option Addr} {b : Txt} (h : Byt w A b) {i : Nat} (hi : i < b.length) : ∃ ad, A = some ad ∧ w.cell? (ad.add i) = some (.int .u8 ((b.getD i 0).toNat : Int)) := by
  obtain ⟨ad, h1, h2⟩ := Row.at_ h (j := i) (by rw [byCells_length]; exact hi)
  exact ⟨ad, h1, by rw [h2]; simp [byCells, hi]⟩
theorem info_u8 : (Tryz.prog.info? 5).map (fun i => (i.zero, i.size, i.bytes)) = some (some (.int .u8 0), 1, 1) := by kernel_rfl
theorem ownByt_snoc {w : World} {base : Nat} {v : Value} {b : Txt} {c : UInt8} (h : w.ownsRow base 5 1 v (b.length + 1) (byCells b ++ [.int .u8 (c.toNat : Int)])) : OwnByt w base v (b ++ [c]) := by
  have h1 : (b ++ [c]).length = b.length + 1 := by simp
  unfold OwnByt; rw [h1, byCells_snoc]; exact h
theorem OwnByt.row {w : World} {base : Nat} {v : Value} {b : Txt} (h : OwnByt w base v b) : ∃ A c, v = .slice A b.length c ∧ b.length ≤ c ∧ Byt w A b := by
  obtain ⟨A, c, rfl, hc⟩ := own_slice h
  exact ⟨A, c, rfl, hc, Row.of_own h⟩
theorem byt_one2 {b : Txt} : ∀ u ∈ byCells b, u.oneCell' = true := fun u hu => by
  obtain ⟨x, _, rfl⟩ := List.mem_map.1 hu; rfl
/-- Bytes in new memory. -/
def RetByt (w : World) (b : Txt) (e : Ending) (w' : World) : Prop := ∃ v, e = .returned v ∧ OwnByt w' w.heap.size v b ∧ Below w.heap.size w w'
theorem RetByt.open_ {w w' : World} {b : Txt} {e : Ending} (h : RetByt w b e w') : ∃ v, e = .returned v ∧ OwnByt w' w.heap.size v b ∧ Below w.heap.size w w' := h
theorem RetByt.row {w w' : World} {b : Txt} {e : Ending} (h : RetByt w b e w') : ∃ A c, e = .returned (.slice A b.length c) ∧ Byt w' A b ∧ Below w.heap.size w w' := by
  obtain ⟨v, rfl, ho, hb⟩ := h
  obtain ⟨A, c, rfl, _, hr⟩ := ho.row
  exact ⟨A, c, rfl, hr, hb⟩
theorem RetByt.rowc {w w' : World} {b : Txt} {e : Ending} (h : RetByt w b e w') : ∃ A c, e = .returned (.slice A b.length c) ∧ b.length ≤ c ∧ Byt w' A b ∧ Below w.heap.size w w' := by
  obtain ⟨v, rfl, ho, hb⟩ := h
  obtain ⟨A, c, rfl, hc, hr⟩ := ho.row
  exact ⟨A, c, rfl, hc, hr, hb⟩
theorem litByt {w : World} {b : Nat} (l : Txt) (cs : List Value) (hcs : cs = byCells l) {t : Nat} {fr : Nat × Nat} (h : w.heap[b]? = some (.cells cs.toArray t fr)) : Byt w (some ⟨b, 0, none⟩) l := by
  subst hcs; exact rowOfBlk h
theorem Byt.none0 (w : World) : Byt w none [] := .inl rfl
/-- the bytes, of which k are exchanged from each end -/
def revK (b : Txt) (k : Nat) : Txt := (List.range b.length).map fun j => if j < k ∨ b.length - 1 - j < k then b.getD (b.length - 1 - j) 0 else b.getD j 0
theorem revK_length (b : Txt) (k : Nat) : (revK b k).length = b.length := by simp [revK]
theorem revK_get (b : Txt) (k j : Nat) (h : j < b.length) : (revK b k).getD j 0 = if j < k ∨ b.length - 1 - j < k then b.getD (b.length - 1 - j) 0 else b.getD j 0 := by
  simp [revK, List.getD_eq_getElem?_getD, h]
theorem txt_ext {a b : Txt} (hl : a.length = b.length) (h : ∀ j, j < a.length → a.getD j 0 = b.getD j 0) : a = b := by
  apply List.ext_getElem hl
  intro j h1 h2
  have := h j h1
  simpa [List.getD_eq_getElem?_getD, h1, h2] using this
theorem revK_zero (b : Txt) : revK b 0 = b := by
  apply txt_ext (revK_length b 0)
  intro j hj
  rw [revK_length] at hj
  rw [revK_get b 0 j hj, if_neg (by omega)]
theorem revK_done (b : Txt) (k : Nat) (h : b.length ≤ 2 * k + 1) : revK b k = b.reverse := by
  apply txt_ext (by rw [revK_length]; simp)
  intro j hj
  rw [revK_length] at hj
  rw [revK_get b k j hj]
  have hr : b.reverse.getD j 0 = b.getD (b.length - 1 - j) 0 := by
    rw [List.getD_eq_getElem?_getD, List.getElem?_reverse hj, ← List.getD_eq_getElem?_getD]
  rw [hr]
  split
  · rfl
  · have : b.length - 1 - j = j := by omega
    rw [this]
theorem revK_next (b : Txt) (k : Nat) (h : 2 * k + 1 < b.length) : ((revK b k).set k ((revK b k).getD (b.length - 1 - k) 0)).set (b.length - 1 - k) ((revK b k).getD k 0) = revK b (k + 1) := by
  apply txt_ext (by simp [revK_length])
  intro j hj
  have hj : j < b.length := by simpa [revK_length] using hj
  have hset : ∀ (l : Txt) (i j : Nat) (x : UInt8), j < l.length → (l.set i x).getD j 0 = if i = j then x else l.getD j 0 := by
    intro l i j x hl
    simp only [List.getD_eq_getElem?_getD, List.getElem?_set]
    split <;> simp_all
  rw [hset _ _ _ _ (by simpa [revK_length] using hj), hset _ _ _ _ (by simpa [revK_length] using hj), revK_get b k k (by omega), revK_get b k _ (by omega), revK_get b k j hj, revK_get b (k + 1) j hj]
  by_cases h1 : b.length - 1 - k = j
  · rw [if_pos h1, if_neg (by omega), if_pos (by omega)]
    congr 1; omega
  · rw [if_neg h1]
    by_cases h2 : k = j
    · rw [if_pos h2, if_neg (by omega), if_pos (by omega)]
      congr 1; omega
    · rw [if_neg h2]
      by_cases h3 : j < k ∨ b.length - 1 - j < k
      · rw [if_pos h3, if_pos (by omega)]
      · rw [if_neg h3, if_neg (by omega)]
theorem byCells_set (b : Txt) (i : Nat) (c : UInt8) : (byCells b).set i (.int .u8 (c.toNat : Int)) = byCells (b.set i c) := by simp [byCells, List.map_set]
set_option maxHeartbeats 1600000 in
theorem reverse_calls (w : World) (base : Nat) (v : Value) (b : Txt) (ho : OwnByt w base v b) (hl : b.length ≤ 1000000) :
    Calls Tryz.prog 67 #[v] w fun e w' => e = .returned (.tuple #[]) ∧ OwnByt w' base v b.reverse ∧ Keeps (fun k => some k = v.ownBlock) w w' := by
  rcases Nat.eq_zero_or_pos b.length with h0 | h0
  · have hb : b = [] := List.eq_nil_of_length_eq_zero h0
    subst hb
    obtain ⟨A, c, rfl, hc⟩ := own_slice ho
    have ho := As.mk ho
    go_enter Tryz.func67, Tryz.ntmps67
    go_wp2
    refine wp_loop_rounds 1 ?_
    rw [rounds_succ]
    go_wp2
    go_end0
    exact ⟨rfl, ho.out, Keeps.refl _ _⟩
  · obtain ⟨g, cap, rfl, hg, hcap⟩ : ∃ g cap, v = .slice (some ⟨g, 0, none⟩) b.length cap ∧ base ≤ g ∧ b.length ≤ cap := by
      rcases ho.2 with ⟨_, h⟩ | ⟨g, cap, cur, hv, hg, hh, hnc, _⟩
      · omega
      · exact ⟨g, cap, hv, hg, hnc⟩
    have hR0 := As.mk (revK_zero b)
    have ho := As.mk ho
    have hdone := As.mk (fun k h => revK_done b k h)
    have hnext := As.mk (fun k h => revK_next b k h)
    obtain ⟨n, hn⟩ : ∃ n, b.length = n := ⟨_, rfl⟩
    have hrl := As.mk (fun k => (revK_length b k).trans hn)
    have ho1 : As (OwnByt w base (.slice (some ⟨g, 0, none⟩) n cap) (revK b 0)) := ⟨by rw [hR0.out, ← hn]; exact ho.out⟩
    rw [hn] at h0 hcap hl hdone hnext
    rw [hn]
    clear ho hR0 hn
    go_enter Tryz.func67, Tryz.ntmps67
    go_wp2
    go_loopw [2, 3] (fun vi vj wr => ∃ k : Nat, vi = .int .i64 k ∧ vj = .int .i64 ((n : Int) - 1 - k) ∧ 2 * k ≤ n ∧ As (OwnByt wr base (.slice (some ⟨g, 0, none⟩) n cap) (revK b k)) ∧ As (Keeps (fun k => some k = some g) w wr)) (fun vi _ _ => n - (intOf vi).toNat)
    case atStart => exact ⟨0, rfl, by go_num, by omega, ho1, ⟨Keeps.refl _ _⟩⟩
    case round =>
      obtain ⟨k, rfl, rfl, hk, hown, hkeep⟩ := hrel
      have hl2 := hrl.out k
      have hown' : wr.ownsRow base 5 1 (.slice (some ⟨g, 0, none⟩) n cap) n (byCells (revK b k)) := by
        have := hown.out; unfold OwnByt at this; rw [hl2] at this; exact this
      by_cases hlt : 2 * k + 1 < n
      · have hcell : ∀ j, j < n → wr.cell? ⟨g, j, none⟩ = some (.int .u8 (((revK b k).getD j 0).toNat : Int)) := fun j hj => by
          rw [World.ownsRow.cellAt hown' j (by omega)]
          simp [byCells, List.getD_eq_getElem?_getD, hl2, hj]
        have hnx := As.mk (hnext.out k hlt)
        obtain ⟨m, hm⟩ : ∃ m : Nat, n - 1 - k = m := ⟨_, rfl⟩
        have c0 := hcell k (by omega)
        have c1 := hcell m (by omega)
        have f0 := World.ownsRow.frozenAt hown' k
        have f1 := World.ownsRow.frozenAt hown' m
        have hmi : ((n : Int) - 1 - (k : Int)) = (m : Int) := by omega
        rw [hmi]
        have hm1 : m < n := by omega
        have hm2 : k < m := by omega
        rw [hm] at hnx
        have hm3 : n = m + k + 1 := by omega
        have hm3 := As.mk hm3
        clear hcell hm hmi
        generalize (revK b k).getD k 0 = x at *
        generalize (revK b k).getD m 0 = y at *
        go_wp2
        go_region
        all_goals
          go_wp2
          go_roundw
          case rel =>
            have s1 := World.ownsRow.stored hown' k (.int .u8 (y.toNat : Int))
            have s2 := World.ownsRow.stored s1.1 m (.int .u8 (x.toNat : Int))
            have hkk : Keeps (fun k => some k = some g) wr ((wr.setCell ⟨g, k, none⟩ (.int .u8 (y.toNat : Int))).setCell ⟨g, m, none⟩ (.int .u8 (x.toNat : Int))) := (Keeps.of_grown s1.2).trans (Keeps.of_grown s2.2)
            have hl3 := hrl.out (k + 1)
            refine ⟨k + 1, by go_num, ?_, by omega, ⟨?_⟩, ⟨(hkeep.out.trans hkk).drew⟩⟩
            · have := hm3.out; go_num
            · unfold OwnByt
              rw [hl3, ← hnx.out, ← byCells_set, ← byCells_set]
              exact s2.1.drew
          case measure => simp [intOf]; omega
      · have hfin := hdone.out k (by omega)
        rw [hfin] at hown
        go_wp2
        go_end0
        refine ⟨rfl, ?_, hkeep.out⟩
        exact hown.out
end Go.Proofs.YtdiljmhikajjiaaGreat
end
section
namespace Go.Proofs.YtdiljmhikajjiaaGreat
open Go.RowKit Go.Maps Seine.Trie
attribute [local go_sem] max2_i min2_i max_two' min_two'
/-- It answers these bytes, in new memory. -/
def pathF (P : List Txt) (n : Int) : Txt := if 0 ≤ n ∧ n < P.length then P.getD n.toNat [] else []
theorem below_next' {w a b : World} (h : Below w.heap.size w a) (k : Below a.heap.size a b) : Below w.heap.size w b := h.trans (k.mono h.size)
theorem last_split {q : Txt} (h : q ≠ []) : q.dropLast ++ [lastB q] = q := by
  unfold lastB
  have := List.dropLast_concat_getLast h
  rw [List.getLast?_eq_some_getLast h]
  exact this
set_option maxRecDepth 100000 in
set_option maxHeartbeats 1600000 in
theorem path_calls (w : World) (base g : Nat) (P : List Txt) (W : Txt → Int) (ht : TrieAt w base g P W) (n : Int) (hd : ∀ p ∈ P, p.length ≤ 100000) :
    Calls Tryz.prog 44 #[.pointer (some ⟨g, 0, none⟩), .int .i64 n] w (RetByt w (pathF P n)) := by
  have hT := ht.tree
  have HT := As.mk ht
  by_cases hn : 0 ≤ n ∧ n < P.length
  · obtain ⟨a, rfl⟩ := Int.eq_ofNat_of_zero_le hn.1
    have hal : a < P.length := by omega
    obtain ⟨R, hR⟩ : ∃ R, pathF P (a : Int) = R := ⟨_, rfl⟩
    have hRa : P[a]? = some R := by rw [← hR]; unfold pathF; rw [if_pos hn, Int.toNat_natCast]; exact get_at hal
    rw [hR]
    have hRa := As.mk hRa
    have hd := As.mk hd
    have hT := As.mk hT
    clear hR hn
    go_enter Tryz.func44, Tryz.ntmps44
    go_wp2
    go_loopw [1, 5] (fun i v wr => ∃ (m : Nat) (q acc : Txt), i = .int .i64 m ∧ As (P[m]? = some q ∧ q ++ acc.reverse = R) ∧ As (OwnByt wr w.heap.size v acc) ∧ As (Below w.heap.size w wr)) (fun i _ _ => (P.getD (intOf i).toNat []).length)
    case atStart => exact ⟨a, R, [], rfl, ⟨hRa.out, by simp⟩, ⟨World.ownsRow_nil _ _ _ _⟩, ⟨Below.refl _ _⟩⟩
    case round =>
      obtain ⟨m, q, acc, rfl, hq, hown, hbel⟩ := hrel
      have hml : m < P.length := (List.getElem?_eq_some_iff.1 hq.out.1).1
      have HTr := As.mk (HT.out.below hbel.out)
      have hc := As.mk (is_calls wr base g P W HTr.out m true (by simp; omega))
      obtain ⟨ad, cp, mb, c0, c1, hcp, _, hcell⟩ := HTr.out.read
      obtain ⟨d0, d1, d2, d3⟩ := hcell.out m q hq.out.1
      have hsz := hbel.out.size
      by_cases hne : q = []
      · have hpar : parent P q = -1 := if_pos hne
        have hacc : As (acc.reverse = R) := ⟨by have := hq.out.2; rw [hne] at this; simpa using this⟩
        have hlacc : acc.length ≤ 1000000 := by
          have h1 := hd.out R (List.mem_of_getElem? hRa.out)
          have h2 := congrArg List.length hacc.out
          simp at h2; omega
        rw [hpar] at d0
        clear hne hpar d1 d2 d3
        go_wp2_with (go_at_call 66; refine hc.out.mono ?_; rintro e w' ⟨rfl, rfl⟩)
        refine (reverse_calls wr w.heap.size _ acc hown.out hlacc).mono ?_
        rintro e w2 ⟨rfl, ho2, hk2⟩
        go_wp2
        go_ret
        refine ⟨_, rfl, ?_, ?_⟩
        · rw [hacc.out] at ho2; exact ho2
        · exact hbel.out.trans (hk2.below (fun k hk hS => by have := own_blk hown.out hS; omega) hsz)
      · have hsp := last_split hne
        have hup := hT.out.up q (List.mem_of_getElem? hq.out.1) hne
        have hpar : parent P q = place P q.dropLast := if_neg hne
        have hpm := place_mem.2 hup
        obtain ⟨m2, hm2⟩ : ∃ m2 : Nat, place P q.dropLast = (m2 : Int) := ⟨(place P q.dropLast).toNat, by omega⟩
        have hg2 := place_get hup
        rw [hm2, Int.toNat_natCast] at hg2
        have hpar2 : As (parent P q = (m2 : Int)) := ⟨hpar.trans hm2⟩
        rw [hpar, hm2] at d0
        have hlen : acc.length ≤ 1000000 := by
          have h1 := hd.out R (List.mem_of_getElem? hRa.out)
          have h2 := congrArg List.length hq.out.2
          simp at h2; omega
        have hmeas : As ((P.getD m2 []).length < (P.getD m []).length) := ⟨by
          rw [List.getD_eq_getElem?_getD, List.getD_eq_getElem?_getD, hg2, hq.out.1]
          simp only [Option.getD_some, List.length_dropLast]
          have : 0 < q.length := List.length_pos_iff.2 hne
          omega⟩
        have hnew : As (P[m2]? = some q.dropLast ∧ q.dropLast ++ (acc ++ [lastB q]).reverse = R) := ⟨hg2, by
          rw [← hq.out.2, List.reverse_append, List.reverse_cons, List.reverse_nil, List.nil_append, ← List.append_assoc, hsp]⟩
        clear hpar hpm hm2 hg2 hup hsp hne d1 d2
        generalize lastB q = c at *
        generalize q.dropLast = q2 at *
        go_wp2_with (first
          | (go_at_call 66; refine hc.out.mono ?_; rintro e w' ⟨rfl, rfl⟩)
          | (at_builtin
             refine wpList_app1 _ rfl (.tmp 20) (.tmp 29) 23 rfl w.heap.size 5 _ 1 1 Tryz.underlying23 info_u8 rfl (by decide) _ acc.length (byCells acc) rfl hown.out [.int .u8 (c.toNat : Int)] rfl (by simp [Value.oneCell']) _ rfl (by simp) (by omega) (by decide) (by first | omega | (simp; omega)) ?_
             intro v' w2 ho2 hk2 hat2 hb2
             have hbel2 := As.mk (hbel.out.trans hb2)
             obtain ⟨ad2, cp2, mb2, c02, c12, hcp2, _, hcell2⟩ := (HT.out.below hbel2.out).read
             have ead := c02
             rw [(hb2.cell (p := ⟨g, 0, none⟩) (World.block_lt_of_cell? w _ (HT.out.read.choose_spec.choose_spec.choose_spec.1))).trans c0] at ead
             injection ead with ead
             injection ead with ead ead2 ead3
             injection ead with ead
             subst ead
             obtain ⟨e0, _, _, _⟩ := hcell2.out m q hq.out.1
             rw [hpar2.out] at e0
             clear ead2 ead3))
        go_roundw
        case rel => exact ⟨m2, q2, acc ++ [c], rfl, hnew, ⟨ownByt_snoc ho2⟩, hbel2⟩
        case measure => have := hmeas.out; simpa [intOf] using this
  · have hc := As.mk (is_calls w base g P W ht n false (by simp only [Bool.false_eq_true, false_iff]; exact hn))
    have hR : pathF P n = [] := if_neg hn
    rw [hR]
    clear hR hn
    go_enter Tryz.func44, Tryz.ntmps44
    go_wp2
    refine wp_loop_rounds 1 ?_
    rw [rounds_succ]
    go_wp2_with (go_at_call 66; refine hc.out.mono ?_; rintro e w' ⟨rfl, rfl⟩)
    refine (reverse_calls w w.heap.size (.slice none 0 0) [] (World.ownsRow_nil _ _ _ _) (by simp)).mono ?_
    rintro e w2 ⟨rfl, ho2, hk2⟩
    go_wp2
    go_ret
    exact ⟨_, rfl, ho2, hk2.below (fun k hk hS => by simp [Value.ownBlock] at hS) (Nat.le_refl _)⟩
/-- the bytes below k that lead on -/
def kidsF (P : List Txt) (n : Int) (k : Nat) : Txt := ((List.range k).map UInt8.ofNat).filter fun c => decide (0 ≤ stepF P n c)
theorem kidsF_succ (P : List Txt) (n : Int) (k : Nat) : kidsF P n (k + 1) = kidsF P n k ++ if 0 ≤ stepF P n (UInt8.ofNat k) then [UInt8.ofNat k] else [] := by
  unfold kidsF
  rw [List.range_succ, List.map_append, List.filter_append]
  congr 1
  by_cases h : 0 ≤ stepF P n (UInt8.ofNat k) <;> simp [h]
theorem kidsF_length (P : List Txt) (n : Int) (k : Nat) : (kidsF P n k).length ≤ k := by
  unfold kidsF
  have := List.length_filter_le (fun c => decide (0 ≤ stepF P n c)) ((List.range k).map UInt8.ofNat)
  simpa using this
set_option maxRecDepth 100000 in
set_option maxHeartbeats 800000 in
theorem kids_calls (w : World) (base g : Nat) (P : List Txt) (W : Txt → Int) (ht : TrieAt w base g P W) (hl : P.length ≤ 1000000) (n : Int) :
    Calls Tryz.prog 63 #[.pointer (some ⟨g, 0, none⟩), .int .i64 n] w (RetByt w (kidsF P n 256)) := by
  have HT := As.mk ht
  obtain ⟨R, hR⟩ : ∃ R, kidsF P n 256 = R := ⟨_, rfl⟩
  rw [hR]
  have hR := As.mk hR
  go_enter Tryz.func63, Tryz.ntmps63
  go_wp2
  go_loopw [5, 7] (fun v i wr => ∃ k : Nat, k ≤ 256 ∧ i = .int .i64 k ∧ As (OwnByt wr w.heap.size v (kidsF P n k)) ∧ As (Below w.heap.size w wr)) (fun _ i _ => 256 - (intOf i).toNat)
  case atStart => exact ⟨0, by omega, rfl, ⟨World.ownsRow_nil _ _ _ _⟩, ⟨Below.refl _ _⟩⟩
  case round =>
    obtain ⟨k, hk, rfl, hown, hbel⟩ := hrel
    have hsz := hbel.out.size
    by_cases hlt : k < 256
    · have hcb : ((UInt8.ofNat k).toNat : Int) = (k : Int) := by simp; omega
      have hc := As.mk (step_calls wr base g P W (HT.out.below hbel.out) hl n (k : Int) (UInt8.ofNat k) hcb.symm)
      have hs := As.mk (kidsF_succ P n k)
      have hlen := kidsF_length P n k
      generalize kidsF P n k = acc at *
      by_cases hst : 0 ≤ stepF P n (UInt8.ofNat k)
      · rw [if_pos hst] at hs
        have hcb := As.mk hcb
        generalize stepF P n (UInt8.ofNat k) = r at *
        go_wp2_with (first
          | (go_at_call 64; refine hc.out.mono ?_; rintro e w' ⟨rfl, rfl⟩)
          | (at_builtin
             refine wpList_app1 _ rfl (.tmp 16) (.tmp 19) 23 rfl w.heap.size 5 _ 1 1 Tryz.underlying23 info_u8 rfl (by decide) _ acc.length (byCells acc) rfl hown.out [.int .u8 (k : Int)] rfl (by simp [Value.oneCell']) _ rfl (by simp) (by omega) (by decide) (by first | omega | (simp; omega)) ?_
             intro v' w2 ho2 hk2 hat2 hb2))
        go_roundw
        case rel => exact ⟨k + 1, by omega, by go_num, ⟨by rw [hs.out]; refine ownByt_snoc ?_; rw [hcb.out]; exact ho2⟩, ⟨hbel.out.trans hb2⟩⟩
        case measure => simp [intOf]; omega
      · rw [if_neg hst, List.append_nil] at hs
        clear hcb
        generalize stepF P n (UInt8.ofNat k) = r at *
        go_wp2_with (go_at_call 64; refine hc.out.mono ?_; rintro e w' ⟨rfl, rfl⟩)
        go_roundw
        case rel => exact ⟨k + 1, by omega, by go_num, ⟨by rw [hs.out]; exact hown.out⟩, hbel⟩
        case measure => simp [intOf]; omega
    · have hk2 : k = 256 := by omega
      rw [hk2, hR.out] at hown
      clear hk2
      go_wp2
      go_ret
      exact ⟨_, rfl, hown.out, hbel.out⟩
theorem step_chain {P : List Txt} (hT : Tree P) (b : Txt) (k : Nat) (hk : k < b.length) : stepF P (place P (b.take k)) (b.getD k 0) = place P (b.take (k + 1)) := by
  have e : b.take (k + 1) = b.take k ++ [b.getD k 0] := by
    rw [List.take_succ_eq_append_getElem hk]; simp [hk]
  have hr := place_range P (b.take k)
  unfold stepF
  by_cases hm : b.take k ∈ P
  · have h0 := place_mem.2 hm
    rw [if_pos ⟨h0, hr.2⟩, List.getD_eq_getElem?_getD, place_get hm, Option.getD_some, e]
  · have hneg := place_neg.2 hm
    rw [if_neg (by omega)]
    symm
    apply place_none
    intro h
    rw [e] at h
    have := hT.up _ h (by simp)
    rw [List.dropLast_concat] at this
    exact hm this
theorem find_calls (w : World) (base g : Nat) (P : List Txt) (W : Txt → Int) (ht : TrieAt w base g P W) (hl : P.length ≤ 1000000) (A : Option Addr) (c : Nat) (b : Txt) (hb : Byt w A b) (hbl : b.length ≤ 1000000) :
    Calls Tryz.prog 95 #[.pointer (some ⟨g, 0, none⟩), .slice A b.length c] w fun e w' => e = .returned (.int .i64 (place P b)) ∧ w = w' := by
  have hT := As.mk ht.tree
  have hc := As.mk (nodes_calls w base g P W ht)
  have hcs := As.mk (fun n x c h => step_calls w base g P W ht hl n x c h)
  have HB := As.mk hb
  have hP := ht.tree.len
  clear hb ht
  obtain ⟨R, hR⟩ : ∃ R, place P b = R := ⟨_, rfl⟩
  rw [hR]
  have hR := As.mk hR
  have h00 : As ((0 : Int) = place P (b.take 0)) := ⟨by rw [List.take_zero, place_at hT.out.nodup hT.out.root]; rfl⟩
  go_enter Tryz.func95, Tryz.ntmps95
  have hmin : min (0 : Int) ((P.length : Int) - 1) = 0 := by omega
  go_wp2_with (go_at_call 43; refine hc.out.mono ?_; rintro e w' ⟨rfl, rfl⟩)
  clear hmin
  go_loop [5, 14] (fun v i => ∃ (k : Nat) (r : Int), k ≤ b.length ∧ i = .int .i64 k ∧ v = .int .i64 r ∧ As (r = place P (b.take k))) (fun _ i => b.length - (intOf i).toNat)
  case atStart => exact ⟨0, 0, Nat.zero_le _, rfl, rfl, h00⟩
  case round =>
    obtain ⟨k, r, hk, rfl, rfl, hr⟩ := hrel
    by_cases hlt : k < b.length
    · obtain ⟨ad, rfl, a1⟩ := Byt.at_ HB.out hlt
      have hch := step_chain hT.out b k hlt
      rw [← hr.out] at hch
      replace hch := As.mk hch
      generalize b.getD k 0 = x at *
      have hc2 := As.mk (hcs.out r (x.toNat : Int) x rfl)
      generalize stepF P r x = r2 at *
      go_wp2_with (go_at_call 64; refine hc2.out.mono ?_; rintro e w' ⟨rfl, rfl⟩)
      go_round
      case rel => exact ⟨k + 1, r2, by omega, by go_num, rfl, hch⟩
      case measure => simp [intOf]; omega
    · have hfin : As (r = R) := ⟨by rw [hr.out, List.take_of_length_le (by omega)]; exact hR.out⟩
      go_wp2
      go_ret
      exact ⟨ret_int hfin.out, rfl⟩
end Go.Proofs.YtdiljmhikajjiaaGreat
end
