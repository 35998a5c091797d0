/- Words for memory: rows of cells that are read, owned, kept. Plain theorems, no condition. -/
import Derived.WalkKit
import Derived.Deep.LoopGhost
import Derived.Deep.Draws
import Derived.Maps.AppendAt
import Derived.Laws.OwnMore
import Derived.Laws.StructEq
set_option linter.unusedVariables false
namespace Go.Proofs.YtcapmihfhioafaaDoor
open Go.RowKit

/-- A fact that the walk's simp doesn't look into. -/
structure As (p : Prop) : Prop where mk :: (out : p)

theorem Addr.block_add (a : Addr) (n : Nat) : (a.add n).block = a.block := by unfold Addr.add; split <;> rfl
theorem Addr.add_add' (a : Addr) (i j : Nat) : (a.add i).add j = a.add (i + j) := by
  unfold Addr.add
  by_cases hi : i = 0 <;> by_cases hj : j = 0 <;> simp [hi, hj, Nat.add_assoc]
theorem Addr.add_field (a : Addr) (i j : Nat) (hj : 0 < j) : a.add (i + j) = ⟨(a.add i).block, (a.add i).off + j, none⟩ := by
  rw [← Addr.add_add']
  show (if j = 0 then _ else _) = _
  rw [if_neg (by omega)]

/-- The cells cs stand at A. -/
def Row (w : World) (A : Option Addr) (cs : List Value) : Prop :=
  cs = [] ∨ ∃ ad, A = some ad ∧ ad.block < w.heap.size ∧ ∀ j u, cs[j]? = some u → w.cell? (ad.add j) = some u

/-- What was there stays, but for the blocks S. -/
structure Keeps (S : Nat → Prop) (w w' : World) : Prop where
  os : w'.os = w.os
  tape : w'.tape = w.tape
  output : w'.output = w.output
  size : w.heap.size ≤ w'.heap.size
  block : ∀ k, k < w.heap.size → ¬ S k → w'.heap[k]? = w.heap[k]?

section
variable {S : Nat → Prop} {w w' w1 w2 : World} {e : TypeId} {A : Option Addr} {cs : List Value}
theorem Keeps.refl (S : Nat → Prop) (w : World) : Keeps S w w := ⟨rfl, rfl, rfl, Nat.le_refl _, fun _ _ _ => rfl⟩
theorem Keeps.trans (h : Keeps S w w1) (k : Keeps S w1 w2) : Keeps S w w2 :=
  ⟨k.os.trans h.os, k.tape.trans h.tape, k.output.trans h.output, Nat.le_trans h.size k.size, fun i hi hn => (k.block i (Nat.lt_of_lt_of_le hi h.size) hn).trans (h.block i hi hn)⟩
theorem Keeps.mono {T : Nat → Prop} (h : Keeps S w w1) (hs : ∀ k, k < w.heap.size → S k → T k) : Keeps T w w1 :=
  ⟨h.os, h.tape, h.output, h.size, fun i hi hn => h.block i hi (fun hS => hn (hs i hi hS))⟩
theorem Keeps.of_below (h : Below w.heap.size w w1) (S : Nat → Prop) : Keeps S w w1 := ⟨h.os, h.tape, h.output, h.size, fun i hi _ => h.block i hi⟩
theorem Keeps.of_grown {row : Option Nat} (h : w.grownBy w1 row) : Keeps (fun k => some k = row) w w1 := ⟨h.os, h.tape, h.output, h.size, fun i hi hn => h.block i hi hn⟩
theorem Keeps.below {B : Nat} (h : Keeps S w w1) (hs : ∀ k, k < B → ¬ S k) (hB : B ≤ w.heap.size) : Below B w w1 :=
  ⟨h.os, h.tape, h.output, h.size, fun i hi => h.block i (by omega) (hs i hi)⟩
theorem Keeps.cell (h : Keeps S w w1) {p : Addr} (hp : p.block < w.heap.size) (hS : ¬ S p.block) : w1.cell? p = w.cell? p := World.cell?_of_block (w := w) (h.block p.block hp hS)
theorem block_lt {b : Nat} {o : Obj} (h : w.heap[b]? = some o) : b < w.heap.size := by
  rcases Nat.lt_or_ge b w.heap.size with hlt | hge
  · exact hlt
  · rw [Array.getElem?_eq_none hge] at h; cases h
theorem blk_old {b : Nat} {o o' : Obj} (h : w.heap[b]? = some o) : (w.alloc o').heap[b]? = some o := (Below.heap_alloc w o' b (block_lt h)).trans h
theorem blk_new1 (w : World) (o o' : Obj) : ((w.alloc o).alloc o').heap[w.heap.size + 1]? = some o' :=
  (congrArg (fun i : Nat => ((w.alloc o).alloc o').heap[i]?) (World.size_alloc w o).symm).trans (heap_alloc_new _ _)
theorem blk_far {b : Nat} {o : Obj} {p : Addr} (h : w.heap[b]? = some o) (hp : b ≠ p.block) (u : Value) : (w.setCell p u).heap[b]? = some o := (Below.heap_setCell w p u b hp).trans h
theorem blk_set {b t : Nat} {c : Array Value} (h : w.heap[b]? = some (.cells c t (0, 0))) (i : Nat) (u : Value) : (w.setCell ⟨b, i, none⟩ u).heap[b]? = some (.cells (c.setIfInBounds i u) t (0, 0)) := by
  simp [World.setCell, Array.getElem?_modify, h]
theorem cell_of_blk {b t : Nat} {c : Array Value} {fr : Nat × Nat} (h : w.heap[b]? = some (.cells c t fr)) (i : Nat) : w.cell? ⟨b, i, none⟩ = c[i]? := by
  simp [World.cell?, h]
theorem free_of_blk {b t : Nat} {c : Array Value} (h : w.heap[b]? = some (.cells c t (0, 0))) (i : Nat) : w.frozen? ⟨b, i, none⟩ = false := by
  simp [World.frozen?, h]
theorem ret_bool {a b : Bool} (h : a = b) : Ending.returned (.bool a) = .returned (.bool b) := by rw [h]
theorem ret_int {k : IntKind} {a b : Int} (h : a = b) : Ending.returned (.int k a) = .returned (.int k b) := by rw [h]
theorem below_drewN {B : Nat} (h : Below B w w1) (n : Nat) : Below B w (w1.drewN n) := ⟨h.os, h.tape, h.output, h.size, h.block⟩
theorem below_lift {B B' : Nat} {a b c : World} (h : Below B a b) (k : Below B' b c) (hB : B ≤ B') : Below B a c := h.trans (k.mono hB)

theorem Row.nil (w : World) (A : Option Addr) : Row w A [] := .inl rfl
theorem Row.keep (h : Row w A cs) (hk : Keeps S w w1) (hS : ∀ ad, A = some ad → ad.block < w.heap.size → ¬ S ad.block) : Row w1 A cs := by
  rcases h with h | ⟨ad, hA, hlt, hc⟩
  · exact .inl h
  · exact .inr ⟨ad, hA, Nat.lt_of_lt_of_le hlt hk.size, fun j u hu => (hk.cell (by rw [Addr.block_add]; exact hlt) (by rw [Addr.block_add]; exact hS _ hA hlt)).trans (hc j u hu)⟩
theorem Row.below (h : Row w A cs) (hb : Below w.heap.size w w1) : Row w1 A cs := h.keep (Keeps.of_below hb (fun _ => False)) (fun _ _ _ h => h)
theorem Row.drewN (h : Row w A cs) (n : Nat) : Row (w.drewN n) A cs := h
theorem Row.drew (h : Row w A cs) : Row w.drew A cs := h
theorem Row.alloc (h : Row w A cs) (o : Obj) : Row (w.alloc o) A cs := h.below ((Below.refl _ _).alloc (Nat.le_refl _) o)
theorem Row.at_ (h : Row w A cs) {j : Nat} (hj : j < cs.length) : ∃ ad, A = some ad ∧ w.cell? (ad.add j) = some cs[j] := by
  rcases h with rfl | ⟨ad, hA, _, hc⟩
  · simp at hj
  · exact ⟨ad, hA, hc j _ (List.getElem?_eq_getElem hj)⟩
theorem Row.new (w : World) (e : TypeId) (cs : List Value) : Row (w.alloc (.cells cs.toArray e)) (some ⟨w.heap.size, 0, none⟩) cs := by
  have hn : (w.alloc (.cells cs.toArray e)).heap[w.heap.size]? = some (.cells cs.toArray e (0, 0)) := heap_alloc_new w _
  refine .inr ⟨_, rfl, block_lt hn, fun j u hu => ?_⟩
  have : (⟨w.heap.size, 0, none⟩ : Addr).add j = ⟨w.heap.size, j, none⟩ := by unfold Addr.add; split <;> simp_all
  rw [this]
  unfold World.cell?
  rw [hn]
  simp [hu]
theorem Row.new' (w : World) (e : TypeId) (cs : List Value) {b : Nat} (hb : b = w.heap.size) : Row (w.alloc (.cells cs.toArray e)) (some ⟨b, 0, none⟩) cs := by subst hb; exact Row.new w e cs
theorem Row.of_own {base size n c : Nat} (h : w.ownsRow base e size (.slice A n c) n cs) : Row w A cs := by
  obtain ⟨hl, h⟩ := h
  rcases h with ⟨hv, hn⟩ | ⟨g, cap, cur, hv, hg, hh, hnc, hcm, hcs, ht⟩
  · left; subst hn; exact List.eq_nil_of_length_eq_zero (by simpa using hl)
  · right
    injection hv with hA _ _
    refine ⟨⟨g, 0, none⟩, hA, block_lt hh, fun j u hu => ?_⟩
    have hown : w.ownsRow base e size (.slice (some ⟨g, 0, none⟩) n cap) n cs := ⟨hl, .inr ⟨g, cap, cur, rfl, hg, hh, hnc, hcm, hcs, ht⟩⟩
    exact hown.cells (g := g) rfl j u hu
theorem own_slice {base size n : Nat} {v : Value} (h : w.ownsRow base e size v n cs) : ∃ A c, v = .slice A n c ∧ n ≤ c := by
  rcases h.2 with ⟨hv, hn⟩ | ⟨g, cap, cur, hv, hg, hh, hnc, _⟩
  · exact ⟨_, _, by rw [hv, hn], by omega⟩
  · exact ⟨_, _, hv, hnc⟩
theorem own_keep {base size n : Nat} {v : Value} (h : w.ownsRow base e size v n cs) (hk : Keeps S w w1) (hS : ∀ b c, base ≤ b → w.heap[b]? = some (.cells c e (0, 0)) → some b = v.ownBlock → ¬ S b) : w1.ownsRow base e size v n cs := by
  refine ⟨h.1, ?_⟩
  rcases h.2 with h2 | ⟨g, cap, cur, hv, hg, hh, r⟩
  · exact .inl h2
  · exact .inr ⟨g, cap, cur, hv, hg, (hk.block g (block_lt hh) (hS g cur hg hh (by rw [hv]; rfl))).trans hh, r⟩
theorem own_below {base size n : Nat} {v : Value} (h : w.ownsRow base e size v n cs) (hb : Below w.heap.size w w1) : w1.ownsRow base e size v n cs :=
  own_keep h (Keeps.of_below hb (fun _ => False)) (fun _ _ _ _ _ h => h)
theorem own_blk {base size n k : Nat} {v : Value} (h : w.ownsRow base e size v n cs) (hk : some k = v.ownBlock) : base ≤ k ∧ k < w.heap.size := by
  rcases h.2 with ⟨rfl, _⟩ | ⟨g, cap, cur, rfl, hg, hh, _⟩
  · simp [Value.ownBlock] at hk
  · simp [Value.ownBlock] at hk; subst hk; exact ⟨hg, block_lt hh⟩
theorem own_base {base base' size n : Nat} {v : Value} (h : w.ownsRow base e size v n cs) (hb : base' ≤ base) : w.ownsRow base' e size v n cs := by
  refine ⟨h.1, ?_⟩
  rcases h.2 with h2 | ⟨g, cap, cur, hv, hg, r⟩
  · exact .inl h2
  · exact .inr ⟨g, cap, cur, hv, by omega, r⟩
end

section
variable {P : Program} {d : Nat} {xs ys : Array Value} {f : Field} {fs : List Field} {a b : Value} {r s : Bool} {w : World}
theorem struct_eq {t : TypeId} {fs : Array Field} (hu : P.underlying t = some (.struct fs)) (hp : P.stoodInHeld t = false) (h : (Op.eqFields d xs ys fs.toList).run P w = .ok r w) :
    (Op.equalIn (d + 1) t (.agg xs) (.agg ys)).run P w = .ok r w := by
  have hf : P.fieldsOf t = fs := by unfold Program.fieldsOf; rw [hu]
  rw [run_equalIn_struct (P := P) w d t xs ys (by rw [hf]; exact hu) hp, hf]
  exact h
theorem field_eq (hn : f.name ≠ "_") (ha : (part f.type xs f.offset).run P w = .ok a w) (hb : (part f.type ys f.offset).run P w = .ok b w) (he : (Op.equalIn d f.type a b).run P w = .ok r w)
    (hr : (Op.eqFields d xs ys fs).run P w = .ok s w) : (Op.eqFields d xs ys (f :: fs)).run P w = .ok (r && s) w := by
  rw [Op.eqFields]
  simp only [if_pos hn, Sem.run_bind, ha, hb, he, Result.andThen_ok]
  cases r
  · simp
  · simpa using hr
theorem fields_none : (Op.eqFields d xs ys []).run P w = .ok true w := by simp [Op.eqFields]
end

/-- append of one element, which was just laid in a block of its own. -/
theorem wpList_app1 {P : Program} {ops : Array Oper} {rest : List Oper} {o : Oper} {a : Act} {Q : Exit → Act → World → Prop} (w : World) (hgd : o.guard = none) (s x : Operand) (t : TypeId)
    (ho : o.op = .call { callee := .builtin .append, args := #[s, x], argTypes := #[t, t] })
    (base : Nat) (e : TypeId) (z : Value) (size bytes : Nat) (ht : P.underlying t = some (.slice e)) (hi : (P.info? e).map (fun i => (i.zero, i.size, i.bytes)) = some (some z, size, bytes))
    (hzs : z.cells.size = size) (hsz : 0 < size)
    (v : Value) (n : Nat) (xs : List Value) (hs : a.eval s = v) (hown : w.ownsRow base e size v n xs)
    (cs : List Value) (hl : cs.length = size) (h1 : ∀ u ∈ cs, u.oneCell' = true) (b : Nat) (hx : a.eval x = .slice (some ⟨b, 0, none⟩) 1 1) (hb : b = w.heap.size)
    (hlen : n ≤ 1000000000000) (hby : bytes ≤ 100) (hbase : base ≤ w.heap.size)
    (h : ∀ v' w', w'.ownsRow base e size v' (n + 1) (xs ++ cs) → Keeps (fun k => some k = v.ownBlock) w w' → (v'.ownBlock = v.ownBlock ∨ v'.ownBlock = some (w.heap.size + 1)) → Below base w w' → wpList P ops Q rest (a.put o.dst v') w') :
    wpList P ops Q (o :: rest) a (w.alloc (.cells cs.toArray e)) := by
  subst hb
  obtain ⟨i, hi, hz, hsize, hbytes⟩ := info_parts hi
  refine wpList_append_own_at (w.alloc (.cells cs.toArray e)) hgd s x t ho base e i z size bytes ht hi hz hsize hbytes hzs hsz v n xs hs (hown.alloc _) ⟨w.heap.size, 0, none⟩ 1 1 cs hx (by omega) ?_ h1
    (by simp only [maxLen]; omega) ?_ (by simp; omega) ?_
  · intro j u hu
    have hj : j < cs.length := by
      rcases Nat.lt_or_ge j cs.length with h | h
      · exact h
      · rw [List.getElem?_eq_none h] at hu; cases hu
    have : (⟨w.heap.size, 0, none⟩ : Addr).add j = ⟨w.heap.size, j, none⟩ := by unfold Addr.add; split <;> simp_all
    rw [this]
    have hn : (w.alloc (.cells cs.toArray e)).heap[w.heap.size]? = some (.cells cs.toArray e (0, 0)) := heap_alloc_new w _
    unfold World.cell?
    rw [hn]
    simp [hu]
  · have : (n + 1) * bytes ≤ (n + 1) * 100 := Nat.mul_le_mul_left _ hby
    omega
  · intro v' w' h2 h3 _ h5
    refine h v' w' h2 ((Keeps.of_below ((Below.refl _ _).alloc (Nat.le_refl _) _) _).trans ((Keeps.of_grown h3).mono (fun _ _ h => h))) (by simpa using h5) ?_
    refine ((Below.refl base w).alloc hbase _).grown h3 (by simp; omega) (fun k hk => ?_)
    rcases hown.2 with ⟨rfl, _⟩ | ⟨g, cap, cur, rfl, hg, _⟩
    · simp [Value.ownBlock] at hk
    · simp [Value.ownBlock] at hk; omega

end Go.Proofs.YtcapmihfhioafaaDoor
