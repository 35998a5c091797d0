/- Joined texts: Base, Args, Base2, TriePure, Bytes, Args3, TwoPure, TwoWalk, Str. -/
import Derived.WalkKit
import Derived.Deep.LoopGhost
import Derived.Deep.Draws
import Derived.Maps.AppendAt
import Derived.Laws.OwnMore
import Derived.Laws.StructEq
import Derived.Test.YtpkapgjpnkcffaaProg
import Derived.ProofKit
import Derived.Deep.Slices
import Derived.Deep.Fields
import Derived.ChangeSame
import Derived.RegionTactic
import Derived.BigRegion
import Derived.WalkMore
import Derived.Deep.QuietTactic
import Derived.BigQuiet
import Derived.Laws.EntriesVeiled
import Derived.Test.YtpkapgjpnkcffaaWMore
section
/- Words for memory: rows of cells that are read, owned, kept. Plain theorems, no condition. -/
set_option linter.unusedVariables false
namespace Go.Proofs.Ytpkapgjpnkcffaa
open Go.RowKit

/-- A fact that the walk's simp doesn't look into. -/
structure As (p : Prop) : Prop where mk :: (out : p)

theorem Addr.block_add (a : Addr) (n : Nat) : (a.add n).block = a.block := by unfold Addr.add; split <;> rfl
theorem Addr.add_add' (a : Addr) (i j : Nat) : (a.add i).add j = a.add (i + j) := by
  unfold Addr.add
  by_cases hi : i = 0 <;> by_cases hj : j = 0 <;> simp [hi, hj, Nat.add_assoc]
theorem Addr.add_field (a : Addr) (i j : Nat) (hj : 0 < j) : a.add (i + j) = ⟨(a.add i).block, (a.add i).off + j, none⟩ := by
  rw [← Addr.add_add']
  show (if j = 0 then _ else _) = _
  rw [if_neg (by omega)]

/-- The cells cs stand at A. -/
def Row (w : World) (A : Option Addr) (cs : List Value) : Prop :=
  cs = [] ∨ ∃ ad, A = some ad ∧ ad.block < w.heap.size ∧ ∀ j u, cs[j]? = some u → w.cell? (ad.add j) = some u

/-- What was there stays, but for the blocks S. -/
structure Keeps (S : Nat → Prop) (w w' : World) : Prop where
  os : w'.os = w.os
  tape : w'.tape = w.tape
  output : w'.output = w.output
  size : w.heap.size ≤ w'.heap.size
  block : ∀ k, k < w.heap.size → ¬ S k → w'.heap[k]? = w.heap[k]?

section
variable {S : Nat → Prop} {w w' w1 w2 : World} {e : TypeId} {A : Option Addr} {cs : List Value}
theorem Keeps.refl (S : Nat → Prop) (w : World) : Keeps S w w := ⟨rfl, rfl, rfl, Nat.le_refl _, fun _ _ _ => rfl⟩
theorem Keeps.trans (h : Keeps S w w1) (k : Keeps S w1 w2) : Keeps S w w2 :=
  ⟨k.os.trans h.os, k.tape.trans h.tape, k.output.trans h.output, Nat.le_trans h.size k.size, fun i hi hn => (k.block i (Nat.lt_of_lt_of_le hi h.size) hn).trans (h.block i hi hn)⟩
theorem Keeps.mono {T : Nat → Prop} (h : Keeps S w w1) (hs : ∀ k, k < w.heap.size → S k → T k) : Keeps T w w1 :=
  ⟨h.os, h.tape, h.output, h.size, fun i hi hn => h.block i hi (fun hS => hn (hs i hi hS))⟩
theorem Keeps.of_below (h : Below w.heap.size w w1) (S : Nat → Prop) : Keeps S w w1 := ⟨h.os, h.tape, h.output, h.size, fun i hi _ => h.block i hi⟩
theorem Keeps.of_grown {row : Option Nat} (h : w.grownBy w1 row) : Keeps (fun k => some k = row) w w1 := ⟨h.os, h.tape, h.output, h.size, fun i hi hn => h.block i hi hn⟩
theorem Keeps.below {B : Nat} (h : Keeps S w w1) (hs : ∀ k, k < B → ¬ S k) (hB : B ≤ w.heap.size) : Below B w w1 :=
  ⟨h.os, h.tape, h.output, h.size, fun i hi => h.block i (by omega) (hs i hi)⟩
theorem Keeps.cell (h : Keeps S w w1) {p : Addr} (hp : p.block < w.heap.size) (hS : ¬ S p.block) : w1.cell? p = w.cell? p := World.cell?_of_block (w := w) (h.block p.block hp hS)
theorem block_lt {b : Nat} {o : Obj} (h : w.heap[b]? = some o) : b < w.heap.size := by
  rcases Nat.lt_or_ge b w.heap.size with hlt | hge
  · exact hlt
  · rw [Array.getElem?_eq_none hge] at h; cases h
theorem blk_old {b : Nat} {o o' : Obj} (h : w.heap[b]? = some o) : (w.alloc o').heap[b]? = some o := (Below.heap_alloc w o' b (block_lt h)).trans h
theorem blk_new1 (w : World) (o o' : Obj) : ((w.alloc o).alloc o').heap[w.heap.size + 1]? = some o' :=
  (congrArg (fun i : Nat => ((w.alloc o).alloc o').heap[i]?) (World.size_alloc w o).symm).trans (heap_alloc_new _ _)
theorem blk_far {b : Nat} {o : Obj} {p : Addr} (h : w.heap[b]? = some o) (hp : b ≠ p.block) (u : Value) : (w.setCell p u).heap[b]? = some o := (Below.heap_setCell w p u b hp).trans h
theorem blk_set {b t : Nat} {c : Array Value} (h : w.heap[b]? = some (.cells c t (0, 0))) (i : Nat) (u : Value) : (w.setCell ⟨b, i, none⟩ u).heap[b]? = some (.cells (c.setIfInBounds i u) t (0, 0)) := by
  simp [World.setCell, Array.getElem?_modify, h]
theorem cell_of_blk {b t : Nat} {c : Array Value} {fr : Nat × Nat} (h : w.heap[b]? = some (.cells c t fr)) (i : Nat) : w.cell? ⟨b, i, none⟩ = c[i]? := by
  simp [World.cell?, h]
theorem free_of_blk {b t : Nat} {c : Array Value} (h : w.heap[b]? = some (.cells c t (0, 0))) (i : Nat) : w.frozen? ⟨b, i, none⟩ = false := by
  simp [World.frozen?, h]
theorem ret_bool {a b : Bool} (h : a = b) : Ending.returned (.bool a) = .returned (.bool b) := by rw [h]
theorem ret_int {k : IntKind} {a b : Int} (h : a = b) : Ending.returned (.int k a) = .returned (.int k b) := by rw [h]
theorem below_drewN {B : Nat} (h : Below B w w1) (n : Nat) : Below B w (w1.drewN n) := ⟨h.os, h.tape, h.output, h.size, h.block⟩
theorem below_lift {B B' : Nat} {a b c : World} (h : Below B a b) (k : Below B' b c) (hB : B ≤ B') : Below B a c := h.trans (k.mono hB)

theorem Row.nil (w : World) (A : Option Addr) : Row w A [] := .inl rfl
theorem Row.keep (h : Row w A cs) (hk : Keeps S w w1) (hS : ∀ ad, A = some ad → ad.block < w.heap.size → ¬ S ad.block) : Row w1 A cs := by
  rcases h with h | ⟨ad, hA, hlt, hc⟩
  · exact .inl h
  · exact .inr ⟨ad, hA, Nat.lt_of_lt_of_le hlt hk.size, fun j u hu => (hk.cell (by rw [Addr.block_add]; exact hlt) (by rw [Addr.block_add]; exact hS _ hA hlt)).trans (hc j u hu)⟩
theorem Row.below (h : Row w A cs) (hb : Below w.heap.size w w1) : Row w1 A cs := h.keep (Keeps.of_below hb (fun _ => False)) (fun _ _ _ h => h)
theorem Row.drewN (h : Row w A cs) (n : Nat) : Row (w.drewN n) A cs := h
theorem Row.drew (h : Row w A cs) : Row w.drew A cs := h
theorem Row.alloc (h : Row w A cs) (o : Obj) : Row (w.alloc o) A cs := h.below ((Below.refl _ _).alloc (Nat.le_refl _) o)
theorem Row.at_ (h : Row w A cs) {j : Nat} (hj : j < cs.length) : ∃ ad, A = some ad ∧ w.cell? (ad.add j) = some cs[j] := by
  rcases h with rfl | ⟨ad, hA, _, hc⟩
  · simp at hj
  · exact ⟨ad, hA, hc j _ (List.getElem?_eq_getElem hj)⟩
theorem Row.new (w : World) (e : TypeId) (cs : List Value) : Row (w.alloc (.cells cs.toArray e)) (some ⟨w.heap.size, 0, none⟩) cs := by
  have hn : (w.alloc (.cells cs.toArray e)).heap[w.heap.size]? = some (.cells cs.toArray e (0, 0)) := heap_alloc_new w _
  refine .inr ⟨_, rfl, block_lt hn, fun j u hu => ?_⟩
  have : (⟨w.heap.size, 0, none⟩ : Addr).add j = ⟨w.heap.size, j, none⟩ := by unfold Addr.add; split <;> simp_all
  rw [this]
  unfold World.cell?
  rw [hn]
  simp [hu]
theorem Row.new' (w : World) (e : TypeId) (cs : List Value) {b : Nat} (hb : b = w.heap.size) : Row (w.alloc (.cells cs.toArray e)) (some ⟨b, 0, none⟩) cs := by subst hb; exact Row.new w e cs
theorem Row.of_own {base size n c : Nat} (h : w.ownsRow base e size (.slice A n c) n cs) : Row w A cs := by
  obtain ⟨hl, h⟩ := h
  rcases h with ⟨hv, hn⟩ | ⟨g, cap, cur, hv, hg, hh, hnc, hcm, hcs, ht⟩
  · left; subst hn; exact List.eq_nil_of_length_eq_zero (by simpa using hl)
  · right
    injection hv with hA _ _
    refine ⟨⟨g, 0, none⟩, hA, block_lt hh, fun j u hu => ?_⟩
    have hown : w.ownsRow base e size (.slice (some ⟨g, 0, none⟩) n cap) n cs := ⟨hl, .inr ⟨g, cap, cur, rfl, hg, hh, hnc, hcm, hcs, ht⟩⟩
    exact hown.cells (g := g) rfl j u hu
theorem own_slice {base size n : Nat} {v : Value} (h : w.ownsRow base e size v n cs) : ∃ A c, v = .slice A n c ∧ n ≤ c := by
  rcases h.2 with ⟨hv, hn⟩ | ⟨g, cap, cur, hv, hg, hh, hnc, _⟩
  · exact ⟨_, _, by rw [hv, hn], by omega⟩
  · exact ⟨_, _, hv, hnc⟩
theorem own_keep {base size n : Nat} {v : Value} (h : w.ownsRow base e size v n cs) (hk : Keeps S w w1) (hS : ∀ b c, base ≤ b → w.heap[b]? = some (.cells c e (0, 0)) → some b = v.ownBlock → ¬ S b) : w1.ownsRow base e size v n cs := by
  refine ⟨h.1, ?_⟩
  rcases h.2 with h2 | ⟨g, cap, cur, hv, hg, hh, r⟩
  · exact .inl h2
  · exact .inr ⟨g, cap, cur, hv, hg, (hk.block g (block_lt hh) (hS g cur hg hh (by rw [hv]; rfl))).trans hh, r⟩
theorem own_below {base size n : Nat} {v : Value} (h : w.ownsRow base e size v n cs) (hb : Below w.heap.size w w1) : w1.ownsRow base e size v n cs :=
  own_keep h (Keeps.of_below hb (fun _ => False)) (fun _ _ _ _ _ h => h)
theorem own_blk {base size n k : Nat} {v : Value} (h : w.ownsRow base e size v n cs) (hk : some k = v.ownBlock) : base ≤ k ∧ k < w.heap.size := by
  rcases h.2 with ⟨rfl, _⟩ | ⟨g, cap, cur, rfl, hg, hh, _⟩
  · simp [Value.ownBlock] at hk
  · simp [Value.ownBlock] at hk; subst hk; exact ⟨hg, block_lt hh⟩
theorem own_base {base base' size n : Nat} {v : Value} (h : w.ownsRow base e size v n cs) (hb : base' ≤ base) : w.ownsRow base' e size v n cs := by
  refine ⟨h.1, ?_⟩
  rcases h.2 with h2 | ⟨g, cap, cur, hv, hg, r⟩
  · exact .inl h2
  · exact .inr ⟨g, cap, cur, hv, by omega, r⟩
end

section
variable {P : Program} {d : Nat} {xs ys : Array Value} {f : Field} {fs : List Field} {a b : Value} {r s : Bool} {w : World}
theorem struct_eq {t : TypeId} {fs : Array Field} (hu : P.underlying t = some (.struct fs)) (hp : P.stoodInHeld t = false) (h : (Op.eqFields d xs ys fs.toList).run P w = .ok r w) :
    (Op.equalIn (d + 1) t (.agg xs) (.agg ys)).run P w = .ok r w := by
  have hf : P.fieldsOf t = fs := by unfold Program.fieldsOf; rw [hu]
  rw [run_equalIn_struct (P := P) w d t xs ys (by rw [hf]; exact hu) hp, hf]
  exact h
theorem field_eq (hn : f.name ≠ "_") (ha : (part f.type xs f.offset).run P w = .ok a w) (hb : (part f.type ys f.offset).run P w = .ok b w) (he : (Op.equalIn d f.type a b).run P w = .ok r w)
    (hr : (Op.eqFields d xs ys fs).run P w = .ok s w) : (Op.eqFields d xs ys (f :: fs)).run P w = .ok (r && s) w := by
  rw [Op.eqFields]
  simp only [if_pos hn, Sem.run_bind, ha, hb, he, Result.andThen_ok]
  cases r
  · simp
  · simpa using hr
theorem fields_none : (Op.eqFields d xs ys []).run P w = .ok true w := by simp [Op.eqFields]
end

/-- append of one element, which was just laid in a block of its own. -/
theorem wpList_app1 {P : Program} {ops : Array Oper} {rest : List Oper} {o : Oper} {a : Act} {Q : Exit → Act → World → Prop} (w : World) (hgd : o.guard = none) (s x : Operand) (t : TypeId)
    (ho : o.op = .call { callee := .builtin .append, args := #[s, x], argTypes := #[t, t] })
    (base : Nat) (e : TypeId) (z : Value) (size bytes : Nat) (ht : P.underlying t = some (.slice e)) (hi : (P.info? e).map (fun i => (i.zero, i.size, i.bytes)) = some (some z, size, bytes))
    (hzs : z.cells.size = size) (hsz : 0 < size)
    (v : Value) (n : Nat) (xs : List Value) (hs : a.eval s = v) (hown : w.ownsRow base e size v n xs)
    (cs : List Value) (hl : cs.length = size) (h1 : ∀ u ∈ cs, u.oneCell' = true) (b : Nat) (hx : a.eval x = .slice (some ⟨b, 0, none⟩) 1 1) (hb : b = w.heap.size)
    (hlen : n ≤ 1000000000000) (hby : bytes ≤ 100) (hbase : base ≤ w.heap.size)
    (h : ∀ v' w', w'.ownsRow base e size v' (n + 1) (xs ++ cs) → Keeps (fun k => some k = v.ownBlock) w w' → (v'.ownBlock = v.ownBlock ∨ v'.ownBlock = some (w.heap.size + 1)) → Below base w w' → wpList P ops Q rest (a.put o.dst v') w') :
    wpList P ops Q (o :: rest) a (w.alloc (.cells cs.toArray e)) := by
  subst hb
  obtain ⟨i, hi, hz, hsize, hbytes⟩ := info_parts hi
  refine wpList_append_own_at (w.alloc (.cells cs.toArray e)) hgd s x t ho base e i z size bytes ht hi hz hsize hbytes hzs hsz v n xs hs (hown.alloc _) ⟨w.heap.size, 0, none⟩ 1 1 cs hx (by omega) ?_ h1
    (by simp only [maxLen]; omega) ?_ (by simp; omega) ?_
  · intro j u hu
    have hj : j < cs.length := by
      rcases Nat.lt_or_ge j cs.length with h | h
      · exact h
      · rw [List.getElem?_eq_none h] at hu; cases hu
    have : (⟨w.heap.size, 0, none⟩ : Addr).add j = ⟨w.heap.size, j, none⟩ := by unfold Addr.add; split <;> simp_all
    rw [this]
    have hn : (w.alloc (.cells cs.toArray e)).heap[w.heap.size]? = some (.cells cs.toArray e (0, 0)) := heap_alloc_new w _
    unfold World.cell?
    rw [hn]
    simp [hu]
  · have : (n + 1) * bytes ≤ (n + 1) * 100 := Nat.mul_le_mul_left _ hby
    omega
  · intro v' w' h2 h3 _ h5
    refine h v' w' h2 ((Keeps.of_below ((Below.refl _ _).alloc (Nat.le_refl _) _) _).trans ((Keeps.of_grown h3).mono (fun _ _ h => h))) (by simpa using h5) ?_
    refine ((Below.refl base w).alloc hbase _).grown h3 (by simp; omega) (fun k hk => ?_)
    rcases hown.2 with ⟨rfl, _⟩ | ⟨g, cap, cur, rfl, hg, _⟩
    · simp [Value.ownBlock] at hk
    · simp [Value.ownBlock] at hk; omega

end Go.Proofs.Ytpkapgjpnkcffaa
end
section
/- What an argument of a law reads as: slices of pairs, of bytes, of numbers. -/
set_option linter.unusedVariables false
set_option linter.unusedSimpArgs false
set_option maxRecDepth 100000
namespace Go.Proofs.Ytpkapgjpnkcffaa
open Go.ChangeShapes Go.WideShapes Go.Deep Go.RowKit

theorem own : ownKnob Try.prog.godebug = none := by kernel_rfl
theorem laidOut : laidOutB Try.prog = true := by kernel_rfl

section
variable {H : Type} {enc : TypeId × Value → H} {w : World} {base : Nat}
/-- A row out of its cells. -/
theorem row_of_cells {A : Option Addr} {cs : List Value} (h : 0 < cs.length → ∃ ad, A = some ad ∧ ∀ j u, cs[j]? = some u → w.cell? (ad.add j) = some u) : Row w A cs := by
  rcases Nat.eq_zero_or_pos cs.length with h0 | h0
  · exact .inl (List.eq_nil_of_length_eq_zero h0)
  · obtain ⟨ad, hA, hc⟩ := h h0
    refine .inr ⟨ad, hA, ?_, hc⟩
    have h1 := hc 0 cs[0] (List.getElem?_eq_getElem h0)
    have := World.block_lt_of_cell? w _ h1
    rwa [Addr.block_add] at this

/-- A slice of whole numbers. -/
theorem arg_ints {k : IntKind} {t e : TypeId} (ht : Try.prog.underlying t = some (.slice e)) (he : Try.prog.underlying e = some (.int k)) (hc : Try.prog.cellsOf e = 1) {v : Value} {d : DataW H} {p : List MemPlace}
    (hv : Value.okWide Try.prog w .any base t v) (h : DataW.Trod enc Try.prog w 0 (fun _ => true) true t v d p) :
    ∃ (A : Option Addr) (c : Nat) (xs : List Int), v = .slice A xs.length c ∧ Row w A (xs.map (Value.int k)) ∧ xs.length ≤ c ∧ c ≤ maxLen ∧ ∀ x ∈ xs, (Lit.int k x).wf = true := by
  obtain ⟨a0, len, cap, rfl⟩ := okWide_slice ht hv
  obtain ⟨fuel, hf⟩ := h
  rcases open_ints ht he hc hf with ⟨hcs, _⟩ | ⟨x, l, c, zs, hcs, _, hl, hm, hz, _, hcell, hwz⟩
  · simp [Value.cells] at hcs
    obtain ⟨rfl, rfl, rfl⟩ := hcs
    exact ⟨none, 0, [], rfl, .inl rfl, Nat.le_refl _, Nat.zero_le _, by simp⟩
  · simp [Value.cells] at hcs
    obtain ⟨rfl, rfl, rfl⟩ := hcs
    have hz : zs.length = cap := by simpa using hz
    have hlen : (zs.take len).length = len := by rw [List.length_take]; omega
    refine ⟨_, cap, zs.take len, by rw [hlen], row_of_cells (fun _ => ⟨x, rfl, fun j u hu => ?_⟩), by omega, hm, fun y hy => hwz y (List.mem_of_mem_take hy)⟩
    rw [List.getElem?_map, Option.map_eq_some_iff] at hu
    obtain ⟨y, hy, rfl⟩ := hu
    have hj : j < len := by
      rcases Nat.lt_or_ge j (zs.take len).length with h | h
      · omega
      · rw [List.getElem?_eq_none h] at hy; cases hy
    rw [List.getElem?_take_of_lt hj] at hy
    have := hcell j (by omega)
    rw [this, List.getD_eq_getElem?_getD, hy]; rfl

theorem open_slice_fields {P : Program} {spare : Nat → Bool} {held : Bool} {t e : TypeId} {fs : Array Field} {fuel : Nat} {cs : List Value} {x : DataW H × List MemPlace} (ht : P.underlying t = some (.slice e)) (he : P.underlying e = some (.struct fs))
    (hone : oneCellFields P fs = true) (hC : P.cellsOf e = fs.size) (h : DataW.trod enc P w base spare held fuel t cs = some x) :
    (cs = [.slice none 0 0]) ∨
    ∃ (a : Addr) (len cap : Nat), cs = [.slice (some a) len cap] ∧ len ≤ cap ∧ cap ≤ maxLen ∧
      ∀ i, i < len → ∃ (ys : List (DataW H × List MemPlace)) (n : Nat),
        ∀ (j : Nat) (f : Field), fs[j]? = some f → ∃ (v : Value) (y : DataW H × List MemPlace), w.cell? (a.add (i * fs.size + j)) = some v ∧ ys[j]? = some y ∧ DataW.trod enc P w base spare held n f.type [v] = some y := by
  rcases open_slice ht h with h0 | ⟨a, len, cap, m, n, D, Pl, hcs, hb, hl, hm, hmm, hx, hi⟩
  · exact .inl h0.1
  · refine .inr ⟨a, len, cap, hcs, hl, hm, fun i him => ?_⟩
    obtain ⟨cs', hc, ht'⟩ := hi i (by rw [hmm]; split <;> omega)
    rw [hC] at hc
    obtain ⟨ys, n', hn', hy, hlen, hyl, hf⟩ := DataW.trod_struct he ht'
    obtain ⟨_, hcl, hat⟩ := World.cells?_some hc
    refine ⟨ys, n', fun j f hj => ?_⟩
    obtain ⟨ho, hk⟩ := hone_of hone j f hj
    have hjl : j < fs.size := (Array.getElem?_eq_some_iff.1 hj).1
    have hcell := hat j hjl
    have hv : cs'[j]? = some (cs'[j]'(by omega)) := List.getElem?_eq_getElem (by omega)
    have h1 := hf j f hj
    rw [ho, hk] at h1
    have hone' : (cs'.drop j).take 1 = [cs'[j]'(by omega)] := by
      rw [List.drop_eq_getElem_cons (by omega)]
      rfl
    rw [hone'] at h1
    have hys : ys[j]? = some (ys[j]'(by omega)) := List.getElem?_eq_getElem (by omega)
    refine ⟨_, _, ?_, hys, h1.trans hys⟩
    rw [← Go.Deep.add_add, hcell, hv]

theorem flat_pairs : ∀ (xs : List (Int × Int)) (f : Nat → Option Value), (∀ i (h : i < xs.length), f (i * 2) = some (.int .i64 xs[i].1) ∧ f (i * 2 + 1) = some (.int .i64 xs[i].2)) →
    ∀ j u, (xs.flatMap fun p => [Value.int .i64 p.1, .int .i64 p.2])[j]? = some u → f j = some u
  | [], _, _, j, u, h => by simp at h
  | x :: xs, f, hf, j, u, h => by
    have h0 := hf 0 (by simp)
    simp only [List.flatMap_cons, List.cons_append, List.nil_append] at h
    match j, h with
    | 0, h => simp at h; rw [← h]; simpa using h0.1
    | 1, h => simp at h; rw [← h]; simpa using h0.2
    | j + 2, h =>
      refine flat_pairs xs (fun i => f (i + 2)) (fun i hi => ?_) j u (by simpa using h)
      have := hf (i + 1) (by simpa using hi)
      rw [show (i + 1) * 2 = i * 2 + 2 by omega] at this
      refine ⟨by simpa using this.1, ?_⟩
      have h2 := this.2
      simpa [Nat.add_right_comm] using h2

/-- A slice of pairs, cell by cell. -/
theorem arg_pairs {v : Value} {d : DataW H} {p : List MemPlace} (hv : Value.okWide Try.prog w .any base 30 v) (h : DataW.Trod enc Try.prog w 0 (fun _ => true) true 30 v d p) :
    ∃ (A : Option Addr) (c : Nat) (xs : List (Int × Int)), v = .slice A xs.length c ∧ Row w A (xs.flatMap fun p => [.int .i64 p.1, .int .i64 p.2]) ∧ xs.length ≤ c ∧ c ≤ maxLen ∧ ∀ x ∈ xs, (Lit.int .i64 x.1).wf = true ∧ (Lit.int .i64 x.2).wf = true := by
  obtain ⟨a0, len, cap, rfl⟩ := okWide_slice Try.underlying30 hv
  obtain ⟨fuel, hf⟩ := h
  rcases open_slice_fields Try.underlying30 Try.underlying35 (by kernel_rfl) (by kernel_rfl) hf with hcs | ⟨a, l, c, hcs, hl, hm, hi⟩
  · simp [Value.cells] at hcs
    obtain ⟨rfl, rfl, rfl⟩ := hcs
    exact ⟨none, 0, [], rfl, .inl rfl, Nat.le_refl _, Nat.zero_le _, by simp⟩
  · simp [Value.cells] at hcs
    obtain ⟨rfl, rfl, rfl⟩ := hcs
    have H2 : ∀ i, i < len → ∃ x : Int × Int, w.cell? (a.add (i * 2)) = some (.int .i64 x.1) ∧ w.cell? (a.add (i * 2 + 1)) = some (.int .i64 x.2) ∧ (Lit.int .i64 x.1).wf = true ∧ (Lit.int .i64 x.2).wf = true := by
      intro i hil
      obtain ⟨ys, n, hf⟩ := hi i hil
      obtain ⟨v0, y0, hc0, _, ht0⟩ := hf 0 _ rfl
      obtain ⟨v1, y1, hc1, _, ht1⟩ := hf 1 _ rfl
      obtain ⟨x0, e0, _, w0⟩ := DataW.trod_int Try.underlying3 ht0
      obtain ⟨x1, e1, _, w1⟩ := DataW.trod_int Try.underlying3 ht1
      injection e0 with e0 _
      injection e1 with e1 _
      subst e0 e1
      exact ⟨(x0, x1), hc0, hc1, w0, w1⟩
    have H3 : ∃ xs : List (Int × Int), xs.length = len ∧ ∀ i (h : i < xs.length), w.cell? (a.add (i * 2)) = some (.int .i64 xs[i].1) ∧ w.cell? (a.add (i * 2 + 1)) = some (.int .i64 xs[i].2) ∧ (Lit.int .i64 xs[i].1).wf = true ∧ (Lit.int .i64 xs[i].2).wf = true := by
      refine ⟨List.ofFn fun i : Fin len => Classical.choose (H2 i.1 i.2), by simp, fun i h => ?_⟩
      simp only [List.getElem_ofFn]
      exact Classical.choose_spec (H2 i (by simpa using h))
    obtain ⟨xs, rfl, hxs⟩ := H3
    refine ⟨_, cap, xs, rfl, row_of_cells (fun _ => ⟨a, rfl, fun j u hu => ?_⟩), hl, hm, fun x hx => ?_⟩
    · exact flat_pairs xs (fun i => w.cell? (a.add i)) (fun i h => ⟨(hxs i h).1, (hxs i h).2.1⟩) j u hu
    · obtain ⟨i, hi, rfl⟩ := List.mem_iff_getElem.1 hx
      exact (hxs i hi).2.2
end
end Go.Proofs.Ytpkapgjpnkcffaa
end
section
/- Words for the walk: max and min of two numbers. -/
set_option linter.unusedVariables false
namespace Go.Proofs.Ytpkapgjpnkcffaa
open Go.RowKit
theorem Keeps.drew {S : Nat → Prop} {w w1 : World} (h : Keeps S w w1) : Keeps S w w1.drew := ⟨h.os, h.tape, h.output, h.size, h.block⟩
theorem Keeps.drewN {S : Nat → Prop} {w w1 : World} (h : Keeps S w w1) (n : Nat) : Keeps S w (w1.drewN n) := ⟨h.os, h.tape, h.output, h.size, h.block⟩
theorem Keeps.alloc {S : Nat → Prop} {w w1 : World} (h : Keeps S w w1) (o : Obj) : Keeps S w (w1.alloc o) := h.trans (Keeps.of_below ((Below.refl _ _).alloc (Nat.le_refl _) o) S)
theorem max2_i (k k' : IntKind) (x y : Int) : Builtin.max2 (.int k x) (.int k' y) = pure (.int k (max x y)) := by
  have : (if x < y then y else x) = max x y := by omega
  simp only [Builtin.max2, gt_iff_lt, this]
theorem min2_i (k k' : IntKind) (x y : Int) : Builtin.min2 (.int k x) (.int k' y) = pure (.int k (min x y)) := by
  have : (if y < x then y else x) = min x y := by omega
  simp only [Builtin.min2, this]
theorem max_two' (ats : Array TypeId) (ty : TypeId) (a b : Value) : Builtin.max_ ats ty #[a, b] = (Builtin.max2 a b >>= fun s => pure s) := by simp only [Builtin.max_, List.foldlM_cons, List.foldlM_nil]
theorem min_two' (ats : Array TypeId) (ty : TypeId) (a b : Value) : Builtin.min_ ats ty #[a, b] = (Builtin.min2 a b >>= fun s => pure s) := by simp only [Builtin.min_, List.foldlM_cons, List.foldlM_nil]
theorem belowNext {w a b : World} (h : Below w.heap.size w a) (k : Below a.heap.size a b) : Below w.heap.size w b := h.trans (k.mono h.size)
theorem blkBelow {w w' : World} {b : Nat} {o : Obj} (hb : Below w.heap.size w w') (h : w.heap[b]? = some o) : w'.heap[b]? = some o := (hb.block b (block_lt h)).trans h
theorem heapNewAt {w : World} {o : Obj} {b : Nat} (h : b = w.heap.size) : (w.alloc o).heap[b]? = some o := by rw [h]; exact heap_alloc_new _ _
theorem blkDrew {w : World} {b : Nat} {o : Obj} (h : w.heap[b]? = some o) : w.drew.heap[b]? = some o := h
theorem rowOfBlk {w : World} {b t : Nat} {cs : List Value} {fr : Nat × Nat} (h : w.heap[b]? = some (.cells cs.toArray t fr)) : Row w (some ⟨b, 0, none⟩) cs :=
  .inr ⟨_, rfl, block_lt h, fun j u hu => by
    have : (⟨b, 0, none⟩ : Addr).add j = ⟨b, j, none⟩ := by unfold Addr.add; split <;> simp_all
    rw [this, cell_of_blk h]
    simpa using hu⟩
theorem keepsSt (w : World) (p : Addr) (u : Value) : Keeps (fun k => k = p.block) w (w.setCell p u) := ⟨rfl, rfl, rfl, by simp [World.setCell], fun i hi hn => Below.heap_setCell w p u i hn⟩
theorem own_addr {w : World} {base e size n c : Nat} {A : Option Addr} {cs : List Value} (h : w.ownsRow base e size (.slice A n c) n cs) : A = none ∨ ∃ g, A = some ⟨g, 0, none⟩ ∧ base ≤ g := by
  rcases h.2 with ⟨hv, _⟩ | ⟨g, cap, cur, hv, hg, _⟩
  · injection hv with h _ _; exact .inl h
  · injection hv with h _ _; exact .inr ⟨g, h, hg⟩
theorem blk_keep {S : Nat → Prop} {w w' : World} {b : Nat} {o : Obj} (h : w.heap[b]? = some o) (hk : Keeps S w w') (hS : ¬ S b) : w'.heap[b]? = some o := (hk.block b (block_lt h) hS).trans h
end Go.Proofs.Ytpkapgjpnkcffaa
end
section
/- Plain facts on trees of texts: beginnings, their places, words: no program and no memory. -/
namespace Seine.Trie
abbrev Txt := List UInt8

/-- where a text stands among some; -1: nowhere -/
def place : List Txt → Txt → Int
  | [], _ => -1
  | x :: l, s => if x = s then 0 else if place l s < 0 then -1 else place l s + 1

theorem place_range (l : List Txt) (s : Txt) : -1 ≤ place l s ∧ place l s < l.length := by
  induction l with
  | nil => simp [place]
  | cons x l ih =>
    simp only [place, List.length_cons]
    refine ⟨?_, ?_⟩ <;> split <;> (try split) <;> omega
theorem place_mem {l : List Txt} {s : Txt} : 0 ≤ place l s ↔ s ∈ l := by
  induction l with
  | nil => simp [place]
  | cons x l ih =>
    simp only [place, List.mem_cons]
    by_cases h : x = s
    · simp [h]
    · rw [if_neg h]
      by_cases h2 : place l s < 0
      · rw [if_pos h2]
        have : s ∉ l := fun hm => by have := ih.2 hm; omega
        constructor
        · intro h3; omega
        · rintro (h3 | h3)
          · exact absurd h3.symm h
          · exact absurd h3 this
      · rw [if_neg h2]
        have : s ∈ l := ih.1 (by omega)
        simp [this]; omega
theorem place_neg {l : List Txt} {s : Txt} : place l s < 0 ↔ s ∉ l := by rw [← place_mem]; omega
theorem place_none {l : List Txt} {s : Txt} (h : s ∉ l) : place l s = -1 := by
  have := place_neg.2 h; have := (place_range l s).1; omega
theorem place_get {l : List Txt} {s : Txt} (h : s ∈ l) : l[(place l s).toNat]? = some s := by
  induction l with
  | nil => simp at h
  | cons x l ih =>
    simp only [place]
    by_cases hx : x = s
    · simp [hx]
    · rw [if_neg hx]
      have hm : s ∈ l := by simpa [Ne.symm hx] using h
      have h0 := place_mem.2 hm
      rw [if_neg (by omega), show (place l s + 1).toNat = (place l s).toNat + 1 by omega]
      simpa using ih hm
theorem place_at {l : List Txt} (hn : l.Nodup) {i : Nat} {s : Txt} (h : l[i]? = some s) : place l s = i := by
  induction l generalizing i with
  | nil => simp at h
  | cons x l ih =>
    simp only [place]
    cases i with
    | zero => simp at h; simp [h]
    | succ i =>
      have hs : l[i]? = some s := by simpa using h
      have hx : x ≠ s := by
        rintro rfl
        exact (List.nodup_cons.1 hn).1 (List.mem_of_getElem? hs)
      rw [if_neg hx, ih (List.nodup_cons.1 hn).2 hs, if_neg (by omega)]
      push_cast; rfl
theorem place_append {l m : List Txt} {s : Txt} (h : s ∈ l) : place (l ++ m) s = place l s := by
  induction l with
  | nil => simp at h
  | cons x l ih =>
    simp only [List.cons_append, place]
    by_cases hx : x = s
    · simp [hx]
    · rw [if_neg hx, if_neg hx, ih (by simpa [Ne.symm hx] using h)]
theorem place_append_not {l m : List Txt} {s : Txt} (h : s ∉ l) : place (l ++ m) s = if place m s < 0 then -1 else l.length + place m s := by
  induction l with
  | nil => simp only [List.nil_append, List.length_nil]; split
           · have := (place_range m s).1; omega
           · push_cast; omega
  | cons x l ih =>
    simp only [List.mem_cons, not_or] at h
    simp only [List.cons_append, place]
    rw [if_neg (Ne.symm h.1), ih h.2]
    by_cases hm : place m s < 0
    · simp [hm]
    · rw [if_neg hm, if_neg (by omega), if_neg (by omega)]; simp only [List.length_cons]; push_cast; omega
theorem place_snoc (l : List Txt) (t s : Txt) : place (l ++ [t]) s = if s ∈ l then place l s else if t = s then (l.length : Int) else -1 := by
  by_cases h : s ∈ l
  · rw [if_pos h, place_append h]
  · rw [if_neg h, place_append_not h]
    by_cases ht : t = s
    · simp [place, ht]
    · simp [place, ht]

/-! ### beginnings -/
def addPath (P : List Txt) (p : Txt) : List Txt := if p ∈ P then P else P ++ [p]
/-- the beginnings of a text, of its first n bytes -/
def addTo (P : List Txt) (b : Txt) : Nat → List Txt
  | 0 => P
  | n + 1 => addPath (addTo P b n) (b.take (n + 1))
def addText (P : List Txt) (b : Txt) : List Txt := addTo P b b.length
def paths (l : List Txt) : List Txt := l.foldl addText [[]]

theorem mem_addPath {P : List Txt} {p q : Txt} : q ∈ addPath P p ↔ q ∈ P ∨ q = p := by
  unfold addPath; split
  · constructor
    · exact .inl
    · rintro (h | rfl) <;> assumption
  · simp
theorem addPath_nodup {P : List Txt} {p : Txt} (h : P.Nodup) : (addPath P p).Nodup := by
  unfold addPath; split
  · exact h
  · rename_i hp
    rw [List.nodup_append]; refine ⟨h, by simp, ?_⟩
    rintro a ha b hb rfl; simp at hb; subst hb; exact hp ha
theorem addPath_prefix (P : List Txt) (p : Txt) : ∃ m, addPath P p = P ++ m := by
  unfold addPath; split
  · exact ⟨[], by simp⟩
  · exact ⟨[p], rfl⟩

/-- A list of beginnings: the empty one first, none twice, with each the one of a byte less. -/
structure Tree (P : List Txt) : Prop where
  root : P[0]? = some []
  nodup : P.Nodup
  up : ∀ p ∈ P, p ≠ [] → p.dropLast ∈ P

theorem Tree.nil_mem {P : List Txt} (h : Tree P) : [] ∈ P := List.mem_of_getElem? h.root
theorem Tree.start : Tree [[]] := ⟨rfl, by simp, by simp⟩
theorem Tree.len {P : List Txt} (h : Tree P) : 0 < P.length := by
  rcases Nat.eq_zero_or_pos P.length with h0 | h0
  · have := h.root; rw [List.eq_nil_of_length_eq_zero h0] at this; simp at this
  · exact h0
theorem Tree.put {P : List Txt} (h : Tree P) {p : Txt} (hp : p ≠ []) (hd : p.dropLast ∈ P) : Tree (addPath P p) := by
  refine ⟨?_, addPath_nodup h.nodup, fun q hq hne => ?_⟩
  · obtain ⟨m, e⟩ := addPath_prefix P p
    rw [e, List.getElem?_append_left h.len]; exact h.root
  · rw [mem_addPath] at hq ⊢
    rcases hq with hq | rfl
    · exact .inl (h.up q hq hne)
    · exact .inl hd
theorem take_dropLast {b : Txt} {n : Nat} (h : n < b.length) : (b.take (n + 1)).dropLast = b.take n := by
  rw [List.dropLast_eq_take, List.take_take, List.length_take]
  congr 1; omega
theorem addTo_spec {P : List Txt} (h : Tree P) (b : Txt) : ∀ n, n ≤ b.length → Tree (addTo P b n) ∧ b.take n ∈ addTo P b n ∧ ∀ q, q ∈ addTo P b n ↔ q ∈ P ∨ ∃ k, k ≤ n ∧ 0 < k ∧ q = b.take k := by
  intro n
  induction n with
  | zero => intro _; exact ⟨h, by rw [List.take_zero]; exact h.nil_mem, fun q => ⟨.inl, by rintro (h | ⟨k, h1, h2, _⟩); exact h; omega⟩⟩
  | succ n ih =>
    intro hn
    obtain ⟨h1, h2, h3⟩ := ih (by omega)
    have hne : b.take (n + 1) ≠ [] := by
      intro e; have := congrArg List.length e; rw [List.length_take, List.length_nil] at this; omega
    refine ⟨h1.put hne (by rw [take_dropLast (by omega)]; exact h2), by simp only [addTo]; rw [mem_addPath]; exact .inr rfl, fun q => ?_⟩
    simp only [addTo]
    rw [mem_addPath, h3]
    constructor
    · rintro ((h | ⟨k, a, b', c⟩) | rfl)
      · exact .inl h
      · exact .inr ⟨k, by omega, b', c⟩
      · exact .inr ⟨n + 1, Nat.le_refl _, by omega, rfl⟩
    · rintro (h | ⟨k, a, b', c⟩)
      · exact .inl (.inl h)
      · by_cases e : k = n + 1
        · subst e; exact .inr c
        · exact .inl (.inr ⟨k, by omega, b', c⟩)
theorem paths_snoc (l : List Txt) (b : Txt) : paths (l ++ [b]) = addText (paths l) b := by simp [paths, List.foldl_append]
theorem paths_spec (l : List Txt) : Tree (paths l) ∧ ∀ q, q ∈ paths l ↔ q = [] ∨ ∃ b ∈ l, ∃ k, k ≤ b.length ∧ q = b.take k := by
  have H : ∀ n (l : List Txt), l.length = n → Tree (paths l) ∧ ∀ q, q ∈ paths l ↔ q = [] ∨ ∃ b ∈ l, ∃ k, k ≤ b.length ∧ q = b.take k := by
    intro n
    induction n with
    | zero => intro l hl; rw [List.eq_nil_of_length_eq_zero hl]; exact ⟨Tree.start, by simp [paths]⟩
    | succ n ih =>
      intro l hl
      have hne : l ≠ [] := by intro h; simp [h] at hl
      obtain ⟨m, x, rfl⟩ : ∃ m x, l = m ++ [x] := ⟨l.dropLast, l.getLast hne, (List.dropLast_concat_getLast hne).symm⟩
      obtain ⟨h1, h2⟩ := ih m (by simp at hl; omega)
      rw [paths_snoc]
      obtain ⟨a1, a2, a3⟩ := addTo_spec h1 x x.length (Nat.le_refl _)
      refine ⟨a1, fun q => ?_⟩
      unfold addText
      rw [a3, h2]
      constructor
      · rintro ((rfl | ⟨b, hb, k, hk, e⟩) | ⟨k, hk, _, e⟩)
        · exact .inl rfl
        · exact .inr ⟨b, by simp [hb], k, hk, e⟩
        · exact .inr ⟨x, by simp, k, hk, e⟩
      · rintro (rfl | ⟨b, hb, k, hk, e⟩)
        · exact .inl (.inl rfl)
        · simp at hb
          rcases hb with hb | rfl
          · exact .inl (.inr ⟨b, hb, k, hk, e⟩)
          · rcases Nat.eq_zero_or_pos k with h0 | h0
            · subst h0; simp at e; exact .inl (.inl e)
            · exact .inr ⟨k, hk, h0, e⟩
  exact H _ l rfl
theorem paths_tree (l : List Txt) : Tree (paths l) := (paths_spec l).1
theorem mem_paths {l : List Txt} {q : Txt} : q ∈ paths l ↔ q = [] ∨ ∃ b ∈ l, ∃ k, k ≤ b.length ∧ q = b.take k := (paths_spec l).2 q
theorem text_mem_paths {l : List Txt} {b : Txt} (h : b ∈ l) : b ∈ paths l := mem_paths.2 (.inr ⟨b, h, b.length, Nat.le_refl _, by simp⟩)

theorem addTo_mono (P : List Txt) (b : Txt) : ∀ n, ∃ m, addTo P b n = P ++ m
  | 0 => ⟨[], by simp [addTo]⟩
  | n + 1 => by
    obtain ⟨m, e⟩ := addTo_mono P b n
    obtain ⟨m2, e2⟩ := addPath_prefix (addTo P b n) (b.take (n + 1))
    exact ⟨m ++ m2, by simp only [addTo]; rw [e2, e, List.append_assoc]⟩
theorem addTo_len (P : List Txt) (b : Txt) : ∀ n, (addTo P b n).length ≤ P.length + n
  | 0 => Nat.le_refl _
  | n + 1 => by
    have := addTo_len P b n
    simp only [addTo]; unfold addPath; split <;> simp <;> omega

/-! ### what a node knows -/
/-- the node of a byte less -/
def parent (P : List Txt) (p : Txt) : Int := if p = [] then -1 else place P p.dropLast
def lastB (p : Txt) : UInt8 := p.getLast?.getD 0
/-- the bytes that lead on, rising -/
def kids (P : List Txt) (p : Txt) : List UInt8 := ((List.range 256).map UInt8.ofNat).filter fun c => decide (p ++ [c] ∈ P)
end Seine.Trie
end
section
/- Bytes in memory, and slices.Reverse of such a row of the call's own. -/
set_option linter.unusedVariables false
set_option linter.unusedSimpArgs false
namespace Go.Proofs.Ytpkapgjpnkcffaa
open Go.RowKit Seine.Trie

def byCells (b : Txt) : List Value := b.map fun c => .int .u8 (c.toNat : Int)
theorem byCells_length (b : Txt) : (byCells b).length = b.length := by simp [byCells]
theorem byCells_snoc (b : Txt) (c : UInt8) : byCells (b ++ [c]) = byCells b ++ [.int .u8 (c.toNat : Int)] := by simp [byCells]
/-- A slice of bytes. -/
abbrev Byt (w : World) (A : Option Addr) (b : Txt) : Prop := Row w A (byCells b)
abbrev OwnByt (w : World) (base : Nat) (v : Value) (b : Txt) : Prop := w.ownsRow base 5 1 v b.length (byCells b)
theorem Byt.at_ {w : World} {A : Option Addr} {b : Txt} (h : Byt w A b) {i : Nat} (hi : i < b.length) : ∃ ad, A = some ad ∧ w.cell? (ad.add i) = some (.int .u8 ((b.getD i 0).toNat : Int)) := by
  obtain ⟨ad, h1, h2⟩ := Row.at_ h (j := i) (by rw [byCells_length]; exact hi)
  exact ⟨ad, h1, by rw [h2]; simp [byCells, hi]⟩
theorem info_u8 : (Try.prog.info? 5).map (fun i => (i.zero, i.size, i.bytes)) = some (some (.int .u8 0), 1, 1) := by kernel_rfl
theorem ownByt_snoc {w : World} {base : Nat} {v : Value} {b : Txt} {c : UInt8} (h : w.ownsRow base 5 1 v (b.length + 1) (byCells b ++ [.int .u8 (c.toNat : Int)])) : OwnByt w base v (b ++ [c]) := by
  have h1 : (b ++ [c]).length = b.length + 1 := by simp
  unfold OwnByt; rw [h1, byCells_snoc]; exact h
theorem OwnByt.row {w : World} {base : Nat} {v : Value} {b : Txt} (h : OwnByt w base v b) : ∃ A c, v = .slice A b.length c ∧ b.length ≤ c ∧ Byt w A b := by
  obtain ⟨A, c, rfl, hc⟩ := own_slice h
  exact ⟨A, c, rfl, hc, Row.of_own h⟩

theorem byt_one2 {b : Txt} : ∀ u ∈ byCells b, u.oneCell' = true := fun u hu => by
  obtain ⟨x, _, rfl⟩ := List.mem_map.1 hu; rfl
/-- Bytes in new memory. -/
def RetByt (w : World) (b : Txt) (e : Ending) (w' : World) : Prop := ∃ v, e = .returned v ∧ OwnByt w' w.heap.size v b ∧ Below w.heap.size w w'
theorem RetByt.open_ {w w' : World} {b : Txt} {e : Ending} (h : RetByt w b e w') : ∃ v, e = .returned v ∧ OwnByt w' w.heap.size v b ∧ Below w.heap.size w w' := h
theorem RetByt.row {w w' : World} {b : Txt} {e : Ending} (h : RetByt w b e w') : ∃ A c, e = .returned (.slice A b.length c) ∧ Byt w' A b ∧ Below w.heap.size w w' := by
  obtain ⟨v, rfl, ho, hb⟩ := h
  obtain ⟨A, c, rfl, _, hr⟩ := ho.row
  exact ⟨A, c, rfl, hr, hb⟩
theorem RetByt.rowc {w w' : World} {b : Txt} {e : Ending} (h : RetByt w b e w') : ∃ A c, e = .returned (.slice A b.length c) ∧ b.length ≤ c ∧ Byt w' A b ∧ Below w.heap.size w w' := by
  obtain ⟨v, rfl, ho, hb⟩ := h
  obtain ⟨A, c, rfl, hc, hr⟩ := ho.row
  exact ⟨A, c, rfl, hc, hr, hb⟩
theorem litByt {w : World} {b : Nat} (l : Txt) (cs : List Value) (hcs : cs = byCells l) {t : Nat} {fr : Nat × Nat} (h : w.heap[b]? = some (.cells cs.toArray t fr)) : Byt w (some ⟨b, 0, none⟩) l := by
  subst hcs; exact rowOfBlk h
theorem Byt.none0 (w : World) : Byt w none [] := .inl rfl
/-- the bytes, of which k are exchanged from each end -/
def revK (b : Txt) (k : Nat) : Txt := (List.range b.length).map fun j => if j < k ∨ b.length - 1 - j < k then b.getD (b.length - 1 - j) 0 else b.getD j 0
theorem revK_length (b : Txt) (k : Nat) : (revK b k).length = b.length := by simp [revK]
theorem revK_get (b : Txt) (k j : Nat) (h : j < b.length) : (revK b k).getD j 0 = if j < k ∨ b.length - 1 - j < k then b.getD (b.length - 1 - j) 0 else b.getD j 0 := by
  simp [revK, List.getD_eq_getElem?_getD, h]
theorem txt_ext {a b : Txt} (hl : a.length = b.length) (h : ∀ j, j < a.length → a.getD j 0 = b.getD j 0) : a = b := by
  apply List.ext_getElem hl
  intro j h1 h2
  have := h j h1
  simpa [List.getD_eq_getElem?_getD, h1, h2] using this
theorem revK_zero (b : Txt) : revK b 0 = b := by
  apply txt_ext (revK_length b 0)
  intro j hj
  rw [revK_length] at hj
  rw [revK_get b 0 j hj, if_neg (by omega)]
theorem revK_done (b : Txt) (k : Nat) (h : b.length ≤ 2 * k + 1) : revK b k = b.reverse := by
  apply txt_ext (by rw [revK_length]; simp)
  intro j hj
  rw [revK_length] at hj
  rw [revK_get b k j hj]
  have hr : b.reverse.getD j 0 = b.getD (b.length - 1 - j) 0 := by
    rw [List.getD_eq_getElem?_getD, List.getElem?_reverse hj, ← List.getD_eq_getElem?_getD]
  rw [hr]
  split
  · rfl
  · have : b.length - 1 - j = j := by omega
    rw [this]
theorem revK_next (b : Txt) (k : Nat) (h : 2 * k + 1 < b.length) : ((revK b k).set k ((revK b k).getD (b.length - 1 - k) 0)).set (b.length - 1 - k) ((revK b k).getD k 0) = revK b (k + 1) := by
  apply txt_ext (by simp [revK_length])
  intro j hj
  have hj : j < b.length := by simpa [revK_length] using hj
  have hset : ∀ (l : Txt) (i j : Nat) (x : UInt8), j < l.length → (l.set i x).getD j 0 = if i = j then x else l.getD j 0 := by
    intro l i j x hl
    simp only [List.getD_eq_getElem?_getD, List.getElem?_set]
    split <;> simp_all
  rw [hset _ _ _ _ (by simpa [revK_length] using hj), hset _ _ _ _ (by simpa [revK_length] using hj), revK_get b k k (by omega), revK_get b k _ (by omega), revK_get b k j hj, revK_get b (k + 1) j hj]
  by_cases h1 : b.length - 1 - k = j
  · rw [if_pos h1, if_neg (by omega), if_pos (by omega)]
    congr 1; omega
  · rw [if_neg h1]
    by_cases h2 : k = j
    · rw [if_pos h2, if_neg (by omega), if_pos (by omega)]
      congr 1; omega
    · rw [if_neg h2]
      by_cases h3 : j < k ∨ b.length - 1 - j < k
      · rw [if_pos h3, if_pos (by omega)]
      · rw [if_neg h3, if_neg (by omega)]
theorem byCells_set (b : Txt) (i : Nat) (c : UInt8) : (byCells b).set i (.int .u8 (c.toNat : Int)) = byCells (b.set i c) := by simp [byCells, List.map_set]

set_option maxHeartbeats 1600000 in
theorem reverse_calls (w : World) (base : Nat) (v : Value) (b : Txt) (ho : OwnByt w base v b) (hl : b.length ≤ 1000000) :
    Calls Try.prog 44 #[v] w fun e w' => e = .returned (.tuple #[]) ∧ OwnByt w' base v b.reverse ∧ Keeps (fun k => some k = v.ownBlock) w w' := by
  rcases Nat.eq_zero_or_pos b.length with h0 | h0
  · have hb : b = [] := List.eq_nil_of_length_eq_zero h0
    subst hb
    obtain ⟨A, c, rfl, hc⟩ := own_slice ho
    have ho := As.mk ho
    go_enter Try.func44, Try.ntmps44
    go_wp2
    refine wp_loop_rounds 1 ?_
    rw [rounds_succ]
    go_wp2
    go_end0
    exact ⟨rfl, ho.out, Keeps.refl _ _⟩
  · obtain ⟨g, cap, rfl, hg, hcap⟩ : ∃ g cap, v = .slice (some ⟨g, 0, none⟩) b.length cap ∧ base ≤ g ∧ b.length ≤ cap := by
      rcases ho.2 with ⟨_, h⟩ | ⟨g, cap, cur, hv, hg, hh, hnc, _⟩
      · omega
      · exact ⟨g, cap, hv, hg, hnc⟩
    have hR0 := As.mk (revK_zero b)
    have ho := As.mk ho
    have hdone := As.mk (fun k h => revK_done b k h)
    have hnext := As.mk (fun k h => revK_next b k h)
    obtain ⟨n, hn⟩ : ∃ n, b.length = n := ⟨_, rfl⟩
    have hrl := As.mk (fun k => (revK_length b k).trans hn)
    have ho1 : As (OwnByt w base (.slice (some ⟨g, 0, none⟩) n cap) (revK b 0)) := ⟨by rw [hR0.out, ← hn]; exact ho.out⟩
    rw [hn] at h0 hcap hl hdone hnext
    rw [hn]
    clear ho hR0 hn
    go_enter Try.func44, Try.ntmps44
    go_wp2
    go_loopw [2, 3] (fun vi vj wr => ∃ k : Nat, vi = .int .i64 k ∧ vj = .int .i64 ((n : Int) - 1 - k) ∧ 2 * k ≤ n ∧ As (OwnByt wr base (.slice (some ⟨g, 0, none⟩) n cap) (revK b k)) ∧ As (Keeps (fun k => some k = some g) w wr)) (fun vi _ _ => n - (intOf vi).toNat)
    case atStart => exact ⟨0, rfl, by go_num, by omega, ho1, ⟨Keeps.refl _ _⟩⟩
    case round =>
      obtain ⟨k, rfl, rfl, hk, hown, hkeep⟩ := hrel
      have hl2 := hrl.out k
      have hown' : wr.ownsRow base 5 1 (.slice (some ⟨g, 0, none⟩) n cap) n (byCells (revK b k)) := by
        have := hown.out; unfold OwnByt at this; rw [hl2] at this; exact this
      by_cases hlt : 2 * k + 1 < n
      · have hcell : ∀ j, j < n → wr.cell? ⟨g, j, none⟩ = some (.int .u8 (((revK b k).getD j 0).toNat : Int)) := fun j hj => by
          rw [World.ownsRow.cellAt hown' j (by omega)]
          simp [byCells, List.getD_eq_getElem?_getD, hl2, hj]
        have hnx := As.mk (hnext.out k hlt)
        obtain ⟨m, hm⟩ : ∃ m : Nat, n - 1 - k = m := ⟨_, rfl⟩
        have c0 := hcell k (by omega)
        have c1 := hcell m (by omega)
        have f0 := World.ownsRow.frozenAt hown' k
        have f1 := World.ownsRow.frozenAt hown' m
        have hmi : ((n : Int) - 1 - (k : Int)) = (m : Int) := by omega
        rw [hmi]
        have hm1 : m < n := by omega
        have hm2 : k < m := by omega
        rw [hm] at hnx
        have hm3 : n = m + k + 1 := by omega
        have hm3 := As.mk hm3
        clear hcell hm hmi
        generalize (revK b k).getD k 0 = x at *
        generalize (revK b k).getD m 0 = y at *
        go_wp2
        go_region
        all_goals
          go_wp2
          go_roundw
          case rel =>
            have s1 := World.ownsRow.stored hown' k (.int .u8 (y.toNat : Int))
            have s2 := World.ownsRow.stored s1.1 m (.int .u8 (x.toNat : Int))
            have hkk : Keeps (fun k => some k = some g) wr ((wr.setCell ⟨g, k, none⟩ (.int .u8 (y.toNat : Int))).setCell ⟨g, m, none⟩ (.int .u8 (x.toNat : Int))) := (Keeps.of_grown s1.2).trans (Keeps.of_grown s2.2)
            have hl3 := hrl.out (k + 1)
            refine ⟨k + 1, by go_num, ?_, by omega, ⟨?_⟩, ⟨(hkeep.out.trans hkk).drew⟩⟩
            · have := hm3.out; go_num
            · unfold OwnByt
              rw [hl3, ← hnx.out, ← byCells_set, ← byCells_set]
              exact s2.1.drew
          case measure => simp [intOf]; omega
      · have hfin := hdone.out k (by omega)
        rw [hfin] at hown
        go_wp2
        go_end0
        refine ⟨rfl, ?_, hkeep.out⟩
        exact hown.out
end Go.Proofs.Ytpkapgjpnkcffaa
end
section
/- What an argument of a law reads as: a slice of bytes. -/
set_option linter.unusedVariables false
set_option linter.unusedSimpArgs false
set_option maxRecDepth 100000
namespace Go.Proofs.Ytpkapgjpnkcffaa
open Go.ChangeShapes Go.WideShapes Go.Deep Go.RowKit Seine.Trie

theorem u8_in {n : Int} (h : (Lit.int .u8 n).wf = true) : ((UInt8.ofNat n.toNat).toNat : Int) = n := by
  simp only [Lit.wf, IntKind.min, IntKind.max, IntKind.signed, IntKind.bits, Bool.and_eq_true, decide_eq_true_eq] at h
  have h1 : n.toNat < 256 := by simp at h; omega
  simp only [UInt8.toNat_ofNat']
  have h0 : 0 ≤ n := by simp at h; omega
  omega
theorem arg_bytes {H : Type} {enc : TypeId × Value → H} {w : World} {base : Nat} {v : Value} {d : DataW H} {p : List MemPlace}
    (hv : Value.okWide Try.prog w .any base 22 v) (h : DataW.Trod enc Try.prog w 0 (fun _ => true) true 22 v d p) :
    ∃ (A : Option Addr) (c : Nat) (b : Txt), v = .slice A b.length c ∧ Byt w A b ∧ b.length ≤ c ∧ c ≤ maxLen ∧ True := by
  obtain ⟨A, c, xs, rfl, hr, h1, h2, h3⟩ := arg_ints Try.underlying22 Try.underlying5 (by kernel_rfl) hv h
  refine ⟨A, c, xs.map fun n => UInt8.ofNat n.toNat, by rw [List.length_map], ?_, by rw [List.length_map]; exact h1, h2, trivial⟩
  have : byCells (xs.map fun n => UInt8.ofNat n.toNat) = xs.map (Value.int .u8) := by
    unfold byCells
    rw [List.map_map]
    refine List.map_congr_left fun n hn => ?_
    show Value.int .u8 ((UInt8.ofNat n.toNat).toNat : Int) = _
    rw [u8_in (h3 n hn)]
  unfold Byt
  rw [this]
  exact hr
end Go.Proofs.Ytpkapgjpnkcffaa
end
section
/- Plain facts on greatest ends, periods and critical cuts of a text, and on finding one text: no program and no memory. -/
set_option linter.unusedVariables false
namespace Seine.Two

/-- A strict order in which any two unlike numbers stand. -/
structure Ord (R : Nat → Nat → Prop) : Prop where
  irr : ∀ a, ¬ R a a
  tr : ∀ a b c, R a b → R b c → R a c
  tot : ∀ a b, a ≠ b → R a b ∨ R b a
theorem Ord.asym {R : Nat → Nat → Prop} (o : Ord R) {a b : Nat} (h : R a b) (k : R b a) : False := o.irr a (o.tr a b a h k)
theorem Ord.flip {R R' : Nat → Nat → Prop} (o : Ord R) (h : ∀ a b, R' a b ↔ R b a) : Ord R' :=
  ⟨fun a k => o.irr a ((h a a).1 k), fun a b c k l => (h a c).2 (o.tr c b a ((h b c).1 l) ((h a b).1 k)), fun a b k => by
    rcases o.tot a b k with k | k
    · exact .inr ((h b a).2 k)
    · exact .inl ((h a b).2 k)⟩

section
variable {R R' : Nat → Nat → Prop} {x : Nat → Nat} {m : Nat}

/-- The end at j stands ahead of that at a by a byte. -/
def Dom (R : Nat → Nat → Prop) (x : Nat → Nat) (m j a : Nat) : Prop := ∃ d, j + d < m ∧ a + d < m ∧ (∀ e, e < d → x (j + e) = x (a + e)) ∧ R (x (j + d)) (x (a + d))
/-- The end at j stands ahead of that at a. -/
def Lt (R : Nat → Nat → Prop) (x : Nat → Nat) (m j a : Nat) : Prop := Dom R x m j a ∨ (a < j ∧ ∀ e, j + e < m → x (j + e) = x (a + e))
def MaxEnd (R : Nat → Nat → Prop) (x : Nat → Nat) (m a : Nat) : Prop := a < m ∧ ∀ j, j < m → j ≠ a → Lt R x m j a

theorem Dom.trans (o : Ord R) {i j k : Nat} (h : Dom R x m i j) (g : Dom R x m j k) : Dom R x m i k := by
  obtain ⟨d, h1, h2, h3, h4⟩ := h
  obtain ⟨f, g1, g2, g3, g4⟩ := g
  rcases Nat.lt_trichotomy d f with hl | rfl | hl
  · exact ⟨d, h1, by omega, fun e he => (h3 e he).trans (g3 e (by omega)), by rw [← g3 d hl]; exact h4⟩
  · exact ⟨d, h1, g2, fun e he => (h3 e he).trans (g3 e he), o.tr _ _ _ h4 g4⟩
  · exact ⟨f, by omega, g2, fun e he => (h3 e (by omega)).trans (g3 e he), by rw [h3 f hl]; exact g4⟩
theorem dom_lt (o : Ord R) {i j : Nat} (h : Dom R x m i j) (g : Lt R x m j i) : False := by
  obtain ⟨d, h1, h2, h3, h4⟩ := h
  rcases g with ⟨f, g1, g2, g3, g4⟩ | ⟨g1, g2⟩
  · rcases Nat.lt_trichotomy d f with hl | rfl | hl
    · have := g3 d hl; rw [this] at h4; exact o.irr _ h4
    · exact o.asym h4 g4
    · have := h3 f hl; rw [this] at g4; exact o.irr _ g4
  · have := g2 d h2; rw [this] at h4; exact o.irr _ h4

/-- What holds at the head of a round of the search for the greatest end. -/
structure Inv (R : Nat → Nat → Prop) (x : Nat → Nat) (m a nx k p : Nat) : Prop where
  p1 : 1 ≤ p
  kp : k < p
  nm : nx + k ≤ m
  mul : ∃ J, 1 ≤ J ∧ nx = a + J * p
  A : ∀ j, j < a → Dom R x m j a
  B : ∀ i, 0 < i → i < p → ∃ d, i + d < p ∧ (∀ e, e < d → x (a + i + e) = x (a + e)) ∧ R (x (a + i + d)) (x (a + d))
  C : ∀ e, a + p + e < nx + k → x (a + p + e) = x (a + e)

theorem Inv.lo {a nx k p : Nat} (h : Inv R x m a nx k p) : a + p ≤ nx := by
  obtain ⟨J, h1, h2⟩ := h.mul
  have : 1 * p ≤ J * p := Nat.mul_le_mul_right p h1
  omega
theorem Inv.start (hm : 1 ≤ m) : Inv R x m 0 1 0 1 := ⟨by omega, by omega, hm, ⟨1, by omega, by omega⟩, fun j hj => by omega, fun i a b => by omega, fun e he => by omega⟩
theorem Inv.rep {a nx k p : Nat} (h : Inv R x m a nx k p) : ∀ (t e : Nat), a + t * p + e < nx + k → x (a + t * p + e) = x (a + e)
  | 0, e, _ => by simp
  | t + 1, e, he => by
    have e1 : a + (t + 1) * p + e = a + p + (t * p + e) := by rw [Nat.add_mul]; omega
    rw [e1] at he ⊢
    rw [h.C _ he, ← Nat.add_assoc, h.rep t e (by omega)]
theorem Inv.fits {a nx k p : Nat} (h : Inv R x m a nx k p) (hx : nx + k < m) (hy : x (a + k) = x (nx + k)) (hk : k + 1 < p) : Inv R x m a nx (k + 1) p := by
  refine ⟨h.p1, hk, by omega, h.mul, h.A, h.B, fun e he => ?_⟩
  rcases Nat.lt_or_ge (a + p + e) (nx + k) with hl | hl
  · exact h.C e hl
  · obtain ⟨J, h1, h2⟩ := h.mul
    obtain ⟨t, rfl⟩ : ∃ t, J = t + 1 := ⟨J - 1, by omega⟩
    have e1 : (t + 1) * p = t * p + p := by rw [Nat.add_mul]; omega
    have e2 : a + e = a + t * p + k := by omega
    rw [show a + p + e = nx + k by omega, ← hy, e2, h.rep t k (by omega)]
theorem Inv.whole {a nx k p : Nat} (h : Inv R x m a nx k p) (hx : nx + k < m) (hy : x (a + k) = x (nx + k)) (hk : k + 1 = p) : Inv R x m a (nx + p) 0 p := by
  obtain ⟨J, h1, h2⟩ := h.mul
  refine ⟨h.p1, by omega, by omega, ⟨J + 1, by omega, by rw [Nat.add_mul]; omega⟩, h.A, h.B, fun e he => ?_⟩
  rcases Nat.lt_or_ge (a + p + e) (nx + k) with hl | hl
  · exact h.C e hl
  · obtain ⟨t, rfl⟩ : ∃ t, J = t + 1 := ⟨J - 1, by omega⟩
    have e1 : (t + 1) * p = t * p + p := by rw [Nat.add_mul]; omega
    have e2 : a + e = a + t * p + k := by omega
    rw [show a + p + e = nx + k by omega, ← hy, e2, h.rep t k (by omega)]
/-- A place between the best end and the next: so many periods on, and more. -/
theorem split_at (p i : Nat) (hp : 1 ≤ p) : ∃ t r, i = t * p + r ∧ r < p := ⟨i / p, i % p, by have := Nat.div_add_mod i p; rw [Nat.mul_comm] at this; omega, Nat.mod_lt _ hp⟩
theorem Inv.less (o : Ord R) {a nx k p : Nat} (h : Inv R x m a nx k p) (hx : nx + k < m) (hy : R (x (nx + k)) (x (a + k))) : Inv R x m a (nx + k + 1) 0 (nx + k + 1 - a) := by
  have hlo := h.lo
  obtain ⟨J, h1, h2⟩ := h.mul
  refine ⟨by omega, by omega, by omega, ⟨1, by omega, by omega⟩, h.A, fun i hi hip => ?_, fun e he => by omega⟩
  obtain ⟨t, r, rfl, hr⟩ := split_at p i h.p1
  have key : ∀ e, t * p + r + e < nx + k - a → x (a + (t * p + r) + e) = x (a + r + e) := fun e he => by
    have := h.rep t (r + e) (by omega)
    rw [show a + (t * p + r) + e = a + t * p + (r + e) by omega, this, Nat.add_assoc]
  rcases Nat.eq_zero_or_pos r with h0 | h0
  · subst h0
    refine ⟨nx + k - a - t * p, by omega, fun e he => ?_, ?_⟩
    · rw [key e (by omega)]; simp
    · have e1 : a + (t * p + 0) + (nx + k - a - t * p) = nx + k := by omega
      rw [e1]
      have htJ : t ≤ J := by
        rcases Nat.lt_or_ge J t with hj | hj
        · have : (J + 1) * p ≤ t * p := Nat.mul_le_mul_right p hj
          rw [Nat.add_mul] at this
          have := h.kp
          omega
        · exact hj
      obtain ⟨q, rfl⟩ : ∃ q, J = t + q := ⟨J - t, by omega⟩
      have e2 : a + (nx + k - a - t * p) = a + q * p + k := by rw [Nat.add_mul] at h2; omega
      rw [e2]
      have ht : 1 ≤ t := by
        rcases Nat.eq_zero_or_pos t with h3 | h3
        · subst h3; omega
        · exact h3
      have : 1 * p ≤ t * p := Nat.mul_le_mul_right p ht
      rw [h.rep q k (by rw [Nat.add_mul] at h2; have := h.p1; omega)]
      exact hy
  · obtain ⟨d, d1, d2, d3⟩ := h.B r h0 hr
    rcases Nat.lt_or_ge (t * p + r + d) (nx + k - a) with hd | hd
    · exact ⟨d, by omega, fun e he => by rw [key e (by omega), d2 e he], by rw [key d hd]; exact d3⟩
    · have htJ : t = J := by
        rcases Nat.lt_trichotomy t J with hj | hj | hj
        · have : (t + 1) * p ≤ J * p := Nat.mul_le_mul_right p hj
          rw [Nat.add_mul] at this
          omega
        · exact hj
        · have : (J + 1) * p ≤ t * p := Nat.mul_le_mul_right p hj
          rw [Nat.add_mul] at this
          have := h.kp
          omega
      subst htJ
      obtain ⟨e, he⟩ : ∃ e, r + e = k := ⟨k - r, by have := h.kp; omega⟩
      refine ⟨e, by omega, fun f hf => by rw [key f (by omega), d2 f (by omega)], ?_⟩
      rw [show a + (t * p + r) + e = nx + k by omega]
      rcases Nat.lt_or_ge e d with hed | hed
      · rw [← d2 e hed, show a + r + e = a + k by omega]; exact hy
      · obtain rfl : e = d := by omega
        exact o.tr _ _ _ (by rw [show a + r + e = a + k by omega]; exact hy) d3
theorem Inv.more (o : Ord R) {a nx k p : Nat} (h : Inv R x m a nx k p) (hx : nx + k < m) (hy : R (x (a + k)) (x (nx + k))) : Inv R x m nx (nx + 1) 0 1 := by
  have hlo := h.lo
  obtain ⟨J, h1, h2⟩ := h.mul
  have hkp := h.kp
  have hD : Dom R x m a nx := ⟨k, by omega, hx, fun e he => by
    have := h.rep J e (by omega)
    rw [h2, this], hy⟩
  refine ⟨by omega, by omega, by omega, ⟨1, by omega, by omega⟩, fun j hj => ?_, fun i a b => by omega, fun e he => by omega⟩
  rcases Nat.lt_trichotomy j a with hl | rfl | hl
  · exact (h.A j hl).trans o hD
  · exact hD
  · obtain ⟨i, rfl⟩ : ∃ i, j = a + i := ⟨j - a, by omega⟩
    obtain ⟨t, r, rfl, hr⟩ := split_at p i h.p1
    have htJ : t + 1 ≤ J := by
      rcases Nat.lt_or_ge t J with hj | hj
      · exact hj
      · have : J * p ≤ t * p := Nat.mul_le_mul_right p hj
        omega
    have htp : (t + 1) * p ≤ J * p := Nat.mul_le_mul_right p htJ
    rw [Nat.add_mul] at htp
    have key : ∀ e, t * p + r + e < nx + k - a → x (a + (t * p + r) + e) = x (a + r + e) := fun e he => by
      have := h.rep t (r + e) (by omega)
      rw [show a + (t * p + r) + e = a + t * p + (r + e) by omega, this, Nat.add_assoc]
    rcases Nat.eq_zero_or_pos r with h0 | h0
    · subst h0
      refine ⟨k, by omega, hx, fun e he => ?_, ?_⟩
      · rw [key e (by omega), h2, h.rep J e (by omega)]; simp
      · rw [key k (by omega)]; simpa using hy
    · obtain ⟨d, d1, d2, d3⟩ := h.B r h0 hr
      refine Dom.trans o (j := a) ⟨d, by omega, by omega, fun e he => by rw [key e (by omega), d2 e he], by rw [key d (by omega)]; exact d3⟩ hD

theorem Inv.done (o : Ord R) {a nx k p : Nat} (h : Inv R x m a nx k p) (hx : m ≤ nx + k) : MaxEnd R x m a ∧ (∀ e, a + p + e < m → x (a + p + e) = x (a + e)) ∧ (∀ q, 0 < q → q < p → ∃ e, a + q + e < m ∧ x (a + q + e) ≠ x (a + e)) ∧ a + p ≤ m := by
  have hlo := h.lo
  have hnm := h.nm
  have hkp := h.kp
  obtain rfl : m = nx + k := by omega
  refine ⟨⟨by omega, fun j hj hja => ?_⟩, h.C, fun q hq hqp => ?_, by omega⟩
  · rcases Nat.lt_or_ge j a with hl | hl
    · exact .inl (h.A j hl)
    · obtain ⟨i, rfl⟩ : ∃ i, j = a + i := ⟨j - a, by omega⟩
      obtain ⟨t, r, rfl, hr⟩ := split_at p i h.p1
      have key : ∀ e, a + (t * p + r) + e < nx + k → x (a + (t * p + r) + e) = x (a + r + e) := fun e he => by
        have := h.rep t (r + e) (by omega)
        rw [show a + (t * p + r) + e = a + t * p + (r + e) by omega, this, Nat.add_assoc]
      rcases Nat.eq_zero_or_pos r with h0 | h0
      · subst h0
        exact .inr ⟨by omega, fun e he => by rw [key e he]; simp⟩
      · obtain ⟨d, d1, d2, d3⟩ := h.B r h0 hr
        rcases Nat.lt_or_ge (a + (t * p + r) + d) (nx + k) with hd | hd
        · exact .inl ⟨d, hd, by omega, fun e he => by rw [key e (by omega), d2 e he], by rw [key d hd]; exact d3⟩
        · exact .inr ⟨by omega, fun e he => by rw [key e he, d2 e (by omega)]⟩
  · obtain ⟨d, d1, d2, d3⟩ := h.B q hq hqp
    exact ⟨d, by omega, fun e => by rw [e] at d3; exact o.irr _ d3⟩

/-! ### critical cuts -/
/-- x has the period r. -/
def Per (x : Nat → Nat) (m r : Nat) : Prop := ∀ k, k + r < m → x k = x (k + r)
/-- At a place a, what is r bytes on either side fits. -/
def Loc (x : Nat → Nat) (m a r : Nat) : Prop := ∀ k, k < a → a ≤ k + r → k + r < m → x k = x (k + r)
theorem Per.loc {r : Nat} (h : Per x m r) (a : Nat) : Loc x m a r := fun k _ _ hk => h k hk
def Crit (x : Nat → Nat) (m a : Nat) : Prop := ∀ r, 0 < r → Loc x m a r → a < r ∧ Per x m r

theorem crit_far (o : Ord R) {a : Nat} (h : MaxEnd R x m a) {r : Nat} (hr : 0 < r) (hl : Loc x m a r) : a < r := by
  rcases Nat.lt_or_ge a r with hc | hc
  · exact hc
  exfalso
  have ham := h.1
  rcases h.2 (a - r) (by omega) (by omega) with ⟨d, h1, h2, h3, h4⟩ | ⟨h1, h2⟩
  · have heq : ∀ e, e < r → a + e < m → x (a - r + e) = x (a + e) := fun e he hem => by
      have := hl (a - r + e) (by omega) (by omega) (by omega)
      rw [this]; congr 1; omega
    rcases Nat.lt_or_ge d r with hd | hd
    · rw [heq d hd h2] at h4; exact o.irr _ h4
    · have hD : Dom R x m a (a + r) := ⟨d - r, by omega, by omega, fun e he => by
        have := h3 (e + r) (by omega)
        rw [show a - r + (e + r) = a + e by omega] at this
        rw [this]; congr 1; omega, by
        rw [show a + (d - r) = a - r + d by omega, show a + r + (d - r) = a + d by omega]; exact h4⟩
      exact dom_lt o hD (h.2 (a + r) (by omega) (by omega))
  · omega
theorem crit_of (o : Ord R) (hRR : ∀ a b, R' a b ↔ R b a) {a b : Nat} (h : MaxEnd R x m a) (h' : MaxEnd R' x m b) (hba : b ≤ a) : Crit x m a := by
  intro r hr hl
  have hlt := crit_far o h hr hl
  refine ⟨hlt, fun k hk => ?_⟩
  rcases Nat.lt_or_ge k a with hka | hka
  · exact hl k hka (by omega) hk
  obtain ⟨f, rfl⟩ : ∃ f, k = a + f := ⟨k - a, by omega⟩
  have ham := h.1
  rcases h.2 (a + r) (by omega) (by omega) with ⟨d, h1, h2, h3, h4⟩ | ⟨h1, h2⟩
  · exfalso
    have hpre : ∀ e, b + e < a → x (b + r + e) = x (b + e) := fun e he => by
      have := hl (b + e) he (by omega) (by omega)
      rw [this]; congr 1; omega
    have hmid : ∀ e, e < (a - b) + d → x (b + r + e) = x (b + e) := fun e he => by
      rcases Nat.lt_or_ge (b + e) a with hc | hc
      · exact hpre e hc
      · have := h3 (b + e - a) (by omega)
        rw [show a + r + (b + e - a) = b + r + e by omega, show a + (b + e - a) = b + e by omega] at this
        exact this
    have hend : R (x (b + r + ((a - b) + d))) (x (b + ((a - b) + d))) := by
      rw [show b + r + ((a - b) + d) = a + r + d by omega, show b + ((a - b) + d) = a + d by omega]; exact h4
    rcases h'.2 (b + r) (by omega) (by omega) with ⟨d', g1, g2, g3, g4⟩ | ⟨g1, g2⟩
    · have g4 := (hRR _ _).1 g4
      rcases Nat.lt_trichotomy d' ((a - b) + d) with hc | hc | hc
      · rw [hmid d' hc] at g4; exact o.irr _ g4
      · subst hc; exact o.asym g4 hend
      · rw [g3 _ hc] at hend; exact o.irr _ hend
    · rw [g2 _ (by omega)] at hend; exact o.irr _ hend
  · have := h2 f (by omega)
    rw [show a + f + r = a + r + f by omega]
    exact this.symm

/-- What a text's cut is good for. -/
structure Cut (x : Nat → Nat) (m a s : Nat) (small : Bool) : Prop where
  am : a < m
  s1 : 1 ≤ s
  crit : Crit x m a
  least : ∀ r, 0 < r → Per x m r → s ≤ r
  per : small = true → Per x m s
  far : s ≤ m + 1
theorem mul_on {q n : Nat} {y : Nat → Nat} (hp : ∀ e, q + e < n → y (q + e) = y e) : ∀ (t e : Nat), t * q + e < n → y (t * q + e) = y e
  | 0, e, _ => by simp
  | t + 1, e, h => by
    have e1 : (t + 1) * q + e = q + (t * q + e) := by rw [Nat.add_mul]; omega
    rw [e1] at h ⊢
    rw [hp _ h, mul_on hp t e (by omega)]
/-- The greatest end's period is the text's, or the text's is long. -/
theorem cut_of (hm : 0 < m) {a q : Nat} (ham : a < m) (hcr : Crit x m a) (q1 : 1 ≤ q) (hper : ∀ e, a + q + e < m → x (a + q + e) = x (a + e)) (hmin : ∀ p, 0 < p → p < q → ∃ e, a + p + e < m ∧ x (a + p + e) ≠ x (a + e)) (hq : a + q ≤ m)
    {small : Bool} (hs : small = true ↔ ∀ k, k < a → x k = x (k + q)) : Cut x m a (if small then q else max a (m - a) + 1) small := by
  have hlo : ∀ r, 0 < r → Per x m r → a < r ∧ q ≤ r := fun r h0 hp => by
    refine ⟨(hcr r h0 (hp.loc a)).1, ?_⟩
    rcases Nat.lt_or_ge r q with hc | hc
    · obtain ⟨e, h1, h2⟩ := hmin r h0 hc
      exact absurd (by have := hp (a + e) (by omega); rw [this]; congr 1; omega) h2
    · exact hc
  cases small with
  | true =>
    have hq' := hs.1 rfl
    have hP : Per x m q := fun k hk => by
      rcases Nat.lt_or_ge k a with hc | hc
      · exact hq' k hc
      · obtain ⟨e, rfl⟩ : ∃ e, k = a + e := ⟨k - a, by omega⟩
        rw [← hper e (by omega)]; congr 1; omega
    exact ⟨ham, q1, hcr, fun r h0 hp => (hlo r h0 hp).2, fun _ => hP, by simp; omega⟩
  | false =>
    refine ⟨ham, by simp, hcr, fun r h0 hp => ?_, (fun h => by cases h), by simp; omega⟩
    obtain ⟨l1, l2⟩ := hlo r h0 hp
    simp only [Bool.false_eq_true, if_false]
    rcases Nat.lt_or_ge (max a (m - a)) r with hc | hc
    · omega
    exfalso
    have hrm : r ≤ m - a := by omega
    -- the end's own period, many times
    have hy := mul_on (q := q) (n := m - a) (y := fun e => x (a + e)) (fun e he => by show x (a + (q + e)) = x (a + e); rw [← Nat.add_assoc]; exact hper e (by omega))
    obtain ⟨t, c, hrc, hcq⟩ : ∃ t c, r = t * q + c ∧ c < q := ⟨r / q, r % q, by have := Nat.div_add_mod r q; rw [Nat.mul_comm] at this; omega, Nat.mod_lt _ q1⟩
    rcases Nat.eq_zero_or_pos c with h1 | h1
    · subst h1
      have hP : ∀ k, k < a → x k = x (k + q) := fun k hk => by
        have k1 := hp k (by omega)
        have t1 : 1 ≤ t := by
          rcases Nat.eq_zero_or_pos t with h | h
          · subst h; omega
          · exact h
        obtain ⟨t', rfl⟩ : ∃ t', t = t' + 1 := ⟨t - 1, by omega⟩
        have e1 : (t' + 1) * q = t' * q + q := by rw [Nat.add_mul]; omega
        rcases Nat.lt_or_ge (k + q) a with hc | hc
        · have k2 := hp (k + q) (by omega)
          rw [k1, k2]
          obtain ⟨f, hf⟩ : ∃ f, k + r = a + f := ⟨k + r - a, by omega⟩
          have := hper f (by omega)
          rw [hf, ← this]; congr 1; omega
        · rw [k1]
          obtain ⟨f, hf⟩ : ∃ f, k + q = a + f := ⟨k + q - a, by omega⟩
          have := hy t' f (by omega)
          rw [hf, ← this]; congr 1; omega
      have := hs.2 hP
      cases this
    · have hloc : Loc x m a c := fun k hk h2 h3 => by
        have k1 := hp k (by omega)
        obtain ⟨f, hf⟩ : ∃ f, k + c = a + f := ⟨k + c - a, by omega⟩
        have := hy t f (by omega)
        rw [k1, hf, ← this]; congr 1; omega
      obtain ⟨e, g1, g2⟩ := hmin c h1 hcq
      have := (hcr c h1 hloc).2 (a + e) (by omega)
      exact g2 (by rw [this]; congr 1; omega)

/-! ### finding -/
variable {y : Nat → Nat} {n : Nat}
def Match (x : Nat → Nat) (m : Nat) (y : Nat → Nat) (n i : Nat) : Prop := i + m ≤ n ∧ ∀ k, k < m → y (i + k) = x k
/-- The bytes from the cut on fit up to one that doesn't: none stands before the move's end. -/
theorem Cut.skip {a s : Nat} {small : Bool} (h : Cut x m a s small) {p i : Nat} (hai : a ≤ i) (him : i < m) (hfit : ∀ k, a ≤ k → k < i → y (p + k) = x k) (hno : y (p + i) ≠ x i) : ∀ j, p ≤ j → j < p + (i - a + 1) → ¬ Match x m y n j := by
  intro j hj1 hj2 ⟨hm1, hm2⟩
  obtain ⟨r, rfl⟩ : ∃ r, j = p + r := ⟨j - p, by omega⟩
  rcases Nat.eq_zero_or_pos r with h0 | h0
  · subst h0; exact hno (by simpa using hm2 i him)
  · have hl : Loc x m a r := fun k h1 h2 h3 => by
      have e1 := hm2 k (by omega)
      have e2 := hfit (k + r) h2 (by omega)
      rw [← e1, ← e2]; congr 1; omega
    have hp := (h.crit r h0 hl).2 (i - r) (by omega)
    have e3 := hm2 (i - r) (by omega)
    rw [show p + r + (i - r) = p + i by omega, hp, show i - r + r = i by omega] at e3
    exact hno e3
/-- The bytes from the cut on all fit: behind this place none stands before the move's end. -/
theorem Cut.jump {a s : Nat} {small : Bool} (h : Cut x m a s small) {p : Nat} (hfit : ∀ k, a ≤ k → k < m → y (p + k) = x k) : ∀ j, p < j → j < p + s → ¬ Match x m y n j := by
  intro j hj1 hj2 ⟨hm1, hm2⟩
  obtain ⟨r, rfl⟩ : ∃ r, j = p + r := ⟨j - p, by omega⟩
  have hl : Loc x m a r := fun k h1 h2 h3 => by
    have e1 := hm2 k (by omega)
    have e2 := hfit (k + r) h2 h3
    rw [← e1, ← e2]; congr 1; omega
  have := h.least r (by omega) (h.crit r (by omega) hl).2
  omega
/-- What fitted fits still behind a move by the period. -/
theorem Cut.known {a s : Nat} (h : Cut x m a s true) {p : Nat} (hfit : ∀ k, a ≤ k → k < m → y (p + k) = x k) : ∀ k, k < m - s → y (p + s + k) = x k := by
  intro k hk
  have hp := h.per rfl
  have ha := (h.crit s h.s1 (hp.loc a)).1
  have := hfit (s + k) (by omega) (by omega)
  rw [show p + s + k = p + (s + k) by omega, this, hp k (by omega)]; congr 1; omega
/-- The first place from p on; -1: none. -/
def next (x : Nat → Nat) (m : Nat) (y : Nat → Nat) (n p : Nat) (r : Int) : Prop := (0 ≤ r → p ≤ r.toNat ∧ Match x m y n r.toNat ∧ ∀ j, p ≤ j → j < r.toNat → ¬ Match x m y n j) ∧ (r < 0 → r = -1 ∧ ∀ j, p ≤ j → ¬ Match x m y n j)
theorem next_one {p : Nat} {r r' : Int} (h : next x m y n p r) (h' : next x m y n p r') : r = r' := by
  rcases Int.lt_or_le r 0 with a | a <;> rcases Int.lt_or_le r' 0 with b | b
  · rw [(h.2 a).1, (h'.2 b).1]
  · exact absurd (h'.1 b).2.1 ((h.2 a).2 _ (h'.1 b).1)
  · exact absurd (h.1 a).2.1 ((h'.2 b).2 _ (h.1 a).1)
  · obtain ⟨a1, a2, a3⟩ := h.1 a
    obtain ⟨b1, b2, b3⟩ := h'.1 b
    rcases Nat.lt_trichotomy r.toNat r'.toNat with c | c | c
    · exact absurd a2 (b3 _ a1 c)
    · omega
    · exact absurd b2 (a3 _ b1 c)
theorem next_from {p q : Nat} {r : Int} (hpq : p ≤ q) (hno : ∀ j, p ≤ j → j < q → ¬ Match x m y n j) (h : next x m y n q r) : next x m y n p r := by
  refine ⟨fun a => ?_, fun a => ?_⟩
  · obtain ⟨a1, a2, a3⟩ := h.1 a
    refine ⟨by omega, a2, fun j h1 h2 => ?_⟩
    rcases Nat.lt_or_ge j q with c | c
    · exact hno j h1 c
    · exact a3 j c h2
  · obtain ⟨a1, a2⟩ := h.2 a
    refine ⟨a1, fun j h1 => ?_⟩
    rcases Nat.lt_or_ge j q with c | c
    · exact hno j h1 c
    · exact a2 j c
end
end Seine.Two
end
section
/- The walks of packages suffix and critical: the greatest end of a text, and where it is cut. -/
set_option linter.unusedVariables false
set_option linter.unusedSimpArgs false
namespace Go.Proofs.Ytpkapgjpnkcffaa
open Go.RowKit Seine.Trie Seine.Two

/-- How bytes stand: by the order, or the turned one. -/
def RB (t : Bool) (a b : Nat) : Prop := if t then b < a else a < b
instance (t : Bool) (a b : Nat) : Decidable (RB t a b) := by unfold RB; exact inferInstance
theorem RB_ord (t : Bool) : Ord (RB t) := by
  cases t
  · exact ⟨fun a => by simp [RB], fun a b c h1 h2 => by simp [RB] at *; omega, fun a b h => by simp [RB]; omega⟩
  · exact ⟨fun a => by simp [RB], fun a b c h1 h2 => by simp [RB] at *; omega, fun a b h => by simp [RB]; omega⟩
theorem RB_flip (a b : Nat) : RB true a b ↔ RB false b a := by simp [RB]
/-- A text's bytes as numbers. -/
def bx (b : Txt) (k : Nat) : Nat := (b.getD k 0).toNat

theorem less_calls (w : World) (bl : Nat) (t : Bool) (a c : Nat) (hc : w.cell? ⟨bl, 0, none⟩ = some (.bool t)) (r : Bool) (hr : r = decide (RB t a c)) :
    Calls Try.prog 60 #[.int .u8 (a : Int), .int .u8 (c : Int), .pointer (some ⟨bl, 0, none⟩)] w fun e w' => e = .returned (.bool r) ∧ w = w' := by
  rcases Nat.lt_trichotomy a c with h | h | h
  · have h1 : ((a : Int) != (c : Int)) = true := by simp; omega
    have h2 : decide ((a : Int) < (c : Int)) = true := by simp; omega
    have h2' : decide (a < c) = true := by simp; omega
    obtain rfl : r = !t := by rw [hr]; cases t <;> simp [RB] <;> omega
    clear hr h
    cases t
    all_goals
      go_enter Try.func60, Try.ntmps60
      go_wp2
      go_ret
      exact ⟨rfl, rfl⟩
  · subst h
    have h1 : ((a : Int) != (a : Int)) = false := by simp
    obtain rfl : r = false := by rw [hr]; cases t <;> simp [RB]
    clear hr
    go_enter Try.func60, Try.ntmps60
    go_wp2
    go_ret
    exact ⟨rfl, rfl⟩
  · have h1 : ((a : Int) != (c : Int)) = true := by simp; omega
    have h2 : decide ((a : Int) < (c : Int)) = false := by simp; omega
    have h2' : decide (a < c) = false := by simp; omega
    obtain rfl : r = t := by rw [hr]; cases t <;> simp [RB] <;> omega
    clear hr h
    cases r
    all_goals
      go_enter Try.func60, Try.ntmps60
      go_wp2
      go_ret
      exact ⟨rfl, rfl⟩

theorem by_calls (w : World) (t : Bool) : Calls Try.prog 57 #[.bool t] w fun e w' => ∃ bl, e = .returned (.agg #[.func (.func 60) #[] #[.pointer (some ⟨bl, 0, none⟩)]]) ∧ w'.heap[bl]? = some (.cells #[.bool t] 4 (0, 0)) ∧ Below w.heap.size w w' := by
  have hmf : ∀ (fn : Fn) (first cap : Array Value) (w : World), (Instr.makeFunc fn first cap).run Try.prog w = .ok (.func fn first cap) w := fun _ _ _ _ => rfl
  go_enter Try.func57, Try.ntmps57
  go_wp2
  refine bodyPost_ret (v := .agg #[.func (.func 60) #[] #[.pointer (some ⟨w.heap.size, 0, none⟩)]]) (by simp [results, Try.results57, go_sem]) rfl ⟨w.heap.size, rfl, ?_, ?_⟩
  · exact blk_old (heap_alloc_new w _)
  · exact ((Below.refl _ _).alloc (Nat.le_refl _) _).alloc (by simp) _

set_option maxRecDepth 100000 in
set_option maxHeartbeats 1600000 in
theorem max_calls (w : World) (A : Option Addr) (c : Nat) (b : Txt) (t : Bool) (hb : Byt w A b) (hl : b.length ≤ 1000000) (hne : 0 < b.length) :
    Calls Try.prog 53 #[.slice A b.length c, .bool t] w fun e w' => ∃ a p : Nat, e = .returned (.tuple #[.int .i64 (a : Int), .int .i64 (p : Int)]) ∧ (MaxEnd (RB t) (bx b) b.length a ∧ (∀ e, a + p + e < b.length → bx b (a + p + e) = bx b (a + e)) ∧ (∀ q, 0 < q → q < p → ∃ e, a + q + e < b.length ∧ bx b (a + q + e) ≠ bx b (a + e)) ∧ a + p ≤ b.length ∧ 1 ≤ p) ∧ Below w.heap.size w w' := by
  have HX := As.mk hb
  clear hb
  obtain ⟨n, hn⟩ : ∃ n, b.length = n := ⟨_, rfl⟩
  rw [hn] at hl hne
  have hn' := As.mk hn
  have hst : As (Inv (RB t) (bx b) n 0 1 0 1) := ⟨Inv.start hne⟩
  have hord := As.mk (RB_ord t)
  have hn0 : ((n : Int) == 0) = false := by simp; omega
  rw [hn]
  clear hn
  go_enter Try.func53, Try.ntmps53
  go_wp2_with fail
  refine Calls.mono (by_calls w t) ?_
  rintro e w1 ⟨bl, rfl, hbl, hb1⟩
  have HX1 := As.mk (HX.out.below hb1)
  replace hb1 := As.mk hb1
  have hbl0 := block_lt hbl
  go_wp2
  have v1 : (w1.alloc (.cells #[.func (.func 60) #[] #[.pointer (some ⟨bl, 0, none⟩)]] 115)).cell? ⟨w1.heap.size, 0, none⟩ = some (.func (.func 60) #[] #[.pointer (some ⟨bl, 0, none⟩)]) := cell_of_blk (heap_alloc_new w1 _) 0
  have v2 : (w1.alloc (.cells #[.func (.func 60) #[] #[.pointer (some ⟨bl, 0, none⟩)]] 115)).cell? ⟨bl, 0, none⟩ = some (.bool t) := cell_of_blk (blk_old hbl) 0
  have hX2 := As.mk (HX1.out.alloc (.cells #[.func (.func 60) #[] #[.pointer (some ⟨bl, 0, none⟩)]] 115))
  have hB2 := As.mk (hb1.out.alloc hb1.out.size (.cells #[.func (.func 60) #[] #[.pointer (some ⟨bl, 0, none⟩)]] 115))
  clear hbl hbl0
  generalize (w1.alloc (.cells #[.func (.func 60) #[] #[.pointer (some ⟨bl, 0, none⟩)]] 115)) = w2 at *
  generalize w1.heap.size = ob at *
  go_loopg [7, 8, 9, 10] (2 * n + 1) (fun gk a nx k p wr => ∃ (A' N K Q m : Nat), As (2 * n + 2 ≤ gk + (A' + N + K)) ∧ a = .int .i64 A' ∧ nx = .int .i64 N ∧ k = .int .i64 K ∧ p = .int .i64 Q ∧ As (Inv (RB t) (bx b) n A' N K Q) ∧ wr = w2.drewN m)
  case atStart => exact ⟨0, 1, 0, 1, 0, ⟨by omega⟩, rfl, rfl, rfl, rfl, hst, rfl⟩
  case round =>
    obtain ⟨a, N, K, Q, m, hgk, rfl, rfl, rfl, rfl, hinv, rfl⟩ := hrel
    have h1 := hinv.out.p1
    have h2 := hinv.out.kp
    have h3 := hinv.out.nm
    have h4 := hinv.out.lo
    obtain ⟨gp, rfl⟩ : ∃ gp, gk = gp + 1 := ⟨gk - 1, by have := hgk.out; omega⟩
    by_cases hlt : N + K < n
    · obtain ⟨ad, rfl, c1⟩ := Byt.at_ hX2.out (i := a + K) (by have := hn'.out; omega)
      obtain ⟨ad', e', c2⟩ := Byt.at_ hX2.out (i := N + K) (by have := hn'.out; omega)
      injection e' with e'
      subst e'
      obtain ⟨x, hx⟩ : ∃ x, (b.getD (a + K) 0).toNat = x := ⟨_, rfl⟩
      obtain ⟨y, hy⟩ : ∃ y, (b.getD (N + K) 0).toNat = y := ⟨_, rfl⟩
      rw [hx] at c1
      rw [hy] at c2
      have hx := As.mk (show bx b (a + K) = x from hx)
      have hy := As.mk (show bx b (N + K) = y from hy)
      have hlt' : (N : Int) + (K : Int) < (n : Int) := by omega
      have hak : (a : Int) + (K : Int) < (n : Int) := by omega
      have i1 : IntKind.i64.wrap ((a : Int) + (K : Int)) = (a : Int) + (K : Int) := IntWalk.i64_in _ (by omega)
      have i2 : IntKind.i64.wrap ((N : Int) + (K : Int)) = (N : Int) + (K : Int) := IntWalk.i64_in _ (by omega)
      have j1 : 0 ≤ (a : Int) + (K : Int) := by omega
      have j2 : 0 ≤ (N : Int) + (K : Int) := by omega
      have k1 : ((a : Int) + (K : Int)).toNat = a + K := by omega
      have k2 : ((N : Int) + (K : Int)).toNat = N + K := by omega
      go_wp2
      go_quiet (fail)
      clear i1 i2 j1 j2 k1 k2
      rw [World.drewN_drewN]
      have cl := As.mk (fun (r : Bool) (hr : r = decide (RB t y x)) => less_calls (w2.drewN (m + nq)) bl t y x v2 r hr)
      have v1' : (w2.drewN (m + nq)).cell? ⟨ob, 0, none⟩ = some (.func (.func 60) #[] #[.pointer (some ⟨bl, 0, none⟩)]) := v1
      clear c1 c2
      rcases (show RB t y x ∨ (¬ RB t y x ∧ x = y) ∨ (¬ RB t y x ∧ RB t x y) by
        by_cases h1 : RB t y x
        · exact .inl h1
        · by_cases h2 : x = y
          · exact .inr (.inl ⟨h1, h2⟩)
          · rcases hord.out.tot x y h2 with h3 | h3
            · exact .inr (.inr ⟨h1, h3⟩)
            · exact absurd h3 h1) with hR | ⟨hR, hxy⟩ | ⟨hR, hR2⟩
      · have hinv2 := As.mk (hinv.out.less hord.out hlt (by rw [hx.out, hy.out]; exact hR))
        have c3 := As.mk (cl.out true (by simp [hR]))
        clear hR
        go_wp2_with (go_at_call 60; refine Calls.mono c3.out ?_; rintro e w' ⟨rfl, rfl⟩)
        go_roundg gp
        case rel => exact ⟨a, N + K + 1, 0, N + K + 1 - a, _, ⟨by have := hgk.out; omega⟩, rfl, (by first | rfl | go_num | (congr 1; omega)), rfl, (by first | rfl | go_num | (congr 1; omega)), hinv2, rfl⟩
        case measure => omega
      · subst hxy
        have c3 := As.mk (cl.out false (by simp [hR]))
        clear hR
        by_cases hk : K + 1 < Q
        · have hinv2 := As.mk (hinv.out.fits hlt (by rw [hx.out, hy.out]) hk)
          have hk1 : decide ((K : Int) + 1 < (Q : Int)) = true := by simp; omega
          go_wp2_with (go_at_call 60; refine Calls.mono c3.out ?_; rintro e w' ⟨rfl, rfl⟩)
          go_roundg gp
          case rel => exact ⟨a, N, K + 1, Q, _, ⟨by have := hgk.out; omega⟩, rfl, rfl, (by first | rfl | go_num | (congr 1; omega)), rfl, hinv2, rfl⟩
          case measure => omega
        · have hinv2 := As.mk (hinv.out.whole hlt (by rw [hx.out, hy.out]) (by omega))
          have hk1 : decide ((K : Int) + 1 < (Q : Int)) = false := by simp; omega
          go_wp2_with (go_at_call 60; refine Calls.mono c3.out ?_; rintro e w' ⟨rfl, rfl⟩)
          go_roundg gp
          case rel => exact ⟨a, N + Q, 0, Q, _, ⟨by have := hgk.out; omega⟩, rfl, (by first | rfl | go_num | (congr 1; omega)), rfl, rfl, hinv2, rfl⟩
          case measure => omega
      · have hinv2 := As.mk (hinv.out.more hord.out hlt (by rw [hx.out, hy.out]; exact hR2))
        have c3 := As.mk (cl.out false (by simp [hR]))
        have hne1 : ((x : Int) == (y : Int)) = false := by
          have : x ≠ y := fun e => hord.out.irr x (by rw [← e] at hR2; exact hR2)
          simp; omega
        clear hR hR2
        go_wp2_with (go_at_call 60; refine Calls.mono c3.out ?_; rintro e w' ⟨rfl, rfl⟩)
        go_roundg gp
        case rel => exact ⟨N, N + 1, 0, 1, _, ⟨by have := hgk.out; omega⟩, rfl, (by first | rfl | go_num | (congr 1; omega)), rfl, rfl, hinv2, rfl⟩
        case measure => omega
    · have hlt' : decide ((N : Int) + (K : Int) < (n : Int)) = false := by simp; omega
      obtain ⟨d1, d2, d3, d4⟩ := hinv.out.done hord.out (by omega)
      have hfin := As.mk (And.intro d1 (And.intro d2 (And.intro d3 (And.intro d4 h1))))
      clear d1 d2 d3 d4 hlt
      go_wp2
      go_ret2
      exact ⟨a, Q, rfl, hfin.out, below_drewN hB2.out m⟩
end Go.Proofs.Ytpkapgjpnkcffaa
end
section
/- Texts as the printer's words tell them: byte arrays, lists of numbers. Plain facts. -/
set_option linter.unusedVariables false
set_option linter.unusedSimpArgs false
namespace Go.Proofs.Ytpkapgjpnkcffaa
open Go.RowKit Seine.Trie Go.Proofs.YtpkapgjpnkcffaaW.PrintWords

def bb (l : Txt) : ByteArray := ⟨l.toArray⟩
def nb (l : Txt) : List Int := l.map fun c => (c.toNat : Int)
theorem nb_length (l : Txt) : (nb l).length = l.length := by simp [nb]
theorem bb_data (l : Txt) : (bb l).data.toList = l := by simp [bb]
theorem bb_of (s : ByteArray) : bb s.data.toList = s := by cases s; simp [bb]
theorem bb_ext {a b : ByteArray} (h : a.data.toList = b.data.toList) : a = b := by rw [← bb_of a, ← bb_of b, h]
theorem bb_size (l : Txt) : (bb l).size = l.length := by simp [bb, ByteArray.size]
theorem bb_toList (l : Txt) : (bb l).toList = l := by rw [ByteArray.toList_eq, bb_data]
theorem bb_inj {a b : Txt} (h : bb a = bb b) : a = b := by rw [← bb_data a, h, bb_data]
theorem bb_append (a b : Txt) : bb a ++ bb b = bb (a ++ b) := bb_ext (by rw [bb_data, ByteArray.data_append, Array.toList_append, bb_data, bb_data])
theorem bb_extract (l : Txt) (a b : Nat) : (bb l).extract a b = bb ((l.drop a).take (b - a)) := bb_ext (by
  rw [bb_data, ByteArray.data_extract, Array.toList_extract, bb_data, List.extract_eq_take_drop])
theorem bb_from (l : Txt) (a : Nat) : (bb l).extract a (bb l).size = bb (l.drop a) := by
  rw [bb_extract, bb_size, List.take_of_length_le (by simp)]
theorem bb_to (l : Txt) (b : Nat) : (bb l).extract 0 b = bb (l.take b) := by rw [bb_extract]; simp
theorem bb_nums (l : Txt) : strOfNums (nb l) = bb l := by
  apply bb_ext
  rw [bb_data]
  simp [strOfNums, nb, Function.comp_def]
theorem bytesOf_bb (l : Txt) : bytesOf (bb l) = nb l := by unfold bytesOf; rw [bb_data]; rfl
theorem rdOf_bb (l : List Txt) (i : Nat) (h : i < l.length) : rdOf ByteArray.empty (l.map bb) (i : Int) = bb (l.getD i []) := by
  unfold rdOf
  rw [Int.toNat_natCast]
  simp [List.getD_eq_getElem?_getD, h]
theorem bt_bb (l : Txt) (i : Nat) (h : i < l.length) : bt (bb l) (i : Int) = ((l.getD i 0).toNat : Int) := by
  unfold bt
  rw [Int.toNat_natCast, dif_pos (by rw [bb_size]; exact h)]
  simp [bb, List.getD_eq_getElem?_getD, h, ByteArray.getElem_eq_getElem_data]
theorem w64s (m : Nat) (h : m ≤ 1000000000000) : wrap64 ((m : Int) + 1) = ((m + 1 : Nat) : Int) := by unfold wrap64; omega
theorem w64 {x : Int} (h0 : -9223372036854775808 ≤ x) (h1 : x < 9223372036854775808) : wrap64 x = x := by unfold wrap64; omega

/-- f answers r, with enough rounds. -/
def Evl {α : Type} (f : Nat → Option α) (r : α) : Prop := ∃ N, ∀ k, N ≤ k → f k = some r
theorem Evl.step {α : Type} {f g : Nat → Option α} {r : α} (h : Evl g r) (e : ∀ k, f (k + 1) = g k) : Evl f r := by
  obtain ⟨N, h⟩ := h
  exact ⟨N + 1, fun k hk => by obtain ⟨m, rfl⟩ : ∃ m, k = m + 1 := ⟨k - 1, by omega⟩; rw [e, h m (by omega)]⟩
theorem Evl.bind {α β : Type} {f : Nat → Option α} {g : Nat → α → Option β} {a : α} {r : β} (h : Evl f a) (k : Evl (fun n => g n a) r) : Evl (fun n => (f n).bind (g n)) r := by
  obtain ⟨N, h⟩ := h
  obtain ⟨M, k⟩ := k
  exact ⟨max N M, fun n hn => by
    show (f n).bind (g n) = some r
    rw [h n (by omega)]; exact k n (by omega)⟩
theorem Evl.of {α : Type} {f : Nat → Option α} {r : α} (h : ∀ k, f k = some r) : Evl f r := ⟨0, fun k _ => h k⟩
theorem Evl.congr {α : Type} {f g : Nat → Option α} {r : α} (h : Evl g r) (e : ∀ k, f k = g k) : Evl f r := by
  obtain ⟨N, h⟩ := h
  exact ⟨N, fun k hk => (e k).trans (h k hk)⟩
theorem Evl.get {α : Type} {f : Nat → Option α} {r : α} (h : Evl f r) : ∃ k, f k = some r := by
  obtain ⟨N, h⟩ := h
  exact ⟨N, h N (Nat.le_refl _)⟩

/-! ### rows -/
theorem kdU8 {w : World} {A : Option Addr} {b : Txt} (h : Byt w A b) (hl : b.length ≤ 9223372036854775807) : Kd.C (Kd.int .u8) w A b.length (nb b) := by
  refine ⟨nb_length b, hl, fun h0 => ?_⟩
  rcases h with h | ⟨ad, hA, _, hc⟩
  · have := congrArg List.length h; rw [byCells_length] at this; simp at this; simp [this] at h0
  · refine ⟨ad, hA, fun j p hp => ⟨[.int .u8 p], rfl, rfl, fun i u hu => ?_⟩⟩
    have hi : i = 0 := by
      have := (List.getElem?_eq_some_iff.1 hu).1
      simpa using this
    subst hi
    injection hu with hu
    subst hu
    have e : (Kd.int .u8).sz = 1 := rfl
    rw [e, Nat.mul_one, Nat.add_zero]
    refine hc j _ ?_
    unfold nb at hp
    unfold byCells
    rw [List.getElem?_map] at hp ⊢
    cases hb : b[j]? with
    | none => rw [hb] at hp; cases hp
    | some c => rw [hb] at hp; injection hp with hp; subst hp; rfl
/-- Rows of whole numbers. -/
def intVals (xs : List Int) : List Value := xs.map (Value.int .i64)
theorem intVals_length (xs : List Int) : (intVals xs).length = xs.length := by simp [intVals]
abbrev Ints (w : World) (A : Option Addr) (xs : List Int) : Prop := Row w A (intVals xs)
theorem kdInts {w : World} {A : Option Addr} {b : List Int} (h : Ints w A b) (hl : b.length ≤ 9223372036854775807) : Kd.C (Kd.int .i64) w A b.length b := by
  refine ⟨rfl, hl, fun h0 => ?_⟩
  rcases h with h | ⟨ad, hA, _, hc⟩
  · have := congrArg List.length h; rw [intVals_length] at this; simp at this; simp [this] at h0
  · refine ⟨ad, hA, fun j p hp => ⟨[.int .i64 p], rfl, rfl, fun i u hu => ?_⟩⟩
    have hi : i = 0 := by
      have := (List.getElem?_eq_some_iff.1 hu).1
      simpa using this
    subst hi
    injection hu with hu
    subst hu
    have e : (Kd.int .i64).sz = 1 := rfl
    rw [e, Nat.mul_one, Nat.add_zero]
    refine hc j _ ?_
    unfold intVals
    rw [List.getElem?_map, hp]; rfl
theorem conv_byt {w : World} {src : TypeId} {A : Option Addr} {b : Txt} {c : Nat} (hs : Try.prog.underlying src = some (.slice 5)) (h : Byt w A b) (hl : b.length ≤ 9223372036854775807) : (convert src 9 (.slice A b.length c)).run Try.prog w = .ok (.string (bb b)) w := by
  have := Kd.C_string (P := Try.prog) (src := src) (dst := 9) (c := c) hs Try.underlying5 Try.underlying9 (kdU8 h hl)
  rw [bb_nums] at this
  exact this
/-- A string of new bytes. -/
theorem strOf {w : World} {A : Option Addr} {b : Txt} {c : Nat} (h : Byt w A b) (hl : b.length ≤ 9223372036854775807) {s : ByteArray} (hs : bb b = s) : (convert 22 9 (.slice A b.length c)).run Try.prog w = .ok (.string s) w := by
  rw [conv_byt Try.underlying22 h hl, hs]
end Go.Proofs.Ytpkapgjpnkcffaa
end
