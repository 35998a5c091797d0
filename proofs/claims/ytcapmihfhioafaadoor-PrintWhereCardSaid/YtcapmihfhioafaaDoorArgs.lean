/- What an argument of a law reads as: slices of pairs, of bytes, of numbers. -/
import Derived.Test.YtcapmihfhioafaaDoorProg
import Derived.Test.YtcapmihfhioafaaDoorBase
import Derived.ProofKit
import Derived.Deep.Slices
import Derived.Deep.Fields
import Derived.ChangeSame
set_option linter.unusedVariables false
set_option linter.unusedSimpArgs false
set_option maxRecDepth 100000
namespace Go.Proofs.YtcapmihfhioafaaDoor
open Go.ChangeShapes Go.WideShapes Go.Deep Go.RowKit

theorem own : ownKnob Tryd.prog.godebug = none := by kernel_rfl
theorem laidOut : laidOutB Tryd.prog = true := by kernel_rfl

section
variable {H : Type} {enc : TypeId × Value → H} {w : World} {base : Nat}
/-- A row out of its cells. -/
theorem row_of_cells {A : Option Addr} {cs : List Value} (h : 0 < cs.length → ∃ ad, A = some ad ∧ ∀ j u, cs[j]? = some u → w.cell? (ad.add j) = some u) : Row w A cs := by
  rcases Nat.eq_zero_or_pos cs.length with h0 | h0
  · exact .inl (List.eq_nil_of_length_eq_zero h0)
  · obtain ⟨ad, hA, hc⟩ := h h0
    refine .inr ⟨ad, hA, ?_, hc⟩
    have h1 := hc 0 cs[0] (List.getElem?_eq_getElem h0)
    have := World.block_lt_of_cell? w _ h1
    rwa [Addr.block_add] at this

/-- A slice of whole numbers. -/
theorem arg_ints {k : IntKind} {t e : TypeId} (ht : Tryd.prog.underlying t = some (.slice e)) (he : Tryd.prog.underlying e = some (.int k)) (hc : Tryd.prog.cellsOf e = 1) {v : Value} {d : DataW H} {p : List MemPlace}
    (hv : Value.okWide Tryd.prog w .any base t v) (h : DataW.Trod enc Tryd.prog w 0 (fun _ => true) true t v d p) :
    ∃ (A : Option Addr) (c : Nat) (xs : List Int), v = .slice A xs.length c ∧ Row w A (xs.map (Value.int k)) ∧ xs.length ≤ c ∧ c ≤ maxLen ∧ ∀ x ∈ xs, (Lit.int k x).wf = true := by
  obtain ⟨a0, len, cap, rfl⟩ := okWide_slice ht hv
  obtain ⟨fuel, hf⟩ := h
  rcases open_ints ht he hc hf with ⟨hcs, _⟩ | ⟨x, l, c, zs, hcs, _, hl, hm, hz, _, hcell, hwz⟩
  · simp [Value.cells] at hcs
    obtain ⟨rfl, rfl, rfl⟩ := hcs
    exact ⟨none, 0, [], rfl, .inl rfl, Nat.le_refl _, Nat.zero_le _, by simp⟩
  · simp [Value.cells] at hcs
    obtain ⟨rfl, rfl, rfl⟩ := hcs
    have hz : zs.length = cap := by simpa using hz
    have hlen : (zs.take len).length = len := by rw [List.length_take]; omega
    refine ⟨_, cap, zs.take len, by rw [hlen], row_of_cells (fun _ => ⟨x, rfl, fun j u hu => ?_⟩), by omega, hm, fun y hy => hwz y (List.mem_of_mem_take hy)⟩
    rw [List.getElem?_map, Option.map_eq_some_iff] at hu
    obtain ⟨y, hy, rfl⟩ := hu
    have hj : j < len := by
      rcases Nat.lt_or_ge j (zs.take len).length with h | h
      · omega
      · rw [List.getElem?_eq_none h] at hy; cases hy
    rw [List.getElem?_take_of_lt hj] at hy
    have := hcell j (by omega)
    rw [this, List.getD_eq_getElem?_getD, hy]; rfl

theorem open_slice_fields {P : Program} {spare : Nat → Bool} {held : Bool} {t e : TypeId} {fs : Array Field} {fuel : Nat} {cs : List Value} {x : DataW H × List MemPlace} (ht : P.underlying t = some (.slice e)) (he : P.underlying e = some (.struct fs))
    (hone : oneCellFields P fs = true) (hC : P.cellsOf e = fs.size) (h : DataW.trod enc P w base spare held fuel t cs = some x) :
    (cs = [.slice none 0 0]) ∨
    ∃ (a : Addr) (len cap : Nat), cs = [.slice (some a) len cap] ∧ len ≤ cap ∧ cap ≤ maxLen ∧
      ∀ i, i < len → ∃ (ys : List (DataW H × List MemPlace)) (n : Nat),
        ∀ (j : Nat) (f : Field), fs[j]? = some f → ∃ (v : Value) (y : DataW H × List MemPlace), w.cell? (a.add (i * fs.size + j)) = some v ∧ ys[j]? = some y ∧ DataW.trod enc P w base spare held n f.type [v] = some y := by
  rcases open_slice ht h with h0 | ⟨a, len, cap, m, n, D, Pl, hcs, hb, hl, hm, hmm, hx, hi⟩
  · exact .inl h0.1
  · refine .inr ⟨a, len, cap, hcs, hl, hm, fun i him => ?_⟩
    obtain ⟨cs', hc, ht'⟩ := hi i (by rw [hmm]; split <;> omega)
    rw [hC] at hc
    obtain ⟨ys, n', hn', hy, hlen, hyl, hf⟩ := DataW.trod_struct he ht'
    obtain ⟨_, hcl, hat⟩ := World.cells?_some hc
    refine ⟨ys, n', fun j f hj => ?_⟩
    obtain ⟨ho, hk⟩ := hone_of hone j f hj
    have hjl : j < fs.size := (Array.getElem?_eq_some_iff.1 hj).1
    have hcell := hat j hjl
    have hv : cs'[j]? = some (cs'[j]'(by omega)) := List.getElem?_eq_getElem (by omega)
    have h1 := hf j f hj
    rw [ho, hk] at h1
    have hone' : (cs'.drop j).take 1 = [cs'[j]'(by omega)] := by
      rw [List.drop_eq_getElem_cons (by omega)]
      rfl
    rw [hone'] at h1
    have hys : ys[j]? = some (ys[j]'(by omega)) := List.getElem?_eq_getElem (by omega)
    refine ⟨_, _, ?_, hys, h1.trans hys⟩
    rw [← Go.Deep.add_add, hcell, hv]

theorem flat_pairs : ∀ (xs : List (Int × Int)) (f : Nat → Option Value), (∀ i (h : i < xs.length), f (i * 2) = some (.int .i64 xs[i].1) ∧ f (i * 2 + 1) = some (.int .i64 xs[i].2)) →
    ∀ j u, (xs.flatMap fun p => [Value.int .i64 p.1, .int .i64 p.2])[j]? = some u → f j = some u
  | [], _, _, j, u, h => by simp at h
  | x :: xs, f, hf, j, u, h => by
    have h0 := hf 0 (by simp)
    simp only [List.flatMap_cons, List.cons_append, List.nil_append] at h
    match j, h with
    | 0, h => simp at h; rw [← h]; simpa using h0.1
    | 1, h => simp at h; rw [← h]; simpa using h0.2
    | j + 2, h =>
      refine flat_pairs xs (fun i => f (i + 2)) (fun i hi => ?_) j u (by simpa using h)
      have := hf (i + 1) (by simpa using hi)
      rw [show (i + 1) * 2 = i * 2 + 2 by omega] at this
      refine ⟨by simpa using this.1, ?_⟩
      have h2 := this.2
      simpa [Nat.add_right_comm] using h2

/-- A slice of pairs, cell by cell. -/
theorem arg_pairs {v : Value} {d : DataW H} {p : List MemPlace} (hv : Value.okWide Tryd.prog w .any base 27 v) (h : DataW.Trod enc Tryd.prog w 0 (fun _ => true) true 27 v d p) :
    ∃ (A : Option Addr) (c : Nat) (xs : List (Int × Int)), v = .slice A xs.length c ∧ Row w A (xs.flatMap fun p => [.int .i64 p.1, .int .i64 p.2]) ∧ xs.length ≤ c ∧ c ≤ maxLen ∧ ∀ x ∈ xs, (Lit.int .i64 x.1).wf = true ∧ (Lit.int .i64 x.2).wf = true := by
  obtain ⟨a0, len, cap, rfl⟩ := okWide_slice Tryd.underlying27 hv
  obtain ⟨fuel, hf⟩ := h
  rcases open_slice_fields Tryd.underlying27 Tryd.underlying36 (by kernel_rfl) (by kernel_rfl) hf with hcs | ⟨a, l, c, hcs, hl, hm, hi⟩
  · simp [Value.cells] at hcs
    obtain ⟨rfl, rfl, rfl⟩ := hcs
    exact ⟨none, 0, [], rfl, .inl rfl, Nat.le_refl _, Nat.zero_le _, by simp⟩
  · simp [Value.cells] at hcs
    obtain ⟨rfl, rfl, rfl⟩ := hcs
    have H2 : ∀ i, i < len → ∃ x : Int × Int, w.cell? (a.add (i * 2)) = some (.int .i64 x.1) ∧ w.cell? (a.add (i * 2 + 1)) = some (.int .i64 x.2) ∧ (Lit.int .i64 x.1).wf = true ∧ (Lit.int .i64 x.2).wf = true := by
      intro i hil
      obtain ⟨ys, n, hf⟩ := hi i hil
      obtain ⟨v0, y0, hc0, _, ht0⟩ := hf 0 _ rfl
      obtain ⟨v1, y1, hc1, _, ht1⟩ := hf 1 _ rfl
      obtain ⟨x0, e0, _, w0⟩ := DataW.trod_int Tryd.underlying3 ht0
      obtain ⟨x1, e1, _, w1⟩ := DataW.trod_int Tryd.underlying3 ht1
      injection e0 with e0 _
      injection e1 with e1 _
      subst e0 e1
      exact ⟨(x0, x1), hc0, hc1, w0, w1⟩
    have H3 : ∃ xs : List (Int × Int), xs.length = len ∧ ∀ i (h : i < xs.length), w.cell? (a.add (i * 2)) = some (.int .i64 xs[i].1) ∧ w.cell? (a.add (i * 2 + 1)) = some (.int .i64 xs[i].2) ∧ (Lit.int .i64 xs[i].1).wf = true ∧ (Lit.int .i64 xs[i].2).wf = true := by
      refine ⟨List.ofFn fun i : Fin len => Classical.choose (H2 i.1 i.2), by simp, fun i h => ?_⟩
      simp only [List.getElem_ofFn]
      exact Classical.choose_spec (H2 i (by simpa using h))
    obtain ⟨xs, rfl, hxs⟩ := H3
    refine ⟨_, cap, xs, rfl, row_of_cells (fun _ => ⟨a, rfl, fun j u hu => ?_⟩), hl, hm, fun x hx => ?_⟩
    · exact flat_pairs xs (fun i => w.cell? (a.add i)) (fun i h => ⟨(hxs i h).1, (hxs i h).2.1⟩) j u hu
    · obtain ⟨i, hi, rfl⟩ := List.mem_iff_getElem.1 hx
      exact (hxs i hi).2.2
end
end Go.Proofs.YtcapmihfhioafaaDoor
