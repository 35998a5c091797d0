/- append of a slice's elements, whatever row they are. -/
import Derived.Test.YtcapmihfhioafaaDoorBase2
import Derived.ArgAppend
set_option linter.unusedVariables false
namespace Go.Proofs.YtcapmihfhioafaaDoor
open Go.RowKit
theorem wpList_app0 {P : Program} {ops : Array Oper} {rest : List Oper} {o : Oper} {a : Act} {Q : Exit → Act → World → Prop} (w : World) (hgd : o.guard = none) (s x : Operand) (t : TypeId)
    (ho : o.op = .call { callee := .builtin .append, args := #[s, x], argTypes := #[t, t] })
    (e : TypeId) (i : TypeInfo) (ht : P.underlying t = some (.slice e)) (hi : P.info? e = some i)
    (A B : Option Addr) (n c d : Nat) (hs : a.eval s = .slice A n c) (hn : n ≤ c) (hx : a.eval x = .slice B 0 d)
    (h : wpList P ops Q rest (a.put o.dst (.slice A n c)) w) :
    wpList P ops Q (o :: rest) a w := by
  refine wpList_plain hgd fun K hK => ?_
  have hr : (Builtin.append_ #[t, t] o.type #[.slice A n c, .slice B 0 d]).run P w = .ok (.slice A n c) w := by
    have hfc : (Builtin.firstCells i.size 0 (.slice B 0 d)).run P w = .ok #[] w := by
      cases B with
      | none => rfl
      | some b => exact run_firstCells_some (P := P) w i.size 0 b 0 d [] (by simp) (by simp)
    cases A <;> simp [Builtin.append_, run_underlying ht, sizeOf, typeInfo, hi, Builtin.lenOf, hn, hfc, storeCells]
  unfold Oper.wp execOp
  simp only [ho, resolve, invoke, builtin, Sem.run_bind, Sem.run_pure, Result.andThen_ok, List.map_toArray, List.map_cons, List.map_nil, hs, hx, hr]
  exact hK _ _ h
theorem wpList_apps {P : Program} {ops : Array Oper} {rest : List Oper} {o : Oper} {a : Act} {Q : Exit → Act → World → Prop} (w : World) (hgd : o.guard = none) (s x : Operand) (t : TypeId)
    (ho : o.op = .call { callee := .builtin .append, args := #[s, x], argTypes := #[t, t] })
    (base : Nat) (e : TypeId) (z : Value) (size bytes : Nat) (ht : P.underlying t = some (.slice e)) (hi : (P.info? e).map (fun i => (i.zero, i.size, i.bytes)) = some (some z, size, bytes))
    (hzs : z.cells.size = size) (hsz : 0 < size)
    (v : Value) (n : Nat) (xs : List Value) (hs : a.eval s = v) (hown : w.ownsRow base e size v n xs)
    (A : Option Addr) (m c : Nat) (cs : List Value) (hrow : Row w A cs) (hl : cs.length = m * size) (h1 : ∀ u ∈ cs, u.oneCell' = true) (hx : a.eval x = .slice A m c)
    (hlen : n + m ≤ 1000000000000) (hby : bytes ≤ 100) (hbase : base ≤ w.heap.size)
    (h : ∀ v' w', w'.ownsRow base e size v' (n + m) (xs ++ cs) → Below base w w' → wpList P ops Q rest (a.put o.dst v') w') :
    wpList P ops Q (o :: rest) a w := by
  obtain ⟨i, hi, hz, hsize, hbytes⟩ := info_parts hi
  rcases hrow with rfl | ⟨ad, rfl, hlt, hc⟩
  · obtain rfl : m = 0 := by
      have hl : 0 = m * size := by simpa using hl
      rcases Nat.mul_eq_zero.1 hl.symm with h | h
      · exact h
      · omega
    obtain ⟨A0, c0, rfl, hc0⟩ := own_slice hown
    refine wpList_app0 w hgd s x t ho e i ht hi A0 A n c0 c hs hc0 hx ?_
    exact h _ _ (by simpa using hown) (Below.refl _ _)
  · refine wpList_append_own_at w hgd s x t ho base e i z size bytes ht hi hz hsize hbytes hzs hsz v n xs hs hown ad m c cs hx hl hc h1
      (by simp only [maxLen]; omega) ?_ hbase ?_
    · have : (n + m) * bytes ≤ (n + m) * 100 := Nat.mul_le_mul_left _ hby
      omega
    · intro v' w' h2 h3 _ h5
      refine h v' w' h2 ((Below.refl base w).grown h3 hbase (fun k hk => ?_))
      rcases hown.2 with ⟨rfl, _⟩ | ⟨g, cap, cur, rfl, hg, _⟩
      · simp [Value.ownBlock] at hk
      · simp [Value.ownBlock] at hk; omega
end Go.Proofs.YtcapmihfhioafaaDoor
