/- Joined texts: MeterTab, LinksPure, LinksOrder, LinksWalk, LinksWalk2, Repeat. -/
import Derived.Test.YtdiljmhikajjiaaGreatM4
import Derived.Test.YtdiljmhikajjiaaGreatM1
import Derived.Laws.EntriesVeiled
import Derived.Test.YtdiljmhikajjiaaGreatM2
import Derived.Laws.CopyOwn
import Derived.Laws.Bits64b
import Derived.Laws.MakeOwn
set_option linter.unusedVariables false
set_option linter.unusedSimpArgs false
section
namespace Go.Proofs.YtdiljmhikajjiaaGreat
open Go.RowKit Go.Maps Seine.Trie
theorem medge_law : Keyed Tryz.prog 208 := Keyed.of_law (deep_law_laid laidOut' (m := 3) (by omega) (of_decide_eq_true (by kernel_rfl)) (by kernel_rfl) (by kernel_rfl))
theorem medge_key (a : Int) (c : UInt8) (h0 : -1000000000 ≤ a) (h1 : a ≤ 1000000000) : ∃ kl, keyOf Tryz.prog 208 (.agg #[.int .i64 a, .int .u8 (c.toNat : Int)]) = some kl := by
  have hc := c.toNat_lt
  have hs : Tryz.prog.types.size = (Tryz.prog.types.size - 1) + 1 := by decide +kernel
  have w1 : (Lit.int .i64 a).wf = true := by simp [Lit.wf, IntKind.min, IntKind.max, IntKind.signed, IntKind.bits]; omega
  have w2 : (Lit.int .u8 (c.toNat : Int)).wf = true := by simp [Lit.wf, IntKind.min, IntKind.max, IntKind.signed, IntKind.bits]; omega
  have hk : Tryz.prog.keyType 208 = true := by kernel_rfl
  have hf : (Value.agg #[.int .i64 a, .int .u8 (c.toNat : Int)]).formed Tryz.prog 208 = true := by
    simp only [Value.formed, Tryz.underlying208]; kernel_rfl
  unfold keyOf
  simp only [Tryz.underlying208, hk, hf, Bool.and_self, if_true]
  have h2 : Tryz.prog.keyLits (Tryz.prog.types.size + 1) 208 [.int .i64 a, .int .u8 (c.toNat : Int)] = some [.int .i64 a, .int .u8 (c.toNat : Int)] := by
    rw [hs]
    generalize Tryz.prog.types.size - 1 = n
    have c3 : Tryz.prog.cellsOf 3 = 1 := by kernel_rfl
    have c5 : Tryz.prog.cellsOf 5 = 1 := by kernel_rfl
    have c67 : Tryz.prog.cellsOf 208 = 2 := by kernel_rfl
    have k1 : Tryz.prog.keyLits (n + 1) 3 [.int .i64 a] = some [.int .i64 a] := by simp only [Program.keyLits, Tryz.underlying3, w1, and_self, if_true]
    have k2 : Tryz.prog.keyLits (n + 1) 5 [.int .u8 (c.toNat : Int)] = some [.int .u8 (c.toNat : Int)] := by simp only [Program.keyLits, Tryz.underlying5, w2, and_self, if_true]
    unfold Program.keyLits
    rw [Tryz.underlying208]
    simp [c67, c3, c5, k1, k2]
  simp only [Value.cells]
  show ∃ kl, Option.map _ (Tryz.prog.keyLits (Tryz.prog.types.size + 1) 208 [.int .i64 a, .int .u8 (c.toNat : Int)]) = some kl
  rw [h2]
  exact ⟨_, rfl⟩
theorem place_nat' {P : List Txt} {s : Txt} (h : s ∈ P) : ∃ a : Nat, place P s = (a : Int) ∧ P[a]? = some s := by
  have := place_mem.2 h
  exact ⟨(place P s).toNat, by omega, place_get h⟩
theorem last_split' {q : Txt} (h : q ≠ []) : q.dropLast ++ [lastB q] = q := by
  obtain ⟨m, x, rfl⟩ : ∃ m x, q = m ++ [x] := ⟨q.dropLast, q.getLast h, (List.dropLast_concat_getLast h).symm⟩
  simp [lastB]
/-- The edge by which a node is come to. -/
def rowKey (P : List Txt) (n : Nat) : Value := .agg #[.int .i64 (parent P (P.getD n [])), .int .u8 ((lastB (P.getD n [])).toNat : Int)]
def rowOf (P : List Txt) (n : Nat) : List Value := [.int .i64 (parent P (P.getD n [])), .int .u8 ((lastB (P.getD n [])).toNat : Int), .int .i64 (n : Int)]
def rowCells (P : List Txt) (k : Nat) : List Value := (List.range k).flatMap fun i => rowOf P (i + 1)
theorem rowCells_succ (P : List Txt) (k : Nat) : rowCells P (k + 1) = rowCells P k ++ rowOf P (k + 1) := by unfold rowCells; rw [List.range_succ, List.flatMap_append]; simp
theorem rowCells_length (P : List Txt) : ∀ k, (rowCells P k).length = k * 3
  | 0 => rfl
  | k + 1 => by rw [rowCells_succ, List.length_append, rowCells_length P k]; simp [rowOf]; omega
theorem rowCells_at (P : List Txt) : ∀ {k i : Nat}, i < k → ∀ j, j < 3 → (rowCells P k)[i * 3 + j]? = (rowOf P (i + 1))[j]?
  | 0, i, h, _, _ => by omega
  | k + 1, i, h, j, hj => by
    rw [rowCells_succ]
    rcases Nat.lt_or_ge i k with e | e
    · rw [List.getElem?_append_left (by rw [rowCells_length]; omega), rowCells_at P e j hj]
    · obtain rfl : i = k := by omega
      rw [List.getElem?_append_right (by rw [rowCells_length]; omega), rowCells_length, Nat.add_sub_cancel_left]
/-- What a map of the first k edges holds. -/
def EdgesTo (P : List Txt) (k : Nat) (f : Value → Option Int) : Prop := ∀ x v, f x = some v ↔ ∃ n, 1 ≤ n ∧ n ≤ k ∧ x = rowKey P n ∧ v = (n : Int)
theorem node_ne {P : List Txt} (hT : Tree P) {n : Nat} (h1 : 1 ≤ n) (h2 : n < P.length) : P.getD n [] ≠ [] := fun e => by
  have h3 := get_at h2
  rw [e] at h3
  have h4 := place_at hT.nodup h3
  rw [place_at hT.nodup hT.root] at h4
  omega
theorem parent_nat {P : List Txt} (hT : Tree P) {n : Nat} (h1 : 1 ≤ n) (h2 : n < P.length) : ∃ a : Nat, parent P (P.getD n []) = (a : Int) ∧ a < P.length ∧ P.getD a [] ++ [lastB (P.getD n [])] = P.getD n [] := by
  have hne := node_ne hT h1 h2
  have hm := hT.up _ (List.mem_of_getElem? (get_at h2)) hne
  obtain ⟨a, e, ha⟩ := place_nat' hm
  refine ⟨a, by unfold parent; rw [if_neg hne]; exact e, (List.getElem?_eq_some_iff.1 ha).1, ?_⟩
  have : P.getD a [] = (P.getD n []).dropLast := by rw [List.getD_eq_getElem?_getD, ha]; rfl
  rw [this, last_split' hne]
theorem edges_all {P : List Txt} (hT : Tree P) {f : Value → Option Int} (h : EdgesTo P (P.length - 1) f) : f = edgeF P := by
  funext x
  have key : ∀ v, f x = some v ↔ edgeF P x = some v := by
    intro v
    rw [h x v]
    constructor
    · rintro ⟨n, h1, h2, rfl, rfl⟩
      obtain ⟨a, e, ha, hq⟩ := parent_nat hT h1 (by omega)
      unfold rowKey
      rw [e, edgeF_at P a _ ha, hq, if_pos (List.mem_of_getElem? (get_at (by omega))), place_at hT.nodup (get_at (by omega))]
    · intro he
      unfold edgeF at he
      split at he
      · rename_i a c
        split at he
        · rename_i hc
          obtain ⟨h1, h2, h3, h4, h5⟩ := hc
          injection he with he
          obtain ⟨a, rfl⟩ := Int.eq_ofNat_of_zero_le h1
          obtain ⟨c, rfl⟩ := Int.eq_ofNat_of_zero_le h3
          simp only [Int.toNat_natCast] at he h5
          have hm := place_mem.1 h5
          obtain ⟨n, e1, e2⟩ := place_nat' hm
          have hg : P.getD n [] = P.getD a [] ++ [UInt8.ofNat c] := by rw [List.getD_eq_getElem?_getD, e2]; rfl
          have hn := (List.getElem?_eq_some_iff.1 e2).1
          refine ⟨n, ?_, by omega, ?_, by rw [← he, e1]⟩
          · rcases Nat.eq_zero_or_pos n with z | z
            · subst z
              rw [hT.root] at e2
              injection e2 with e2
              have := congrArg List.length e2
              simp at this
            · exact z
          · unfold rowKey parent lastB
            rw [hg, if_neg (by simp), List.dropLast_concat, List.getLast?_concat, place_at hT.nodup (get_at (by omega))]
            have : (UInt8.ofNat c).toNat = c := by simp; omega
            simp only [Option.getD_some, this]
        · cases he
      · cases he
  cases hf : f x with
  | none =>
    cases hg : edgeF P x with
    | none => rfl
    | some v => rw [(key v).2 hg] at hf; cases hf
  | some v => exact ((key v).1 hf).symm
theorem rowKey_inj {P : List Txt} (hT : Tree P) {n m : Nat} (h1 : 1 ≤ n) (h2 : n < P.length) (h3 : 1 ≤ m) (h4 : m < P.length) (h : rowKey P n = rowKey P m) : n = m := by
  unfold rowKey at h
  obtain ⟨a, ea, ha, hqa⟩ := parent_nat hT h1 h2
  obtain ⟨b, eb, hb, hqb⟩ := parent_nat hT h3 h4
  rw [ea, eb] at h
  simp only [Value.agg.injEq, Array.mk.injEq, List.cons.injEq, Value.int.injEq, and_true, true_and] at h
  obtain ⟨e1, e2⟩ := h
  have e1 : a = b := by omega
  have e2 : lastB (P.getD n []) = lastB (P.getD m []) := UInt8.toNat_inj.1 (by omega)
  subst e1
  have hnm : P.getD n [] = P.getD m [] := hqa.symm.trans (by rw [e2]; exact hqb)
  have p1 := place_at hT.nodup (get_at h2)
  have p2 := place_at hT.nodup (get_at h4)
  rw [hnm, p2] at p1
  omega
theorem EdgesTo.next {P : List Txt} (hT : Tree P) {k : Nat} (hk : k + 1 < P.length) {f f' : Value → Option Int} (h : EdgesTo P k f) (h1 : f' (rowKey P (k + 1)) = some ((k + 1 : Nat) : Int)) (h2 : ∀ x, x ≠ rowKey P (k + 1) → f' x = f x) : EdgesTo P (k + 1) f' := fun x v => by
  by_cases hx : x = rowKey P (k + 1)
  · subst hx
    rw [h1]
    constructor
    · intro e; injection e with e; exact ⟨k + 1, by omega, Nat.le_refl _, rfl, e.symm⟩
    · rintro ⟨n, a, b, e, rfl⟩
      rw [rowKey_inj hT (by omega) hk a (by omega) e]
  · rw [h2 x hx, h x v]
    constructor
    · rintro ⟨n, a, b, e, e'⟩; exact ⟨n, a, by omega, e, e'⟩
    · rintro ⟨n, a, b, e, e'⟩
      refine ⟨n, a, ?_, e, e'⟩
      rcases Nat.lt_or_ge k n with c | c
      · obtain rfl : n = k + 1 := by omega
        exact absurd e hx
      · exact c
/-- A table of a tree's edges. -/
def TabS (w : World) (eb : Nat) (mo : Option Nat) (P : List Txt) : Prop :=
  ∃ cb mb n, w.heap[eb]? = some (.cells #[.pointer (madr mo), .func (.func 130) #[] #[.pointer (some ⟨cb, 0, none⟩)]] 211 (0, 0)) ∧ w.heap[cb]? = some (.cells #[.map (some mb)] 206 (0, 0)) ∧ MapIs Tryz.prog 208 3 w mb n (edgeF P)
theorem TabS.below {w w' : World} {eb : Nat} {mo : Option Nat} {P : List Txt} (h : TabS w eb mo P) (hb : Below w.heap.size w w') : TabS w' eb mo P := by
  obtain ⟨cb, mb, n, h1, h2, h3⟩ := h
  exact ⟨cb, mb, n, blkBelow hb h1, blkBelow hb h2, h3.below hb⟩
theorem TabS.keep {w w' : World} {eb : Nat} {mo : Option Nat} {P : List Txt} {c : Cn} (h : TabS w eb mo P) (hm : Mo w mo c) (hk : Keeps (OnlyM mo) w w') : TabS w' eb mo P := by
  obtain ⟨cb, mb, n, h1, h2, h3⟩ := h
  obtain ⟨es, cl, h4⟩ := h3.is_map
  exact ⟨cb, mb, n, blk_keep h1 hk (hm.far h1 (.inl (by simp))), blk_keep h2 hk (hm.far h2 (.inl (by simp))), h3.keep hk (hm.farMap h4)⟩
set_option maxRecDepth 100000 in
set_option maxHeartbeats 1600000 in
theorem msparse_calls (w : World) (mo : Option Nat) (A : Option Addr) (c m : Nat) (P : List Txt) (hT : Tree P) (hl : P.length ≤ 1000000) (hr : Row w A (rowCells P m)) (hm : m = P.length - 1) :
    Calls Tryz.prog 125 #[.pointer (madr mo), .slice A m c] w fun e w' => ∃ eb, e = .returned (.pointer (some ⟨eb, 0, none⟩)) ∧ TabS w' eb mo P ∧ Below w.heap.size w w' := by
  have HX := As.mk hr
  have hTT := As.mk hT
  have hz : As (EdgesTo P 0 (fun _ => none)) := ⟨fun x v => by constructor; (· intro h; cases h); (· rintro ⟨n, a, b, _⟩; omega)⟩
  have hmm := @run_makeMap Tryz.prog
  have hmP := As.mk hm
  have hPm : m + 1 ≤ P.length ∨ P.length = 0 := by omega
  have hP0 := hT.len
  clear hr hm
  go_enter Tryz.func125, Tryz.ntmps125
  go_wp2
  go_loopg [11] (m + 1) (fun gk i wr => ∃ (k : Nat) (f : Value → Option Int), As (m + 1 ≤ gk + k) ∧ k ≤ m ∧ i = .int .i64 k ∧ As (MapIs Tryz.prog 208 3 wr w.heap.size k f) ∧ As (EdgesTo P k f) ∧ As (wr.heap[w.heap.size + 1]? = some (.cells #[.map (some w.heap.size)] 206 (0, 0))) ∧ As (Below w.heap.size w wr))
  case atStart =>
    refine ⟨0, fun _ => none, ⟨by omega⟩, Nat.zero_le _, rfl, ⟨(MapIs.made w _ _ _).below ((Below.refl _ _).alloc (Nat.le_refl _) _)⟩, hz, ⟨blk_new1 _ _ _⟩, ⟨((Below.refl _ _).alloc (Nat.le_refl _) _).alloc (by simp) _⟩⟩
  case round =>
    obtain ⟨k, f, hgk, hk, rfl, hmap, hed, hcb, hbel⟩ := hrel
    by_cases hlt : k < m
    · obtain ⟨gp, rfl⟩ : ∃ gp, gk = gp + 1 := ⟨gk - 1, by have := hgk.out; omega⟩
      have hkP : k + 1 < P.length := by have := hmP.out; omega
      obtain ⟨pa, e1, hpa, hpq⟩ := parent_nat hTT.out (n := k + 1) (by omega) hkP
      have hl3 : k * 3 + 2 < (rowCells P m).length := by rw [rowCells_length]; omega
      obtain ⟨ad, rfl, r0⟩ := Row.at_ (Row.below HX.out hbel.out) (j := k * 3) (by omega)
      obtain ⟨ad2, e2, r1⟩ := Row.at_ (Row.below HX.out hbel.out) (j := k * 3 + 1) (by omega)
      injection e2 with e2
      subst e2
      obtain ⟨ad3, e3, r2⟩ := Row.at_ (Row.below HX.out hbel.out) (j := k * 3 + 2) (by omega)
      injection e3 with e3
      subst e3
      rw [Addr.add_field _ _ _ (by omega)] at r1 r2
      have q0 := rowCells_at P hlt 0 (by omega)
      have q1 := rowCells_at P hlt 1 (by omega)
      have q2 := rowCells_at P hlt 2 (by omega)
      rw [Nat.add_zero] at q0
      rw [List.getElem?_eq_getElem (by omega)] at q0 q1 q2
      simp only [rowOf, List.getElem?_cons_zero, List.getElem?_cons_succ, Option.some.injEq] at q0 q1 q2
      rw [q0, e1] at r0
      rw [q1] at r1
      rw [q2] at r2
      have hkey : rowKey P (k + 1) = .agg #[.int .i64 (pa : Int), .int .u8 ((lastB (P.getD (k + 1) [])).toNat : Int)] := by unfold rowKey; rw [e1]
      generalize lastB (P.getD (k + 1) []) = x at *
      obtain ⟨kl, hkl⟩ := medge_key (pa : Int) x (by omega) (by omega)
      have hsz := hbel.out.size
      classical
      obtain ⟨w4, hrun, hm4, hg4⟩ := MapIs.put (w := wr.alloc (.cells #[.int .i64 (pa : Int), .int .u8 (x.toNat : Int), .int .i64 ((k : Int) + 1)] 100)) (hmap.out.below ((Below.refl _ _).alloc (Nat.le_refl _) _)) medge_law Tryz.underlying206 Tryz.underlying3 (by unfold maxLen; omega) hkl (v := (k : Int) + 1) (by simp [Lit.wf, IntKind.min, IntKind.max, IntKind.signed, IntKind.bits]; omega)
        (f' := fun y => if y = .agg #[.int .i64 (pa : Int), .int .u8 (x.toNat : Int)] then some ((k : Int) + 1) else f y) (if_pos rfl) (fun y hy => if_neg hy)
      have c5 : (wr.alloc (.cells #[.int .i64 (pa : Int), .int .u8 (x.toNat : Int), .int .i64 ((k : Int) + 1)] 100)).cell? ⟨w.heap.size + 1, 0, none⟩ = some (.map (some w.heap.size)) := cell_of_blk (blk_old hcb.out) 0
      have hne : w.heap.size + 1 ≠ w.heap.size := by omega
      have hed2 := As.mk (hed.out.next hTT.out hkP (f' := fun y => if y = .agg #[.int .i64 (pa : Int), .int .u8 (x.toNat : Int)] then some ((k : Int) + 1) else f y) (by rw [hkey]; exact if_pos rfl) (fun y hy => if_neg (by rw [hkey] at hy; exact hy)))
      have hcb4 : As (w4.heap[w.heap.size + 1]? = some (.cells #[.map (some w.heap.size)] 206 (0, 0))) := ⟨blk_keep (blk_old hcb.out) (Keeps.of_grown hg4) (fun e => by injection e with e; omega)⟩
      have hbel4 := As.mk ((hbel.out.alloc hbel.out.size (.cells #[.int .i64 (pa : Int), .int .u8 (x.toNat : Int), .int .i64 ((k : Int) + 1)] 100)).grown hg4 (by simp; omega) (fun q hq => by injection hq with hq; omega))
      replace hm4 := As.mk hm4
      replace hg4 := As.mk hg4
      clear q0 q1 q2 e1 hpq hkey
      go_wp2
      go_roundg gp
      case rel => exact ⟨k + 1, _, ⟨by have := hgk.out; omega⟩, by omega, (by first | rfl | go_num | (congr 1; omega)), hm4, hed2, hcb4, hbel4⟩
      case measure => omega
    · obtain rfl : m = k := by omega
      have he := As.mk (edges_all hTT.out (by rw [← hmP.out]; exact hed.out))
      rw [he.out] at hmap
      have hsz := hbel.out.size
      go_wp2
      go_ret
      exact ⟨_, rfl, ⟨_, _, _, heap_alloc_new _ _, blk_old hcb.out, hmap.out.below ((Below.refl _ _).alloc (Nat.le_refl _) _)⟩, hbel.out.alloc hbel.out.size _⟩
theorem mlookup_calls (w : World) (cb mb n : Nat) (P : List Txt) (hcb : w.heap[cb]? = some (.cells #[.map (some mb)] 206 (0, 0))) (hm : MapIs Tryz.prog 208 3 w mb n (edgeF P)) (a : Nat) (ha : a < P.length) (hl : P.length ≤ 1000000) (c : UInt8) :
    Calls Tryz.prog 130 #[.agg #[.int .i64 (a : Int), .int .u8 (c.toNat : Int)], .pointer (some ⟨cb, 0, none⟩)] w fun e w' => e = .returned (.int .i64 (place P (P.getD a [] ++ [c]))) ∧ Below w.heap.size w w' := by
  obtain ⟨kl, hkey⟩ := medge_key (a : Int) c (by omega) (by omega)
  have hB : Below w.heap.size w (w.alloc (.cells #[.int .i64 (a : Int), .int .u8 (c.toNat : Int)] 208)) := (Below.refl _ _).alloc (Nat.le_refl _) _
  have hlk := MapIs.look (hm.below hB) medge_law Tryz.underlying206 Tryz.underlying3 (zero_int _) hkey
  have c0 : (w.alloc (.cells #[.int .i64 (a : Int), .int .u8 (c.toNat : Int)] 208)).cell? ⟨cb, 0, none⟩ = some (.map (some mb)) := cell_of_blk (blk_old hcb) 0
  rw [edgeF_at P a c ha] at hlk
  replace hB := As.mk hB
  by_cases hq : P.getD a [] ++ [c] ∈ P
  · rw [if_pos hq] at hlk
    have hlk : (Instr.lookup 206 (.map (some mb)) (.agg #[.int .i64 (a : Int), .int .u8 (c.toNat : Int)]) true).run Tryz.prog (w.alloc (.cells #[.int .i64 (a : Int), .int .u8 (c.toNat : Int)] 208)) = .ok (.tuple #[.int .i64 (place P (P.getD a [] ++ [c])), .bool true]) (w.alloc (.cells #[.int .i64 (a : Int), .int .u8 (c.toNat : Int)] 208)) := hlk
    generalize place P (P.getD a [] ++ [c]) = r at *
    clear hq hm hkey hcb
    go_enter Tryz.func130, Tryz.ntmps130
    go_wp2
    go_ret
    exact ⟨rfl, hB.out⟩
  · rw [if_neg hq] at hlk
    rw [place_none hq]
    have hlk : (Instr.lookup 206 (.map (some mb)) (.agg #[.int .i64 (a : Int), .int .u8 (c.toNat : Int)]) true).run Tryz.prog (w.alloc (.cells #[.int .i64 (a : Int), .int .u8 (c.toNat : Int)] 208)) = .ok (.tuple #[.int .i64 0, .bool false]) (w.alloc (.cells #[.int .i64 (a : Int), .int .u8 (c.toNat : Int)] 208)) := hlk
    clear hq hm hkey hcb
    go_enter Tryz.func130, Tryz.ntmps130
    go_wp2
    go_ret
    exact ⟨rfl, hB.out⟩
theorem mlook_calls (w : World) (eb : Nat) (mo : Option Nat) (P : List Txt) (ht : TabS w eb mo P) (cn : Cn) (hm : Mo w mo cn) (hok : cn.ok) (a : Nat) (ha : a < P.length) (hl : P.length ≤ 1000000) (c : UInt8) :
    Calls Tryz.prog 131 #[.pointer (some ⟨eb, 0, none⟩), .int .i64 (a : Int), .int .u8 (c.toNat : Int)] w fun e w' => e = .returned (.int .i64 (place P (P.getD a [] ++ [c]))) ∧ Mo w' mo { cn with l := cn.l + 1 } ∧ Keeps (OnlyM mo) w w' := by
  have hk := As.mk (fun (w' : World) (k : Keeps (OnlyM mo) w w') => ht.keep hm k)
  have hmo := As.mk hm
  obtain ⟨cb, mb, n, h1, h2, h3⟩ := ht
  have c0 : w.cell? ⟨eb, 0, none⟩ = some (.pointer (madr mo)) := cell_of_blk h1 0
  have hlt := block_lt h1
  obtain ⟨s, l, hh, m⟩ := cn
  have hs1 : IntKind.i64.wrap (l + 1) = l + 1 := by have := hok.2.2.1; have := hok.2.2.2.1; simp only [IntKind.wrap, IntKind.signed, IntKind.bits] at *; simp; omega
  cases mo with
  | none =>
    have hB : Below w.heap.size w (w.alloc (.cells #[.int .i64 0, .int .i64 1, .int .i64 0, .int .i64 0] 49)) := (Below.refl _ _).alloc (Nat.le_refl _) _
    have d1 := (hB.cell (p := ⟨eb, 1, none⟩) hlt).trans (cell_of_blk h1 1)
    have cl := As.mk (mlookup_calls _ cb mb n P (blkBelow hB h2) (h3.below hB) a ha hl c)
    unfold madr at c0
    simp only [Option.map_none, Option.map_some] at c0
    simp at d1
    generalize place P (P.getD a [] ++ [c]) = r at *
    clear h1 h2 h3 hk hmo hok hm
    go_enter Tryz.func131, Tryz.ntmps131
    go_wp2_with (first
      | (go_at_call 130; refine Calls.mono cl.out ?_; rintro e w1 ⟨rfl, hb⟩)
      | (go_at_call 132; refine Calls.mono (mcount_none _) ?_; rintro e w1 ⟨rfl, rfl⟩))
    go_ret
    exact ⟨rfl, Mo.none_ _ _, (Keeps.of_below hB _).trans (Keeps.of_below hb _)⟩
  | some g =>
    have hg := hmo.out g rfl
    have g0 : w.cell? ⟨g, 1, none⟩ = some (.int .i64 l) := cell_of_blk hg 1
    have f0 : w.frozen? ⟨g, 1, none⟩ = false := free_of_blk hg 1
    have hK : Keeps (OnlyM (some g)) w (w.setCell ⟨g, 1, none⟩ (.int .i64 (l + 1))) := (keepsSt w ⟨g, 1, none⟩ _).mono fun k _ e => by unfold OnlyM; exact congrArg some e.symm
    have hM : MtAt (w.setCell ⟨g, 1, none⟩ (.int .i64 (l + 1))) g ⟨s, l + 1, hh, m⟩ := by
      have := blk_set hg 1 (.int .i64 (l + 1))
      unfold MtAt
      rw [this]
      simp [cnCells]
    obtain ⟨cb', mb', n', k1, k2, k3⟩ := hk.out _ hK
    have d1 : (w.setCell ⟨g, 1, none⟩ (.int .i64 (l + 1))).cell? ⟨eb, 1, none⟩ = some (.func (.func 130) #[] #[.pointer (some ⟨cb', 0, none⟩)]) := cell_of_blk k1 1
    have cl := As.mk (mlookup_calls _ cb' mb' n' P k2 k3 a ha hl c)
    unfold madr at c0
    simp only [Option.map_none, Option.map_some] at c0
    generalize place P (P.getD a [] ++ [c]) = r at *
    replace hK := As.mk hK
    replace hM := As.mk hM
    clear h1 h2 h3 hk hmo hok k1 k2 k3 hg hm
    go_enter Tryz.func131, Tryz.ntmps131
    go_wp2_with (first
      | (go_at_call 130; refine Calls.mono cl.out ?_; rintro e w1 ⟨rfl, hb⟩)
      | (go_at_call 132; refine Calls.mono (mcount_some _ _) ?_; rintro e w1 ⟨rfl, rfl⟩))
    go_ret
    exact ⟨rfl, Mo.some_ (hM.out.below hb), hK.out.trans (Keeps.of_below hb _)⟩
end Go.Proofs.YtdiljmhikajjiaaGreat
end
section
namespace Seine.Links
open Seine.Trie
def firstN (q : Nat → Bool) : Nat → Nat → Option Nat
  | _, 0 => none
  | a, k + 1 => if q a then some a else firstN q (a + 1) k
theorem firstN_some {q : Nat → Bool} : ∀ {k a n : Nat}, firstN q a k = some n → a ≤ n ∧ n < a + k ∧ q n = true ∧ ∀ j, a ≤ j → j < n → q j = false
  | 0, a, n, h => by simp [firstN] at h
  | k + 1, a, n, h => by
    unfold firstN at h
    by_cases hq : q a = true
    · rw [if_pos hq] at h
      injection h with h; subst h
      exact ⟨Nat.le_refl _, by omega, hq, fun j h1 h2 => by omega⟩
    · rw [if_neg hq] at h
      obtain ⟨h1, h2, h3, h4⟩ := firstN_some h
      refine ⟨by omega, by omega, h3, fun j h5 h6 => ?_⟩
      rcases Nat.eq_or_lt_of_le h5 with h7 | h7
      · subst h7; simpa using hq
      · exact h4 j h7 h6
theorem firstN_none {q : Nat → Bool} : ∀ {k a : Nat}, firstN q a k = none → ∀ j, a ≤ j → j < a + k → q j = false
  | 0, a, _, j, h1, h2 => by omega
  | k + 1, a, h, j, h1, h2 => by
    unfold firstN at h
    by_cases hq : q a = true
    · rw [if_pos hq] at h; cases h
    · rw [if_neg hq] at h
      rcases Nat.eq_or_lt_of_le h1 with h7 | h7
      · subst h7; simpa using hq
      · exact firstN_none h j h7 (by omega)
theorem firstN_eq {q : Nat → Bool} {a k n : Nat} (h1 : a ≤ n) (h2 : n < a + k) (h3 : q n = true) (h4 : ∀ j, a ≤ j → j < n → q j = false) : firstN q a k = some n := by
  cases h : firstN q a k with
  | none => have := firstN_none h n h1 h2; rw [h3] at this; cases this
  | some m =>
    obtain ⟨e1, e2, e3, e4⟩ := firstN_some h
    rcases Nat.lt_trichotomy m n with hm | hm | hm
    · have := h4 m e1 hm; rw [e3] at this; cases this
    · rw [hm]
    · have := e4 n h1 hm; rw [h3] at this; cases this
theorem firstN_no {q : Nat → Bool} {a k : Nat} (h : ∀ j, a ≤ j → j < a + k → q j = false) : firstN q a k = none := by
  cases h' : firstN q a k with
  | none => rfl
  | some m =>
    obtain ⟨e1, e2, e3, _⟩ := firstN_some h'
    rw [h m e1 e2] at e3; cases e3
def failN (P : List Txt) (s : Txt) : Option Nat := firstN (fun n => decide (s.drop n ∈ P)) 1 s.length
def outN (l : List Txt) (s : Txt) : Option Nat := firstN (fun n => decide (s.drop n ∈ l)) 1 (s.length - 1)
def failF (P : List Txt) (s : Txt) : Int := match failN P s with | some n => place P (s.drop n) | none => -1
def outF (P l : List Txt) (s : Txt) : Int := match outN l s with | some n => place P (s.drop n) | none => -1
def ownF (l : List Txt) (s : Txt) : Int := if s ∈ l then s.length else 0
def endsF (l : List Txt) (s : Txt) : List Int := ((List.range s.length).filter fun n => decide (s.drop n ∈ l)).map fun n => ((s.length - n : Nat) : Int)
theorem failN_some {P : List Txt} {s : Txt} {n : Nat} (h : failN P s = some n) : 1 ≤ n ∧ n ≤ s.length ∧ s.drop n ∈ P ∧ ∀ j, 1 ≤ j → j < n → s.drop j ∉ P := by
  obtain ⟨h1, h2, h3, h4⟩ := firstN_some h
  exact ⟨h1, by omega, of_decide_eq_true h3, fun j a b => of_decide_eq_false (h4 j a b)⟩
theorem failN_eq {P : List Txt} {s : Txt} {n : Nat} (h1 : 1 ≤ n) (h2 : n ≤ s.length) (h3 : s.drop n ∈ P) (h4 : ∀ j, 1 ≤ j → j < n → s.drop j ∉ P) : failN P s = some n :=
  firstN_eq h1 (by omega) (decide_eq_true h3) fun j a b => decide_eq_false (h4 j a b)
theorem failN_none {P : List Txt} {s : Txt} (h : failN P s = none) (j : Nat) (h1 : 1 ≤ j) (h2 : j ≤ s.length) : s.drop j ∉ P := of_decide_eq_false (firstN_none h j h1 (by omega))
theorem outN_some {l : List Txt} {s : Txt} {n : Nat} (h : outN l s = some n) : 1 ≤ n ∧ n < s.length ∧ s.drop n ∈ l ∧ ∀ j, 1 ≤ j → j < n → s.drop j ∉ l := by
  obtain ⟨h1, h2, h3, h4⟩ := firstN_some h
  exact ⟨h1, by omega, of_decide_eq_true h3, fun j a b => of_decide_eq_false (h4 j a b)⟩
theorem outN_eq {l : List Txt} {s : Txt} {n : Nat} (h1 : 1 ≤ n) (h2 : n < s.length) (h3 : s.drop n ∈ l) (h4 : ∀ j, 1 ≤ j → j < n → s.drop j ∉ l) : outN l s = some n :=
  firstN_eq h1 (by omega) (decide_eq_true h3) fun j a b => decide_eq_false (h4 j a b)
theorem outN_none {l : List Txt} {s : Txt} (h : outN l s = none) (j : Nat) (h1 : 1 ≤ j) (h2 : j < s.length) : s.drop j ∉ l := of_decide_eq_false (firstN_none h j h1 (by omega))
theorem outN_no {l : List Txt} {s : Txt} (h : ∀ j, 1 ≤ j → j < s.length → s.drop j ∉ l) : outN l s = none := firstN_no fun j a b => decide_eq_false (h j a (by omega))
theorem failF_nil (P : List Txt) : failF P [] = -1 := rfl
theorem outF_nil (P l : List Txt) : outF P l [] = -1 := rfl
theorem ownF_nil (l : List Txt) : ownF l [] = 0 := by unfold ownF; split <;> rfl
theorem fail_some {P : List Txt} (hT : Tree P) {s : Txt} (hs : s ≠ []) : ∃ n, failN P s = some n := by
  cases h : failN P s with
  | some n => exact ⟨n, rfl⟩
  | none =>
    have h0 : 0 < s.length := List.length_pos_iff.2 hs
    have := failN_none h s.length h0 (Nat.le_refl _)
    rw [List.drop_length] at this
    exact absurd hT.nil_mem this
theorem snoc_drop {q : Txt} {c : UInt8} {j : Nat} (h : j ≤ q.length) : (q ++ [c]).drop j = q.drop j ++ [c] := by
  rw [List.drop_append_of_le_length h]
theorem up_snoc {P : List Txt} (hT : Tree P) {r : Txt} {c : UInt8} (h : r ++ [c] ∈ P) : r ∈ P := by
  have := hT.up _ h (by simp)
  rwa [List.dropLast_concat] at this
/-- Where the search for a fall stands. -/
def Back (P : List Txt) (q : Txt) (c : UInt8) (n : Int) : Prop :=
  (∃ k, 1 ≤ k ∧ k ≤ q.length ∧ n = place P (q.drop k) ∧ q.drop k ∈ P ∧ ∀ j, 1 ≤ j → j < k → (q ++ [c]).drop j ∉ P) ∨ (n = -1 ∧ ∀ j, 1 ≤ j → j ≤ q.length → (q ++ [c]).drop j ∉ P)
theorem back_from {P : List Txt} (hT : Tree P) {q : Txt} {c : UInt8} {k : Nat} (hk : k ≤ q.length) (h : ∀ j, 1 ≤ j → j ≤ k → (q ++ [c]).drop j ∉ P) : Back P q c (failF P (q.drop k)) := by
  unfold failF
  cases hf : failN P (q.drop k) with
  | some n =>
    obtain ⟨h1, h2, h3, h4⟩ := failN_some hf
    rw [List.length_drop] at h2
    rw [List.drop_drop] at h3
    refine .inl ⟨k + n, by omega, by omega, by simp only [List.drop_drop], h3, fun j a b => ?_⟩
    by_cases hj : j ≤ k
    · exact h j a hj
    · intro hm
      rw [snoc_drop (by omega)] at hm
      have := h4 (j - k) (by omega) (by omega)
      rw [List.drop_drop, show k + (j - k) = j by omega] at this
      exact this (up_snoc hT hm)
  | none =>
    refine .inr ⟨rfl, fun j a b => ?_⟩
    by_cases hj : j ≤ k
    · exact h j a hj
    · intro hm
      rw [snoc_drop b] at hm
      have := failN_none hf (j - k) (by omega) (by rw [List.length_drop]; omega)
      rw [List.drop_drop, show k + (j - k) = j by omega] at this
      exact this (up_snoc hT hm)
theorem back_start {P : List Txt} (hT : Tree P) (q : Txt) (c : UInt8) : Back P q c (failF P q) := back_from hT (k := 0) (Nat.zero_le _) (fun j a b => by omega)
theorem back_end {P : List Txt} (hT : Tree P) {q : Txt} {c : UInt8} {n : Int} (h : Back P q c n) (hn : n < 0) : failF P (q ++ [c]) = 0 := by
  rcases h with ⟨k, _, _, h3, h4, _⟩ | ⟨_, h⟩
  · have := place_mem.2 h4; omega
  · have : failN P (q ++ [c]) = some (q.length + 1) := failN_eq (by omega) (by simp) (by rw [List.drop_of_length_le (by simp)]; exact hT.nil_mem) fun j a b => h j a (by omega)
    unfold failF
    rw [this]
    simp only
    rw [List.drop_of_length_le (by simp), place_at hT.nodup hT.root]; rfl
theorem back_step {P : List Txt} (hT : Tree P) {q : Txt} {c : UInt8} {n : Int} (h : Back P q c n) (hn : 0 ≤ n) : ∃ r, r ∈ P ∧ n = place P r ∧ r.length < q.length + 0 ∧
    ((0 ≤ place P (r ++ [c]) ∧ failF P (q ++ [c]) = place P (r ++ [c])) ∨ (place P (r ++ [c]) < 0 ∧ Back P q c (failF P r))) := by
  rcases h with ⟨k, h1, h2, h3, h4, h5⟩ | ⟨h, _⟩
  · refine ⟨q.drop k, h4, h3, by rw [List.length_drop]; omega, ?_⟩
    by_cases hm : q.drop k ++ [c] ∈ P
    · refine .inl ⟨place_mem.2 hm, ?_⟩
      have : failN P (q ++ [c]) = some k := failN_eq h1 (by simp; omega) (by rw [snoc_drop h2]; exact hm) h5
      unfold failF
      rw [this]
      simp only
      rw [snoc_drop h2]
    · refine .inr ⟨place_neg.2 hm, back_from hT h2 fun j a b => ?_⟩
      rcases Nat.eq_or_lt_of_le b with e | e
      · subst e; rw [snoc_drop h2]; exact hm
      · exact h5 j a e
  · omega
/-- A fall is shorter. -/
theorem fail_short {P : List Txt} {r : Txt} (h : 0 ≤ failF P r) : ∃ r', r' ∈ P ∧ failF P r = place P r' ∧ r'.length < r.length := by
  unfold failF at h ⊢
  cases hf : failN P r with
  | some n =>
    obtain ⟨h1, h2, h3, _⟩ := failN_some hf
    exact ⟨_, h3, rfl, by rw [List.length_drop]; omega⟩
  | none => rw [hf] at h; simp at h
theorem out_rec {P l : List Txt} (hl : ∀ x, x ∈ l → x ∈ P) {s : Txt} {n : Nat} (hf : failN P s = some n) : outF P l s = if ownF l (s.drop n) = 0 then outF P l (s.drop n) else place P (s.drop n) := by
  obtain ⟨h1, h2, h3, h4⟩ := failN_some hf
  by_cases ho : ownF l (s.drop n) = 0
  · rw [if_pos ho]
    have hno : ∀ j, 1 ≤ j → j ≤ n → j < s.length → s.drop j ∉ l := fun j a b d hm => by
      rcases Nat.eq_or_lt_of_le b with e | e
      · subst e
        unfold ownF at ho
        rw [if_pos hm, List.length_drop] at ho
        omega
      · exact h4 j a e (hl _ hm)
    unfold outF
    cases hq : outN l (s.drop n) with
    | some m =>
      obtain ⟨e1, e2, e3, e4⟩ := outN_some hq
      rw [List.length_drop] at e2
      rw [List.drop_drop] at e3
      have : outN l s = some (n + m) := outN_eq (by omega) (by omega) e3 fun j a b => by
        by_cases hj : j ≤ n
        · exact hno j a hj (by omega)
        · have := e4 (j - n) (by omega) (by omega)
          rwa [List.drop_drop, show n + (j - n) = j by omega] at this
      rw [this]
      simp only [List.drop_drop]
    | none =>
      have : outN l s = none := outN_no fun j a b => by
        by_cases hj : j ≤ n
        · exact hno j a hj b
        · have := outN_none hq (j - n) (by omega) (by rw [List.length_drop]; omega)
          rwa [List.drop_drop, show n + (j - n) = j by omega] at this
      rw [this]
  · rw [if_neg ho]
    have hm : s.drop n ∈ l := by
      unfold ownF at ho
      by_cases hm : s.drop n ∈ l
      · exact hm
      · rw [if_neg hm] at ho; exact absurd rfl ho
    have hlt : n < s.length := by
      unfold ownF at ho
      rw [if_pos hm, List.length_drop] at ho
      omega
    have : outN l s = some n := outN_eq h1 hlt hm fun j a b hj => h4 j a b (hl _ hj)
    unfold outF
    rw [this]
theorem ends_drop (l : List Txt) (s : Txt) (k : Nat) (hk : k ≤ s.length) : endsF l (s.drop k) = ((List.range' k (s.length - k)).filter fun n => decide (s.drop n ∈ l)).map fun n => ((s.length - n : Nat) : Int) := by
  unfold endsF
  rw [List.length_drop]
  have : List.range' k (s.length - k) = (List.range (s.length - k)).map (fun n => k + n) := by
    rw [List.range_eq_range', List.map_add_range']
    simp
  rw [this, List.filter_map, List.map_map]
  have e1 : ((fun n => decide (s.drop n ∈ l)) ∘ fun n => k + n) = fun n => decide ((s.drop k).drop n ∈ l) := by
    funext n; simp [List.drop_drop]
  rw [e1]
  apply List.map_congr_left
  intro n hn
  simp only [Function.comp]
  congr 1
  omega
theorem ends_skip (l : List Txt) (s : Txt) : ∀ (m k : Nat), k + m ≤ s.length → (∀ j, k ≤ j → j < k + m → s.drop j ∉ l) → endsF l (s.drop k) = endsF l (s.drop (k + m))
  | 0, k, _, _ => rfl
  | m + 1, k, h, hno => by
    rw [ends_drop l s k (by omega), show s.length - k = (s.length - (k + 1)) + 1 by omega, List.range'_succ, List.filter_cons, if_neg (by simpa using hno k (Nat.le_refl _) (by omega)), ← ends_drop l s (k + 1) (by omega),
      ends_skip l s m (k + 1) (by omega) (fun j a b => hno j (by omega) (by omega)), show k + 1 + m = k + (m + 1) by omega]
theorem ends_rec (l : List Txt) (s : Txt) : endsF l s = (if 0 < ownF l s then [ownF l s] else []) ++ (match outN l s with | some n => endsF l (s.drop n) | none => []) := by
  by_cases hs : s = []
  · subst hs
    rw [ownF_nil]; rfl
  · have h0 : 0 < s.length := List.length_pos_iff.2 hs
    have h1 : endsF l s = (if 0 < ownF l s then [ownF l s] else []) ++ endsF l (s.drop 1) := by
      have e := ends_drop l s 0 (Nat.zero_le _)
      rw [List.drop_zero] at e
      rw [e, show s.length - 0 = (s.length - 1) + 1 by omega, List.range'_succ, List.filter_cons, ends_drop l s 1 h0]
      unfold ownF
      by_cases hm : s ∈ l
      · rw [if_pos (by simpa using hm), if_pos hm, if_pos (by omega)]
        simp
      · rw [if_neg (by simpa using hm), if_neg hm]
        simp
    rw [h1]
    congr 1
    cases hq : outN l s with
    | some n =>
      obtain ⟨a, b, _, d⟩ := outN_some hq
      have := ends_skip l s (n - 1) 1 (by omega) (fun j x y => d j x (by omega))
      rw [this, show 1 + (n - 1) = n by omega]
    | none =>
      have := ends_skip l s (s.length - 1) 1 (by omega) (fun j x y => outN_none hq j x (by omega))
      rw [this, show 1 + (s.length - 1) = s.length by omega, List.drop_length]
      rfl
end Seine.Links
end
section
namespace Seine.Links
open Seine.Trie
theorem nodup_len {α : Type} [DecidableEq α] : ∀ {a b : List α}, a.Nodup → (∀ x, x ∈ a → x ∈ b) → a.length ≤ b.length
  | [], b, _, _ => Nat.zero_le _
  | x :: a, b, hn, hs => by
    have hx := hs x (by simp)
    have h1 := nodup_len (a := a) (b := b.erase x) (List.nodup_cons.1 hn).2 fun y hy => by
      have hne : y ≠ x := fun e => (List.nodup_cons.1 hn).1 (e ▸ hy)
      exact (List.mem_erase_of_ne hne).2 (hs y (by simp [hy]))
    rw [List.length_erase_of_mem hx] at h1
    have := List.length_pos_of_mem hx
    simp only [List.length_cons]
    omega
def kidsT (P : List Txt) (s : Txt) : List Txt := (kids P s).map fun c => s ++ [c]
def op (P : List Txt) : Nat → List Txt
  | 0 => [[]]
  | i + 1 => op P i ++ (match (op P i)[i]? with | some s => kidsT P s | none => [])
theorem mem_kids {P : List Txt} {s : Txt} {c : UInt8} : c ∈ kids P s ↔ s ++ [c] ∈ P := by
  unfold kids
  rw [List.mem_filter, decide_eq_true_iff]
  refine ⟨fun h => h.2, fun h => ⟨?_, h⟩⟩
  rw [List.mem_map]
  exact ⟨c.toNat, List.mem_range.2 c.toNat_lt, by simp⟩
theorem mem_kidsT {P : List Txt} {s x : Txt} : x ∈ kidsT P s ↔ ∃ c, x = s ++ [c] ∧ s ++ [c] ∈ P := by
  unfold kidsT
  rw [List.mem_map]
  exact ⟨fun ⟨c, h, e⟩ => ⟨c, e.symm, mem_kids.1 h⟩, fun ⟨c, e, h⟩ => ⟨c, mem_kids.2 h, e.symm⟩⟩
theorem nodup_map' {α β : Type} {f : α → β} : ∀ {l : List α}, l.Nodup → (∀ x y, x ∈ l → y ∈ l → f x = f y → x = y) → (l.map f).Nodup
  | [], _, _ => by simp
  | a :: l, h, hf => by
    rw [List.map_cons, List.nodup_cons]
    refine ⟨fun hm => ?_, nodup_map' (List.nodup_cons.1 h).2 fun x y hx hy => hf x y (by simp [hx]) (by simp [hy])⟩
    obtain ⟨y, hy, e⟩ := List.mem_map.1 hm
    exact (List.nodup_cons.1 h).1 (hf y a (by simp [hy]) (by simp) e ▸ hy)
theorem kids_nodup (P : List Txt) (s : Txt) : (kids P s).Nodup := by
  unfold kids
  refine List.Pairwise.filter _ (nodup_map' List.nodup_range fun x y hx hy h => ?_)
  have hx := List.mem_range.1 hx
  have hy := List.mem_range.1 hy
  have := congrArg UInt8.toNat h
  simp at this
  omega
theorem kidsT_nodup (P : List Txt) (s : Txt) : (kidsT P s).Nodup := nodup_map' (kids_nodup P s) fun x y _ _ h => by simpa using h
theorem op_next {P : List Txt} {i : Nat} {s : Txt} (h : (op P i)[i]? = some s) : op P (i + 1) = op P i ++ kidsT P s := by
  show op P i ++ _ = _
  rw [h]
theorem op_same {P : List Txt} {i : Nat} (h : (op P i).length ≤ i) : op P (i + 1) = op P i := by
  show op P i ++ _ = _
  rw [List.getElem?_eq_none h, List.append_nil]
theorem op_stop {P : List Txt} {i : Nat} (h : (op P i).length ≤ i) : ∀ k, op P (i + k) = op P i
  | 0 => rfl
  | k + 1 => by
    have := op_stop h k
    rw [← Nat.add_assoc, op_same (by rw [this]; omega), this]
theorem op_mono (P : List Txt) (i : Nat) : ∀ k, ∃ m, op P (i + k) = op P i ++ m
  | 0 => ⟨[], by simp⟩
  | k + 1 => by
    obtain ⟨m, hm⟩ := op_mono P i k
    refine ⟨m ++ (match (op P (i + k))[i + k]? with | some s => kidsT P s | none => []), ?_⟩
    rw [← List.append_assoc, ← hm]
    rfl
theorem op_get {P : List Txt} {i j k : Nat} {s : Txt} (hij : i ≤ j) (h : (op P i)[k]? = some s) : (op P j)[k]? = some s := by
  obtain ⟨m, hm⟩ := op_mono P i (j - i)
  rw [show i + (j - i) = j by omega] at hm
  rw [hm, List.getElem?_append_left (List.getElem?_eq_some_iff.1 h).1, h]
theorem op_back {P : List Txt} {i j k : Nat} {s : Txt} (hij : i ≤ j) (h : (op P j)[k]? = some s) (hk : k < (op P i).length) : (op P i)[k]? = some s := by
  obtain ⟨m, hm⟩ := op_mono P i (j - i)
  rw [show i + (j - i) = j by omega] at hm
  rw [hm, List.getElem?_append_left hk] at h
  exact h
theorem op_long {P : List Txt} {i j : Nat} (hij : j ≤ i) (h : j < (op P i).length) : j < (op P j).length := by
  by_cases hc : j < (op P j).length
  · exact hc
  · have := op_stop (P := P) (i := j) (by omega) (i - j)
    rw [show j + (i - j) = i by omega] at this
    rw [this] at h
    exact h
theorem op_mem {P : List Txt} {x : Txt} : ∀ {i : Nat}, x ∈ op P i → x = [] ∨ ∃ j s c, j < i ∧ (op P j)[j]? = some s ∧ x = s ++ [c] ∧ x ∈ P
  | 0, h => .inl (by simpa [op] using h)
  | i + 1, h => by
    rcases hg : (op P i)[i]? with _ | s
    · rw [op_same (List.getElem?_eq_none_iff.1 hg)] at h
      rcases op_mem h with e | ⟨j, s, c, a, b⟩
      · exact .inl e
      · exact .inr ⟨j, s, c, by omega, b⟩
    · rw [op_next hg, List.mem_append] at h
      rcases h with h | h
      · rcases op_mem h with e | ⟨j, s, c, a, b⟩
        · exact .inl e
        · exact .inr ⟨j, s, c, by omega, b⟩
      · obtain ⟨c, e, hm⟩ := mem_kidsT.1 h
        exact .inr ⟨i, s, c, by omega, hg, e, e ▸ hm⟩
theorem nodup_get {α : Type} {l : List α} (h : l.Nodup) {i j : Nat} {x : α} (hi : l[i]? = some x) (hj : l[j]? = some x) : i = j := by
  exact (List.getElem?_inj (List.getElem?_eq_some_iff.1 hi).1 h).1 (hi.trans hj.symm)
theorem op_nodup (P : List Txt) : ∀ i, (op P i).Nodup
  | 0 => by simp [op]
  | i + 1 => by
    have ih := op_nodup P i
    rcases hg : (op P i)[i]? with _ | s
    · rw [op_same (List.getElem?_eq_none_iff.1 hg)]; exact ih
    · rw [op_next hg]
      refine List.nodup_append.2 ⟨ih, kidsT_nodup P s, fun x hx y hy e => ?_⟩
      subst e
      obtain ⟨c, e, hm⟩ := mem_kidsT.1 hy
      rcases op_mem hx with e' | ⟨j, s', c', hj, hg', e', _⟩
      · rw [e'] at e; simp at e
      · rw [e'] at e
        have hs : s' = s := (List.append_inj' e rfl).1
        subst hs
        have := nodup_get ih (op_get (Nat.le_of_lt hj) hg') hg
        omega
theorem op_sub {P : List Txt} (hT : Tree P) {i : Nat} {x : Txt} (h : x ∈ op P i) : x ∈ P := by
  rcases op_mem h with e | ⟨_, _, _, _, _, _, hm⟩
  · rw [e]; exact hT.nil_mem
  · exact hm
theorem op_len {P : List Txt} (hT : Tree P) (i : Nat) : (op P i).length ≤ P.length := nodup_len (op_nodup P i) fun _ h => op_sub hT h
theorem op_root (P : List Txt) : ∀ i, (op P i)[0]? = some []
  | i => op_get (Nat.zero_le i) (by simp [op])
/-- All that is shorter stands ahead of one that is at its turn. -/
theorem op_before {P : List Txt} (hT : Tree P) : ∀ (i : Nat) {p : Txt}, (op P i)[i]? = some p → ∀ x, x ∈ P → x.length < p.length → ∃ j, j < i ∧ (op P i)[j]? = some x := by
  intro i
  induction i using Nat.strongRecOn with
  | _ i ih =>
    intro p hp x hx hlt
    have hi : i ≠ 0 := fun e => by
      subst e
      rw [op_root] at hp
      injection hp with hp
      subst hp
      simp at hlt
    by_cases hx0 : x = []
    · subst hx0
      exact ⟨0, by omega, op_root P i⟩
    · rcases op_mem (List.mem_of_getElem? hp) with e | ⟨j, s, c, hj, hg, e, hm⟩
      · rw [e] at hlt; simp at hlt
      · have hxl : 0 < x.length := List.length_pos_iff.2 hx0
        have hup := hT.up x hx hx0
        obtain ⟨j', hj', hg'⟩ := ih j hj hg x.dropLast hup (by rw [e] at hlt; simp at hlt ⊢; omega)
        have hg'' : (op P j')[j']? = some x.dropLast := op_back (Nat.le_of_lt hj') hg' (op_long (Nat.le_of_lt hj') (List.getElem?_eq_some_iff.1 hg').1)
        have hxk : x ∈ op P (j' + 1) := by
          rw [op_next hg'']
          refine List.mem_append_right _ (mem_kidsT.2 ?_)
          have hs := List.dropLast_concat_getLast hx0
          exact ⟨x.getLast hx0, hs.symm, by rw [hs]; exact hx⟩
        have hxj : x ∈ op P j := by
          obtain ⟨m, hm⟩ := op_mono P (j' + 1) (j - (j' + 1))
          rw [show j' + 1 + (j - (j' + 1)) = j by omega] at hm
          rw [hm]
          exact List.mem_append_left _ hxk
        obtain ⟨k, hk⟩ := List.mem_iff_getElem?.1 hxj
        have hkl := (List.getElem?_eq_some_iff.1 hk).1
        refine ⟨k, ?_, op_get (Nat.le_of_lt hj) hk⟩
        have hge : ¬ i < (op P j).length := fun hlt2 => by
          have hpj := op_back (Nat.le_of_lt hj) hp hlt2
          rcases op_mem (List.mem_of_getElem? hpj) with e2 | ⟨j2, s2, c2, hj2, hg2, e2, _⟩
          · rw [e2] at e; simp at e
          · rw [e2] at e
            have hs : s2 = s := (List.append_inj' e rfl).1
            subst hs
            have := nodup_get (op_nodup P j) (op_get (Nat.le_of_lt hj2) hg2) hg
            omega
        omega
theorem op_all {P : List Txt} (hT : Tree P) : ∀ (n : Nat) (x : Txt), x.length = n → x ∈ P → x ∈ op P P.length := by
  intro n
  induction n with
  | zero => intro x hx _; rw [List.eq_nil_of_length_eq_zero hx]; exact List.mem_of_getElem? (op_root P _)
  | succ n ih =>
    intro x hx hm
    have hx0 : x ≠ [] := fun e => by rw [e] at hx; simp at hx
    have hup := ih x.dropLast (by simp; omega) (hT.up x hm hx0)
    obtain ⟨j, hj⟩ := List.mem_iff_getElem?.1 hup
    have hjl := (List.getElem?_eq_some_iff.1 hj).1
    have hle := op_len hT P.length
    have hjj : (op P j)[j]? = some x.dropLast := op_back (i := j) (j := P.length) (by omega) hj (op_long (i := P.length) (by omega) hjl)
    obtain ⟨m, hm2⟩ := op_mono P (j + 1) (P.length - (j + 1))
    rw [show j + 1 + (P.length - (j + 1)) = P.length by omega] at hm2
    rw [hm2]
    refine List.mem_append_left _ ?_
    rw [op_next hjj]
    refine List.mem_append_right _ (mem_kidsT.2 ?_)
    have hs := List.dropLast_concat_getLast hx0
    exact ⟨x.getLast hx0, hs.symm, by rw [hs]; exact hm⟩
theorem op_full {P : List Txt} (hT : Tree P) {i : Nat} (h : (op P i).length ≤ i) : op P i = op P P.length := by
  by_cases hi : i ≤ P.length
  · have := op_stop h (P.length - i)
    rw [show i + (P.length - i) = P.length by omega] at this
    exact this.symm
  · have := op_stop (P := P) (i := P.length) (op_len hT _) (i - P.length)
    rw [show P.length + (i - P.length) = i by omega] at this
    exact this
end Seine.Links
end
section
namespace Go.Proofs.YtdiljmhikajjiaaGreat
open Go.RowKit Go.Maps Seine.Trie Seine.Links
def intCells (P : List Txt) (F : Txt → Int) : List Value := P.map fun p => .int .i64 (F p)
theorem intCells_at {P : List Txt} {F : Txt → Int} {i : Nat} {p : Txt} (h : P[i]? = some p) : (intCells P F)[i]? = some (.int .i64 (F p)) := by simp [intCells, h]
theorem intCells_set : ∀ {P : List Txt} {F F' : Txt → Int} {i : Nat} {p : Txt}, P.Nodup → P[i]? = some p → (∀ x, x ≠ p → F' x = F x) → intCells P F' = (intCells P F).set i (.int .i64 (F' p))
  | [], F, F', i, p, _, h, _ => by simp at h
  | y :: P, F, F', 0, p, hn, h, ho => by
    simp at h; subst h
    unfold intCells
    rw [List.map_cons, List.map_cons, List.set_cons_zero]
    congr 1
    exact List.map_congr_left fun x hx => by rw [ho x (fun e => (List.nodup_cons.1 hn).1 (e ▸ hx))]
  | y :: P, F, F', i + 1, p, hn, h, ho => by
    have hm : p ∈ P := List.mem_of_getElem? (by simpa using h)
    have ih := intCells_set (List.nodup_cons.1 hn).2 (by simpa using h : P[i]? = some p) ho
    unfold intCells at ih ⊢
    rw [List.map_cons, List.map_cons, List.set_cons_succ, ← ih, ho y (fun e => (List.nodup_cons.1 hn).1 (e ▸ hm))]
theorem intCells_congr {P : List Txt} {F F' : Txt → Int} (h : ∀ x, x ∈ P → F x = F' x) : intCells P F = intCells P F' := List.map_congr_left fun x hx => by rw [h x hx]
/-- A row of as many numbers as there are nodes, at block b, in memory from base on. -/
def IntRow (w : World) (base b c : Nat) (P : List Txt) (F : Txt → Int) : Prop := w.ownsRow base 3 1 (.slice (some ⟨b, 0, none⟩) P.length c) P.length (intCells P F)
/-- Where the falls' rows lie. -/
structure LB where
  bf : Nat
  cf : Nat
  bo : Nat
  co : Nat
  bu : Nat
  cu : Nat
  vr : Value
/-- The falls F, outs O, own lengths U, of a tree's nodes, and the order o (of paths), at block g. -/
def LinksIn (w : World) (base g : Nat) (P : List Txt) (F O U : Txt → Int) (o : List Txt) (B : LB) : Prop :=
  w.heap[g]? = some (.cells #[.slice (some ⟨B.bf, 0, none⟩) P.length B.cf, .slice (some ⟨B.bo, 0, none⟩) P.length B.co, .slice (some ⟨B.bu, 0, none⟩) P.length B.cu, B.vr] 137 (0, 0)) ∧ base ≤ g ∧
    IntRow w base B.bf B.cf P F ∧ IntRow w base B.bo B.co P O ∧ IntRow w base B.bu B.cu P U ∧ B.bf ≠ B.bo ∧ B.bf ≠ B.bu ∧ B.bo ≠ B.bu ∧ w.ownsRow base 3 1 B.vr o.length (intCells o (place P)) ∧ B.vr.ownBlock ≠ some B.bf ∧ B.vr.ownBlock ≠ some B.bo ∧ B.vr.ownBlock ≠ some B.bu
def LinksAt (w : World) (base g : Nat) (P : List Txt) (F O U : Txt → Int) (o : List Txt) : Prop := ∃ B, LinksIn w base g P F O U o B
theorem IntRow.at_ {w : World} {base b c : Nat} {P : List Txt} {F : Txt → Int} (h : IntRow w base b c P F) {i : Nat} {p : Txt} (hi : P[i]? = some p) : w.cell? ⟨b, i, none⟩ = some (.int .i64 (F p)) := by
  have hil := (List.getElem?_eq_some_iff.1 hi).1
  rw [World.ownsRow.cellAt h i (by omega)]
  exact intCells_at hi
theorem IntRow.cap {w : World} {base b c : Nat} {P : List Txt} {F : Txt → Int} (h : IntRow w base b c P F) : P.length ≤ c := by
  obtain ⟨A, c', e, hc⟩ := own_slice h
  injection e with e1 e2 e3
  omega
theorem IntRow.base {w : World} {base b c : Nat} {P : List Txt} {F : Txt → Int} (h : IntRow w base b c P F) : base ≤ b ∧ b < w.heap.size := own_blk h rfl
theorem IntRow.keep {S : Nat → Prop} {w w' : World} {base b c : Nat} {P : List Txt} {F : Txt → Int} (h : IntRow w base b c P F) (hk : Keeps S w w') (hS : ¬ S b) : IntRow w' base b c P F :=
  own_keep h hk (fun b' _ _ _ e => by injection e with e; subst e; exact hS)
theorem IntRow.set {w : World} {base b c : Nat} {P : List Txt} {F F' : Txt → Int} (h : IntRow w base b c P F) (hT : Tree P) {i : Nat} {p : Txt} (hi : P[i]? = some p) {x : Int} (hx : F' p = x) (ho : ∀ y, y ≠ p → F' y = F y) : IntRow (w.setCell ⟨b, i, none⟩ (.int .i64 x)) base b c P F' := by
  have s1 := World.ownsRow.stored h i (.int .i64 x)
  unfold IntRow
  rw [intCells_set hT.nodup hi ho, hx]
  exact s1.1
theorem IntRow.nfree {w : World} {base b c : Nat} {P : List Txt} {F : Txt → Int} (h : IntRow w base b c P F) (i : Nat) : w.frozen? ⟨b, i, none⟩ = false := World.ownsRow.frozenAt h _
/-- A block of another type is none of the row. -/
theorem IntRow.other {w : World} {base b c g t : Nat} {P : List Txt} {F : Txt → Int} {cs : Array Value} {fr : Nat × Nat} (h : IntRow w base b c P F) (hg : w.heap[g]? = some (.cells cs t fr)) (ht : 3 ≠ t) : g ≠ b := fun e => own_not_type h hg ht (by rw [e]; rfl)
theorem LinksIn.below {w w' : World} {base g : Nat} {P : List Txt} {F O U : Txt → Int} {o : List Txt} {B : LB} (h : LinksIn w base g P F O U o B) (hb : Below w.heap.size w w') : LinksIn w' base g P F O U o B := by
  obtain ⟨hg, h0, h1, h2, h3, h4, h5, h6, h7, h8⟩ := h
  exact ⟨(hb.block g (block_lt hg)).trans hg, h0, own_below h1 hb, own_below h2 hb, own_below h3 hb, h4, h5, h6, own_below h7 hb, h8⟩
theorem LinksAt.below {w w' : World} {base g : Nat} {P : List Txt} {F O U : Txt → Int} {o : List Txt} (h : LinksAt w base g P F O U o) (hb : Below w.heap.size w w') : LinksAt w' base g P F O U o := by
  obtain ⟨B, h⟩ := h
  exact ⟨B, h.below hb⟩
section
variable {w : World} {base g : Nat} {P : List Txt} {F O U : Txt → Int} {o : List Txt} {B : LB} (h : LinksIn w base g P F O U o B)
include h
theorem LinksIn.caps : P.length ≤ B.cf ∧ P.length ≤ B.co ∧ P.length ≤ B.cu := by
  obtain ⟨hg, h0, h1, h2, h3, _⟩ := h
  exact ⟨h1.cap, h2.cap, h3.cap⟩
theorem LinksIn.heads : w.cell? ⟨g, 0, none⟩ = some (.slice (some ⟨B.bf, 0, none⟩) P.length B.cf) ∧ w.cell? ⟨g, 1, none⟩ = some (.slice (some ⟨B.bo, 0, none⟩) P.length B.co) ∧ w.cell? ⟨g, 2, none⟩ = some (.slice (some ⟨B.bu, 0, none⟩) P.length B.cu) ∧ w.cell? ⟨g, 3, none⟩ = some B.vr ∧ w.frozen? ⟨g, 3, none⟩ = false := by
  obtain ⟨hg, _⟩ := h
  exact ⟨cell_of_blk hg 0, cell_of_blk hg 1, cell_of_blk hg 2, cell_of_blk hg 3, free_of_blk hg 3⟩
theorem LinksIn.rows {i : Nat} {p : Txt} (hi : P[i]? = some p) : w.cell? ⟨B.bf, i, none⟩ = some (.int .i64 (F p)) ∧ w.cell? ⟨B.bo, i, none⟩ = some (.int .i64 (O p)) ∧ w.cell? ⟨B.bu, i, none⟩ = some (.int .i64 (U p)) ∧ w.frozen? ⟨B.bf, i, none⟩ = false ∧ w.frozen? ⟨B.bo, i, none⟩ = false ∧ w.frozen? ⟨B.bu, i, none⟩ = false := by
  obtain ⟨hg, h0, h1, h2, h3, _⟩ := h
  exact ⟨h1.at_ hi, h2.at_ hi, h3.at_ hi, h1.nfree i, h2.nfree i, h3.nfree i⟩
theorem LinksIn.bases : base ≤ B.bf ∧ base ≤ B.bo ∧ base ≤ B.bu := by
  obtain ⟨hg, h0, h1, h2, h3, _⟩ := h
  exact ⟨h1.base.1, h2.base.1, h3.base.1⟩
theorem LinksIn.other {b t : Nat} {cs : Array Value} {fr : Nat × Nat} (hb : w.heap[b]? = some (.cells cs t fr)) (ht : 3 ≠ t) : b ≠ B.bf ∧ b ≠ B.bo ∧ b ≠ B.bu := by
  obtain ⟨hg, h0, h1, h2, h3, _⟩ := h
  exact ⟨h1.other hb ht, h2.other hb ht, h3.other hb ht⟩
theorem LinksIn.setF (hT : Tree P) {i : Nat} {p : Txt} (hi : P[i]? = some p) {x : Int} (F' : Txt → Int) (hx : F' p = x) (ho : ∀ y, y ≠ p → F' y = F y) : LinksIn (w.setCell ⟨B.bf, i, none⟩ (.int .i64 x)) base g P F' O U o B := by
  obtain ⟨hg, h0, h1, h2, h3, h4, h5, h6, h7, h8, h9, h10⟩ := h
  have hk := keeps_set w ⟨B.bf, i, none⟩ (.int .i64 x)
  exact ⟨(Below.heap_setCell _ _ _ _ (h1.other hg (by decide))).trans hg, h0, h1.set hT hi hx ho, h2.keep hk (fun e => h4 e.symm), h3.keep hk (fun e => h5 e.symm), h4, h5, h6, own_keep h7 hk (fun b c' _ _ e he => h8 (by rw [← e]; exact congrArg some he)), h8, h9, h10⟩
theorem LinksIn.setO (hT : Tree P) {i : Nat} {p : Txt} (hi : P[i]? = some p) {x : Int} (O' : Txt → Int) (hx : O' p = x) (ho : ∀ y, y ≠ p → O' y = O y) : LinksIn (w.setCell ⟨B.bo, i, none⟩ (.int .i64 x)) base g P F O' U o B := by
  obtain ⟨hg, h0, h1, h2, h3, h4, h5, h6, h7, h8, h9, h10⟩ := h
  have hk := keeps_set w ⟨B.bo, i, none⟩ (.int .i64 x)
  exact ⟨(Below.heap_setCell _ _ _ _ (h2.other hg (by decide))).trans hg, h0, h1.keep hk (fun e => h4 e), h2.set hT hi hx ho, h3.keep hk (fun e => h6 e.symm), h4, h5, h6, own_keep h7 hk (fun b c' _ _ e he => h9 (by rw [← e]; exact congrArg some he)), h8, h9, h10⟩
theorem LinksIn.setU (hT : Tree P) {i : Nat} {p : Txt} (hi : P[i]? = some p) {x : Int} (U' : Txt → Int) (hx : U' p = x) (ho : ∀ y, y ≠ p → U' y = U y) : LinksIn (w.setCell ⟨B.bu, i, none⟩ (.int .i64 x)) base g P F O U' o B := by
  obtain ⟨hg, h0, h1, h2, h3, h4, h5, h6, h7, h8, h9, h10⟩ := h
  have hk := keeps_set w ⟨B.bu, i, none⟩ (.int .i64 x)
  exact ⟨(Below.heap_setCell _ _ _ _ (h3.other hg (by decide))).trans hg, h0, h1.keep hk (fun e => h5 e), h2.keep hk (fun e => h6 e), h3.set hT hi hx ho, h4, h5, h6, own_keep h7 hk (fun b c' _ _ e he => h10 (by rw [← e]; exact congrArg some he)), h8, h9, h10⟩
theorem LinksIn.congr {F' O' U' : Txt → Int} (hF : ∀ x, x ∈ P → F x = F' x) (hO : ∀ x, x ∈ P → O x = O' x) (hU : ∀ x, x ∈ P → U x = U' x) : LinksIn w base g P F' O' U' o B := by
  obtain ⟨hg, h0, h1, h2, h3, h4⟩ := h
  refine ⟨hg, h0, ?_, ?_, ?_, h4⟩
  · unfold IntRow; rw [← intCells_congr hF]; exact h1
  · unfold IntRow; rw [← intCells_congr hO]; exact h2
  · unfold IntRow; rw [← intCells_congr hU]; exact h3
end
theorem stepF_at {P : List Txt} {a : Nat} {p : Txt} (h : P[a]? = some p) (c : UInt8) : stepF P (a : Int) c = place P (p ++ [c]) := by
  have hl := (List.getElem?_eq_some_iff.1 h).1
  unfold stepF
  rw [if_pos (by omega), Int.toNat_natCast, List.getD_eq_getElem?_getD, h]; rfl
def backM (P : List Txt) (v : Value) : Nat := if 0 ≤ intOf v then (P.getD (intOf v).toNat []).length + 1 else 0
theorem backM_nat (P : List Txt) (m : Nat) : backM P (.int .i64 (m : Int)) = (P.getD m []).length + 1 := by
  unfold backM intOf
  simp
set_option maxHeartbeats 1600000 in
theorem back_calls (w : World) (base g base2 tg : Nat) (P : List Txt) (W F O U : Txt → Int) (o : List Txt) (ht : TrieAt w base2 tg P W) (B : LB) (hk : LinksIn w base g P F O U o B) (hl : P.length ≤ 1000000) (b1 b2 b3 : Nat) (c : UInt8)
    (h1 : w.cell? ⟨b1, 0, none⟩ = some (.pointer (some ⟨g, 0, none⟩))) (h2 : w.cell? ⟨b2, 0, none⟩ = some (.pointer (some ⟨tg, 0, none⟩))) (h3 : w.cell? ⟨b3, 0, none⟩ = some (.int .u8 (c.toNat : Int)))
    (a : Nat) (q : Txt) (hq : P[a]? = some q) (hF : ∀ x, x ∈ P → x.length ≤ q.length → F x = failF P x) :
    Calls Tryz.prog 87 #[.int .i64 (a : Int), .pointer (some ⟨b1, 0, none⟩), .pointer (some ⟨b2, 0, none⟩), .pointer (some ⟨b3, 0, none⟩)] w fun e w' => e = .returned (.int .i64 (failF P (q ++ [c]))) ∧ w = w' := by
  have hT := As.mk ht.tree
  have hcs := As.mk (fun n x c h => step_calls w base2 tg P W ht hl n x c h)
  obtain ⟨c0, c1, c2, _⟩ := hk.heads
  obtain ⟨l1, l2, l3⟩ := hk.caps
  have hcell : As (∀ i p, P[i]? = some p → w.cell? ⟨B.bf, i, none⟩ = some (.int .i64 (F p))) := ⟨fun i p h => (hk.rows h).1⟩
  have hal := (List.getElem?_eq_some_iff.1 hq).1
  have d0 := hcell.out a q hq
  have hF := As.mk hF
  have hst := As.mk (back_start hT.out q c)
  have hstep := As.mk (fun n => back_step hT.out (q := q) (c := c) (n := n))
  have hend := As.mk (fun n => back_end hT.out (q := q) (c := c) (n := n))
  rw [← hF.out q (List.mem_of_getElem? hq) (Nat.le_refl _)] at hst
  obtain ⟨R, hR⟩ : ∃ R, failF P (q ++ [c]) = R := ⟨_, rfl⟩
  rw [hR] at hstep hend
  rw [hR]
  replace hst := As.mk hst.out
  clear hR hq c1 c2 l2 l3
  generalize F q = f0 at *
  go_enter Tryz.func87, Tryz.ntmps87
  go_wp2
  go_loop [0] (fun v => ∃ n : Int, v = .int .i64 n ∧ As (Back P q c n)) (fun v => backM P v)
  case atStart => exact ⟨f0, rfl, hst⟩
  case round =>
    obtain ⟨n, rfl, hb⟩ := hrel
    by_cases hn : 0 ≤ n
    · obtain ⟨r, hr1, hr2, hr3, hr4⟩ := hstep.out n hb.out hn
      obtain ⟨m, hm1, hm2⟩ := place_nat hr1
      have hnm : n = (m : Int) := hr2.trans hm1
      have hml := (List.getElem?_eq_some_iff.1 hm2).1
      have e0 := hcell.out m r hm2
      have hFr := hF.out r hr1 (by omega)
      have hsa := stepF_at hm2 c
      have hc2 := As.mk (hcs.out n (c.toNat : Int) c rfl)
      rw [hnm, hsa] at hc2
      have hgd : P.getD m [] = r := by rw [List.getD_eq_getElem?_getD, hm2]; rfl
      subst hnm
      rw [hFr] at e0
      have hfs : As (0 ≤ failF P r → (P.getD (failF P r).toNat []).length < r.length) := ⟨fun h => by
        obtain ⟨r', k1, k2, k3⟩ := fail_short h
        obtain ⟨m', j1, j2⟩ := place_nat k1
        rw [k2, j1, Int.toNat_natCast, List.getD_eq_getElem?_getD, j2]
        exact k3⟩
      have hgd := As.mk hgd
      replace hr4 := As.mk hr4
      clear hr2 hm1 hm2 hFr hsa hr1
      generalize hfr : failF P r = fr at *
      generalize hst2 : place P (r ++ [c]) = tv at *
      have hfr := As.mk hfr
      have hst2 := As.mk hst2
      by_cases hto : 0 ≤ tv
      · have hfin : As (tv = R) := ⟨by
          rcases hr4.out with ⟨_, h⟩ | ⟨h, _⟩
          · exact h.symm
          · omega⟩
        go_wp2_with (go_at_call 64; refine hc2.out.mono ?_; rintro e w' ⟨rfl, rfl⟩)
        go_ret
        exact ⟨ret_int hfin.out, rfl⟩
      · have hnext : As (Back P q c fr) := ⟨by
          rcases hr4.out with ⟨h, _⟩ | ⟨_, h⟩
          · exact absurd h hto
          · exact h⟩
        go_wp2_with (go_at_call 64; refine hc2.out.mono ?_; rintro e w' ⟨rfl, rfl⟩)
        go_round
        case rel => exact ⟨fr, rfl, hnext⟩
        case measure =>
          have h1 := hgd.out
          have h2 := hfs.out
          rw [backM_nat, h1]
          unfold backM
          split
          · rename_i h0
            have := h2 h0
            simp only [intOf] at *
            omega
          · omega
    · have hfin : As (0 = R) := ⟨(hend.out n hb.out (by omega)).symm⟩
      go_wp2
      go_ret
      exact ⟨ret_int hfin.out, rfl⟩
end Go.Proofs.YtdiljmhikajjiaaGreat
end
section
namespace Go.Proofs.YtdiljmhikajjiaaGreat
open Go.RowKit Go.Maps Seine.Trie Seine.Links
theorem blk_drew {w : World} {b : Nat} {o : Obj} (h : w.heap[b]? = some o) : w.drew.heap[b]? = some o := h
set_option maxRecDepth 100000 in
set_option maxHeartbeats 1600000 in
theorem link_calls (w0 w : World) (base g base2 tg : Nat) (P l : List Txt) (F O U F' O' U' : Txt → Int) (o : List Txt) (hw0 : w0.heap.size = base) (ht : TrieAt w0 base2 tg P (place l)) (hb : Below base w0 w) (B : LB) (hk : LinksIn w base g P F O U o B)
    (hl : P.length ≤ 1000000) (hd : ∀ p ∈ P, p.length ≤ 100000) (hlP : ∀ x, x ∈ l → x ∈ P) (a : Nat) (p : Txt) (hp : P[a]? = some p) (hne : p ≠ [])
    (hF : ∀ x, x ∈ P → x.length < p.length → F x = failF P x ∧ O x = outF P l x ∧ U x = ownF l x) (hU0 : U p = 0)
    (hF' : F' p = failF P p ∧ ∀ y, y ≠ p → F' y = F y) (hO' : O' p = outF P l p ∧ ∀ y, y ≠ p → O' y = O y) (hU' : U' p = ownF l p ∧ ∀ y, y ≠ p → U' y = U y) :
    Calls Tryz.prog 65 #[.pointer (some ⟨g, 0, none⟩), .pointer (some ⟨tg, 0, none⟩), .int .i64 (a : Int)] w fun e w' => e = .returned (.tuple #[]) ∧ LinksIn w' base g P F' O' U' o B ∧ Below base w w' := by
  have hT := As.mk ht.tree
  have hal := (List.getElem?_eq_some_iff.1 hp).1
  have htw : ∀ {v}, Below base w0 v → TrieAt v base2 tg P (place l) := fun h => ht.below (by rw [hw0]; exact h)
  have htw := As.mk @htw
  have hbs : base ≤ w.heap.size := by have := hb.size; omega
  obtain ⟨q, c, hqc⟩ : ∃ q c, p = q ++ [c] := ⟨_, _, (last_split hne).symm⟩
  have hpa : pathF P (a : Int) = p := by
    unfold pathF
    rw [if_pos (by omega), Int.toNat_natCast, List.getD_eq_getElem?_getD, hp]; rfl
  have hup : q ∈ P := by
    have := hT.out.up p (List.mem_of_getElem? hp) hne
    rwa [hqc, List.dropLast_concat] at this
  obtain ⟨b, hb1, hb2⟩ := place_nat hup
  have hpar : askF P (parent P) (-1) (a : Int) = (b : Int) := by
    unfold askF parent
    rw [if_pos (by omega), Int.toNat_natCast, List.getD_eq_getElem?_getD, hp]
    simp only [Option.getD_some]
    rw [if_neg hne, hqc, List.dropLast_concat, hb1]
  have hw : askF P (place l) (-1) (a : Int) = place l p := by
    unfold askF
    rw [if_pos (by omega), Int.toNat_natCast, List.getD_eq_getElem?_getD, hp]; rfl
  have hpl : p.length = q.length + 1 := by rw [hqc]; simp
  have hpd := hd p (List.mem_of_getElem? hp)
  have hpaths := As.mk (fun v hv => path_calls v base2 tg P (place l) (htw.out hv) (a : Int) hd)
  have hpars := As.mk (fun v hv => parent_calls v base2 tg P (place l) (htw.out hv) (a : Int))
  have hwords := As.mk (fun v hv => word_calls v base2 tg P (place l) (htw.out hv) (a : Int))
  rw [hpa] at hpaths
  rw [hpar] at hpars
  rw [hw] at hwords
  have hb := As.mk hb
  have hk := As.mk hk
  have hmf : ∀ (fn : Fn) (first cap : Array Value) (w : World), (Instr.makeFunc fn first cap).run Tryz.prog w = .ok (.func fn first cap) w := fun _ _ _ _ => rfl
  clear hpa hpar hw ht
  go_enter Tryz.func65, Tryz.ntmps65
  go_wp2_with fail
  have x1 := blk_old (o' := .cells #[.pointer (some ⟨tg, 0, none⟩)] 90) (heap_alloc_new w (.cells #[.pointer (some ⟨g, 0, none⟩)] 92))
  have x2 := blk_new1 w (.cells #[.pointer (some ⟨g, 0, none⟩)] 92) (.cells #[.pointer (some ⟨tg, 0, none⟩)] 90)
  have hbel2 : Below w.heap.size w ((w.alloc (.cells #[.pointer (some ⟨g, 0, none⟩)] 92)).alloc (.cells #[.pointer (some ⟨tg, 0, none⟩)] 90)) := (((Below.refl _ _).alloc (Nat.le_refl _) _).alloc (by simp) _)
  replace x1 := As.mk x1
  replace x2 := As.mk x2
  replace hbel2 := As.mk hbel2
  generalize (w.alloc (.cells #[.pointer (some ⟨g, 0, none⟩)] 92)).alloc (.cells #[.pointer (some ⟨tg, 0, none⟩)] 90) = w2 at *
  have hb02 := As.mk (hb.out.trans (hbel2.out.mono hbs))
  refine (hpaths.out w2 hb02.out).mono ?_
  intro e w3 hr
  obtain ⟨A, cp, rfl, hby, hbel3⟩ := hr.row
  rw [hpl]
  obtain ⟨ad, rfl, y0⟩ := Byt.at_ hby (i := q.length) (by omega)
  have hlast : p.getD q.length 0 = c := by rw [hqc]; simp [List.getD_eq_getElem?_getD]
  rw [hlast] at y0
  clear hlast hby hr hpaths
  have hbel3' := As.mk (hbel2.out.trans (hbel3.mono hbel2.out.size))
  replace x1 := As.mk ((hbel3.block _ (block_lt x1.out)).trans x1.out)
  replace x2 := As.mk ((hbel3.block _ (block_lt x2.out)).trans x2.out)
  have hw2 := block_lt x2.out
  clear hbel3 hbel2 hb02
  generalize hqn : q.length = n at *
  have z1 := blk_old (o' := .cells #[.int .u8 (c.toNat : Int)] 5) x1.out
  have z2 := blk_old (o' := .cells #[.int .u8 (c.toNat : Int)] 5) x2.out
  have z3 := heap_alloc_new w3 (.cells #[.int .u8 (c.toNat : Int)] 5)
  have hbel4 : Below w.heap.size w (w3.alloc (.cells #[.int .u8 (c.toNat : Int)] 5)) := hbel3'.out.alloc hbel3'.out.size _
  have v1 := cell_of_blk z1 0
  have v2 := cell_of_blk z2 0
  have v3 := cell_of_blk z3 0
  go_wp2_with fail
  replace z1 := As.mk z1
  replace z2 := As.mk z2
  replace z3 := As.mk z3
  replace hbel4 := As.mk hbel4
  clear x1 x2 hbel3' y0
  generalize w3.alloc (.cells #[.int .u8 (c.toNat : Int)] 5) = w4 at *
  generalize w3.heap.size = b3 at *
  have hb04 := As.mk (hb.out.trans (hbel4.out.mono hbs))
  have hb3 := block_lt z3.out
  have hk4 := As.mk (hk.out.below hbel4.out)
  refine (hpars.out w4 hb04.out).mono ?_
  rintro e w4' ⟨rfl, rfl⟩
  go_wp2_with fail
  have hcc := back_calls w4 base g base2 tg P (place l) F O U o (htw.out hb04.out) B hk4.out hl w.heap.size (w.heap.size + 1) b3 c v1 v2 v3 b q hb2 (fun x hx hle => (hF x hx (by omega)).1)
  rw [← hqc] at hcc
  refine hcc.mono ?_
  rintro e w4' ⟨rfl, rfl⟩
  obtain ⟨nn, hnn⟩ := fail_some hT.out hne
  obtain ⟨j1, j2, j3, _⟩ := failN_some hnn
  have hor := out_rec hlP hnn
  have hfp : failF P p = place P (p.drop nn) := by unfold failF; rw [hnn]
  have hrl : (p.drop nn).length < p.length := by rw [List.length_drop]; omega
  generalize p.drop nn = r at *
  obtain ⟨fi, hf1, hf2⟩ := place_nat j3
  obtain ⟨_, g2, g3⟩ := hF r j3 hrl
  have hrp : r ≠ p := fun e => by rw [e] at hrl; omega
  rw [hfp, hf1] at hF'
  rw [hfp, hf1]
  rw [hf1] at hor
  have k5 := hk4.out.setF hT.out hp F' hF'.1 hF'.2
  have k6 := k5.setO hT.out hp (x := (fi : Int)) (fun y => if y = p then (fi : Int) else O y) (if_pos rfl) (fun y h => if_neg h)
  have n1 := hk4.out.other z1.out (by decide)
  have n2 := hk4.out.other z2.out (by decide)
  have q1 := blk_far z1.out (p := ⟨B.bf, a, none⟩) n1.1 (.int .i64 (fi : Int))
  have q2 := blk_far z2.out (p := ⟨B.bf, a, none⟩) n2.1 (.int .i64 (fi : Int))
  have r1 := blk_far q1 (p := ⟨B.bo, a, none⟩) n1.2.1 (.int .i64 (fi : Int))
  have r2 := blk_far q2 (p := ⟨B.bo, a, none⟩) n2.2.1 (.int .i64 (fi : Int))
  have bb5 := (Below.refl base w4).setCell (p := ⟨B.bf, a, none⟩) hk4.out.bases.1 (.int .i64 (fi : Int))
  have bb6 := bb5.setCell (p := ⟨B.bo, a, none⟩) hk4.out.bases.2.1 (.int .i64 (fi : Int))
  obtain ⟨t0, t1, t2, t3, _⟩ := hk4.out.heads
  obtain ⟨u0, u1, u2, u3, _⟩ := k5.heads
  obtain ⟨s0, s1, s2, s3, _⟩ := k6.heads
  obtain ⟨_, _, _, f4, _, _⟩ := hk4.out.rows hp
  obtain ⟨_, _, _, _, f5, _⟩ := k5.rows hp
  obtain ⟨_, _, _, _, f6, _⟩ := k6.rows hp
  obtain ⟨_, m2, m3, _⟩ := k6.rows hf2
  rw [g3] at m3
  simp only [if_neg hrp] at m2
  rw [g2] at m2
  have e1 := cell_of_blk q1 0
  have e2 := cell_of_blk r1 0
  have l1 := hk4.out.caps
  have hfil := (List.getElem?_eq_some_iff.1 hf2).1
  clear hcc u0 u2 s0 n1 n2 q1 q2
  have k5 := As.mk k5
  have k6 := As.mk k6
  have bb6 := As.mk bb6
  have e3 := cell_of_blk r2 0
  by_cases ho : ownF l r = 0
  · rw [if_pos ho] at hor
    rw [ho] at m3
    have k7 := k6.out.setO hT.out hp (x := outF P l r) O' (hO'.1.trans hor) (fun y h => (hO'.2 y h).trans (if_neg h).symm)
    have y1 := blk_far r1 (p := ⟨B.bo, a, none⟩) (k6.out.other r1 (by decide)).2.1 (.int .i64 (outF P l r))
    have y2 := blk_far r2 (p := ⟨B.bo, a, none⟩) (k6.out.other r2 (by decide)).2.1 (.int .i64 (outF P l r))
    have bb7 := As.mk (bb6.out.setCell (p := ⟨B.bo, a, none⟩) k6.out.bases.2.1 (.int .i64 (outF P l r)))
    have e4 := cell_of_blk y2 0
    replace k7 := As.mk k7
    generalize outF P l r = ov at *
    go_wp2_with fail
    go_region
    all_goals
      go_wp2_with fail
      replace k7 := k7.out.below (Below.drew (Below.refl _ _))
      replace bb7 := As.mk (Below.drew bb7.out)
      have hb07 := hb04.out.trans bb7.out
      have y1' := blk_drew y1
      replace hb07 := As.mk hb07
      replace k7 := As.mk k7
      refine (hwords.out _ hb07.out).mono ?_
      rintro e w8 ⟨rfl, rfl⟩
      have p1 := cell_of_blk y1 0
      obtain ⟨_, _, i2, _⟩ := k7.out.heads
      obtain ⟨_, _, _, _, _, f8⟩ := k7.out.rows hp
      by_cases hin : p ∈ l
      · have hge := place_mem.2 hin
        have hown : ownF l p = ((n : Int) + 1) := by unfold ownF; rw [if_pos hin, hpl]; push_cast; rfl
        have k8 := k7.out.setU hT.out hp U' (x := (n : Int) + 1) (hU'.1.trans hown) hU'.2
        have bb8 := bb7.out.setCell (p := ⟨B.bu, a, none⟩) k7.out.bases.2.2 (.int .i64 ((n : Int) + 1))
        replace k8 := As.mk k8
        replace bb8 := As.mk bb8
        clear hown hin
        generalize place l p = wd at *
        go_wp2
        go_end0
        exact ⟨rfl, k8.out, (hbel4.out.mono hbs).trans bb8.out⟩
      · have hno := place_none hin
        have k8 := k7.out.congr (F' := F') (O' := O') (U' := U') (fun _ _ => rfl) (fun _ _ => rfl) (fun x _ => by
          by_cases hx : x = p
          · rw [hx, hU0, hU'.1]; unfold ownF; rw [if_neg hin]
          · exact (hU'.2 x hx).symm)
        replace k8 := As.mk k8
        rw [hno]
        clear hno hin
        go_wp2
        go_end0
        exact ⟨rfl, k8.out, (hbel4.out.mono hbs).trans bb7.out⟩
  · rw [if_neg ho] at hor
    have hO1 : ∀ x, x ∈ P → (if x = p then (fi : Int) else O x) = O' x := fun x _ => by
      by_cases hx : x = p
      · rw [if_pos hx, hx, hO'.1, hor]
      · rw [if_neg hx, hO'.2 x hx]
    have k7 := k6.out.congr (F' := F') (O' := O') (U' := U) (fun _ _ => rfl) hO1 (fun _ _ => rfl)
    have y1 := r1
    have bb7 := bb6
    clear hO1 hor
    replace k7 := As.mk k7
    go_wp2_with fail
    replace k7 := k7.out
    have hb07 := hb04.out.trans bb7.out
    replace hb07 := As.mk hb07
    replace k7 := As.mk k7
    refine (hwords.out _ hb07.out).mono ?_
    rintro e w8 ⟨rfl, rfl⟩
    have p1 := cell_of_blk y1 0
    obtain ⟨_, _, i2, _⟩ := k7.out.heads
    obtain ⟨_, _, _, _, _, f8⟩ := k7.out.rows hp
    by_cases hin : p ∈ l
    · have hge := place_mem.2 hin
      have hown : ownF l p = ((n : Int) + 1) := by unfold ownF; rw [if_pos hin, hpl]; push_cast; rfl
      have k8 := k7.out.setU hT.out hp U' (x := (n : Int) + 1) (hU'.1.trans hown) hU'.2
      have bb8 := bb7.out.setCell (p := ⟨B.bu, a, none⟩) k7.out.bases.2.2 (.int .i64 ((n : Int) + 1))
      replace k8 := As.mk k8
      replace bb8 := As.mk bb8
      clear hown hin
      generalize place l p = wd at *
      go_wp2
      go_end0
      exact ⟨rfl, k8.out, (hbel4.out.mono hbs).trans bb8.out⟩
    · have hno := place_none hin
      have k8 := k7.out.congr (F' := F') (O' := O') (U' := U') (fun _ _ => rfl) (fun _ _ => rfl) (fun x _ => by
        by_cases hx : x = p
        · rw [hx, hU0, hU'.1]; unfold ownF; rw [if_neg hin]
        · exact (hU'.2 x hx).symm)
      replace k8 := As.mk k8
      rw [hno]
      clear hno hin
      go_wp2
      go_end0
      exact ⟨rfl, k8.out, (hbel4.out.mono hbs).trans bb7.out⟩
end Go.Proofs.YtdiljmhikajjiaaGreat
end
section
namespace Go.Proofs.YtdiljmhikajjiaaGreat
open Go.RowKit Go.Maps
section
variable (w : World) (n : Nat) (hn : n ≤ 1000000)
include hn
theorem mul64_calls : Calls Tryz.prog 101 #[.int .u64 1, .int .u64 (n : Int)] w fun e w' => e = .returned (.tuple #[.int .u64 0, .int .u64 (n : Int)]) ∧ w = w' := by
  have h1 : bits BinOp.and IntKind.u64 1 4294967295 = 1 := by decide
  have h0 : bits BinOp.and IntKind.u64 0 4294967295 = 0 := by decide
  have h2 : bits BinOp.and IntKind.u64 (n : Int) 4294967295 = (n : Int) := by
    have h := bits_and_u64_nat n 4294967295 (by omega) (by omega)
    have e : n &&& 4294967295 = n % 4294967296 := Nat.and_two_pow_sub_one_eq_mod n 32
    rw [e, Nat.mod_eq_of_lt (by omega)] at h
    exact h
  have h3 : (n : Int) / 4294967296 = 0 := by omega
  have h4 : IntKind.u64.wrap (n : Int) = n := by rw [IntKind.wrap_u64]; omega
  have h5 : IntKind.u64.wrap 0 = 0 := by decide
  go_enter Tryz.func101, Tryz.ntmps101
  go_wp2
  go_ret2
  simp [h1, h2, h3, h4, h5, h0]
theorem mul_calls : Calls Tryz.prog 86 #[.int .u64 1, .int .u64 (n : Int)] w fun e w' => e = .returned (.tuple #[.int .u64 0, .int .u64 (n : Int)]) ∧ w = w' := by
  have hc := As.mk (mul64_calls w n hn)
  go_enter Tryz.func86, Tryz.ntmps86
  go_wp2_with (go_at_call 101; refine hc.out.mono ?_; rintro e w' ⟨rfl, rfl⟩)
  go_ret2
  exact ⟨rfl, rfl⟩
end
set_option maxRecDepth 100000 in
theorem make_ints (n : Nat) (hn : n ≤ 1000000) : ∃ Z : List Value, Z = List.replicate n (.int .i64 0) ∧ ∀ w : World, (Instr.makeSlice 105 (.int .i64 (n : Int)) (.int .i64 (n : Int))).run Tryz.prog w = .ok (.slice (some ⟨w.heap.size, 0, none⟩) n n) (w.alloc (.cells Z.toArray 3)) := by
  refine ⟨_, rfl, fun w => ?_⟩
  have hi : (Tryz.prog.info? 3).map (fun i => (i.zero, i.size, i.bytes)) = some (some (.int .i64 0), 1, 8) := by kernel_rfl
  obtain ⟨i, hi0, hz0, hz1, hz2⟩ := info_parts hi
  have h := run_make (P := Tryz.prog) w 105 3 i _ Tryz.underlying105 hi0 hz0 .i64 .i64 (n : Int) (n : Int) (by omega) (Int.le_refl _) (by rw [hz2]; omega) (by omega)
  rw [h, hz1]
  congr 3
  simp only [Int.toNat_natCast, Nat.mul_one]
  apply Array.ext
  · simp [madeCells]
  · intro j h1 h2
    simp [madeCells, Value.cells, Nat.mod_one]
def repRow (u : Value) (n k : Nat) : List Value := List.replicate k u ++ List.replicate (n - k) (.int .i64 0)
theorem repRow_splice (u : Value) (n k m : Nat) (h : k + m ≤ n) : splice (repRow u n k) k (List.replicate m u) = repRow u n (k + m) := by
  unfold splice repRow
  rw [List.take_left' (by simp), List.length_replicate, List.drop_append, List.drop_of_length_le (by simp), List.nil_append, List.length_replicate, ← List.append_assoc, List.replicate_append_replicate, List.drop_replicate]
  congr 2
  omega
theorem repRow_start (u : Value) (n : Nat) (h : 1 ≤ n) : splice (List.replicate n (.int .i64 0)) 0 [u] = repRow u n 1 := by
  have := repRow_splice u n 0 1 (by omega)
  unfold repRow at this
  simpa [repRow] using this
set_option maxRecDepth 100000 in
set_option maxHeartbeats 1600000 in
theorem repeat_calls (w : World) (ad : Addr) (c : Nat) (u : Int) (hx : w.cell? (ad.add 0) = some (.int .i64 u)) (n : Nat) (hn : 1 ≤ n) (hn2 : n ≤ 1000000) :
    Calls Tryz.prog 62 #[.slice (some ad) 1 c, .int .i64 (n : Int)] w fun e w' => ∃ b, e = .returned (.slice (some ⟨b, 0, none⟩) n n) ∧ w.heap.size ≤ b ∧ w'.heap[b]? = some (.cells (repRow (.int .i64 u) n n).toArray 3 (0, 0)) ∧ Below w.heap.size w w' := by
  have hmu := As.mk (fun w => mul_calls w n hn2)
  obtain ⟨Z, hZ, hmk⟩ := make_ints n hn2
  have hst := repRow_start (.int .i64 u) n hn
  rw [← hZ] at hst
  have hZl : Z.length = n := by rw [hZ]; simp
  have hst := As.mk hst
  have hZl := As.mk hZl
  clear hZ
  have hx := As.mk hx
  go_enter Tryz.func62, Tryz.ntmps62
  have hsz : (Tryz.prog.info? 3).map (·.size) = some 1 := by kernel_rfl
  go_wp2_with (first
    | (go_at_call 86; refine (hmu.out _).mono ?_; rintro e w' ⟨rfl, rfl⟩)
    | (refine wpList_copy_splice rfl (.tmp 31) (.tmp 32) 105 105 rfl 3 Tryz.underlying105 hsz (some ⟨w.heap.size, 0, none⟩) (some ad) n n 1 c rfl rfl w.heap.size 0 Z 3 (heap_alloc_new w _) [.int .i64 u] (by show 1 = min 1 n; omega)
         (fun _ => ⟨rfl, ad, rfl, fun j v hj => by
           have hj0 : j = 0 := by
             have := (List.getElem?_eq_some_iff.1 hj).1
             simpa using this
           subst hj0
           simp at hj
           subst hj
           exact (Below.cell ((Below.refl w.heap.size w).alloc (Nat.le_refl _) _) (World.block_lt_of_cell? w _ hx.out)).trans hx.out⟩)
         (by show 0 + 1 ≤ Z.length; have := hZl.out; omega) (by simp [Value.oneCell']) w.heap.size w ((Below.refl _ _).alloc (Nat.le_refl _) _) (Nat.le_refl _) ?_
       intro w2 hg2 hb2))
  have hg2 := As.mk (show w2.heap[w.heap.size]? = some (.cells (repRow (.int .i64 u) n 1).toArray 3 (0, 0)) by rw [← hst.out]; exact hg2.out)
  go_loopw [8] (fun i wr => ∃ k : Nat, 1 ≤ k ∧ k ≤ n ∧ i = .int .i64 k ∧ As (wr.heap[w.heap.size]? = some (.cells (repRow (.int .i64 u) n k).toArray 3 (0, 0))) ∧ As (Below w.heap.size w wr)) (fun i _ => n - (intOf i).toNat)
  case atStart => exact ⟨1, Nat.le_refl _, hn, rfl, hg2, ⟨hb2⟩⟩
  case round =>
    obtain ⟨k, hk1, hk, rfl, hrow, hbel⟩ := hrel
    by_cases hlt : k < n
    · have hnk : ¬ n = k := by omega
      obtain ⟨m, hm⟩ : ∃ m, min k (n - k) = m := ⟨_, rfl⟩
      have hm1 : m ≤ k := by omega
      have hm2 : k + m ≤ n := by omega
      have hm3 : 0 < m := by omega
      have hms : m = Nat.min k (n - k) := hm.symm
      replace hms := As.mk hms
      have hwr : IntKind.i64.wrap ((k : Int) + (m : Int)) = (k : Int) + (m : Int) := IntWalk.i64_in _ (by omega)
      have hspl := As.mk (repRow_splice (.int .i64 u) n k m hm2)
      have hkw := As.mk hk
      clear hm
      have hcs : As (∀ j v, (List.replicate m (Value.int .i64 u))[j]? = some v → wr.cell? ((⟨w.heap.size, 0, none⟩ : Addr).add j) = some v) := ⟨fun j v hj => by
        have hjm : j < m := by
          have := (List.getElem?_eq_some_iff.1 hj).1
          simpa using this
        rw [List.getElem?_replicate, if_pos hjm] at hj
        rw [← hj]
        refine World.news_of_block hrow.out j _ ?_
        unfold repRow
        rw [List.getElem?_append_left (by simp; omega), List.getElem?_replicate, if_pos (by omega)]⟩
      have hlen : As (k + m ≤ (repRow (.int .i64 u) n k).length) := ⟨by unfold repRow; simp; omega⟩
      go_wp2
      go_region_law (refine step_copy_splice rfl (.tmp 41) (.tmp 44) 105 105 rfl 3 Tryz.underlying105 hsz (some ⟨w.heap.size, k, none⟩) (some ⟨w.heap.size, 0, none⟩) (n - k) (n - k) k n (by simp [Act.eval, Act.put, hnk]) (by simp [Act.eval, Act.put, hnk]) w.heap.size k (repRow (.int .i64 u) n k) 3 hrow.out (List.replicate m (.int .i64 u)) (by rw [List.length_replicate]; exact hms.out) (fun _ => ⟨rfl, _, rfl, hcs.out⟩) (by rw [List.length_replicate]; exact hlen.out) (by intro v hv; rw [List.eq_of_mem_replicate hv]; rfl) w.heap.size w (Below.drew hbel.out) (Nat.le_refl _) ?_
                     intro w4 hg4 hb4)
      all_goals
        go_wp2
        refine ⟨?_, ?measure⟩
        · (repeat apply Exists.intro)
          refine ⟨?rel, ?eq⟩
          case eq => (simp only [Act.put]; rfl)
          case rel => exact ⟨k + m, by omega, hm2, by go_num, ⟨by rw [← hspl.out]; exact hg4.out⟩, ⟨hb4⟩⟩
        case measure => simp [intOf, Act.put, hwr]; omega
    · obtain rfl : k = n := by omega
      go_wp2
      go_ret
      exact ⟨w.heap.size, rfl, Nat.le_refl _, hrow.out, hbel.out⟩
end Go.Proofs.YtdiljmhikajjiaaGreat
end
