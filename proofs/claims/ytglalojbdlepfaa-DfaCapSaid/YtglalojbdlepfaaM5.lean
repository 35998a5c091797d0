/- Joined texts: MeterTab, Sparse, Sparse2, Pairs, SortWalk. -/
import Derived.Test.YtglalojbdlepfaaM4
import Derived.Test.YtglalojbdlepfaaM1
import Derived.Laws.EntriesVeiled
import Derived.Test.YtglalojbdlepfaaM2
import Derived.Deep.RegionLaw
import Derived.Deep.AppendLies
import Derived.ScopeJumps
import Derived.Test.YtglalojbdlepfaaProg
import Derived.Deep.QuietTactic
import Derived.BigQuiet
import Derived.Deep.DeepCutAuto
import Derived.Laws.StructEq
import Derived.WalkMore
import Derived.RegionTactic
import Derived.BigRegion
import Derived.Deep.RegionWith
import Derived.Deep.LoopGhost
import Derived.WalkSpells
import Derived.StillTailTactics
section
/- The walks of package meter: a table made of rows, a look into it. -/
set_option linter.unusedVariables false
set_option linter.unusedSimpArgs false
namespace Go.Proofs.Ytglalojbdlepfaa
open Go.RowKit Go.Maps Seine.Trie
theorem medge_law : Keyed Try.prog 114 := Keyed.of_law (deep_law_laid laidOut' (m := 3) (by omega) (of_decide_eq_true (by kernel_rfl)) (by kernel_rfl) (by kernel_rfl))
theorem medge_key (a : Int) (c : UInt8) (h0 : -1000000000 ≤ a) (h1 : a ≤ 1000000000) : ∃ kl, keyOf Try.prog 114 (.agg #[.int .i64 a, .int .u8 (c.toNat : Int)]) = some kl := by
  have hc := c.toNat_lt
  have hs : Try.prog.types.size = (Try.prog.types.size - 1) + 1 := by decide +kernel
  have w1 : (Lit.int .i64 a).wf = true := by simp [Lit.wf, IntKind.min, IntKind.max, IntKind.signed, IntKind.bits]; omega
  have w2 : (Lit.int .u8 (c.toNat : Int)).wf = true := by simp [Lit.wf, IntKind.min, IntKind.max, IntKind.signed, IntKind.bits]; omega
  have hk : Try.prog.keyType 114 = true := by kernel_rfl
  have hf : (Value.agg #[.int .i64 a, .int .u8 (c.toNat : Int)]).formed Try.prog 114 = true := by
    simp only [Value.formed, Try.underlying114]; kernel_rfl
  unfold keyOf
  simp only [Try.underlying114, hk, hf, Bool.and_self, if_true]
  have h2 : Try.prog.keyLits (Try.prog.types.size + 1) 114 [.int .i64 a, .int .u8 (c.toNat : Int)] = some [.int .i64 a, .int .u8 (c.toNat : Int)] := by
    rw [hs]
    generalize Try.prog.types.size - 1 = n
    have c3 : Try.prog.cellsOf 3 = 1 := by kernel_rfl
    have c5 : Try.prog.cellsOf 5 = 1 := by kernel_rfl
    have c67 : Try.prog.cellsOf 114 = 2 := by kernel_rfl
    have k1 : Try.prog.keyLits (n + 1) 3 [.int .i64 a] = some [.int .i64 a] := by simp only [Program.keyLits, Try.underlying3, w1, and_self, if_true]
    have k2 : Try.prog.keyLits (n + 1) 5 [.int .u8 (c.toNat : Int)] = some [.int .u8 (c.toNat : Int)] := by simp only [Program.keyLits, Try.underlying5, w2, and_self, if_true]
    unfold Program.keyLits
    rw [Try.underlying114]
    simp [c67, c3, c5, k1, k2]
  simp only [Value.cells]
  show ∃ kl, Option.map _ (Try.prog.keyLits (Try.prog.types.size + 1) 114 [.int .i64 a, .int .u8 (c.toNat : Int)]) = some kl
  rw [h2]
  exact ⟨_, rfl⟩
theorem place_nat' {P : List Txt} {s : Txt} (h : s ∈ P) : ∃ a : Nat, place P s = (a : Int) ∧ P[a]? = some s := by
  have := place_mem.2 h
  exact ⟨(place P s).toNat, by omega, place_get h⟩
theorem last_split' {q : Txt} (h : q ≠ []) : q.dropLast ++ [lastB q] = q := by
  obtain ⟨m, x, rfl⟩ : ∃ m x, q = m ++ [x] := ⟨q.dropLast, q.getLast h, (List.dropLast_concat_getLast h).symm⟩
  simp [lastB]
/-- The edge by which a node is come to. -/
def rowKey (P : List Txt) (n : Nat) : Value := .agg #[.int .i64 (parent P (P.getD n [])), .int .u8 ((lastB (P.getD n [])).toNat : Int)]
def rowOf (P : List Txt) (n : Nat) : List Value := [.int .i64 (parent P (P.getD n [])), .int .u8 ((lastB (P.getD n [])).toNat : Int), .int .i64 (n : Int)]
def rowCells (P : List Txt) (k : Nat) : List Value := (List.range k).flatMap fun i => rowOf P (i + 1)
theorem rowCells_succ (P : List Txt) (k : Nat) : rowCells P (k + 1) = rowCells P k ++ rowOf P (k + 1) := by unfold rowCells; rw [List.range_succ, List.flatMap_append]; simp
theorem rowCells_length (P : List Txt) : ∀ k, (rowCells P k).length = k * 3
  | 0 => rfl
  | k + 1 => by rw [rowCells_succ, List.length_append, rowCells_length P k]; simp [rowOf]; omega
theorem rowCells_at (P : List Txt) : ∀ {k i : Nat}, i < k → ∀ j, j < 3 → (rowCells P k)[i * 3 + j]? = (rowOf P (i + 1))[j]?
  | 0, i, h, _, _ => by omega
  | k + 1, i, h, j, hj => by
    rw [rowCells_succ]
    rcases Nat.lt_or_ge i k with e | e
    · rw [List.getElem?_append_left (by rw [rowCells_length]; omega), rowCells_at P e j hj]
    · obtain rfl : i = k := by omega
      rw [List.getElem?_append_right (by rw [rowCells_length]; omega), rowCells_length, Nat.add_sub_cancel_left]
/-- What a map of the first k edges holds. -/
def EdgesTo (P : List Txt) (k : Nat) (f : Value → Option Int) : Prop := ∀ x v, f x = some v ↔ ∃ n, 1 ≤ n ∧ n ≤ k ∧ x = rowKey P n ∧ v = (n : Int)
theorem node_ne {P : List Txt} (hT : Tree P) {n : Nat} (h1 : 1 ≤ n) (h2 : n < P.length) : P.getD n [] ≠ [] := fun e => by
  have h3 := get_at h2
  rw [e] at h3
  have h4 := place_at hT.nodup h3
  rw [place_at hT.nodup hT.root] at h4
  omega
theorem parent_nat {P : List Txt} (hT : Tree P) {n : Nat} (h1 : 1 ≤ n) (h2 : n < P.length) : ∃ a : Nat, parent P (P.getD n []) = (a : Int) ∧ a < P.length ∧ P.getD a [] ++ [lastB (P.getD n [])] = P.getD n [] := by
  have hne := node_ne hT h1 h2
  have hm := hT.up _ (List.mem_of_getElem? (get_at h2)) hne
  obtain ⟨a, e, ha⟩ := place_nat' hm
  refine ⟨a, by unfold parent; rw [if_neg hne]; exact e, (List.getElem?_eq_some_iff.1 ha).1, ?_⟩
  have : P.getD a [] = (P.getD n []).dropLast := by rw [List.getD_eq_getElem?_getD, ha]; rfl
  rw [this, last_split' hne]
theorem edges_all {P : List Txt} (hT : Tree P) {f : Value → Option Int} (h : EdgesTo P (P.length - 1) f) : f = edgeF P := by
  funext x
  have key : ∀ v, f x = some v ↔ edgeF P x = some v := by
    intro v
    rw [h x v]
    constructor
    · rintro ⟨n, h1, h2, rfl, rfl⟩
      obtain ⟨a, e, ha, hq⟩ := parent_nat hT h1 (by omega)
      unfold rowKey
      rw [e, edgeF_at P a _ ha, hq, if_pos (List.mem_of_getElem? (get_at (by omega))), place_at hT.nodup (get_at (by omega))]
    · intro he
      unfold edgeF at he
      split at he
      · rename_i a c
        split at he
        · rename_i hc
          obtain ⟨h1, h2, h3, h4, h5⟩ := hc
          injection he with he
          obtain ⟨a, rfl⟩ := Int.eq_ofNat_of_zero_le h1
          obtain ⟨c, rfl⟩ := Int.eq_ofNat_of_zero_le h3
          simp only [Int.toNat_natCast] at he h5
          have hm := place_mem.1 h5
          obtain ⟨n, e1, e2⟩ := place_nat' hm
          have hg : P.getD n [] = P.getD a [] ++ [UInt8.ofNat c] := by rw [List.getD_eq_getElem?_getD, e2]; rfl
          have hn := (List.getElem?_eq_some_iff.1 e2).1
          refine ⟨n, ?_, by omega, ?_, by rw [← he, e1]⟩
          · rcases Nat.eq_zero_or_pos n with z | z
            · subst z
              rw [hT.root] at e2
              injection e2 with e2
              have := congrArg List.length e2
              simp at this
            · exact z
          · unfold rowKey parent lastB
            rw [hg, if_neg (by simp), List.dropLast_concat, List.getLast?_concat, place_at hT.nodup (get_at (by omega))]
            have : (UInt8.ofNat c).toNat = c := by simp; omega
            simp only [Option.getD_some, this]
        · cases he
      · cases he
  cases hf : f x with
  | none =>
    cases hg : edgeF P x with
    | none => rfl
    | some v => rw [(key v).2 hg] at hf; cases hf
  | some v => exact ((key v).1 hf).symm
theorem rowKey_inj {P : List Txt} (hT : Tree P) {n m : Nat} (h1 : 1 ≤ n) (h2 : n < P.length) (h3 : 1 ≤ m) (h4 : m < P.length) (h : rowKey P n = rowKey P m) : n = m := by
  unfold rowKey at h
  obtain ⟨a, ea, ha, hqa⟩ := parent_nat hT h1 h2
  obtain ⟨b, eb, hb, hqb⟩ := parent_nat hT h3 h4
  rw [ea, eb] at h
  simp only [Value.agg.injEq, Array.mk.injEq, List.cons.injEq, Value.int.injEq, and_true, true_and] at h
  obtain ⟨e1, e2⟩ := h
  have e1 : a = b := by omega
  have e2 : lastB (P.getD n []) = lastB (P.getD m []) := UInt8.toNat_inj.1 (by omega)
  subst e1
  have hnm : P.getD n [] = P.getD m [] := hqa.symm.trans (by rw [e2]; exact hqb)
  have p1 := place_at hT.nodup (get_at h2)
  have p2 := place_at hT.nodup (get_at h4)
  rw [hnm, p2] at p1
  omega
theorem EdgesTo.next {P : List Txt} (hT : Tree P) {k : Nat} (hk : k + 1 < P.length) {f f' : Value → Option Int} (h : EdgesTo P k f) (h1 : f' (rowKey P (k + 1)) = some ((k + 1 : Nat) : Int)) (h2 : ∀ x, x ≠ rowKey P (k + 1) → f' x = f x) : EdgesTo P (k + 1) f' := fun x v => by
  by_cases hx : x = rowKey P (k + 1)
  · subst hx
    rw [h1]
    constructor
    · intro e; injection e with e; exact ⟨k + 1, by omega, Nat.le_refl _, rfl, e.symm⟩
    · rintro ⟨n, a, b, e, rfl⟩
      rw [rowKey_inj hT (by omega) hk a (by omega) e]
  · rw [h2 x hx, h x v]
    constructor
    · rintro ⟨n, a, b, e, e'⟩; exact ⟨n, a, by omega, e, e'⟩
    · rintro ⟨n, a, b, e, e'⟩
      refine ⟨n, a, ?_, e, e'⟩
      rcases Nat.lt_or_ge k n with c | c
      · obtain rfl : n = k + 1 := by omega
        exact absurd e hx
      · exact c
/-- A table of a tree's edges. -/
def TabS (w : World) (eb : Nat) (mo : Option Nat) (P : List Txt) : Prop :=
  ∃ cb mb n, w.heap[eb]? = some (.cells #[.pointer (madr mo), .func (.func 76) #[] #[.pointer (some ⟨cb, 0, none⟩)]] 117 (0, 0)) ∧ w.heap[cb]? = some (.cells #[.map (some mb)] 130 (0, 0)) ∧ MapIs Try.prog 114 3 w mb n (edgeF P)
theorem TabS.below {w w' : World} {eb : Nat} {mo : Option Nat} {P : List Txt} (h : TabS w eb mo P) (hb : Below w.heap.size w w') : TabS w' eb mo P := by
  obtain ⟨cb, mb, n, h1, h2, h3⟩ := h
  exact ⟨cb, mb, n, blkBelow hb h1, blkBelow hb h2, h3.below hb⟩
theorem TabS.keep {w w' : World} {eb : Nat} {mo : Option Nat} {P : List Txt} {c : Cn} (h : TabS w eb mo P) (hm : Mo w mo c) (hk : Keeps (OnlyM mo) w w') : TabS w' eb mo P := by
  obtain ⟨cb, mb, n, h1, h2, h3⟩ := h
  obtain ⟨es, cl, h4⟩ := h3.is_map
  exact ⟨cb, mb, n, blk_keep h1 hk (hm.far h1 (.inl (by simp))), blk_keep h2 hk (hm.far h2 (.inl (by simp))), h3.keep hk (hm.farMap h4)⟩
set_option maxRecDepth 100000 in
set_option maxHeartbeats 1600000 in
theorem msparse_calls (w : World) (mo : Option Nat) (A : Option Addr) (c m : Nat) (P : List Txt) (hT : Tree P) (hl : P.length ≤ 1000000) (hr : Row w A (rowCells P m)) (hm : m = P.length - 1) :
    Calls Try.prog 55 #[.pointer (madr mo), .slice A m c] w fun e w' => ∃ eb, e = .returned (.pointer (some ⟨eb, 0, none⟩)) ∧ TabS w' eb mo P ∧ Below w.heap.size w w' := by
  have HX := As.mk hr
  have hTT := As.mk hT
  have hz : As (EdgesTo P 0 (fun _ => none)) := ⟨fun x v => by constructor; (· intro h; cases h); (· rintro ⟨n, a, b, _⟩; omega)⟩
  have hmm := @run_makeMap Try.prog
  have hmP := As.mk hm
  have hPm : m + 1 ≤ P.length ∨ P.length = 0 := by omega
  have hP0 := hT.len
  clear hr hm
  go_enter Try.func55, Try.ntmps55
  go_wp2
  go_loopg [11] (m + 1) (fun gk i wr => ∃ (k : Nat) (f : Value → Option Int), As (m + 1 ≤ gk + k) ∧ k ≤ m ∧ i = .int .i64 k ∧ As (MapIs Try.prog 114 3 wr w.heap.size k f) ∧ As (EdgesTo P k f) ∧ As (wr.heap[w.heap.size + 1]? = some (.cells #[.map (some w.heap.size)] 130 (0, 0))) ∧ As (Below w.heap.size w wr))
  case atStart =>
    refine ⟨0, fun _ => none, ⟨by omega⟩, Nat.zero_le _, rfl, ⟨(MapIs.made w _ _ _).below ((Below.refl _ _).alloc (Nat.le_refl _) _)⟩, hz, ⟨blk_new1 _ _ _⟩, ⟨((Below.refl _ _).alloc (Nat.le_refl _) _).alloc (by simp) _⟩⟩
  case round =>
    obtain ⟨k, f, hgk, hk, rfl, hmap, hed, hcb, hbel⟩ := hrel
    by_cases hlt : k < m
    · obtain ⟨gp, rfl⟩ : ∃ gp, gk = gp + 1 := ⟨gk - 1, by have := hgk.out; omega⟩
      have hkP : k + 1 < P.length := by have := hmP.out; omega
      obtain ⟨pa, e1, hpa, hpq⟩ := parent_nat hTT.out (n := k + 1) (by omega) hkP
      have hl3 : k * 3 + 2 < (rowCells P m).length := by rw [rowCells_length]; omega
      obtain ⟨ad, rfl, r0⟩ := Row.at_ (Row.below HX.out hbel.out) (j := k * 3) (by omega)
      obtain ⟨ad2, e2, r1⟩ := Row.at_ (Row.below HX.out hbel.out) (j := k * 3 + 1) (by omega)
      injection e2 with e2
      subst e2
      obtain ⟨ad3, e3, r2⟩ := Row.at_ (Row.below HX.out hbel.out) (j := k * 3 + 2) (by omega)
      injection e3 with e3
      subst e3
      rw [Addr.add_field _ _ _ (by omega)] at r1 r2
      have q0 := rowCells_at P hlt 0 (by omega)
      have q1 := rowCells_at P hlt 1 (by omega)
      have q2 := rowCells_at P hlt 2 (by omega)
      rw [Nat.add_zero] at q0
      rw [List.getElem?_eq_getElem (by omega)] at q0 q1 q2
      simp only [rowOf, List.getElem?_cons_zero, List.getElem?_cons_succ, Option.some.injEq] at q0 q1 q2
      rw [q0, e1] at r0
      rw [q1] at r1
      rw [q2] at r2
      have hkey : rowKey P (k + 1) = .agg #[.int .i64 (pa : Int), .int .u8 ((lastB (P.getD (k + 1) [])).toNat : Int)] := by unfold rowKey; rw [e1]
      generalize lastB (P.getD (k + 1) []) = x at *
      obtain ⟨kl, hkl⟩ := medge_key (pa : Int) x (by omega) (by omega)
      have hsz := hbel.out.size
      classical
      obtain ⟨w4, hrun, hm4, hg4⟩ := MapIs.put (w := wr.alloc (.cells #[.int .i64 (pa : Int), .int .u8 (x.toNat : Int), .int .i64 ((k : Int) + 1)] 101)) (hmap.out.below ((Below.refl _ _).alloc (Nat.le_refl _) _)) medge_law Try.underlying130 Try.underlying3 (by unfold maxLen; omega) hkl (v := (k : Int) + 1) (by simp [Lit.wf, IntKind.min, IntKind.max, IntKind.signed, IntKind.bits]; omega)
        (f' := fun y => if y = .agg #[.int .i64 (pa : Int), .int .u8 (x.toNat : Int)] then some ((k : Int) + 1) else f y) (if_pos rfl) (fun y hy => if_neg hy)
      have c5 : (wr.alloc (.cells #[.int .i64 (pa : Int), .int .u8 (x.toNat : Int), .int .i64 ((k : Int) + 1)] 101)).cell? ⟨w.heap.size + 1, 0, none⟩ = some (.map (some w.heap.size)) := cell_of_blk (blk_old hcb.out) 0
      have hne : w.heap.size + 1 ≠ w.heap.size := by omega
      have hed2 := As.mk (hed.out.next hTT.out hkP (f' := fun y => if y = .agg #[.int .i64 (pa : Int), .int .u8 (x.toNat : Int)] then some ((k : Int) + 1) else f y) (by rw [hkey]; exact if_pos rfl) (fun y hy => if_neg (by rw [hkey] at hy; exact hy)))
      have hcb4 : As (w4.heap[w.heap.size + 1]? = some (.cells #[.map (some w.heap.size)] 130 (0, 0))) := ⟨blk_keep (blk_old hcb.out) (Keeps.of_grown hg4) (fun e => by injection e with e; omega)⟩
      have hbel4 := As.mk ((hbel.out.alloc hbel.out.size (.cells #[.int .i64 (pa : Int), .int .u8 (x.toNat : Int), .int .i64 ((k : Int) + 1)] 101)).grown hg4 (by simp; omega) (fun q hq => by injection hq with hq; omega))
      replace hm4 := As.mk hm4
      replace hg4 := As.mk hg4
      clear q0 q1 q2 e1 hpq hkey
      go_wp2
      go_roundg gp
      case rel => exact ⟨k + 1, _, ⟨by have := hgk.out; omega⟩, by omega, (by first | rfl | go_num | (congr 1; omega)), hm4, hed2, hcb4, hbel4⟩
      case measure => omega
    · obtain rfl : m = k := by omega
      have he := As.mk (edges_all hTT.out (by rw [← hmP.out]; exact hed.out))
      rw [he.out] at hmap
      have hsz := hbel.out.size
      go_wp2
      go_ret
      exact ⟨_, rfl, ⟨_, _, _, heap_alloc_new _ _, blk_old hcb.out, hmap.out.below ((Below.refl _ _).alloc (Nat.le_refl _) _)⟩, hbel.out.alloc hbel.out.size _⟩
theorem mlookup_calls (w : World) (cb mb n : Nat) (P : List Txt) (hcb : w.heap[cb]? = some (.cells #[.map (some mb)] 130 (0, 0))) (hm : MapIs Try.prog 114 3 w mb n (edgeF P)) (a : Nat) (ha : a < P.length) (hl : P.length ≤ 1000000) (c : UInt8) :
    Calls Try.prog 76 #[.agg #[.int .i64 (a : Int), .int .u8 (c.toNat : Int)], .pointer (some ⟨cb, 0, none⟩)] w fun e w' => e = .returned (.int .i64 (place P (P.getD a [] ++ [c]))) ∧ Below w.heap.size w w' := by
  obtain ⟨kl, hkey⟩ := medge_key (a : Int) c (by omega) (by omega)
  have hB : Below w.heap.size w (w.alloc (.cells #[.int .i64 (a : Int), .int .u8 (c.toNat : Int)] 114)) := (Below.refl _ _).alloc (Nat.le_refl _) _
  have hlk := MapIs.look (hm.below hB) medge_law Try.underlying130 Try.underlying3 (zero_int _) hkey
  have c0 : (w.alloc (.cells #[.int .i64 (a : Int), .int .u8 (c.toNat : Int)] 114)).cell? ⟨cb, 0, none⟩ = some (.map (some mb)) := cell_of_blk (blk_old hcb) 0
  rw [edgeF_at P a c ha] at hlk
  replace hB := As.mk hB
  by_cases hq : P.getD a [] ++ [c] ∈ P
  · rw [if_pos hq] at hlk
    have hlk : (Instr.lookup 130 (.map (some mb)) (.agg #[.int .i64 (a : Int), .int .u8 (c.toNat : Int)]) true).run Try.prog (w.alloc (.cells #[.int .i64 (a : Int), .int .u8 (c.toNat : Int)] 114)) = .ok (.tuple #[.int .i64 (place P (P.getD a [] ++ [c])), .bool true]) (w.alloc (.cells #[.int .i64 (a : Int), .int .u8 (c.toNat : Int)] 114)) := hlk
    generalize place P (P.getD a [] ++ [c]) = r at *
    clear hq hm hkey hcb
    go_enter Try.func76, Try.ntmps76
    go_wp2
    go_ret
    exact ⟨rfl, hB.out⟩
  · rw [if_neg hq] at hlk
    rw [place_none hq]
    have hlk : (Instr.lookup 130 (.map (some mb)) (.agg #[.int .i64 (a : Int), .int .u8 (c.toNat : Int)]) true).run Try.prog (w.alloc (.cells #[.int .i64 (a : Int), .int .u8 (c.toNat : Int)] 114)) = .ok (.tuple #[.int .i64 0, .bool false]) (w.alloc (.cells #[.int .i64 (a : Int), .int .u8 (c.toNat : Int)] 114)) := hlk
    clear hq hm hkey hcb
    go_enter Try.func76, Try.ntmps76
    go_wp2
    go_ret
    exact ⟨rfl, hB.out⟩
theorem mlook_calls (w : World) (eb : Nat) (mo : Option Nat) (P : List Txt) (ht : TabS w eb mo P) (cn : Cn) (hm : Mo w mo cn) (hok : cn.ok) (a : Nat) (ha : a < P.length) (hl : P.length ≤ 1000000) (c : UInt8) :
    Calls Try.prog 41 #[.pointer (some ⟨eb, 0, none⟩), .int .i64 (a : Int), .int .u8 (c.toNat : Int)] w fun e w' => e = .returned (.int .i64 (place P (P.getD a [] ++ [c]))) ∧ Mo w' mo { cn with l := cn.l + 1 } ∧ Keeps (OnlyM mo) w w' := by
  have hk := As.mk (fun (w' : World) (k : Keeps (OnlyM mo) w w') => ht.keep hm k)
  have hmo := As.mk hm
  obtain ⟨cb, mb, n, h1, h2, h3⟩ := ht
  have c0 : w.cell? ⟨eb, 0, none⟩ = some (.pointer (madr mo)) := cell_of_blk h1 0
  have hlt := block_lt h1
  obtain ⟨s, l, hh, m⟩ := cn
  have hs1 : IntKind.i64.wrap (l + 1) = l + 1 := by have := hok.2.2.1; have := hok.2.2.2.1; simp only [IntKind.wrap, IntKind.signed, IntKind.bits] at *; simp; omega
  cases mo with
  | none =>
    have hB : Below w.heap.size w (w.alloc (.cells #[.int .i64 0, .int .i64 1, .int .i64 0, .int .i64 0] 41)) := (Below.refl _ _).alloc (Nat.le_refl _) _
    have d1 := (hB.cell (p := ⟨eb, 1, none⟩) hlt).trans (cell_of_blk h1 1)
    have cl := As.mk (mlookup_calls _ cb mb n P (blkBelow hB h2) (h3.below hB) a ha hl c)
    unfold madr at c0
    simp only [Option.map_none, Option.map_some] at c0
    simp at d1
    generalize place P (P.getD a [] ++ [c]) = r at *
    clear h1 h2 h3 hk hmo hok hm
    go_enter Try.func41, Try.ntmps41
    go_wp2_with (first
      | (go_at_call 76; refine Calls.mono cl.out ?_; rintro e w1 ⟨rfl, hb⟩)
      | (go_at_call 66; refine Calls.mono (mcount_none _) ?_; rintro e w1 ⟨rfl, rfl⟩))
    go_ret
    exact ⟨rfl, Mo.none_ _ _, (Keeps.of_below hB _).trans (Keeps.of_below hb _)⟩
  | some g =>
    have hg := hmo.out g rfl
    have g0 : w.cell? ⟨g, 1, none⟩ = some (.int .i64 l) := cell_of_blk hg 1
    have f0 : w.frozen? ⟨g, 1, none⟩ = false := free_of_blk hg 1
    have hK : Keeps (OnlyM (some g)) w (w.setCell ⟨g, 1, none⟩ (.int .i64 (l + 1))) := (keepsSt w ⟨g, 1, none⟩ _).mono fun k _ e => by unfold OnlyM; exact congrArg some e.symm
    have hM : MtAt (w.setCell ⟨g, 1, none⟩ (.int .i64 (l + 1))) g ⟨s, l + 1, hh, m⟩ := by
      have := blk_set hg 1 (.int .i64 (l + 1))
      unfold MtAt
      rw [this]
      simp [cnCells]
    obtain ⟨cb', mb', n', k1, k2, k3⟩ := hk.out _ hK
    have d1 : (w.setCell ⟨g, 1, none⟩ (.int .i64 (l + 1))).cell? ⟨eb, 1, none⟩ = some (.func (.func 76) #[] #[.pointer (some ⟨cb', 0, none⟩)]) := cell_of_blk k1 1
    have cl := As.mk (mlookup_calls _ cb' mb' n' P k2 k3 a ha hl c)
    unfold madr at c0
    simp only [Option.map_none, Option.map_some] at c0
    generalize place P (P.getD a [] ++ [c]) = r at *
    replace hK := As.mk hK
    replace hM := As.mk hM
    clear h1 h2 h3 hk hmo hok k1 k2 k3 hg hm
    go_enter Try.func41, Try.ntmps41
    go_wp2_with (first
      | (go_at_call 76; refine Calls.mono cl.out ?_; rintro e w1 ⟨rfl, hb⟩)
      | (go_at_call 66; refine Calls.mono (mcount_some _ _) ?_; rintro e w1 ⟨rfl, rfl⟩))
    go_ret
    exact ⟨rfl, Mo.some_ (hM.out.below hb), hK.out.trans (Keeps.of_below hb _)⟩
end Go.Proofs.Ytglalojbdlepfaa
end
section
/- The walks of package sparse: an automaton, its states. -/
set_option linter.unusedVariables false
set_option linter.unusedSimpArgs false
namespace Go.Proofs.Ytglalojbdlepfaa
open Go.RowKit Go.Maps Seine.Trie Seine.Links
theorem TrieAt.keepOf {S : Nat → Prop} {w w' : World} {base g : Nat} {P : List Txt} {W : Txt → Int} (h : TrieAt w base g P W) (hk : Keeps S w w')
    (hS : ∀ b, S b → ∃ cs t fr, w.heap[b]? = some (.cells cs t fr) ∧ t ≠ 96 ∧ t ≠ 92) : TrieAt w' base g P W := by
  obtain ⟨v, mb, hg, h1, h2, ho, hm, hT⟩ := h
  have blk : ∀ b cs t fr, w.heap[b]? = some (.cells cs t fr) → (t = 96 ∨ t = 92) → ¬ S b := fun b cs t fr hb ht hs => by
    obtain ⟨cs', t', fr', h3, h4, h5⟩ := hS b hs
    rw [hb] at h3
    injection h3 with h3
    injection h3 with _ h3
    subst h3
    rcases ht with e | e
    · exact h4 e
    · exact h5 e
  refine ⟨v, mb, blk_keep hg hk (blk _ _ _ _ hg (.inl rfl)), h1, h2, own_keep ho hk (fun b c _ hb _ => blk _ _ _ _ hb (.inr rfl)), hm.keep hk (fun hs => ?_), hT⟩
  obtain ⟨es, cl, h4⟩ := hm.is_map
  obtain ⟨cs', t', fr', h3, _⟩ := hS mb hs
  rw [h4] at h3
  injection h3 with h3
  cases h3
theorem LinksAt.keepOf {S : Nat → Prop} {w w' : World} {base g : Nat} {P : List Txt} {F O U : Txt → Int} {o : List Txt} (h : LinksAt w base g P F O U o) (hk : Keeps S w w')
    (hS : ∀ b, S b → ∃ cs t fr, w.heap[b]? = some (.cells cs t fr) ∧ t ≠ 106 ∧ t ≠ 3) : LinksAt w' base g P F O U o := by
  obtain ⟨B, hg, h0, h1, h2, h3, h4, h5, h6, h7, h8⟩ := h
  have blk : ∀ b cs t fr, w.heap[b]? = some (.cells cs t fr) → (t = 106 ∨ t = 3) → ¬ S b := fun b cs t fr hb ht hs => by
    obtain ⟨cs', t', fr', k3, k4, k5⟩ := hS b hs
    rw [hb] at k3
    injection k3 with k3
    injection k3 with _ k3
    subst k3
    rcases ht with e | e
    · exact k4 e
    · exact k5 e
  exact ⟨B, blk_keep hg hk (blk _ _ _ _ hg (.inl rfl)), h0, own_keep h1 hk (fun b c _ hb _ => blk _ _ _ _ hb (.inr rfl)), own_keep h2 hk (fun b c _ hb _ => blk _ _ _ _ hb (.inr rfl)), own_keep h3 hk (fun b c _ hb _ => blk _ _ _ _ hb (.inr rfl)), h4, h5, h6, own_keep h7 hk (fun b c _ hb _ => blk _ _ _ _ hb (.inr rfl)), h8⟩
theorem onlyM_blk {w : World} {mo : Option Nat} {c : Cn} (hm : Mo w mo c) : ∀ b, OnlyM mo b → w.heap[b]? = some (.cells (cnCells c) 67 (0, 0)) := fun b h => hm b h
theorem TrieAt.keepM {w w' : World} {base g : Nat} {P : List Txt} {W : Txt → Int} {mo : Option Nat} {c : Cn} (h : TrieAt w base g P W) (hm : Mo w mo c) (hk : Keeps (OnlyM mo) w w') : TrieAt w' base g P W :=
  h.keepOf hk (fun b hb => ⟨_, _, _, onlyM_blk hm b hb, by decide, by decide⟩)
theorem LinksAt.keepM {w w' : World} {base g : Nat} {P : List Txt} {F O U : Txt → Int} {o : List Txt} {mo : Option Nat} {c : Cn} (h : LinksAt w base g P F O U o) (hm : Mo w mo c) (hk : Keeps (OnlyM mo) w w') : LinksAt w' base g P F O U o :=
  h.keepOf hk (fun b hb => ⟨_, _, _, onlyM_blk hm b hb, by decide, by decide⟩)
theorem own_cells {w : World} {base e size n b : Nat} {v : Value} {cs : List Value} (h : w.ownsRow base e size v n cs) (hb : some b = v.ownBlock) : ∃ c, w.heap[b]? = some (.cells c e (0, 0)) := by
  rcases h.2 with ⟨rfl, _⟩ | ⟨g, cap, cur, rfl, _, hh, _⟩
  · simp [Value.ownBlock] at hb
  · simp [Value.ownBlock] at hb; subst hb; exact ⟨_, hh⟩
theorem last_get {p : Txt} (h : 0 < p.length) : p.getD (p.length - 1) 0 = lastB p := by
  unfold lastB
  rw [List.getLast?_eq_getElem?, List.getD_eq_getElem?_getD]
theorem len_tot {l : List Txt} : ∀ b ∈ l, b.length ≤ tot l := by
  induction l with
  | nil => simp
  | cons x l ih =>
    intro b hb
    have e : tot (x :: l) = x.length + tot l := by simp [tot]
    rcases List.mem_cons.1 hb with rfl | hb
    · omega
    · have := ih b hb; omega
theorem path_tot {l : List Txt} {n : Nat} (h : tot l ≤ n) : ∀ p ∈ paths l, p.length ≤ n := fun p hp => by
  rcases mem_paths.1 hp with rfl | ⟨b, hb, k, hk, rfl⟩
  · simp
  · have := len_tot b hb; rw [List.length_take]; omega
/-- Where an automaton's parts lie. -/
structure SB where
  tb : Nat
  tg : Nat
  lb : Nat
  lg : Nat
  v : Value
def AutoIn (w : World) (g : Nat) (P l : List Txt) (B : SB) : Prop :=
  w.heap[g]? = some (.cells #[.pointer (some ⟨B.tg, 0, none⟩), .pointer (some ⟨B.lg, 0, none⟩), B.v] 99 (0, 0)) ∧ TrieAt w B.tb B.tg P (place l) ∧ LinksOf w B.lb B.lg P l ∧ w.ownsRow 0 101 3 B.v (P.length - 1) (rowCells P (P.length - 1))
def AutoAt (w : World) (g : Nat) (P l : List Txt) : Prop := ∃ B, AutoIn w g P l B
theorem AutoAt.below {w w' : World} {g : Nat} {P l : List Txt} (h : AutoAt w g P l) (hb : Below w.heap.size w w') : AutoAt w' g P l := by
  obtain ⟨B, h1, h2, h3, h4⟩ := h
  exact ⟨B, blkBelow hb h1, h2.below hb, LinksAt.below h3 hb, own_below h4 hb⟩
theorem AutoIn.keepM {w w' : World} {g : Nat} {P l : List Txt} {B : SB} {mo : Option Nat} {c : Cn} (h : AutoIn w g P l B) (hm : Mo w mo c) (hk : Keeps (OnlyM mo) w w') : AutoIn w' g P l B := by
  obtain ⟨h1, h2, h3, h4⟩ := h
  exact ⟨blk_keep h1 hk (hm.far h1 (.inl (by simp))), h2.keepM hm hk, LinksAt.keepM h3 hm hk, own_keep h4 hk (fun b c _ hb _ => hm.far hb (.inr (by decide)))⟩
theorem AutoAt.keepM {w w' : World} {g : Nat} {P l : List Txt} {mo : Option Nat} {c : Cn} (h : AutoAt w g P l) (hm : Mo w mo c) (hk : Keeps (OnlyM mo) w w') : AutoAt w' g P l := by
  obtain ⟨B, h⟩ := h
  exact ⟨B, h.keepM hm hk⟩
theorem info_row : (Try.prog.info? 101).map (fun i => (i.zero, i.size, i.bytes)) = some (some (.agg #[(.int .i64 0), (.int .u8 0), (.int .i64 0)]), 3, 24) := by kernel_rfl
/-- An automaton that is being made: k rows are there. -/
def AutoTo (w0 w : World) (g tg lg : Nat) (P : List Txt) (k : Nat) (v : Value) : Prop :=
  w.heap[g]? = some (.cells #[.pointer (some ⟨tg, 0, none⟩), .pointer (some ⟨lg, 0, none⟩), v] 99 (0, 0)) ∧ w.ownsRow w0.heap.size 101 3 v k (rowCells P k)
set_option maxRecDepth 100000 in
set_option maxHeartbeats 1600000 in
theorem snew_calls (w : World) (A : Option Addr) (c : Nat) (l : List Txt) (hx : Txts w A l) (hl : tot l ≤ 100000) (hll : l.length ≤ 1000000) :
    Calls Try.prog 30 #[.slice A l.length c] w fun e w' => ∃ g, e = .returned (.pointer (some ⟨g, 0, none⟩)) ∧ AutoAt w' g (paths l) l ∧ Below w.heap.size w w' := by
  have cb := As.mk (build_calls w A c l hx (by omega) hll)
  have hTr := As.mk (paths_tree l)
  have hPl := paths_len l
  have hlP := As.mk (fun x (hx : x ∈ l) => text_mem_paths hx)
  have hd : As (∀ p ∈ paths l, p.length ≤ 100000) := ⟨fun p hp => path_tot hl p hp⟩
  obtain ⟨P, hP⟩ : ∃ P, paths l = P := ⟨_, rfl⟩
  rw [hP] at cb hTr hPl hlP hd ⊢
  obtain ⟨n, hn⟩ : ∃ n, P.length = n := ⟨_, rfl⟩
  rw [hn] at hPl
  have hn0 := hTr.out.len
  rw [hn] at hn0
  replace hn := As.mk hn
  obtain ⟨i0, hi, hz0, hz1, hz2⟩ := info_parts info_row
  clear hx hP
  go_enter Try.func30, Try.ntmps30
  go_wp2_with fail
  refine Calls.mono cb.out ?_
  rintro e w1 ⟨tg, rfl, hT, hb1⟩
  have cl := As.mk (lbuild_calls w1 _ tg P l hT (by have := hn.out; omega) hd.out hlP.out)
  replace hT := As.mk hT
  replace hb1 := As.mk hb1
  go_wp2_with fail
  refine Calls.mono cl.out ?_
  rintro e w2 ⟨lg, rfl, hL, hb2⟩
  replace hT := As.mk (hT.out.below hb2)
  replace hL := As.mk hL
  have hB2 := As.mk (belowNext hb1.out hb2)
  have s2 := hB2.out.size
  have hT3 := As.mk (hT.out.below ((Below.refl _ _).alloc (Nat.le_refl _) (.cells #[.pointer (some ⟨tg, 0, none⟩), .pointer (some ⟨lg, 0, none⟩), .slice none 0 0] 99)))
  have hL3 := As.mk (LinksAt.below hL.out ((Below.refl _ _).alloc (Nat.le_refl _) (.cells #[.pointer (some ⟨tg, 0, none⟩), .pointer (some ⟨lg, 0, none⟩), .slice none 0 0] 99)))
  have hB3 := As.mk (hB2.out.alloc s2 (.cells #[.pointer (some ⟨tg, 0, none⟩), .pointer (some ⟨lg, 0, none⟩), .slice none 0 0] 99))
  have hA3 : As (AutoTo w (w2.alloc (.cells #[.pointer (some ⟨tg, 0, none⟩), .pointer (some ⟨lg, 0, none⟩), .slice none 0 0] 99)) w2.heap.size tg lg P 0 (.slice none 0 0)) := ⟨heap_alloc_new _ _, World.ownsRow_nil _ _ _ _⟩
  obtain ⟨gg, hgg⟩ : ∃ g, w2.heap.size = g := ⟨_, rfl⟩
  have hgw : w.heap.size ≤ gg := by omega
  clear hb2 hb1 cb cl hT hL
  go_wp2_with fail
  rw [hgg] at hA3
  go_loopg [5] (n + 1) (fun gk i wr => ∃ (k : Nat) (v : Value), As (n + 1 ≤ gk + k) ∧ 1 ≤ k ∧ k ≤ n ∧ i = .int .i64 k ∧ As (AutoTo w wr gg tg lg P (k - 1) v) ∧ As (TrieAt wr w.heap.size tg P (place l)) ∧ As (LinksOf wr w1.heap.size lg P l) ∧ As (Below w.heap.size w wr))
  case atStart => exact ⟨1, _, ⟨by omega⟩, Nat.le_refl _, by omega, rfl, hA3, hT3, hL3, hB3⟩
  case round =>
    obtain ⟨k, v, hgk, hk1, hk, rfl, hA, hT, hL, hbel⟩ := hrel
    have cN := As.mk (nodes_calls wr w.heap.size tg P (place l) hT.out)
    rw [hn.out] at cN
    by_cases hlt : k < n
    · obtain ⟨gp, rfl⟩ : ∃ gp, gk = gp + 1 := ⟨gk - 1, by have := hgk.out; omega⟩
      have hkn := As.mk hn.out
      have hkP : k < P.length := by rw [hn.out]; exact hlt
      obtain ⟨a, ea, haP, hap⟩ := parent_nat hTr.out hk1 hkP
      have hpa : pathF P (k : Int) = P.getD k [] := by unfold pathF; rw [if_pos (by omega), Int.toNat_natCast]
      have cp := As.mk (path_calls wr w.heap.size tg P (place l) hT.out (k : Int) hd.out)
      rw [hpa] at cp
      have hpl : 0 < (P.getD k []).length := List.length_pos_iff.2 (node_ne hTr.out hk1 hkP)
      have hpl2 := hd.out _ (List.mem_of_getElem? (get_at hkP))
      have hlast : (P.getD k []).getD ((P.getD k []).length - 1) 0 = lastB (P.getD k []) := last_get hpl
      have hrs := rowCells_succ P (k - 1)
      rw [show k - 1 + 1 = k by omega] at hrs
      unfold rowOf at hrs
      rw [ea] at hrs
      have hpar := As.mk (fun v (hv : TrieAt v w.heap.size tg P (place l)) => (by have := parent_calls v w.heap.size tg P (place l) hv (k : Int); unfold askF at this; rw [if_pos (by omega), Int.toNat_natCast, ea] at this; exact this : Calls Try.prog 54 #[.pointer (some ⟨tg, 0, none⟩), .int .i64 (k : Int)] v fun e w' => e = .returned (.int .i64 (a : Int)) ∧ v = w'))
      generalize lastB (P.getD k []) = x at *
      generalize P.getD k [] = p at *
      obtain ⟨pl, hpl3⟩ : ∃ m, p.length = m := ⟨_, rfl⟩
      rw [hpl3] at hpl hpl2 hlast
      replace hpl3 := As.mk hpl3
      replace hrs := As.mk hrs
      clear hap hpa hkP ea
      go_wp2_with (first
        | (go_at_call 29; refine Calls.mono cN.out ?_; rintro e w' ⟨rfl, rfl⟩)
        | (go_at_call 52; refine Calls.mono cp.out ?_; intro e w3 h3; obtain ⟨A3, c3, he, hc3, hr3, hb3⟩ := h3.rowc; subst he))
      obtain ⟨ad3, rfl, hx3⟩ := Byt.at_ hr3 (i := pl - 1) (by have := hpl3.out; omega)
      rw [hlast, hpl3.out] at *
      have hA3 : AutoTo w w3 gg tg lg P (k - 1) v := ⟨blkBelow hb3 hA.out.1, own_below hA.out.2 hb3⟩
      have hT3 := hT.out.below hb3
      have hL3 := LinksAt.below hL.out hb3
      have hbel3 := As.mk (belowNext hbel.out hb3)
      have s3 := hbel3.out.size
      obtain ⟨Av, cv, rfl, hcv⟩ := own_slice hA3.2
      have cpar := As.mk (hpar.out _ (hT3.below (Below.drew (Below.refl _ _))))
      have g2 : w3.cell? ⟨gg, 2, none⟩ = some (.slice Av (k - 1) cv) := cell_of_blk hA3.1 2
      have hgl := block_lt hA3.1
      have hfar : some gg ≠ (Value.slice Av (k - 1) cv).ownBlock := own_not_type hA3.2 hA3.1 (by decide)
      have hown2 := As.mk ((hA3.2.alloc (.cells #[.int .i64 (a : Int), .int .u8 (x.toNat : Int), .int .i64 (k : Int)] 101)).drew)
      have K1 := As.mk ((Below.cell (p := ⟨gg, 2, none⟩) ((Below.alloc (Below.refl w3.heap.size w3) (Nat.le_refl _) (.cells #[.int .i64 (a : Int), .int .u8 (x.toNat : Int), .int .i64 (k : Int)] 101)).drew) hgl).trans g2)
      have K2 := As.mk ((Below.frozen (p := ⟨gg, 2, none⟩) ((Below.alloc (Below.refl w3.heap.size w3) (Nat.le_refl _) (.cells #[.int .i64 (a : Int), .int .u8 (x.toNat : Int), .int .i64 (k : Int)] 101)).drew) hgl).trans (free_of_blk hA3.1 2))
      have hi1 : IntKind.i64.wrap ((pl : Int) - 1) = ((pl - 1 : Nat) : Int) := by simp only [IntKind.wrap, IntKind.signed, IntKind.bits]; simp; omega
      have hi2 : pl - 1 < pl := by omega
      have hA3' := As.mk hA3
      have hT3' := As.mk hT3
      have hL3' := As.mk hL3
      clear hr3 h3 hA3 hT3 hL3 hpar cp
      go_wp2_with fail
      go_region_law (first
        | (refine step_append_lies _ (by rfl) _ _ _ (by rfl) w.heap.size 101 i0 _ 3 24 Try.underlying97 hi hz0 hz1 hz2 rfl (by omega) (.slice Av (k - 1) cv) (k - 1) _ (by rfl) hown2.out
                 ⟨w3.heap.size, 0, none⟩ 1 1 [.int .i64 (a : Int), .int .u8 (x.toNat : Int), .int .i64 (k : Int)] (by rfl) (by rfl) (World.news_of_block (cs := #[.int .i64 (a : Int), .int .u8 (x.toNat : Int), .int .i64 (k : Int)]) (t := 101) (fr := (0, 0)) (heap_alloc_new w3 _)) (by simp [Value.oneCell'])
                 (by omega) (by unfold maxLen; omega) (by omega) (by simp; omega) (w3.heap.size + 1) (by simp) ?_
           intro g4 cap w4 hown4 hgrow hat hlt4
           have e0 := (hgrow.cell_far ⟨gg, 2, none⟩ (by show gg < _; simp; omega) hfar).trans K1.out
           have e1 := (hgrow.frozen_far ⟨gg, 2, none⟩ (by show gg < _; simp; omega) hfar).trans K2.out
           replace hgrow := As.mk hgrow
           replace hown4 := As.mk hown4)
        | (refine step_call_eq (by rfl) ?ho cpar.out ?_; (case ho => go_simp)))
      all_goals
        go_wp2_with fail
        have hkp : Keeps (fun q => some q = (Value.slice Av (k - 1) cv).ownBlock) w3 w4 := (Keeps.of_below (((Below.refl _ _).alloc (Nat.le_refl _) _).drew) _).trans ((Keeps.of_grown hgrow.out).mono (fun _ _ h => h))
        have hks5 := (hkp.mono (T := fun q => some q = (Value.slice Av (k - 1) cv).ownBlock ∨ q = gg) (fun _ _ h => .inl h)).trans ((keepsSt w4 ⟨gg, 2, none⟩ (.slice (some ⟨g4, 0, none⟩) (k - 1 + 1) cap)).mono (fun _ _ h => .inr h))
        have hSS : ∀ q, (some q = (Value.slice Av (k - 1) cv).ownBlock ∨ q = gg) → ∃ cs t fr, w3.heap[q]? = some (.cells cs t fr) ∧ (t = 101 ∨ t = 99) := fun q hq => by
          rcases hq with hq | rfl
          · obtain ⟨cs, h⟩ := own_cells hA3'.out.2 hq
            exact ⟨cs, _, _, h, .inl rfl⟩
          · exact ⟨_, _, _, hA3'.out.1, .inr rfl⟩
        have hT5 := hT3'.out.keepOf hks5 (fun q hq => by obtain ⟨cs, t, fr, h1, h2⟩ := hSS q hq; exact ⟨cs, t, fr, h1, by rcases h2 with rfl | rfl <;> decide, by rcases h2 with rfl | rfl <;> decide⟩)
        have hL5 := LinksAt.keepOf hL3'.out hks5 (fun q hq => by obtain ⟨cs, t, fr, h1, h2⟩ := hSS q hq; exact ⟨cs, t, fr, h1, by rcases h2 with rfl | rfl <;> decide, by rcases h2 with rfl | rfl <;> decide⟩)
        have hA4 := blk_keep hA3'.out.1 hkp hfar
        have hA5 : AutoTo w (w4.setCell ⟨gg, 2, none⟩ (.slice (some ⟨g4, 0, none⟩) (k - 1 + 1) cap)) gg tg lg P k (.slice (some ⟨g4, 0, none⟩) (k - 1 + 1) cap) := by
          refine ⟨?_, ?_⟩
          · have := blk_set hA4 2 (.slice (some ⟨g4, 0, none⟩) (k - 1 + 1) cap)
            rw [this]; simp
          · have h6 := hown4.out
            rw [← hrs.out] at h6
            have h7 := own_keep h6 (keepsSt w4 ⟨gg, 2, none⟩ (.slice (some ⟨g4, 0, none⟩) (k - 1 + 1) cap)) (fun b c' _ hb _ hS => by
              have hS : b = gg := hS
              subst hS
              rw [hA4] at hb
              injection hb with hb
              injection hb with _ hb
              exact absurd hb (by decide))
            rw [show k - 1 + 1 = k by omega] at h7 ⊢
            exact h7
        have hbel5 : Below w.heap.size w (w4.setCell ⟨gg, 2, none⟩ (.slice (some ⟨g4, 0, none⟩) (k - 1 + 1) cap)) :=
          hbel3.out.trans (hks5.below (fun q hq hS => by
            rcases hS with hS | hS
            · have := (own_blk hA3'.out.2 hS).1
              omega
            · omega) s3)
        rw [show k - 1 + 1 = k by omega] at hT5 hL5 hA5 hbel5
        go_roundg gp
        case rel => exact ⟨k + 1, _, ⟨by have := hgk.out; omega⟩, by omega, by omega, (by first | rfl | go_num | (congr 1; omega)), ⟨hA5⟩, ⟨hT5⟩, ⟨hL5⟩, ⟨hbel5⟩⟩
        case measure => omega
    · obtain rfl : k = n := by omega
      go_wp2_with (go_at_call 29; refine Calls.mono cN.out ?_; rintro e w' ⟨rfl, rfl⟩)
      go_ret
      refine ⟨gg, rfl, ⟨⟨w.heap.size, tg, w1.heap.size, lg, v⟩, hA.out.1, hT.out, hL.out, ?_⟩, hbel.out⟩
      rw [hn.out]
      exact own_base hA.out.2 (Nat.zero_le _)
end Go.Proofs.Ytglalojbdlepfaa
end
section
/- The walks of package sparse: a state's path, a step. -/
set_option linter.unusedVariables false
set_option linter.unusedSimpArgs false
namespace Go.Proofs.Ytglalojbdlepfaa
open Go.RowKit Go.Maps Seine.Trie Seine.Links Seine.Sparse
attribute [local go_sem high] max_two' max2_i
theorem sstates_calls (w : World) (g : Nat) (P l : List Txt) (h : AutoAt w g P l) : Calls Try.prog 31 #[.pointer (some ⟨g, 0, none⟩)] w fun e w' => e = .returned (.int .i64 (P.length : Int)) ∧ w = w' := by
  obtain ⟨B, h1, h2, h3, h4⟩ := h
  have cN := As.mk (nodes_calls w B.tb B.tg P (place l) h2)
  have c0 : w.cell? ⟨g, 0, none⟩ = some (.pointer (some ⟨B.tg, 0, none⟩)) := cell_of_blk h1 0
  clear h1 h2 h3 h4
  go_enter Try.func31, Try.ntmps31
  go_wp2_with (go_at_call 29; refine Calls.mono cN.out ?_; rintro e w' ⟨rfl, rfl⟩)
  go_ret
  exact ⟨rfl, rfl⟩
theorem sstates_none (w : World) : Calls Try.prog 31 #[.pointer none] w fun e w' => e = .returned (.int .i64 0) ∧ w = w' := by
  go_enter Try.func31, Try.ntmps31
  go_wp2
  go_ret
  exact ⟨rfl, rfl⟩
def Cn.looked (c : Cn) (n : Nat) : Cn := { c with l := c.l + (n : Int) }
theorem Cn.looked_zero (c : Cn) : c.looked 0 = c := by unfold Cn.looked; simp
theorem Cn.looked_one (c : Cn) : { c with l := c.l + 1 } = c.looked 1 := rfl
/-- Where a step stands: a shorter state, from which it ends where the first one does. -/
def StepAt (w0 : World) (g : Nat) (P l : List Txt) (mo : Option Nat) (cn : Cn) (s : Txt) (c : UInt8) (s' : Txt) (w : World) : Prop :=
  s' ∈ P ∧ lng P (s' ++ [c]) = lng P (s ++ [c]) ∧ ∃ d, looks1 P s c = d + looks1 P s' c ∧ Mo w mo (cn.looked d) ∧ Keeps (OnlyM mo) w0 w
theorem place_getD {P : List Txt} {s : Txt} (h : s ∈ P) : P.getD (place P s).toNat [] = s := by
  rw [List.getD_eq_getElem?_getD, place_get h]; rfl
theorem Cn.looked_looked (c : Cn) (a b : Nat) : (c.looked a).looked b = c.looked (a + b) := by
  unfold Cn.looked; simp only [Cn.mk.injEq, true_and, and_true]; push_cast; omega
set_option maxRecDepth 100000 in
set_option maxHeartbeats 3200000 in
theorem sstep_calls (w : World) (g eb : Nat) (P l : List Txt) (h : AutoAt w g P l) (mo : Option Nat) (ht : TabS w eb mo P) (cn : Cn) (hm : Mo w mo cn) (hT : Tree P) (hl : P.length ≤ 1000000) (s : Txt) (hs : s ∈ P) (c : UInt8)
    (hok : (cn.looked (looks1 P s c)).ok ∧ cn.ok) :
    Calls Try.prog 56 #[.pointer (some ⟨g, 0, none⟩), .pointer (some ⟨eb, 0, none⟩), .int .i64 (place P s), .int .u8 (c.toNat : Int)] w fun e w' =>
      e = .returned (.int .i64 (place P (lng P (s ++ [c])))) ∧ Mo w' mo (cn.looked (looks1 P s c)) ∧ Keeps (OnlyM mo) w w' := by
  have HA := As.mk h
  have HTab := As.mk ht
  have HM := As.mk hm
  have hTr := As.mk hT
  have hst0 : As (StepAt w g P l mo cn s c s w) := ⟨hs, rfl, 0, by omega, by unfold Cn.looked; simpa using hm, Keeps.refl _ _⟩
  clear h ht hm hT
  go_enter Try.func56, Try.ntmps56
  go_wp2_with fail
  refine wp_scope_jumps 0 (fun a' w' => ∃ (s' : Txt) (u9 u10 u11 u12 u13 u14 u15 u16 u17 u18 u19 u20 u21 u22 u23 u24 u25 u26 u27 : Value), a' = { tmps := #[.pointer (some ⟨g, 0, none⟩), .pointer (some ⟨eb, 0, none⟩), .int .i64 (place P s'), .int .u8 (c.toNat : Int), undef, undef, undef, undef, .int .i64 0, u9, u10, u11, u12, u13, u14, u15, u16, u17, u18, u19, u20, u21, u22, u23, u24, u25, u26, u27], defers := [] } ∧ As (StepAt w g P l mo cn s c s' w')) (fun a' _ => (P.getD (intOf (a'.tmps.getD 2 undef)).toNat []).length) rfl ?_ ?_
  · go_wp2_with fail
    go_step3
    obtain ⟨sp, hspe⟩ : ∃ x, x = s := ⟨_, rfl⟩
    subst hspe
    have hst := hst0
    obtain ⟨hsP, hlng, dl, hdl, hmo, hkp⟩ := hst.out
    obtain ⟨a, ea, ha⟩ := place_nat' hsP
    have hga : P.getD a [] = sp := by rw [List.getD_eq_getElem?_getD, ha]; rfl
    have hal := (List.getElem?_eq_some_iff.1 ha).1
    have hTb' := HTab.out.keep HM.out hkp
    have hAu' := HA.out.keepM HM.out hkp
    obtain ⟨B, h1, h2, h3, h4⟩ := hAu'
    have hlk := As.mk (mlook_calls _ eb mo P hTb' (cn.looked dl) hmo (by have := hok; have := looks1_pos P sp c; unfold Cn.ok Cn.looked at *; simp only at *; omega) a hal hl c)
    rw [hga] at hlk
    rw [ea]
    have hc1 : w.cell? ⟨g, 1, none⟩ = some (.pointer (some ⟨B.lg, 0, none⟩)) := cell_of_blk h1 1
    by_cases hq : sp ++ [c] ∈ P
    · obtain ⟨r, er, _⟩ := place_nat' hq
      have hres := As.mk (show place P (lng P (sp ++ [c])) = (r : Int) by rw [← hlng, step_hit hTr.out hq, er])
      have hlo := looks1_hit hq
      rw [er] at hlk
      have hn1 : decide ((r : Int) < 0) = false := decide_eq_false (by omega)
      have hmx : max (r : Int) 0 = (r : Int) := by omega
      have hdd := As.mk (show looks1 P sp c = dl + 1 by rw [hdl, hlo])
      replace hkp := As.mk hkp
      clear hst h1 h2 h3 h4 hTb' hlng hlo hq hmo
      go_wp2_with (go_at_call 41; refine Calls.mono hlk.out ?_; rintro e w4 ⟨rfl, hm4, hk4⟩; replace hm4 := As.mk hm4; replace hk4 := As.mk hk4)
      simp only [Exit.jump]
      go_ret
      exact ⟨ret_int hres.out.symm, by have hm5 := hm4.out; rw [Cn.looked_one, Cn.looked_looked] at hm5; rw [hdd.out]; exact hm5, hkp.out.trans hk4.out⟩
    · by_cases hs0 : sp = []
      · subst hs0
        have hres := As.mk (show place P (lng P ([] ++ [c])) = 0 by rw [← hlng, List.nil_append, step_root hTr.out (by simpa using hq), place_at hTr.out.nodup hTr.out.root]; rfl)
        have ha0 : a = 0 := by rw [place_at hTr.out.nodup hTr.out.root] at ea; omega
        subst ha0
        rw [place_none hq] at hlk
        have hdd := As.mk (show looks1 P [] c = dl + 1 by rw [hdl, looks1_root])
        replace hkp := As.mk hkp
        clear hst h1 h2 h3 h4 hTb' hlng hq hmo
        go_wp2_with (go_at_call 41; refine Calls.mono hlk.out ?_; rintro e w4 ⟨rfl, hm4, hk4⟩; replace hm4 := As.mk hm4; replace hk4 := As.mk hk4)
        simp only [Exit.jump]
        go_ret
        exact ⟨ret_int hres.out.symm, by have hm5 := hm4.out; rw [Cn.looked_one, Cn.looked_looked] at hm5; rw [hdd.out]; exact hm5, hkp.out.trans hk4.out⟩
      · obtain ⟨m, hf⟩ := fail_some hTr.out hs0
        obtain ⟨f1, f2, f3, f4⟩ := failN_some hf
        have hfall := looks1_fall hq hf
        have hlf := step_fall hTr.out hq hf
        have ha0 : 0 < a := by
          rcases Nat.eq_zero_or_pos a with z | z
          · subst z; rw [hTr.out.root] at ha; injection ha with ha; exact absurd ha.symm hs0
          · exact z
        have hff : failF P sp = place P (sp.drop m) := by unfold failF; rw [hf]
        have ha1 : decide (0 < (a : Int)) = true := decide_eq_true (by omega)
        rw [place_none hq] at hlk
        have hlen := As.mk (show (sp.drop m).length < sp.length by rw [List.length_drop]; omega)
        have hnxt := As.mk (fun w4 (hm4 : Mo w4 mo { cn.looked dl with l := (cn.looked dl).l + 1 }) (hk4 : Keeps (OnlyM mo) w w4) => (⟨f3, by rw [← hlf, hlng], dl + 1, by rw [hdl, hfall]; omega, by rw [Cn.looked_one, Cn.looked_looked] at hm4; exact hm4, hkp.trans hk4⟩ : StepAt w g P l mo cn sp c (sp.drop m) w4))
        have hfc := As.mk (fun w4 (hk4 : Keeps (OnlyM mo) w w4) => (by have := lfail_calls w4 B.lb B.lg P _ _ _ _ (LinksAt.keepM h3 hmo hk4) (a : Int); unfold askF at this; rw [if_pos (by omega), Int.toNat_natCast, hga, hff] at this; exact this : Calls Try.prog 62 #[.pointer (some ⟨B.lg, 0, none⟩), .int .i64 (a : Int)] w4 fun e w' => e = .returned (.int .i64 (place P (sp.drop m))) ∧ w4 = w'))
        have hgk := As.mk (fun w4 (hk4 : Keeps (OnlyM mo) w w4) => (blk_keep h1 hk4 (hmo.far h1 (.inl (by simp)))))
        generalize sp.drop m = s2 at *
        clear hst h1 h2 h3 h4 hTb' hlng hq hmo hf f4 hfall hlf hff
        go_wp2_with (first
          | (go_at_call 41; refine Calls.mono hlk.out ?_; rintro e w4 ⟨rfl, hm4, hk4⟩; have hg4 := cell_of_blk (hgk.out w4 hk4) 1; simp only [List.getElem?_toArray, List.getElem?_cons_succ, List.getElem?_cons_zero] at hg4)
          | (go_at_call 62; refine Calls.mono (hfc.out _ hk4) ?_; rintro e w5 ⟨rfl, rfl⟩))
        go_step3
        exact ⟨rfl, s2, _, _, _, _, _, _, _, _, _, _, _, _, _, _, _, _, _, _, _, rfl, ⟨hnxt.out _ hm4 hk4⟩⟩
  · rintro a' wr ⟨sp, u9, u10, u11, u12, u13, u14, u15, u16, u17, u18, u19, u20, u21, u22, u23, u24, u25, u26, u27, rfl, hst⟩
    obtain ⟨hsP, hlng, dl, hdl, hmo, hkp⟩ := hst.out
    obtain ⟨a, ea, ha⟩ := place_nat' hsP
    have hga : P.getD a [] = sp := by rw [List.getD_eq_getElem?_getD, ha]; rfl
    have hal := (List.getElem?_eq_some_iff.1 ha).1
    have hTb' := HTab.out.keep HM.out hkp
    have hAu' := HA.out.keepM HM.out hkp
    obtain ⟨B, h1, h2, h3, h4⟩ := hAu'
    have hlk := As.mk (mlook_calls _ eb mo P hTb' (cn.looked dl) hmo (by have := hok; have := looks1_pos P sp c; unfold Cn.ok Cn.looked at *; simp only at *; omega) a hal hl c)
    rw [hga] at hlk
    rw [ea]
    have hc1 : wr.cell? ⟨g, 1, none⟩ = some (.pointer (some ⟨B.lg, 0, none⟩)) := cell_of_blk h1 1
    by_cases hq : sp ++ [c] ∈ P
    · obtain ⟨r, er, _⟩ := place_nat' hq
      have hres := As.mk (show place P (lng P (s ++ [c])) = (r : Int) by rw [← hlng, step_hit hTr.out hq, er])
      have hlo := looks1_hit hq
      rw [er] at hlk
      have hn1 : decide ((r : Int) < 0) = false := decide_eq_false (by omega)
      have hmx : max (r : Int) 0 = (r : Int) := by omega
      have hdd := As.mk (show looks1 P s c = dl + 1 by rw [hdl, hlo])
      replace hkp := As.mk hkp
      clear hst h1 h2 h3 h4 hTb' hlng hlo hq hmo
      go_wp2_with (go_at_call 41; refine Calls.mono hlk.out ?_; rintro e w4 ⟨rfl, hm4, hk4⟩; replace hm4 := As.mk hm4; replace hk4 := As.mk hk4)
      simp only [Exit.jump]
      go_ret
      exact ⟨ret_int hres.out.symm, by have hm5 := hm4.out; rw [Cn.looked_one, Cn.looked_looked] at hm5; rw [hdd.out]; exact hm5, hkp.out.trans hk4.out⟩
    · by_cases hs0 : sp = []
      · subst hs0
        have hres := As.mk (show place P (lng P (s ++ [c])) = 0 by rw [← hlng, List.nil_append, step_root hTr.out (by simpa using hq), place_at hTr.out.nodup hTr.out.root]; rfl)
        have ha0 : a = 0 := by rw [place_at hTr.out.nodup hTr.out.root] at ea; omega
        subst ha0
        rw [place_none hq] at hlk
        have hdd := As.mk (show looks1 P s c = dl + 1 by rw [hdl, looks1_root])
        replace hkp := As.mk hkp
        clear hst h1 h2 h3 h4 hTb' hlng hq hmo
        go_wp2_with (go_at_call 41; refine Calls.mono hlk.out ?_; rintro e w4 ⟨rfl, hm4, hk4⟩; replace hm4 := As.mk hm4; replace hk4 := As.mk hk4)
        simp only [Exit.jump]
        go_ret
        exact ⟨ret_int hres.out.symm, by have hm5 := hm4.out; rw [Cn.looked_one, Cn.looked_looked] at hm5; rw [hdd.out]; exact hm5, hkp.out.trans hk4.out⟩
      · obtain ⟨m, hf⟩ := fail_some hTr.out hs0
        obtain ⟨f1, f2, f3, f4⟩ := failN_some hf
        have hfall := looks1_fall hq hf
        have hlf := step_fall hTr.out hq hf
        have ha0 : 0 < a := by
          rcases Nat.eq_zero_or_pos a with z | z
          · subst z; rw [hTr.out.root] at ha; injection ha with ha; exact absurd ha.symm hs0
          · exact z
        have hff : failF P sp = place P (sp.drop m) := by unfold failF; rw [hf]
        have ha1 : decide (0 < (a : Int)) = true := decide_eq_true (by omega)
        rw [place_none hq] at hlk
        have hlen := As.mk (show (sp.drop m).length < sp.length by rw [List.length_drop]; omega)
        have hnxt := As.mk (fun w4 (hm4 : Mo w4 mo { cn.looked dl with l := (cn.looked dl).l + 1 }) (hk4 : Keeps (OnlyM mo) wr w4) => (⟨f3, by rw [← hlf, hlng], dl + 1, by rw [hdl, hfall]; omega, by rw [Cn.looked_one, Cn.looked_looked] at hm4; exact hm4, hkp.trans hk4⟩ : StepAt w g P l mo cn s c (sp.drop m) w4))
        have hfc := As.mk (fun w4 (hk4 : Keeps (OnlyM mo) wr w4) => (by have := lfail_calls w4 B.lb B.lg P _ _ _ _ (LinksAt.keepM h3 hmo hk4) (a : Int); unfold askF at this; rw [if_pos (by omega), Int.toNat_natCast, hga, hff] at this; exact this : Calls Try.prog 62 #[.pointer (some ⟨B.lg, 0, none⟩), .int .i64 (a : Int)] w4 fun e w' => e = .returned (.int .i64 (place P (sp.drop m))) ∧ w4 = w'))
        have hgk := As.mk (fun w4 (hk4 : Keeps (OnlyM mo) wr w4) => (blk_keep h1 hk4 (hmo.far h1 (.inl (by simp)))))
        generalize sp.drop m = s2 at *
        clear hst h1 h2 h3 h4 hTb' hlng hq hmo hf f4 hfall hlf hff
        go_wp2_with (first
          | (go_at_call 41; refine Calls.mono hlk.out ?_; rintro e w4 ⟨rfl, hm4, hk4⟩; have hg4 := cell_of_blk (hgk.out w4 hk4) 1; simp only [List.getElem?_toArray, List.getElem?_cons_succ, List.getElem?_cons_zero] at hg4)
          | (go_at_call 62; refine Calls.mono (hfc.out _ hk4) ?_; rintro e w5 ⟨rfl, rfl⟩))
        go_step3
        exact ⟨rfl, ⟨s2, _, _, _, _, _, _, _, _, _, _, _, _, _, _, _, _, _, _, _, rfl, ⟨hnxt.out _ hm4 hk4⟩⟩, by show (P.getD (place P s2).toNat []).length < (P.getD ((a : Int)).toNat []).length; rw [Int.toNat_natCast, hga, place_getD f3]; exact hlen.out⟩
end Go.Proofs.Ytglalojbdlepfaa
end
section
/- Words for lists of pairs, and the walk of the reference's 'Same'. -/
set_option linter.unusedVariables false
set_option linter.unusedSimpArgs false
namespace Go.Proofs.Ytglalojbdlepfaa
open Go.RowKit
abbrev Pr := Int × Int

theorem info_pr : (Try.prog.info? 65).map (fun i => (i.zero, i.size, i.bytes)) = some (some (.agg #[(.int .i64 0), (.int .i64 0)]), 2, 16) := by kernel_rfl
def prCells (xs : List Pr) : List Value := xs.flatMap fun p => [.int .i64 p.1, .int .i64 p.2]
theorem prCells_length (xs : List Pr) : (prCells xs).length = xs.length * 2 := by
  induction xs with
  | nil => rfl
  | cons x xs ih => exact (congrArg (· + 2) ih).trans (by show _ = (xs.length + 1) * 2; omega)
theorem prCells_snoc (xs : List Pr) (p : Pr) : prCells (xs ++ [p]) = prCells xs ++ [.int .i64 p.1, .int .i64 p.2] := by simp [prCells]
theorem prCells_at (xs : List Pr) (i : Nat) (h : i < xs.length) : (prCells xs)[i * 2]? = some (.int .i64 (xs.getD i (0, 0)).1) ∧ (prCells xs)[i * 2 + 1]? = some (.int .i64 (xs.getD i (0, 0)).2) := by
  induction xs generalizing i with
  | nil => simp at h
  | cons x xs ih =>
    cases i with
    | zero => simp [prCells]
    | succ i =>
      have := ih i (by simpa using h)
      have e1 : (i + 1) * 2 = i * 2 + 2 := by omega
      have e2 : prCells (x :: xs) = .int .i64 x.1 :: .int .i64 x.2 :: prCells xs := rfl
      rw [e1, e2]
      simpa using this
/-- A slice of pairs. -/
abbrev Prs (w : World) (A : Option Addr) (xs : List Pr) : Prop := Row w A (prCells xs)
abbrev OwnPrs (w : World) (base : Nat) (v : Value) (xs : List Pr) : Prop := w.ownsRow base 65 2 v xs.length (prCells xs)
theorem Prs.at_ {w : World} {A : Option Addr} {xs : List Pr} (h : Prs w A xs) {i : Nat} (hi : i < xs.length) : ∃ ad, A = some ad ∧
    w.cell? (ad.add (i * 2)) = some (.int .i64 (xs.getD i (0, 0)).1) ∧ w.cell? ⟨(ad.add (i * 2)).block, (ad.add (i * 2)).off + 1, none⟩ = some (.int .i64 (xs.getD i (0, 0)).2) := by
  obtain ⟨h1, h2⟩ := prCells_at xs i hi
  rcases h with h | ⟨ad, hA, _, hc⟩
  · rw [h] at h1; simp at h1
  · exact ⟨ad, hA, hc _ _ h1, by rw [← Addr.add_field _ _ _ (by omega)]; exact hc _ _ h2⟩

theorem eqPr (d : Nat) (w : World) (x0 y0 : Int) (x1 y1 : Int) :
    (Op.equalIn (d + 2) 65 (.agg #[.int .i64 x0, .int .i64 x1]) (.agg #[.int .i64 y0, .int .i64 y1])).run Try.prog w = .ok (x0 == y0 && (x1 == y1)) w := by
  have h := field_eq (P := Try.prog) (d := d + 1) (w := w) (xs := #[.int .i64 x0, .int .i64 x1]) (ys := #[.int .i64 y0, .int .i64 y1]) (f := ⟨"Start", 3, 0, false, "", "", 0⟩) (by decide) (by go_simp; rfl) (by go_simp; rfl) (by go_simp; rfl)
    (field_eq (f := ⟨"End", 3, 1, false, "", "", 8⟩) (by decide) (by go_simp; rfl) (by go_simp; rfl) (by go_simp; rfl) fields_none)
  rw [Bool.and_true] at h
  exact struct_eq Try.underlying65 (by kernel_rfl) h

attribute [local go_sem high] eqPr

set_option maxHeartbeats 400000 in
theorem same_calls (A B : Option Addr) (c d : Nat) (xs ys : List Pr) (w : World) (hx : Prs w A xs) (hy : Prs w B ys) (hl : xs.length ≤ 1000000000) (hk : ys.length ≤ 1000000000) :
    Calls Try.prog 16 #[.slice A xs.length c, .slice B ys.length d] w fun e w' => e = .returned (.bool (decide (xs = ys))) ∧ ∃ n, w' = w.drewN n := by
  have hu25 := Try.underlying65
  have HX := As.mk hx
  have HY := As.mk hy
  clear hx hy
  obtain ⟨r, hr⟩ : ∃ r, decide (xs = ys) = r := ⟨_, rfl⟩
  rw [hr]
  have HR := As.mk hr
  clear hr
  by_cases hn : xs.length = ys.length
  · have h1 : ((xs.length : Int) != (ys.length : Int)) = false := by simp [hn]
    have hf := As.mk hn
    clear hn
    go_enter Try.func16, Try.ntmps16
    go_wp2
    go_loopw [5] (fun v wr => ∃ (k : Nat) (n : Nat), k ≤ xs.length ∧ v = .int .i64 k ∧ As (xs.take k = ys.take k) ∧ wr = w.drewN n) (fun v _ => xs.length - (intOf v).toNat)
    case atStart => exact ⟨0, 0, Nat.zero_le _, rfl, ⟨rfl⟩, rfl⟩
    case round =>
      obtain ⟨k, n, hk, rfl, ht, rfl⟩ := hrel
      by_cases hlt : k < xs.length
      · obtain ⟨ad, rfl, a1, a2⟩ := Prs.at_ HX.out hlt
        have hlt2 : k < ys.length := by have := hf.out; omega
        obtain ⟨bd, rfl, b1, b2⟩ := Prs.at_ HY.out hlt2
        have hts := As.mk (show xs.take (k + 1) = xs.take k ++ [xs.getD k (0, 0)] by rw [List.take_succ_eq_append_getElem hlt]; simp [hlt])
        have hty := As.mk (show ys.take (k + 1) = ys.take k ++ [ys.getD k (0, 0)] by rw [List.take_succ_eq_append_getElem hlt2]; simp [hlt2])
        by_cases heq : xs.getD k (0, 0) = ys.getD k (0, 0)
        · have e1 : (!((xs.getD k (0, 0)).1 == (ys.getD k (0, 0)).1) || !((xs.getD k (0, 0)).2 == (ys.getD k (0, 0)).2)) = false := by rw [heq]; simp
          have he := As.mk heq
          clear heq
          generalize xs.getD k (0, 0) = p at *
          generalize ys.getD k (0, 0) = q at *
          go_wp2
          go_quiet (fail)
          go_wp2
          go_roundw
          case rel => exact ⟨k + 1, _, by omega, by go_num, ⟨by rw [hts.out, hty.out, ht.out, he.out]⟩, rfl⟩
          case measure => simp [intOf]; omega
        · have e1 : (!((xs.getD k (0, 0)).1 == (ys.getD k (0, 0)).1) || !((xs.getD k (0, 0)).2 == (ys.getD k (0, 0)).2)) = true := by
            have := heq
            rw [Prod.ext_iff] at this
            simp only [Bool.or_eq_true, Bool.not_eq_true', beq_eq_false_iff_ne]
            omega
          have hne : As (decide (xs = ys) = false) := ⟨by simp only [decide_eq_false_iff_not]; rintro rfl; exact heq rfl⟩
          clear heq hts hty ht
          generalize xs.getD k (0, 0) = p at *
          generalize ys.getD k (0, 0) = q at *
          go_wp2
          go_quiet (fail)
          go_wp2
          go_ret
          exact ⟨ret_bool (hne.out.symm.trans HR.out), _, World.drewN_drewN ..⟩
      · have hfin : As (decide (xs = ys) = true) := ⟨by
          have h1 := ht.out; have h2 := hf.out
          rw [List.take_of_length_le (by omega), List.take_of_length_le (by omega)] at h1
          simpa using h1⟩
        go_wp2
        go_ret
        exact ⟨ret_bool (hfin.out.symm.trans HR.out), _, rfl⟩
  · have h1 : ((xs.length : Int) != (ys.length : Int)) = true := by simp; omega
    have h2 : decide (xs = ys) = false := by simp; rintro rfl; exact hn rfl
    obtain rfl : r = false := by rw [← HR.out, h2]
    clear hn h2
    go_enter Try.func16, Try.ntmps16
    go_wp2
    go_ret
    exact ⟨rfl, 0, rfl⟩


theorem OwnPrs.row {w : World} {base : Nat} {v : Value} {xs : List Pr} (h : OwnPrs w base v xs) : ∃ A c, v = .slice A xs.length c ∧ xs.length ≤ c ∧ Prs w A xs := by
  obtain ⟨A, c, rfl, hc⟩ := own_slice h
  exact ⟨A, c, rfl, hc, Row.of_own h⟩
theorem ownPrs_snoc {w : World} {base : Nat} {v : Value} {xs : List Pr} {s e : Int} (h : w.ownsRow base 65 2 v (xs.length + 1) (prCells xs ++ [.int .i64 s, .int .i64 e])) : OwnPrs w base v (xs ++ [(s, e)]) := by
  unfold OwnPrs
  rw [List.length_append, prCells_snoc]
  exact h
/-- Pairs in new memory. -/
def RetPrs (w : World) (xs : List Pr) (e : Ending) (w' : World) : Prop := ∃ v, e = .returned v ∧ OwnPrs w' w.heap.size v xs ∧ Below w.heap.size w w'
theorem RetPrs.row {w w' : World} {xs : List Pr} {e : Ending} (h : RetPrs w xs e w') : ∃ A c, e = .returned (.slice A xs.length c) ∧ xs.length ≤ c ∧ Prs w' A xs ∧ Below w.heap.size w w' := by
  obtain ⟨v, rfl, ho, hb⟩ := h
  obtain ⟨A, c, rfl, hc, hr⟩ := OwnPrs.row ho
  exact ⟨A, c, rfl, hc, hr, hb⟩
end Go.Proofs.Ytglalojbdlepfaa
end
section
/- The walks of package pairs: which stands ahead, two rows as one, in order. -/
set_option linter.unusedVariables false
set_option linter.unusedSimpArgs false
namespace Go.Proofs.Ytglalojbdlepfaa
open Go.RowKit Seine.Sort
attribute [local go_sem high] eqPr
theorem pless_calls (w : World) (a1 a2 b1 b2 : Int) (r : Bool) (hr : r = decide (lt (a1, a2) (b1, b2))) :
    Calls Try.prog 70 #[.agg #[.int .i64 a1, .int .i64 a2], .agg #[.int .i64 b1, .int .i64 b2]] w fun e w' => e = .returned (.bool r) ∧ Below w.heap.size w w' := by
  have hb : ∀ o o', Below w.heap.size w ((w.alloc o).alloc o') := fun o o' => ((Below.refl _ _).alloc (Nat.le_refl _) _).alloc (by simp) _
  by_cases h : a1 = b1
  · have hr2 : r = decide (a2 < b2) := by rw [hr, decide_eq_decide]; unfold lt; simp; omega
    have hx : (!(a1 == b1)) = false := by simp [h]
    clear hr
    go_enter Try.func70, Try.ntmps70
    go_wp2
    go_ret
    exact ⟨ret_bool hr2.symm, hb _ _⟩
  · have hr2 : r = decide (a1 < b1) := by rw [hr, decide_eq_decide]; unfold lt; simp; omega
    have hx : (!(a1 == b1)) = true := by simp [h]
    clear hr
    go_enter Try.func70, Try.ntmps70
    go_wp2
    go_ret
    exact ⟨ret_bool hr2.symm, hb _ _⟩
theorem Prs.tail {w : World} {ad : Addr} {x : Pr} {xs : List Pr} (h : Prs w (some ad) (x :: xs)) : Prs w (some (ad.add 2)) xs := by
  rcases h with h | ⟨ad', e, hlt, hc⟩
  · simp [prCells] at h
  · injection e with e
    subst e
    refine .inr ⟨_, rfl, by rw [Addr.block_add]; exact hlt, fun j u hu => ?_⟩
    rw [Addr.add_add', Nat.add_comm 2 j]
    exact hc _ u (by simpa [prCells] using hu)
theorem Prs.head {w : World} {A : Option Addr} {x : Pr} {xs : List Pr} (h : Prs w A (x :: xs)) : ∃ ad, A = some ad ∧ w.cell? ad = some (.int .i64 x.1) ∧ w.cell? ⟨ad.block, ad.off + 1, none⟩ = some (.int .i64 x.2) := by
  obtain ⟨ad, e, h1, h2⟩ := Prs.at_ h (i := 0) (by simp)
  have h0 : ad.add 0 = ad := by simp [Addr.add]
  rw [Nat.zero_mul, h0] at h1 h2
  exact ⟨ad, e, h1, h2⟩
theorem Addr.add_two (ad : Addr) : ad.add 2 = ⟨ad.block, ad.off + 2, none⟩ := rfl
theorem prLast {w : World} {base : Nat} {v : Value} {out : List Pr} {x : Pr} (h : OwnPrs w base v (out ++ [x])) : ∃ b c, v = .slice (some ⟨b, 0, none⟩) (out.length + 1) c ∧ out.length + 1 ≤ c ∧ w.cell? ⟨b, out.length * 2, none⟩ = some (.int .i64 x.1) ∧ w.cell? ⟨b, out.length * 2 + 1, none⟩ = some (.int .i64 x.2) ∧ b < w.heap.size := by
  obtain ⟨A, c, e, hc, hr⟩ := OwnPrs.row h
  rw [List.length_append, List.length_singleton] at e hc
  rcases h.2 with ⟨_, h0⟩ | ⟨b, cap, cur, hv, _, hh, _⟩
  · simp at h0
  · rw [hv] at e
    injection e with e1 _ e3
    subst e1
    obtain ⟨ad, e4, h1, h2⟩ := Prs.at_ hr (i := out.length) (by simp)
    injection e4 with e4
    subst e4
    have hg : (out ++ [x]).getD out.length (0, 0) = x := by simp [List.getD_eq_getElem?_getD]
    rw [hg] at h1 h2
    have hadd : (⟨b, 0, none⟩ : Addr).add (out.length * 2) = ⟨b, out.length * 2, none⟩ := by unfold Addr.add; split <;> simp_all
    rw [hadd] at h1 h2
    exact ⟨b, c, by rw [hv, e3, List.length_append, List.length_singleton], hc, h1, h2, block_lt hh⟩
/-- Where two rows are put together: what is left of each, and what is out. -/
def JRel (w : World) (a b : List Pr) (n1 n2 gk : Nat) (v1 v2 v3 : Value) (wr : World) : Prop :=
  ∃ (A' B' : Option Addr) (m1 c' m2 d' : Nat) (a' b' out : List Pr) (u : Value), v1 = .slice A' m1 c' ∧ v2 = .slice B' m2 d' ∧ v3 = u ∧ As (a'.length = m1) ∧ As (b'.length = m2) ∧ As (m1 + m2 + 1 ≤ gk) ∧ m1 ≤ c' ∧ m2 ≤ d' ∧ c' ≤ 9223372036854775807 ∧ d' ≤ 9223372036854775807 ∧ As (out.length + m1 + m2 ≤ n1 + n2) ∧
    As (Prs w A' a') ∧ As (Prs w B' b') ∧ As (Join a b a' b' out) ∧ As (OwnPrs wr w.heap.size u out) ∧ As (Below w.heap.size w wr)
theorem JRel.nextA {w wr : World} {a b a' b' out : List Pr} {n1 n2 gk m1 m2 c' d' : Nat} {x : Pr} {B' : Option Addr} (hm1 : (x :: a').length = m1) (hm2 : b'.length = m2) (hgk : m1 + m2 + 1 ≤ gk + 1) (hmc : m1 ≤ c') (hmd : m2 ≤ d') (hc' : c' ≤ 9223372036854775807) (hd' : d' ≤ 9223372036854775807)
    (hout : out.length + m1 + m2 ≤ n1 + n2) (hJ : Join a b a' b' (push out x)) (hRB : Prs w B' b') (A'' : Option Addr) (hRA : Prs w A'' a') :
    ∀ v4 w4, OwnPrs w4 w.heap.size v4 (push out x) → Below w.heap.size w w4 → JRel w a b n1 n2 gk (.slice A'' (m1 - 1) (c' - 1)) (.slice B' m2 d') v4 w4 := fun v4 w4 ho4 hb4 => by
  have := push_len out x
  rw [List.length_cons] at hm1
  exact ⟨_, _, m1 - 1, c' - 1, m2, d', a', b', _, _, rfl, rfl, rfl, ⟨by omega⟩, ⟨hm2⟩, ⟨by omega⟩, by omega, hmd, by omega, hd', ⟨by omega⟩, ⟨hRA⟩, ⟨hRB⟩, ⟨hJ⟩, ⟨ho4⟩, ⟨hb4⟩⟩
theorem JRel.nextB {w wr : World} {a b a' b' out : List Pr} {n1 n2 gk m1 m2 c' d' : Nat} {x : Pr} {A' : Option Addr} (hm1 : a'.length = m1) (hm2 : (x :: b').length = m2) (hgk : m1 + m2 + 1 ≤ gk + 1) (hmc : m1 ≤ c') (hmd : m2 ≤ d') (hc' : c' ≤ 9223372036854775807) (hd' : d' ≤ 9223372036854775807)
    (hout : out.length + m1 + m2 ≤ n1 + n2) (hJ : Join a b a' b' (push out x)) (hRA : Prs w A' a') (B'' : Option Addr) (hRB : Prs w B'' b') :
    ∀ v4 w4, OwnPrs w4 w.heap.size v4 (push out x) → Below w.heap.size w w4 → JRel w a b n1 n2 gk (.slice A' m1 c') (.slice B'' (m2 - 1) (d' - 1)) v4 w4 := fun v4 w4 ho4 hb4 => by
  have := push_len out x
  rw [List.length_cons] at hm2
  exact ⟨_, _, m1, c', m2 - 1, d' - 1, a', b', _, _, rfl, rfl, rfl, ⟨hm1⟩, ⟨by omega⟩, ⟨by omega⟩, hmc, by omega, hc', by omega, ⟨by omega⟩, ⟨hRA⟩, ⟨hRB⟩, ⟨hJ⟩, ⟨ho4⟩, ⟨hb4⟩⟩
theorem zero_len {α : Type} {x : α} {l : List α} {m : Nat} (h : (x :: l).length = m) (h1 : m ≤ 1) : l = [] := by
  rw [List.length_cons] at h
  exact List.eq_nil_of_length_eq_zero (by omega)
theorem keepsTwo {wr W1 : World} (h : Below wr.heap.size wr W1) (x1 x2 : Value) : Keeps (fun k => k = wr.heap.size) wr ((W1.setCell ⟨wr.heap.size, 0, none⟩ x1).setCell ⟨wr.heap.size, 1, none⟩ x2).drew :=
  Keeps.drew (((Keeps.of_below h (fun k => k = wr.heap.size)).trans (keepsSt W1 ⟨wr.heap.size, 0, none⟩ x1)).trans (keepsSt (W1.setCell ⟨wr.heap.size, 0, none⟩ x1) ⟨wr.heap.size, 1, none⟩ x2))
theorem nil_or_snoc : ∀ (out : List Pr), out = [] ∨ ∃ pre z, out = pre ++ [z]
  | [] => .inl rfl
  | x :: l => .inr ⟨(x :: l).dropLast, (x :: l).getLast (by simp), (List.dropLast_concat_getLast (by simp)).symm⟩
theorem took_blk (wr : World) (x1 x2 z : Value) (t : TypeId) : (((wr.alloc (.cells #[z, z] t)).setCell ⟨wr.heap.size, 0, none⟩ x1).setCell ⟨wr.heap.size, 1, none⟩ x2).heap[wr.heap.size]? = some (.cells #[x1, x2] t (0, 0)) := by
  have := blk_set (blk_set (heap_alloc_new wr (.cells #[z, z] t)) 0 x1) 1 x2
  simpa using this
theorem push_new {out : List Pr} {x : Pr} (h : out.getLast? ≠ some x) : push out x = out ++ [x] := if_neg h
theorem push_old {out : List Pr} {x : Pr} (h : out.getLast? = some x) : push out x = out := if_pos h
def Pick (t : Bool) (a b : List Pr) : Prop := (t = true → ∃ x a2, a = x :: a2 ∧ ∀ y ∈ b, lt x y ∨ x = y) ∧ (t = false → ∃ y b2, b = y :: b2 ∧ ∀ x ∈ a, lt y x ∨ y = x)
theorem Pick.left {x : Pr} {a b : List Pr} (h : ∀ y ∈ b, lt x y ∨ x = y) : Pick true (x :: a) b := ⟨fun _ => ⟨x, a, rfl, h⟩, fun h => by cases h⟩
theorem Pick.right {y : Pr} {a b : List Pr} (h : ∀ x ∈ a, lt y x ∨ y = x) : Pick false a (y :: b) := ⟨fun h => (by cases h), fun _ => ⟨y, b, rfl, h⟩⟩
abbrev zeroPair : Obj := .cells #[.int .i64 0, .int .i64 0] 65
set_option maxRecDepth 100000 in
set_option maxHeartbeats 1600000 in
theorem joined_calls (A : Option Addr) (c : Nat) (a : List Pr) (B : Option Addr) (d : Nat) (b : List Pr) (w : World) (ha : Prs w A a) (hb : Prs w B b) (hac : a.length ≤ c) (hbd : b.length ≤ d) (hcm : c ≤ maxLen) (hdm : d ≤ maxLen) (ra : Rise a) (rb : Rise b) (hl : a.length + b.length ≤ 100000000) :
    Calls Try.prog 69 #[.slice A a.length c, .slice B b.length d, .func (.func 70) #[] #[]] w (RetPrs w (sortP (a ++ b))) := by
  have hu25 := Try.underlying65
  unfold maxLen at hcm hdm
  obtain ⟨R, hR⟩ : ∃ R, sortP (a ++ b) = R := ⟨_, rfl⟩
  rw [hR]
  replace hR := As.mk hR
  obtain ⟨n1, hn1⟩ : ∃ n, a.length = n := ⟨_, rfl⟩
  obtain ⟨n2, hn2⟩ : ∃ n, b.length = n := ⟨_, rfl⟩
  rw [hn1] at hac hl ⊢
  rw [hn2] at hbd hl ⊢
  have hstart : As (JRel w a b n1 n2 (n1 + n2 + 1) (.slice A n1 c) (.slice B n2 d) (.slice none 0 0) w) :=
    ⟨⟨A, B, n1, c, n2, d, a, b, [], _, rfl, rfl, rfl, ⟨hn1⟩, ⟨hn2⟩, ⟨by omega⟩, hac, hbd, by omega, by omega, ⟨by simp⟩, ⟨ha⟩, ⟨hb⟩, ⟨Join.start ra rb⟩, ⟨World.ownsRow_nil _ _ _ _⟩, ⟨Below.refl _ _⟩⟩⟩
  clear ha hb ra rb
  go_enter Try.func69, Try.ntmps69
  go_wp2
  go_loopg [0, 1, 7] (n1 + n2 + 1) (fun gk v1 v2 v3 wr => JRel w a b n1 n2 gk v1 v2 v3 wr)
  case atStart => exact hstart.out
  case round =>
    obtain ⟨A', B', m1, c', m2, d', a', b', out, v3, rfl, rfl, rfl, hm1, hm2, hgk, hmc, hmd, hc', hd', hout, hRA, hRB, hJ, hown, hbel⟩ := hrel
    by_cases hend : m1 = 0 ∧ m2 = 0
    · obtain ⟨rfl, rfl⟩ := hend
      obtain rfl := List.eq_nil_of_length_eq_zero hm1.out
      obtain rfl := List.eq_nil_of_length_eq_zero hm2.out
      go_wp2
      go_ret
      exact ⟨_, rfl, by rw [← hR.out, ← hJ.out.done]; exact hown.out, hbel.out⟩
    · obtain ⟨gp, rfl⟩ : ∃ gp, gk = gp + 1 := ⟨gk - 1, by have := hgk.out; omega⟩
      go_upto_region 2 with fail
      go_cut [16] from 9 to 62 (fun v16 wx => v16 = .bool true ∧ wr = wx)
      case first =>
        by_cases h1 : 0 < m1
        · have hz1 : decide (0 < (m1 : Int)) = true := decide_eq_true (by omega)
          go_wp2_with fail
          go_meet
          case rel => exact ⟨rfl, rfl⟩
        · obtain rfl : m1 = 0 := by omega
          have h2 : 0 < m2 := by omega
          have hz2 : decide (0 < (m2 : Int)) = true := decide_eq_true (by omega)
          go_wp2_with fail
          go_meet
          case rel => exact ⟨rfl, rfl⟩
      case rest =>
        obtain ⟨rfl, rfl⟩ := hcut
        go_upto_region 4 with fail
        have hW0 := As.mk ((Below.refl wr.heap.size wr).alloc (Nat.le_refl _) zeroPair)
        have hq0 := As.mk (show (wr.alloc zeroPair).heap[wr.heap.size]? = some (.cells #[.int .i64 0, .int .i64 0] 65 (0, 0)) from heap_alloc_new _ _)
        obtain ⟨W0, hWe⟩ : ∃ W, wr.alloc (.cells #[.int .i64 0, .int .i64 0] 65) = W := ⟨_, rfl⟩
        unfold zeroPair at hW0 hq0
        rw [hWe] at hW0 hq0 ⊢
        clear hWe
        have hB0 := As.mk (hbel.out.trans (hW0.out.mono hbel.out.size))
        go_cut [35] from 9 to 62 (fun v35 wx => ∃ t : Bool, v35 = .bool t ∧ As (Below wr.heap.size wr wx) ∧ As (wx.heap[wr.heap.size]? = some (.cells #[.int .i64 0, .int .i64 0] 65 (0, 0))) ∧ As (Pick t a' b'))
        case first =>
          cases b' with
          | nil =>
            obtain rfl : m2 = 0 := hm2.out.symm
            cases a' with
            | nil => exact absurd ⟨hm1.out.symm, rfl⟩ hend
            | cons x a' =>
              have hP := As.mk (Pick.left (a := a') (b := []) (x := x) (by simp))
              go_region
              go_wp2_with fail
              go_meet
              case rel => exact ⟨_, rfl, ⟨hW0.out.drew⟩, hq0, hP⟩
          | cons y b' =>
            have hp2 : 0 < m2 := by have := hm2.out; simp at this; omega
            have hz3 : ((m2 : Int) == 0) = false := by simp; omega
            cases a' with
            | nil =>
              obtain rfl : m1 = 0 := hm1.out.symm
              have hP := As.mk (Pick.right (a := []) (b := b') (y := y) (by simp))
              go_region
              go_wp2_with fail
              go_meet
              case rel => exact ⟨_, rfl, ⟨hW0.out.drew⟩, hq0, hP⟩
            | cons x a' =>
              have hp1 : 0 < m1 := by have := hm1.out; simp at this; omega
              have hz1 : decide (0 < (m1 : Int)) = true := decide_eq_true (by omega)
              have hP : As (Pick (!decide (lt y x)) (x :: a') (y :: b')) := ⟨by
                by_cases hlt : lt y x
                · rw [decide_eq_true hlt]; exact Pick.right (rise_head hJ.out.ra (.inl hlt))
                · rw [decide_eq_false hlt]
                  refine Pick.left (rise_head hJ.out.rb ?_)
                  rcases lt_tri x y with h | h | h
                  · exact .inl h
                  · exact .inr h
                  · exact absurd h hlt⟩
              have hc1 := Prs.head (Row.below hRA.out hB0.out)
              have hc2 := Prs.head (Row.below hRB.out hB0.out)
              have cl := As.mk (fun v => pless_calls v y.1 y.2 x.1 x.2 (decide (lt y x)) rfl)
              generalize decide (lt y x) = t at *
              obtain ⟨o1, o2⟩ := x
              obtain ⟨o3, o4⟩ := y
              obtain ⟨ad, rfl, p1, p2⟩ := hc1
              obtain ⟨bd, rfl, p3, p4⟩ := hc2
              simp only at p1 p2 p3 p4 cl
              go_still_tail 15, (by kernel_rfl)
              change wpList _ _ _ _ _ W0.drew
              go_wp2_with (go_at_call 70; refine Calls.mono (cl.out _) ?_; rintro e W1 ⟨rfl, hb⟩)
              go_meet
              case rel => exact ⟨_, rfl, ⟨belowNext (Below.drew hW0.out) hb⟩, ⟨blkBelow hb hq0.out⟩, hP⟩
        case rest =>
          obtain ⟨t, rfl, hW, hq1, hp⟩ := hcut
          obtain ⟨W1, hWc⟩ : ∃ W, wc = W := ⟨_, rfl⟩
          rw [hWc] at hW hq1 ⊢
          clear hWc hW0 hq0 hB0
          have hB1 := As.mk (hbel.out.trans (hW.out.mono hbel.out.size))
          go_upto_if 35 with fail
          go_cut [0, 1] from 9 to 62 (fun v0 v1 wx => ∃ x1 x2, As (wx.heap[wr.heap.size]? = some (.cells #[.int .i64 x1, .int .i64 x2] 65 (0, 0))) ∧ As (Keeps (fun k => k = wr.heap.size) wr wx) ∧ As (∀ v4 w4, OwnPrs w4 w.heap.size v4 (push out (x1, x2)) → Below w.heap.size w w4 → JRel w a b n1 n2 gp v0 v1 v4 w4))
          case first =>
            cases t with
            | true =>
              obtain ⟨⟨x1, x2⟩, a2, rfl, hmin⟩ := hp.out.1 rfl
              have hJ2 := As.mk (hJ.out.takeA hmin)
              have hp1 : 0 < m1 := by have := hm1.out; simp at this; omega
              clear hmin hp
              have k0 : W1.cell? ⟨wr.heap.size, 0, none⟩ = some (.int .i64 0) := cell_of_blk hq1.out 0
              have k1 : W1.cell? ⟨wr.heap.size, 1, none⟩ = some (.int .i64 0) := cell_of_blk hq1.out 1
              have f0 : W1.frozen? ⟨wr.heap.size, 0, none⟩ = false := free_of_blk hq1.out 0
              have f1 : W1.frozen? ⟨wr.heap.size, 1, none⟩ = false := free_of_blk hq1.out 1
              obtain ⟨ad, rfl, a1, a2⟩ := Prs.head (Row.below hRA.out hB1.out)
              by_cases hcl : c' = 1
              · subst hcl
                obtain rfl : m1 = 1 := by omega
                have ha0 := zero_len hm1.out (Nat.le_refl _)
                have hfin := As.mk (JRel.nextA (x := (x1, x2)) (n1 := n1) (n2 := n2) (out := out) (wr := wr) hm1.out hm2.out hgk.out hmc hmd hc' hd' hout.out hJ2.out hRB.out (some ad) (.inl (by rw [ha0]; rfl)))
                have hK2 : Keeps (fun k => k = wr.heap.size) wr ((W1.setCell ⟨wr.heap.size, 0, none⟩ (.int .i64 x1)).setCell ⟨wr.heap.size, 1, none⟩ (.int .i64 x2)).drew := keepsTwo hW.out _ _
                have hq2 : ((W1.setCell ⟨wr.heap.size, 0, none⟩ (.int .i64 x1)).setCell ⟨wr.heap.size, 1, none⟩ (.int .i64 x2)).drew.heap[wr.heap.size]? = some (.cells #[.int .i64 x1, .int .i64 x2] 65 (0, 0)) := by
                  have := blk_set (blk_set hq1.out 0 (.int .i64 x1)) 1 (.int .i64 x2)
                  simp only [List.setIfInBounds_toArray, List.set_cons_zero, List.set_cons_succ] at this
                  exact this
                go_wp2
                go_region
                all_goals
                  go_wp2_with fail
                  go_meet
                  case rel => exact ⟨x1, x2, ⟨hq2⟩, ⟨hK2⟩, hfin⟩
              · have hfin := As.mk (JRel.nextA (x := (x1, x2)) (n1 := n1) (n2 := n2) (out := out) (wr := wr) hm1.out hm2.out hgk.out hmc hmd hc' hd' hout.out hJ2.out hRB.out (some ⟨ad.block, ad.off + 2, none⟩) (Prs.tail hRA.out))
                have hK2 : Keeps (fun k => k = wr.heap.size) wr ((W1.setCell ⟨wr.heap.size, 0, none⟩ (.int .i64 x1)).setCell ⟨wr.heap.size, 1, none⟩ (.int .i64 x2)).drew := keepsTwo hW.out _ _
                have hq2 : ((W1.setCell ⟨wr.heap.size, 0, none⟩ (.int .i64 x1)).setCell ⟨wr.heap.size, 1, none⟩ (.int .i64 x2)).drew.heap[wr.heap.size]? = some (.cells #[.int .i64 x1, .int .i64 x2] 65 (0, 0)) := by
                  have := blk_set (blk_set hq1.out 0 (.int .i64 x1)) 1 (.int .i64 x2)
                  simp only [List.setIfInBounds_toArray, List.set_cons_zero, List.set_cons_succ] at this
                  exact this
                go_wp2
                go_region
                all_goals
                  go_wp2_with fail
                  go_meet
                  case rel => exact ⟨x1, x2, ⟨hq2⟩, ⟨hK2⟩, hfin⟩
            | false =>
              obtain ⟨⟨x1, x2⟩, b2, rfl, hmin⟩ := hp.out.2 rfl
              have hJ2 := As.mk (hJ.out.takeB hmin)
              have hp1 : 0 < m2 := by have := hm2.out; simp at this; omega
              clear hmin hp
              have k0 : W1.cell? ⟨wr.heap.size, 0, none⟩ = some (.int .i64 0) := cell_of_blk hq1.out 0
              have k1 : W1.cell? ⟨wr.heap.size, 1, none⟩ = some (.int .i64 0) := cell_of_blk hq1.out 1
              have f0 : W1.frozen? ⟨wr.heap.size, 0, none⟩ = false := free_of_blk hq1.out 0
              have f1 : W1.frozen? ⟨wr.heap.size, 1, none⟩ = false := free_of_blk hq1.out 1
              obtain ⟨ad, rfl, a1, a2⟩ := Prs.head (Row.below hRB.out hB1.out)
              by_cases hcl : d' = 1
              · subst hcl
                obtain rfl : m2 = 1 := by omega
                have ha0 := zero_len hm2.out (Nat.le_refl _)
                have hfin := As.mk (JRel.nextB (x := (x1, x2)) (n1 := n1) (n2 := n2) (out := out) (wr := wr) hm1.out hm2.out hgk.out hmc hmd hc' hd' hout.out hJ2.out hRA.out (some ad) (.inl (by rw [ha0]; rfl)))
                have hK2 : Keeps (fun k => k = wr.heap.size) wr ((W1.setCell ⟨wr.heap.size, 0, none⟩ (.int .i64 x1)).setCell ⟨wr.heap.size, 1, none⟩ (.int .i64 x2)).drew := keepsTwo hW.out _ _
                have hq2 : ((W1.setCell ⟨wr.heap.size, 0, none⟩ (.int .i64 x1)).setCell ⟨wr.heap.size, 1, none⟩ (.int .i64 x2)).drew.heap[wr.heap.size]? = some (.cells #[.int .i64 x1, .int .i64 x2] 65 (0, 0)) := by
                  have := blk_set (blk_set hq1.out 0 (.int .i64 x1)) 1 (.int .i64 x2)
                  simp only [List.setIfInBounds_toArray, List.set_cons_zero, List.set_cons_succ] at this
                  exact this
                go_wp2
                go_region
                all_goals
                  go_wp2_with fail
                  go_meet
                  case rel => exact ⟨x1, x2, ⟨hq2⟩, ⟨hK2⟩, hfin⟩
              · have hfin := As.mk (JRel.nextB (x := (x1, x2)) (n1 := n1) (n2 := n2) (out := out) (wr := wr) hm1.out hm2.out hgk.out hmc hmd hc' hd' hout.out hJ2.out hRA.out (some ⟨ad.block, ad.off + 2, none⟩) (Prs.tail hRB.out))
                have hK2 : Keeps (fun k => k = wr.heap.size) wr ((W1.setCell ⟨wr.heap.size, 0, none⟩ (.int .i64 x1)).setCell ⟨wr.heap.size, 1, none⟩ (.int .i64 x2)).drew := keepsTwo hW.out _ _
                have hq2 : ((W1.setCell ⟨wr.heap.size, 0, none⟩ (.int .i64 x1)).setCell ⟨wr.heap.size, 1, none⟩ (.int .i64 x2)).drew.heap[wr.heap.size]? = some (.cells #[.int .i64 x1, .int .i64 x2] 65 (0, 0)) := by
                  have := blk_set (blk_set hq1.out 0 (.int .i64 x1)) 1 (.int .i64 x2)
                  simp only [List.setIfInBounds_toArray, List.set_cons_zero, List.set_cons_succ] at this
                  exact this
                go_wp2
                go_region
                all_goals
                  go_wp2_with fail
                  go_meet
                  case rel => exact ⟨x1, x2, ⟨hq2⟩, ⟨hK2⟩, hfin⟩
          case rest =>
            obtain ⟨x1, x2, hq2, hK2, hfin⟩ := hcut
            obtain ⟨W2, hWc2⟩ : ∃ W, wc = W := ⟨_, rfl⟩
            rw [hWc2] at hq2 hK2 ⊢
            clear hWc2
            have hown2 := As.mk (own_keep hown.out hK2.out (fun q c _ hq _ => Nat.ne_of_lt (block_lt hq)))
            have hB2 := As.mk (hbel.out.trans (hK2.out.below (B := w.heap.size) (fun k hk hk2 => by have := hbel.out.size; omega) hbel.out.size))
            have y0 : W2.cell? ⟨wr.heap.size, 0, none⟩ = some (.int .i64 x1) := cell_of_blk hq2.out 0
            have y1 : W2.cell? ⟨wr.heap.size, 1, none⟩ = some (.int .i64 x2) := cell_of_blk hq2.out 1
            have s2 := hB2.out.size
            clear hq2 hK2 hW hq1 hp
            rcases nil_or_snoc out with rfl | ⟨pre, z, rfl⟩
            · obtain ⟨Ao, co, rfl, hco⟩ := own_slice hown2.out
              have hpu := As.mk (push_new (out := []) (x := (x1, x2)) (by simp))
              go_wp2
              go_region
              obtain ⟨W3, hW3⟩ : ∃ W, W2.drew = W := ⟨_, rfl⟩
              have hown3 := (show OwnPrs W2.drew w.heap.size _ _ from hown2.out)
              rw [hW3] at hown3
              replace hown3 := As.mk hown3
              have hB3 := As.mk (show Below w.heap.size w W3 by rw [← hW3]; exact hB2.out.drew)
              have y0 : W3.cell? ⟨wr.heap.size, 0, none⟩ = some (.int .i64 x1) := by rw [← hW3]; exact y0
              have y1 : W3.cell? ⟨wr.heap.size, 1, none⟩ = some (.int .i64 x2) := by rw [← hW3]; exact y1
              have s3 := hB3.out.size
              rw [hW3]
              clear hW3
              go_wp2_with (at_builtin
                           refine wpList_app1 _ rfl (.tmp 59) (.tmp 61) 36 rfl w.heap.size 65 _ 2 16 Try.underlying36 info_pr rfl (by decide) _ 0 (prCells []) rfl hown3.out [.int .i64 x1, .int .i64 x2] rfl (by simp [Value.oneCell']) _ rfl (by simp) (by omega) (by decide) s3 ?_
                           intro v4 w4 ho4 hk4 _ hb4)
              go_roundg gp
              case rel => exact hfin.out _ _ (by rw [hpu.out]; exact ho4) (hB3.out.trans hb4)
              case measure => omega
            · have hpl : (pre ++ [z]).length = pre.length + 1 := by simp
              obtain ⟨bo, co, rfl, hco, z1, z2, _⟩ := prLast hown2.out
              obtain ⟨z1', z2'⟩ := z
              obtain ⟨pl, hpl2⟩ : ∃ k, pre.length = k := ⟨_, rfl⟩
              rw [hpl2] at hpl hco z1 z2 ⊢
              have hob := hout.out
              rw [hpl] at hob
              have hpl3 := As.mk hpl2
              have hpl4 := As.mk hpl
              clear hpl hpl2
              by_cases hzx : z1' = x1 ∧ z2' = x2
              · obtain ⟨e1, e2⟩ := hzx
                subst e1
                subst e2
                have hpu := As.mk (push_old (out := pre ++ [(z1', z2')]) (x := (z1', z2')) (by simp))
                have hne0 : (((pl : Int) + 1) == 0) = false := by simp; omega
                go_wp2
                go_region
                go_wp2
                go_roundg gp
                case rel => exact hfin.out _ _ (by rw [hpu.out, ← hpl3.out]; exact hown2.out) hB2.out.drew
                case measure => omega
              · have hne0 : (((pl : Int) + 1) == 0) = false := by simp; omega
                have e1 : (!(z1' == x1) || !(z2' == x2)) = true := by
                  simp only [Bool.or_eq_true, Bool.not_eq_true', beq_eq_false_iff_ne]; omega
                have hpu := As.mk (push_new (out := pre ++ [(z1', z2')]) (x := (x1, x2)) (by simp; omega))
                clear hzx
                go_wp2
                go_region
                obtain ⟨W3, hW3⟩ : ∃ W, W2.drew = W := ⟨_, rfl⟩
                have hown3 := (show OwnPrs W2.drew w.heap.size _ _ from hown2.out)
                rw [hW3] at hown3
                replace hown3 := As.mk hown3
                have hB3 := As.mk (show Below w.heap.size w W3 by rw [← hW3]; exact hB2.out.drew)
                have y0 : W3.cell? ⟨wr.heap.size, 0, none⟩ = some (.int .i64 x1) := by rw [← hW3]; exact y0
                have y1 : W3.cell? ⟨wr.heap.size, 1, none⟩ = some (.int .i64 x2) := by rw [← hW3]; exact y1
                have s3 := hB3.out.size
                rw [hW3]
                clear hW3
                have hown4 : W3.ownsRow w.heap.size 65 2 (.slice (some ⟨bo, 0, none⟩) (pl + 1) co) (pl + 1) (prCells (pre ++ [(z1', z2')])) := by have := hown3.out; unfold OwnPrs at this; rwa [hpl4.out, hpl3.out] at this
                replace hown4 := As.mk hown4
                go_wp2_with (at_builtin
                             refine wpList_app1 _ rfl (.tmp 59) (.tmp 61) 36 rfl w.heap.size 65 _ 2 16 Try.underlying36 info_pr rfl (by decide) _ (pl + 1) (prCells (pre ++ [(z1', z2')])) rfl hown4.out [.int .i64 x1, .int .i64 x2] rfl (by simp [Value.oneCell']) _ rfl (by simp) (by omega) (by decide) s3 ?_
                             intro v4 w4 ho4 hk4 _ hb4)
                go_roundg gp
                case rel => exact hfin.out _ _ (by rw [hpu.out]; unfold OwnPrs; rw [List.length_append, List.length_append, List.length_singleton, hpl3.out, prCells_snoc]; exact ho4) (hB3.out.trans hb4)
                case measure => omega
end Go.Proofs.Ytglalojbdlepfaa
end
