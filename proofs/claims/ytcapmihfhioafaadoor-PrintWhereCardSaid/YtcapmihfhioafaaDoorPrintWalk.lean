/- The walks of package print: texts joined, a number, a count. -/
import Derived.Test.YtcapmihfhioafaaDoorApp
import Derived.Test.YtcapmihfhioafaaDoorStr
import Derived.Lib.AppendStr
import Derived.Lib.ItoaLen
import Derived.Lib.SmallJoins
import Derived.Shelf.Strconv.Itoa3
import Derived.Shelf.Lay
import Derived.Ground.NamesProg
import Derived.WalkSpells
set_option linter.unusedVariables false
set_option linter.unusedSimpArgs false
namespace Go.Proofs.YtcapmihfhioafaaDoor
open Go.RowKit Seine.Trie Go.Shelf

/-- The library's table of powers of ten. -/
def Tab (w : World) : Prop := Lib.TabIs Tryd.prog w "internal/strconv.uint64pow10" .u64 Lib.pow10Tab
theorem gPow : ∃ g, Tryd.prog.globalNamed "internal/strconv.uint64pow10" = some g := Option.isSome_iff_exists.1 (by kernel_rfl)
theorem Tab.below {w w' : World} (h : Tab w) (hb : Below w.heap.size w w') : Tab w' := by
  obtain ⟨g, hg⟩ := gPow
  exact Joins.tab_stays hg h hb (Nat.le_refl _)
theorem belowGrow (w : World) (k : Nat) (os : Array Obj) : Below w.heap.size w (Sort.grow (w.drewN k) os) :=
  ⟨rfl, rfl, rfl, by simp [Sort.grow, World.drewN], fun i hi => by simp [Sort.grow, World.drewN, Array.getElem?_append_left hi]⟩
shelf_lay LaysM.n171 Nm 171 at Tryd as Tryd.laysItoa
def dig (n : Int) : Txt := Lib.itoa n
theorem dig_length {n : Int} (h : (Lit.int .i64 n).wf = true) : (dig n).length ≤ 21 := by
  simp [Lit.wf, IntKind.min, IntKind.max, IntKind.signed, IntKind.bits] at h
  exact Lib.itoa_length_le n (by omega) (by omega)
theorem itoa_calls (n : Int) (h : (Lit.int .i64 n).wf = true) (w : World) (ht : Tab w) :
    Calls Tryd.prog 17 #[.int .i64 n] w fun e w' => e = .returned (.string (bb (dig n))) ∧ Below w.heap.size w w' := by
  simp [Lit.wf, IntKind.min, IntKind.max, IntKind.signed, IntKind.bits] at h
  refine (Any.strconv_Itoa Tryd.laysItoa n (by omega) (by omega) w ht).mono ?_
  rintro e w' ⟨rfl, k, os, rfl⟩
  exact ⟨rfl, belowGrow w k os⟩

/-- Texts in memory. -/
def sCells (l : List Txt) : List Value := l.map fun t => .string (bb t)
theorem flat_le (l : List Txt) (k : Nat) : (l.take k).flatten.length ≤ l.flatten.length := by
  conv => rhs; rw [← List.take_append_drop k l, List.flatten_append, List.length_append]
  omega
theorem strCells_bb (t : Txt) : Lib.strCells (bb t) = byCells t := by simp [Lib.strCells, bb, byCells]
set_option maxHeartbeats 800000 in
theorem pjoined_calls (w : World) (A : Option Addr) (c : Nat) (l : List Txt) (h : Row w A (sCells l)) (hl : l.length ≤ 1000) (ht : l.flatten.length ≤ 1000000) :
    Calls Tryd.prog 16 #[.slice A l.length c] w (RetByt w l.flatten) := by
  obtain ⟨R, hR⟩ : ∃ R, l.flatten = R := ⟨_, rfl⟩
  have hfl := As.mk (fun k => flat_le l k)
  rw [hR] at ht hfl ⊢
  have hR := As.mk hR
  have HX := As.mk h
  obtain ⟨n, hn⟩ : ∃ n, l.length = n := ⟨_, rfl⟩
  rw [hn] at hl ⊢
  have hn := As.mk hn
  clear h
  obtain ⟨i0, hi, hz0, hz1, hz2⟩ := info_parts info_u8
  go_enter Tryd.func16, Tryd.ntmps16
  go_wp2
  go_loopg [3, 8] (n + 1) (fun gk v i wr => ∃ k : Nat, As (n + 1 ≤ gk + k) ∧ k ≤ n ∧ i = .int .i64 k ∧ As (OwnByt wr w.heap.size v (l.take k).flatten) ∧ As (Below w.heap.size w wr))
  case atStart => exact ⟨0, ⟨by omega⟩, Nat.zero_le _, rfl, ⟨World.ownsRow_nil _ _ _ _⟩, ⟨Below.refl _ _⟩⟩
  case round =>
    obtain ⟨k, hgk, hk, rfl, hown, hbel⟩ := hrel
    by_cases hlt : k < n
    · obtain ⟨gp, rfl⟩ : ∃ gp, gk = gp + 1 := ⟨gk - 1, by have := hgk.out; omega⟩
      obtain ⟨ad, rfl, hc1⟩ := Row.at_ (HX.out.below hbel.out) (j := k) (by unfold sCells; rw [List.length_map, hn.out]; exact hlt)
      have hkl : k < l.length := by rw [hn.out]; exact hlt
      rw [show (sCells l)[k]'(by unfold sCells; rw [List.length_map]; exact hkl) = .string (bb l[k]) by simp [sCells]] at hc1
      have hsuc : (l.take (k + 1)).flatten = (l.take k).flatten ++ l[k] := by rw [List.take_succ_eq_append_getElem hkl, List.flatten_append]; simp
      have hle := hfl.out (k + 1)
      rw [hsuc, List.length_append] at hle
      obtain ⟨t, htt⟩ : ∃ t, l[k] = t := ⟨_, rfl⟩
      rw [htt] at hc1 hsuc hle
      have hsuc := As.mk hsuc
      obtain ⟨acc, hacc⟩ : ∃ acc, (l.take k).flatten = acc := ⟨_, rfl⟩
      rw [hacc] at hown hsuc hle
      clear htt hacc hkl
      go_wp2_with (at_builtin
                   refine Lib.wpList_append_own_string _ rfl (.tmp 12) (.tmp 13) 24 9 rfl w.heap.size 5 i0 Tryd.underlying24 Tryd.underlying9 hi hz0 hz1 hz2 _ acc.length (byCells acc) rfl hown.out (bb t) rfl (by rw [bb_size]; unfold maxLen; omega) (by rw [bb_size]; omega) hbel.out.size ?_
                   intro v' w4 ho4 hg4 _
                   have ho4 : OwnByt w4 w.heap.size v' (acc ++ t) := by unfold OwnByt; rw [List.length_append, show byCells (acc ++ t) = byCells acc ++ byCells t by simp [byCells], ← strCells_bb t, ← bb_size t]; exact ho4
                   have hb4 := (Below.refl w.heap.size wr).grown hg4 hbel.out.size (fun q hq => (own_blk hown.out hq.symm).1)
                   replace ho4 := As.mk ho4
                   replace hb4 := As.mk hb4)
      go_roundg gp
      case rel => exact ⟨k + 1, ⟨by have := hgk.out; omega⟩, by omega, (by first | rfl | go_num | (congr 1; omega)), ⟨by rw [hsuc.out]; exact ho4.out⟩, ⟨hbel.out.trans hb4.out⟩⟩
      case measure => omega
    · obtain rfl : n = k := by omega
      rw [← hn.out, List.take_length, hR.out] at hown
      go_wp2
      go_ret
      exact ⟨_, rfl, hown.out, hbel.out⟩

theorem number_calls (n : Int) (h : (Lit.int .i64 n).wf = true) (w : World) (ht : Tab w) : Calls Tryd.prog 10 #[.int .i64 n] w (RetByt w (dig n)) := by
  have hi := As.mk (itoa_calls n h w ht)
  have hdl := dig_length h
  obtain ⟨d, hd⟩ : ∃ d, dig n = d := ⟨_, rfl⟩
  rw [hd] at hi hdl ⊢
  have cj := As.mk (fun (v : World) (A : Option Addr) (hr : Row v A (sCells [d])) => pjoined_calls v A 1 [d] hr (by simp) (by simp; omega))
  simp only [List.flatten_cons, List.flatten_nil, List.append_nil] at cj
  have hdl := As.mk hdl
  clear hd h ht
  go_enter Tryd.func10, Tryd.ntmps10
  go_wp2_with fail
  refine Calls.mono hi.out ?_
  rintro e w1 ⟨rfl, hb1⟩
  go_wp2_with fail
  refine Calls.mono (cj.out _ _ (Row.new _ _ _)) ?_
  rintro e w2 ⟨v, rfl, ho, hb2⟩
  go_wp2
  go_ret
  refine ⟨_, rfl, ?_, ?_⟩
  · exact own_base ho (by simp; have := hb1.size; omega)
  · exact (hb1.alloc hb1.size _).trans (Below.mono hb2 (by simp; have := hb1.size; omega))
theorem count_calls (n : Int) (h : (Lit.int .i64 n).wf = true) (w : World) (ht : Tab w) : Calls Tryd.prog 11 #[.int .i64 n] w (RetByt w (dig n ++ [10])) := by
  have hi := As.mk (itoa_calls n h w ht)
  have hdl := dig_length h
  obtain ⟨d, hd⟩ : ∃ d, dig n = d := ⟨_, rfl⟩
  rw [hd] at hi hdl ⊢
  have cj := As.mk (fun (v : World) (A : Option Addr) (hr : Row v A (sCells [d, [10]])) => pjoined_calls v A 2 [d, [10]] hr (by simp) (by simp; omega))
  simp only [List.flatten_cons, List.flatten_nil, List.append_nil] at cj
  have hdl := As.mk hdl
  clear hd h ht
  go_enter Tryd.func11, Tryd.ntmps11
  go_wp2_with fail
  refine Calls.mono hi.out ?_
  rintro e w1 ⟨rfl, hb1⟩
  go_wp2_with fail
  refine Calls.mono (cj.out _ _ (Row.new _ _ _)) ?_
  rintro e w2 ⟨v, rfl, ho, hb2⟩
  go_wp2
  go_ret
  refine ⟨_, rfl, ?_, ?_⟩
  · exact own_base ho (by simp; have := hb1.size; omega)
  · exact (hb1.alloc hb1.size _).trans (Below.mono hb2 (by simp; have := hb1.size; omega))
/-- What stands ahead of a line. -/
def aheadF (off : Int) (b : Bool) : Txt := if b = true then dig off ++ [58] else []
theorem ahead_calls (off : Int) (b : Bool) (h : (Lit.int .i64 off).wf = true) (w : World) (ht : Tab w) (p q : Addr) (hp : w.cell? p = some (.bool b)) (hq : w.cell? q = some (.int .i64 off)) :
    Calls Tryd.prog 18 #[.pointer (some p), .pointer (some q)] w fun e w' => e = .returned (.string (bb (aheadF off b))) ∧ Below w.heap.size w w' := by
  have hi := As.mk (itoa_calls off h w ht)
  cases b with
  | false =>
    go_enter Tryd.func18, Tryd.ntmps18
    go_wp2
    go_ret
    exact ⟨rfl, Below.refl _ _⟩
  | true =>
    have he : bb (aheadF off true) = bb (dig off) ++ bb [58] := by rw [bb_append]; rfl
    rw [he]
    have hds : (bb (dig off)).size ≤ 21 := by rw [bb_size]; exact dig_length h
    generalize bb (dig off) = sd at *
    clear he
    go_enter Tryd.func18, Tryd.ntmps18
    go_wp2_with (go_at_call 17; refine Calls.mono hi.out ?_; rintro e w1 ⟨rfl, hb1⟩)
    go_ret
    exact ⟨rfl, hb1⟩
end Go.Proofs.YtcapmihfhioafaaDoor
