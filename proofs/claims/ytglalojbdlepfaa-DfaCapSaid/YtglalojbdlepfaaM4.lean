/- Joined texts: Repeat, LinksWalk3, Str, LinksWalk4, LinksWalk5, Dfa2, Dfa3, App, Meter. -/
import Derived.Test.YtglalojbdlepfaaM3
import Derived.Laws.CopyOwn
import Derived.Laws.Bits64b
import Derived.Laws.MakeOwn
import Derived.Deep.RegionHeld3
import Derived.Deep.LoopGhost
import Derived.Test.YtglalojbdlepfaaM1
import Derived.Test.YtglalojbdlepfaaWMore
import Derived.WalkSpells
import Derived.Deep.RegionHeld
import Derived.ArgAppend
import Derived.Deep.QuietTactic
import Derived.BigQuiet
import Derived.Laws.StructEq
section
/- slices.Repeat at one number, and slices.Clone. -/
set_option linter.unusedVariables false
set_option linter.unusedSimpArgs false
namespace Go.Proofs.Ytglalojbdlepfaa
open Go.RowKit Go.Maps

section
variable (w : World) (n : Nat) (hn : n ≤ 1000000)
include hn
theorem mul64_calls : Calls Try.prog 81 #[.int .u64 1, .int .u64 (n : Int)] w fun e w' => e = .returned (.tuple #[.int .u64 0, .int .u64 (n : Int)]) ∧ w = w' := by
  have h1 : bits BinOp.and IntKind.u64 1 4294967295 = 1 := by decide
  have h0 : bits BinOp.and IntKind.u64 0 4294967295 = 0 := by decide
  have h2 : bits BinOp.and IntKind.u64 (n : Int) 4294967295 = (n : Int) := by
    have h := bits_and_u64_nat n 4294967295 (by omega) (by omega)
    have e : n &&& 4294967295 = n % 4294967296 := Nat.and_two_pow_sub_one_eq_mod n 32
    rw [e, Nat.mod_eq_of_lt (by omega)] at h
    exact h
  have h3 : (n : Int) / 4294967296 = 0 := by omega
  have h4 : IntKind.u64.wrap (n : Int) = n := by rw [IntKind.wrap_u64]; omega
  have h5 : IntKind.u64.wrap 0 = 0 := by decide
  go_enter Try.func81, Try.ntmps81
  go_wp2
  go_ret2
  simp [h1, h2, h3, h4, h5, h0]
theorem mul_calls : Calls Try.prog 77 #[.int .u64 1, .int .u64 (n : Int)] w fun e w' => e = .returned (.tuple #[.int .u64 0, .int .u64 (n : Int)]) ∧ w = w' := by
  have hc := As.mk (mul64_calls w n hn)
  go_enter Try.func77, Try.ntmps77
  go_wp2_with (go_at_call 81; refine hc.out.mono ?_; rintro e w' ⟨rfl, rfl⟩)
  go_ret2
  exact ⟨rfl, rfl⟩
end
set_option maxRecDepth 100000 in
theorem make_ints (n : Nat) (hn : n ≤ 1000000) : ∃ Z : List Value, Z = List.replicate n (.int .i64 0) ∧ ∀ w : World, (Instr.makeSlice 70 (.int .i64 (n : Int)) (.int .i64 (n : Int))).run Try.prog w = .ok (.slice (some ⟨w.heap.size, 0, none⟩) n n) (w.alloc (.cells Z.toArray 3)) := by
  refine ⟨_, rfl, fun w => ?_⟩
  have hi : (Try.prog.info? 3).map (fun i => (i.zero, i.size, i.bytes)) = some (some (.int .i64 0), 1, 8) := by kernel_rfl
  obtain ⟨i, hi0, hz0, hz1, hz2⟩ := info_parts hi
  have h := run_make (P := Try.prog) w 70 3 i _ Try.underlying70 hi0 hz0 .i64 .i64 (n : Int) (n : Int) (by omega) (Int.le_refl _) (by rw [hz2]; omega) (by omega)
  rw [h, hz1]
  congr 3
  simp only [Int.toNat_natCast, Nat.mul_one]
  apply Array.ext
  · simp [madeCells]
  · intro j h1 h2
    simp [madeCells, Value.cells, Nat.mod_one]

def repRow (u : Value) (n k : Nat) : List Value := List.replicate k u ++ List.replicate (n - k) (.int .i64 0)
theorem repRow_splice (u : Value) (n k m : Nat) (h : k + m ≤ n) : splice (repRow u n k) k (List.replicate m u) = repRow u n (k + m) := by
  unfold splice repRow
  rw [List.take_left' (by simp), List.length_replicate, List.drop_append, List.drop_of_length_le (by simp), List.nil_append, List.length_replicate, ← List.append_assoc, List.replicate_append_replicate, List.drop_replicate]
  congr 2
  omega
theorem repRow_start (u : Value) (n : Nat) (h : 1 ≤ n) : splice (List.replicate n (.int .i64 0)) 0 [u] = repRow u n 1 := by
  have := repRow_splice u n 0 1 (by omega)
  unfold repRow at this
  simpa [repRow] using this

set_option maxRecDepth 100000 in
set_option maxHeartbeats 1600000 in
theorem repeat_calls (w : World) (ad : Addr) (c : Nat) (u : Int) (hx : w.cell? (ad.add 0) = some (.int .i64 u)) (n : Nat) (hn : 1 ≤ n) (hn2 : n ≤ 1000000) :
    Calls Try.prog 57 #[.slice (some ad) 1 c, .int .i64 (n : Int)] w fun e w' => ∃ b, e = .returned (.slice (some ⟨b, 0, none⟩) n n) ∧ w.heap.size ≤ b ∧ w'.heap[b]? = some (.cells (repRow (.int .i64 u) n n).toArray 3 (0, 0)) ∧ Below w.heap.size w w' := by
  have hmu := As.mk (fun w => mul_calls w n hn2)
  obtain ⟨Z, hZ, hmk⟩ := make_ints n hn2
  have hst := repRow_start (.int .i64 u) n hn
  rw [← hZ] at hst
  have hZl : Z.length = n := by rw [hZ]; simp
  have hst := As.mk hst
  have hZl := As.mk hZl
  clear hZ
  have hx := As.mk hx
  go_enter Try.func57, Try.ntmps57
  have hsz : (Try.prog.info? 3).map (·.size) = some 1 := by kernel_rfl
  go_wp2_with (first
    | (go_at_call 77; refine (hmu.out _).mono ?_; rintro e w' ⟨rfl, rfl⟩)
    | (refine wpList_copy_splice rfl (.tmp 31) (.tmp 32) 70 70 rfl 3 Try.underlying70 hsz (some ⟨w.heap.size, 0, none⟩) (some ad) n n 1 c rfl rfl w.heap.size 0 Z 3 (heap_alloc_new w _) [.int .i64 u] (by show 1 = min 1 n; omega)
         (fun _ => ⟨rfl, ad, rfl, fun j v hj => by
           have hj0 : j = 0 := by
             have := (List.getElem?_eq_some_iff.1 hj).1
             simpa using this
           subst hj0
           simp at hj
           subst hj
           exact (Below.cell ((Below.refl w.heap.size w).alloc (Nat.le_refl _) _) (World.block_lt_of_cell? w _ hx.out)).trans hx.out⟩)
         (by show 0 + 1 ≤ Z.length; have := hZl.out; omega) (by simp [Value.oneCell']) w.heap.size w ((Below.refl _ _).alloc (Nat.le_refl _) _) (Nat.le_refl _) ?_
       intro w2 hg2 hb2))
  have hg2 := As.mk (show w2.heap[w.heap.size]? = some (.cells (repRow (.int .i64 u) n 1).toArray 3 (0, 0)) by rw [← hst.out]; exact hg2.out)
  go_loopw [8] (fun i wr => ∃ k : Nat, 1 ≤ k ∧ k ≤ n ∧ i = .int .i64 k ∧ As (wr.heap[w.heap.size]? = some (.cells (repRow (.int .i64 u) n k).toArray 3 (0, 0))) ∧ As (Below w.heap.size w wr)) (fun i _ => n - (intOf i).toNat)
  case atStart => exact ⟨1, Nat.le_refl _, hn, rfl, hg2, ⟨hb2⟩⟩
  case round =>
    obtain ⟨k, hk1, hk, rfl, hrow, hbel⟩ := hrel
    by_cases hlt : k < n
    · have hnk : ¬ n = k := by omega
      obtain ⟨m, hm⟩ : ∃ m, min k (n - k) = m := ⟨_, rfl⟩
      have hm1 : m ≤ k := by omega
      have hm2 : k + m ≤ n := by omega
      have hm3 : 0 < m := by omega
      have hms : m = Nat.min k (n - k) := hm.symm
      replace hms := As.mk hms
      have hwr : IntKind.i64.wrap ((k : Int) + (m : Int)) = (k : Int) + (m : Int) := IntWalk.i64_in _ (by omega)
      have hspl := As.mk (repRow_splice (.int .i64 u) n k m hm2)
      have hkw := As.mk hk
      clear hm
      have hcs : As (∀ j v, (List.replicate m (Value.int .i64 u))[j]? = some v → wr.cell? ((⟨w.heap.size, 0, none⟩ : Addr).add j) = some v) := ⟨fun j v hj => by
        have hjm : j < m := by
          have := (List.getElem?_eq_some_iff.1 hj).1
          simpa using this
        rw [List.getElem?_replicate, if_pos hjm] at hj
        rw [← hj]
        refine World.news_of_block hrow.out j _ ?_
        unfold repRow
        rw [List.getElem?_append_left (by simp; omega), List.getElem?_replicate, if_pos (by omega)]⟩
      have hlen : As (k + m ≤ (repRow (.int .i64 u) n k).length) := ⟨by unfold repRow; simp; omega⟩
      go_wp2
      go_region_law (refine step_copy_splice rfl (.tmp 41) (.tmp 44) 70 70 rfl 3 Try.underlying70 hsz (some ⟨w.heap.size, k, none⟩) (some ⟨w.heap.size, 0, none⟩) (n - k) (n - k) k n (by simp [Act.eval, Act.put, hnk]) (by simp [Act.eval, Act.put, hnk]) w.heap.size k (repRow (.int .i64 u) n k) 3 hrow.out (List.replicate m (.int .i64 u)) (by rw [List.length_replicate]; exact hms.out) (fun _ => ⟨rfl, _, rfl, hcs.out⟩) (by rw [List.length_replicate]; exact hlen.out) (by intro v hv; rw [List.eq_of_mem_replicate hv]; rfl) w.heap.size w (Below.drew hbel.out) (Nat.le_refl _) ?_
                     intro w4 hg4 hb4)
      all_goals
        go_wp2
        refine ⟨?_, ?measure⟩
        · (repeat apply Exists.intro)
          refine ⟨?rel, ?eq⟩
          case eq => (simp only [Act.put]; rfl)
          case rel => exact ⟨k + m, by omega, hm2, by go_num, ⟨by rw [← hspl.out]; exact hg4.out⟩, ⟨hb4⟩⟩
        case measure => simp [intOf, Act.put, hwr]; omega
    · obtain rfl : k = n := by omega
      go_wp2
      go_ret
      exact ⟨w.heap.size, rfl, Nat.le_refl _, hrow.out, hbel.out⟩
end Go.Proofs.Ytglalojbdlepfaa
end
section
/- The walk of links.Build. -/
set_option linter.unusedVariables false
set_option linter.unusedSimpArgs false
namespace Go.Proofs.Ytglalojbdlepfaa
open Go.RowKit Go.Maps Seine.Trie Seine.Links

theorem blk_below {w w' : World} {b : Nat} {o : Obj} (hb : Below w.heap.size w w') (h : w.heap[b]? = some o) : w'.heap[b]? = some o := (hb.block b (block_lt h)).trans h
theorem ownsRow_of_block {w : World} {base b n : Nat} {cs : List Value} {t : TypeId} (h : w.heap[b]? = some (.cells cs.toArray t (0, 0))) (hl : cs.length = n) (hb : base ≤ b) (hn : n ≤ maxLen) : w.ownsRow base t 1 (.slice (some ⟨b, 0, none⟩) n n) n cs := by
  refine ⟨by omega, .inr ⟨b, n, cs.toArray, rfl, hb, h, Nat.le_refl _, hn, by simp [hl], by rw [Nat.mul_one]; exact List.take_of_length_le (by simp; omega)⟩⟩
theorem new_zero {w : World} {cs : Array Value} {t : TypeId} {b : Nat} (h : w.heap[b]? = some (.cells cs t (0, 0))) : w.cell? ((⟨b, 0, none⟩ : Addr).add 0) = cs[0]? := by
  have : (⟨b, 0, none⟩ : Addr).add 0 = ⟨b, 0, none⟩ := by unfold Addr.add; split <;> simp_all
  rw [this]; exact cell_of_blk h 0
theorem heap_new_at {w : World} {o : Obj} {b : Nat} (h : b = w.heap.size) : (w.alloc o).heap[b]? = some o := by rw [h]; exact heap_alloc_new _ _
theorem intCells_const (P : List Txt) (x : Int) : intCells P (fun _ => x) = List.replicate P.length (.int .i64 x) := by simp [intCells, List.map_const']
theorem repRow_full (u : Value) (n : Nat) : repRow u n n = List.replicate n u := by simp [repRow]

theorem linksAt_new {w : World} {base g n bf bo bu : Nat} {P : List Txt} {Z : List Value} (hn : P.length = n) (hl : n ≤ 1000000) (hZ : Z = List.replicate n (.int .i64 0))
    (h0 : w.heap[g]? = some (.cells #[.slice (some ⟨bf, 0, none⟩) n n, .slice (some ⟨bo, 0, none⟩) n n, .slice (some ⟨bu, 0, none⟩) n n, .slice none 0 0] 106 (0, 0))) (hg : base ≤ g)
    (hf : w.heap[bf]? = some (.cells (repRow (.int .i64 (-1)) n n).toArray 3 (0, 0))) (ho : w.heap[bo]? = some (.cells (repRow (.int .i64 (-1)) n n).toArray 3 (0, 0))) (hu : w.heap[bu]? = some (.cells Z.toArray 3 (0, 0)))
    (b1 : base ≤ bf) (b2 : base ≤ bo) (b3 : base ≤ bu) (n1 : bf ≠ bo) (n2 : bf ≠ bu) (n3 : bo ≠ bu) : LinksAt w base g P (fun _ => -1) (fun _ => -1) (fun _ => 0) [] := by
  subst hn
  have hm : P.length ≤ maxLen := by simp only [maxLen]; omega
  refine ⟨⟨bf, P.length, bo, P.length, bu, P.length, .slice none 0 0⟩, h0, hg, ?_, ?_, ?_, n1, n2, n3, World.ownsRow_nil _ _ _ _, by simp [Value.ownBlock], by simp [Value.ownBlock], by simp [Value.ownBlock]⟩
  · unfold IntRow; rw [intCells_const, ← repRow_full]; exact ownsRow_of_block hf (by simp [repRow]) b1 hm
  · unfold IntRow; rw [intCells_const, ← repRow_full]; exact ownsRow_of_block ho (by simp [repRow]) b2 hm
  · unfold IntRow; rw [intCells_const, ← hZ]; exact ownsRow_of_block hu (by rw [hZ]; simp) b3 hm

theorem LinksIn.order {w w2 : World} {base g : Nat} {P : List Txt} {F O U : Txt → Int} {o o' : List Txt} {B : LB} (h : LinksIn w base g P F O U o B) (hk : Keeps (fun k => some k = B.vr.ownBlock) w w2) {v' : Value}
    (hown : w2.ownsRow base 3 1 v' o'.length (intCells o' (place P))) (hv : v'.ownBlock = B.vr.ownBlock ∨ ∃ k, v'.ownBlock = some k ∧ w.heap.size ≤ k) : LinksIn (w2.setCell ⟨g, 3, none⟩ v') base g P F O U o' { B with vr := v' } := by
  obtain ⟨hg, h0, h1, h2, h3, h4, h5, h6, h7, h8, h9, h10⟩ := h
  have b1 := h1.base.2
  have b2 := h2.base.2
  have b3 := h3.base.2
  have hgv : some g ≠ B.vr.ownBlock := own_not_type h7 hg (by decide)
  have hg2 : w2.heap[g]? = _ := (hk.block g (block_lt hg) hgv).trans hg
  have hs := keeps_set w2 ⟨g, 3, none⟩ v'
  have hne : ∀ b, b < w.heap.size → B.vr.ownBlock ≠ some b → v'.ownBlock ≠ some b := fun b hb hn e => by
    rcases hv with hv | ⟨k, hv, hk⟩
    · exact hn (hv ▸ e)
    · rw [hv] at e; injection e; omega
  refine ⟨?_, h0, (h1.keep hk (fun e => h8 e.symm)).keep hs ?_, (h2.keep hk (fun e => h9 e.symm)).keep hs ?_, (h3.keep hk (fun e => h10 e.symm)).keep hs ?_, h4, h5, h6, own_keep hown hs (fun b c' _ hb e he => ?_), hne _ b1 h8, hne _ b2 h9, hne _ b3 h10⟩
  · exact blk_set hg2 3 v'
  · exact fun e => h1.other hg (by decide) e.symm
  · exact fun e => h2.other hg (by decide) e.symm
  · exact fun e => h3.other hg (by decide) e.symm
  · subst he
    rw [hg2] at hb
    injection hb with hb
    injection hb with _ hb
    exact absurd hb (by decide)
/-- What the links' rows hold of the nodes that were gone through. -/
def doneF (D : List Txt) (f : Txt → Int) (d : Int) (x : Txt) : Int := if x ∈ D then f x else d
theorem doneF_snoc_same {D : List Txt} {s : Txt} (f : Txt → Int) (d : Int) : doneF (D ++ [s]) f d s = f s := by simp [doneF]
theorem doneF_snoc_other {D : List Txt} {s y : Txt} (f : Txt → Int) (d : Int) (h : y ≠ s) : doneF (D ++ [s]) f d y = doneF D f d y := by simp [doneF, h]
/-- The links of the tree, k nodes having been gone through. -/
def LinksTo (w : World) (base g : Nat) (P l : List Txt) (D o : List Txt) : Prop := LinksAt w base g P (doneF D (failF P) (-1)) (doneF D (outF P l) (-1)) (doneF D (ownF l) 0) o
theorem take_snoc_op {P : List Txt} {k : Nat} {s : Txt} (h : (op P k)[k]? = some s) : (op P (k + 1)).take (k + 1) = (op P k).take k ++ [s] := by
  obtain ⟨hl, hs⟩ := List.getElem?_eq_some_iff.1 h
  rw [op_next h, List.take_append_of_le_length (by omega), List.take_succ_eq_append_getElem hl, hs]

theorem kidsF_eq {P : List Txt} {a : Nat} {s : Txt} (h : P[a]? = some s) : kidsF P (a : Int) 256 = kids P s := by
  unfold kidsF kids
  refine List.filter_congr fun c _ => ?_
  rw [stepF_at h, decide_eq_decide]
  exact place_mem
theorem LinksAt.order {w : World} {base g : Nat} {P : List Txt} {F O U : Txt → Int} {o : List Txt} (h : LinksAt w base g P F O U o) : ∃ v, w.cell? ⟨g, 3, none⟩ = some v ∧ w.frozen? ⟨g, 3, none⟩ = false ∧ g < w.heap.size ∧ base ≤ g ∧ w.ownsRow base 3 1 v o.length (intCells o (place P)) ∧ some g ≠ v.ownBlock ∧
    ∀ w2 v' o', Keeps (fun k => some k = v.ownBlock) w w2 → w2.ownsRow base 3 1 v' o'.length (intCells o' (place P)) → (v'.ownBlock = v.ownBlock ∨ ∃ k, v'.ownBlock = some k ∧ w.heap.size ≤ k) → LinksAt (w2.setCell ⟨g, 3, none⟩ v') base g P F O U o' := by
  obtain ⟨B, h⟩ := h
  obtain ⟨q0, q1, q2, q3, q4⟩ := h.heads
  have h2 := h
  obtain ⟨hg, h0, h1, _, h3, h4, h5, h6, h7, h8⟩ := h2
  exact ⟨B.vr, q3, q4, block_lt hg, h0, h7, own_not_type h7 hg (by decide), fun w2 v' o' a b c => ⟨_, h.order a b c⟩⟩

theorem info_int : (Try.prog.info? 3).map (fun i => (i.zero, i.size, i.bytes)) = some (some (.int .i64 0), 1, 8) := by kernel_rfl
theorem step_call_eq {P : Program} {ops : Array Oper} {o : Oper} {a : Act} {w : World} {K : Act → World → Prop} {Q : Exit → Act → World → Prop} {E : Prop} (hg : o.guard = none) {f : FuncId} {vals : Array Value} {v : Value}
    (ho : (execOp a.eval o).run P w = .ok (.enter f vals) w) (hc : Calls P f vals w fun e w' => e = .returned v ∧ w = w') (h : K (a.put o.dst v) w) :
    if Region.wanted o (yielded ops a.tmps) = true then Oper.wp P o a w K Q else E := by
  have hw : Region.wanted o (yielded ops a.tmps) = true := by simp [Region.wanted, hg]
  rw [if_pos hw]
  unfold Oper.wp
  rw [ho, Oper.upon_enter]
  refine hc.mono ?_
  rintro e w' ⟨rfl, rfl⟩
  exact h
theorem LinksTo.root {w : World} {base g : Nat} {P l D o : List Txt} (h : LinksTo w base g P l D o) : LinksTo w base g P l (D ++ [[]]) o := by
  obtain ⟨B, h⟩ := h
  have key : ∀ (f : Txt → Int) (d : Int), f [] = d → ∀ x, x ∈ P → doneF D f d x = doneF (D ++ [[]]) f d x := fun f d hf x _ => by
    by_cases hx : x = []
    · subst hx; simp [doneF, hf]
    · rw [doneF_snoc_other f d hx]
  exact ⟨B, h.congr (key _ _ (failF_nil P)) (key _ _ (outF_nil P l)) (key _ _ (ownF_nil l))⟩
theorem LinksTo.full {w : World} {base g : Nat} {P l D o : List Txt} (h : LinksTo w base g P l D o) (hD : ∀ x, x ∈ P → x ∈ D) : LinksAt w base g P (failF P) (outF P l) (ownF l) o := by
  obtain ⟨B, h⟩ := h
  exact ⟨B, h.congr (fun x hx => if_pos (hD x hx)) (fun x hx => if_pos (hD x hx)) (fun x hx => if_pos (hD x hx))⟩
theorem kidsT_take {P : List Txt} {s : Txt} {m : Nat} (h : m < (kids P s).length) : (kidsT P s).take (m + 1) = (kidsT P s).take m ++ [s ++ [(kids P s).getD m 0]] := by
  unfold kidsT
  rw [List.take_succ_eq_append_getElem (by simpa using h)]
  simp [h]
theorem intCells_snoc (P : List Txt) (F : Txt → Int) (x : Txt) : intCells (P ++ [x]) F = intCells P F ++ [.int .i64 (F x)] := by simp [intCells]
theorem keeps_grown_set {w w1 : World} {row : Option Nat} (h : w.grownBy w1 row) (p : Addr) (u : Value) : Keeps (fun k => some k = row ∨ k = p.block) w (w1.setCell p u) :=
  ((Keeps.of_grown h).mono (fun _ _ h => .inl h)).trans ((keeps_set w1 p u).mono (fun _ _ h => .inr h))

set_option maxRecDepth 100000 in
set_option maxHeartbeats 1600000 in
theorem lbuild_calls (w : World) (base tg : Nat) (P l : List Txt) (ht : TrieAt w base tg P (place l)) (hl : P.length ≤ 1000000) (hd : ∀ p ∈ P, p.length ≤ 100000) (hlP : ∀ x, x ∈ l → x ∈ P) :
    Calls Try.prog 34 #[.pointer (some ⟨tg, 0, none⟩)] w fun e w' => ∃ g, e = .returned (.pointer (some ⟨g, 0, none⟩)) ∧ LinksAt w' w.heap.size g P (failF P) (outF P l) (ownF l) (op P P.length) ∧ Below w.heap.size w w' := by
  have hT := As.mk ht.tree
  have HT := As.mk ht
  have hnod := As.mk (fun v hv => nodes_calls v base tg P (place l) (HT.out.below hv))
  have hPl := hT.out.len
  obtain ⟨n, hn⟩ : ∃ n, P.length = n := ⟨_, rfl⟩
  rw [hn] at hnod hl hPl
  obtain ⟨Z, hZ, hmk⟩ := make_ints n hl
  replace hZ := As.mk hZ
  have hrep := As.mk (fun (v : World) (ad : Addr) (c : Nat) (h : v.cell? (ad.add 0) = some (.int .i64 (-1))) => repeat_calls v ad c (-1) h n hPl hl)
  go_enter Try.func34, Try.ntmps34
  go_wp2
  go_step3
  go_upto_region 2 with (go_at_call 29; refine (hnod.out _ (Below.refl _ _)).mono ?_; rintro e w' ⟨rfl, rfl⟩)
  go_cut [4] from 11 to 20 (fun v4 wx => ∃ g, v4 = .pointer (some ⟨g, 0, none⟩) ∧ As (LinksAt wx w.heap.size g P (fun _ => -1) (fun _ => -1) (fun _ => 0) []) ∧ As (Below w.heap.size w wx))
  case first =>
    go_region_with (go_at_call 57; refine (hrep.out _ _ _ ?hc).mono ?_; (case hc => exact (new_zero (cs := #[.int .i64 (-1)]) (t := 3) (by (repeat (first | (with_reducible assumption) | (with_reducible exact heap_alloc_new _ _) | (exact heap_new_at (by (first | omega | (simp only [World.size_alloc, World.size_drew]; done) | (simp only [World.size_alloc, World.size_drew]; omega)))) | (with_reducible refine blk_drew ?_) | (with_reducible refine blk_old ?_) | (refine blk_below (by with_reducible assumption) ?_))))).trans rfl); rintro e w' ⟨b, rfl, hb, hc, hbel⟩; have hs := hbel.size; have hlt := block_lt hc; (try simp only [World.size_alloc, World.size_drew] at hs hb))
    all_goals
      go_wp2_with fail
      go_meet
      case rel =>
        refine ⟨_, rfl, ⟨?_⟩, ⟨?_⟩⟩
        · apply linksAt_new hn hl hZ.out
          all_goals (first | ((repeat (first | (with_reducible assumption) | (with_reducible exact heap_alloc_new _ _) | (exact heap_new_at (by (first | omega | (simp only [World.size_alloc, World.size_drew]; done) | (simp only [World.size_alloc, World.size_drew]; omega)))) | (with_reducible refine blk_drew ?_) | (with_reducible refine blk_old ?_) | (refine blk_below (by with_reducible assumption) ?_))); done) | (first | omega | (simp only [World.size_alloc, World.size_drew]; done) | (simp only [World.size_alloc, World.size_drew]; omega)))
        · (repeat (first | (with_reducible assumption) | (with_reducible exact Below.refl _ _) | (with_reducible refine Below.drew ?_) | (with_reducible refine Below.alloc ?_ (by (first | omega | (simp only [World.size_alloc, World.size_drew]; done) | (simp only [World.size_alloc, World.size_drew]; omega))) _) | (refine Below.trans ?_ (Below.mono (by with_reducible assumption) (by (first | omega | (simp only [World.size_alloc, World.size_drew]; done) | (simp only [World.size_alloc, World.size_drew]; omega)))))))
  case rest =>
    obtain ⟨g, rfl, hk0, hb0⟩ := hcut
    have hn0 : ((n : Int) == 0) = false := by simp; omega
    obtain ⟨v0, q3, q4, hgl, hgb, ho0, hne0, hset⟩ := hk0.out.order
    have hbs := hb0.out.size
    have hsl : ((wc.alloc (.cells #[.int .i64 0] 3)).ownsRow w.heap.size 3 1 (.slice (some ⟨wc.heap.size, 0, none⟩) 1 1) 1 [.int .i64 0]) := ownsRow_of_block (heap_alloc_new wc _) rfl hbs (by unfold maxLen; omega)
    have hp0 : place P [] = 0 := place_at hT.out.nodup hT.out.root
    have hk1 := hset (wc.alloc (.cells #[.int .i64 0] 3)) (.slice (some ⟨wc.heap.size, 0, none⟩) 1 1) [[]] (Keeps.of_below ((Below.refl _ _).alloc (Nat.le_refl _) _) _) (by simpa [intCells, hp0] using hsl) (.inr ⟨wc.heap.size, rfl, Nat.le_refl _⟩)
    have hb1 := (hb0.out.alloc (by omega) (.cells #[.int .i64 0] 3)).setCell (p := ⟨g, 3, none⟩) (by show w.heap.size ≤ g; omega) (.slice (some ⟨wc.heap.size, 0, none⟩) 1 1)
    rw [World.setCell_alloc_past _ _ _ _ hgl] at hk1 hb1
    have hdn : ∀ (f : Txt → Int) (d : Int), doneF [] f d = fun _ => d := fun f d => by funext x; simp [doneF]
    have hk1 : As (LinksTo ((wc.setCell ⟨g, 3, none⟩ (.slice (some ⟨wc.heap.size, 0, none⟩) 1 1)).alloc (.cells #[.int .i64 0] 3)) w.heap.size g P l ((op P 0).take 0) (op P 0)) := ⟨by
      unfold LinksTo
      rw [List.take_zero, hdn, hdn, hdn]
      exact hk1⟩
    have hb1 := As.mk hb1
    have hopl := As.mk (fun k => op_len hT.out k)
    clear hsl hp0 hb0 hset ho0 hne0 hdn
    go_wp2
    go_step3
    go_wp2
    go_loopg [5] (n + 1) (fun gk i wr => ∃ k : Nat, As (gk + k = n + 1) ∧ As (k ≤ (op P k).length) ∧ i = .int .i64 k ∧ As (LinksTo wr w.heap.size g P l ((op P k).take k) (op P k)) ∧ As (Below w.heap.size w wr))
    case atStart => exact ⟨0, ⟨rfl⟩, ⟨Nat.zero_le _⟩, rfl, hk1, hb1⟩
    case round =>
      obtain ⟨k, hgk, hkl, rfl, hto, hbel⟩ := hrel
      obtain ⟨v3, q3, q4, hgl, hgb, ho3, hne3, hset⟩ := hto.out.order
      obtain ⟨ln, hln⟩ : ∃ ln, (op P k).length = ln := ⟨_, rfl⟩
      have hlnn : ln ≤ n := by have := hopl.out k; omega
      have hk' := hkl.out
      rw [hln] at hk'
      by_cases hlt : k < ln
      · obtain ⟨s, hs⟩ : ∃ s, (op P k)[k]? = some s := ⟨_, List.getElem?_eq_getElem (by omega)⟩
        have hsP := op_sub hT.out (List.mem_of_getElem? hs)
        obtain ⟨a, ha1, ha2⟩ := place_nat hsP
        obtain ⟨vb, cp, hv3, hvb1, hvb2⟩ := ho3.form (by omega)
        have hcell := World.ownsRow.cellAt (hv3 ▸ ho3) k (by omega)
        rw [intCells_at hs, ha1] at hcell
        rw [hln] at hv3
        subst hv3
        obtain ⟨kl, hkl2⟩ : ∃ kl, (kids P s).length = kl := ⟨_, rfl⟩
        have hkle : kl ≤ 256 := by
          have := kidsF_length P (a : Int) 256
          rw [kidsF_eq ha2, hkl2] at this
          exact this
        have hks := As.mk hkl2
        have hPn : P.length ≤ 1000000 := by omega
        have hs' := As.mk hs
        have hsP := As.mk hsP
        have ha1' := As.mk ha1
        have ha2' := As.mk ha2
        have hkd := As.mk (kidsF_eq ha2)
        have hto2 := hto
        have halt := (List.getElem?_eq_some_iff.1 ha2).1
        clear hkl2 hs ha1 ha2 hset ho3 hne3
        have hln := As.mk hln
        have hto0 : ∀ {v}, Below wr.heap.size wr v → LinksTo v w.heap.size g P l ((op P k).take k) (op P k) := fun h => LinksAt.below hto2.out h
        have hto0 := As.mk @hto0
        go_wp2_with (go_at_call 58; refine (kids_calls _ base tg P (place l) (HT.out.below hbel.out) (by omega) (a : Int)).mono ?_; intro e w1 hr; rw [hkd.out] at hr; obtain ⟨vk, rfl, hok, hbk⟩ := hr; obtain ⟨Ak, ck, hvk, hck, hbyt⟩ := hok.row; rw [hks.out] at hvk hck; subst hvk; replace hok := As.mk hok; replace hbyt := As.mk hbyt; replace hbk := As.mk hbk)
        have hst := As.mk (fun (v : World) (h : Below w.heap.size w v) (c : UInt8) (y : Int) (hy : place P (s ++ [c]) = y) => (by
          rw [← hy, ← stepF_at ha2'.out c]; exact step_calls v base tg P (place l) (HT.out.below h) hPn (a : Int) _ c rfl : Calls Try.prog 59 #[.pointer (some ⟨tg, 0, none⟩), .int .i64 (a : Int), .int .u8 (c.toNat : Int)] v fun e w' => e = .returned (.int .i64 y) ∧ v = w'))
        obtain ⟨wo, rfl⟩ : ∃ wo : World, wo = wr := ⟨_, rfl⟩
        obtain ⟨go, rfl⟩ : ∃ go : Nat, go = gk := ⟨_, rfl⟩
        go_loopg [48] (kl + 1) (fun g2 j wr2 => ∃ m : Nat, As (g2 + m = kl + 1) ∧ As (m ≤ kl) ∧ j = .int .i64 m ∧ As (LinksTo wr2 w.heap.size g P l ((op P k).take k) (op P k ++ (kidsT P s).take m)) ∧ As (OwnByt wr2 wo.heap.size (.slice Ak kl ck) (kids P s)) ∧ As (Below w.heap.size w wr2))
        case atStart => exact ⟨0, ⟨rfl⟩, ⟨Nat.zero_le _⟩, rfl, ⟨by rw [List.take_zero, List.append_nil]; exact hto0.out hbk.out⟩, hok, ⟨below_next' hbel.out hbk.out⟩⟩
        case round =>
          obtain ⟨m, hgm, hml, rfl, hto3, hok2, hbel2⟩ := hrel
          have hml' := hml.out
          obtain ⟨gp, rfl⟩ : ∃ gp, gk = gp + 1 := ⟨gk - 1, by have := hgm.out; omega⟩
          by_cases hmlt : m < kl
          · obtain ⟨v3, q3, q4, hgl, hgb, ho3, hne3, hset⟩ := hto3.out.order
            have hl2 : (op P k ++ (kidsT P s).take m).length = ln + m := by
              rw [List.length_append, hln.out, List.length_take, kidsT, List.length_map, hks.out]; omega
            have hl3 : ln + kl ≤ n := by
              have := hopl.out (k + 1)
              rw [op_next hs'.out, List.length_append, hln.out, kidsT, List.length_map, hks.out] at this
              omega
            rw [hl2] at ho3
            obtain ⟨vb2, cp2, hv3, hvb3, hvb4⟩ := ho3.form (by omega)
            subst hv3
            obtain ⟨A2, c2, e2, _, hby2⟩ := OwnByt.row hok2.out
            injection e2 with e2 e3 e4
            clear e3 e4
            subst e2
            obtain ⟨ad, rfl, hcm⟩ := Byt.at_ hby2 (i := m) (by rw [hks.out]; exact hmlt)
            have htk := kidsT_take (P := P) (s := s) (m := m) (by rw [hks.out]; exact hmlt)
            obtain ⟨x, hx⟩ : ∃ x, (kids P s).getD m 0 = x := ⟨_, rfl⟩
            rw [hx] at hcm htk
            obtain ⟨y, hy⟩ : ∃ y, place P (s ++ [x]) = y := ⟨_, rfl⟩
            obtain ⟨i0, hi, hz0, hz1, hz2⟩ := info_parts info_int
            have hst2 := As.mk (hst.out _ hbel2.out.drew x y hy)
            have hy' := As.mk hy
            have htk' := As.mk htk
            have hset' := As.mk hset
            have hown' := As.mk ho3
            have hown2 := As.mk ((ho3.alloc (.cells #[.int .i64 y] 3)).drew)
            have hfar : g ≠ vb2 := fun e => hne3 (by rw [e]; rfl)
            clear hl2 hset ho3 hne3 hby2 htk hx hy
            have K2 := (Below.frozen (p := ⟨g, 3, none⟩) ((Below.alloc (Below.refl wr.heap.size wr) (Nat.le_refl _) (.cells #[.int .i64 y] 3)).drew) hgl).trans q4
            have K1 := (Below.cell (p := ⟨g, 3, none⟩) ((Below.alloc (Below.refl wr.heap.size wr) (Nat.le_refl _) (.cells #[.int .i64 y] 3)).drew) hgl).trans q3
            replace K1 := As.mk K1
            replace K2 := As.mk K2
            have hsz1 : wr.heap.size < (wr.alloc (.cells #[.int .i64 y] 3)).drew.heap.size := by simp
            replace hsz1 := As.mk hsz1
            go_wp2_with fail
            go_region_law (first
              | (refine step_append_lies _ (by rfl) _ _ _ (by rfl) w.heap.size 3 i0 _ 1 8 Try.underlying70 hi hz0 hz1 hz2 rfl (by omega) (.slice (some ⟨vb2, 0, none⟩) (ln + m) cp2) (ln + m) _ (by rfl) hown2.out
                     ⟨wr.heap.size, 0, none⟩ 1 1 [.int .i64 y] (by rfl) (by rfl) (World.news_of_block (cs := #[.int .i64 y]) (t := 3) (fr := (0, 0)) (heap_alloc_new wr _)) (by simp [Value.oneCell'])
                     (by omega) (by unfold maxLen; omega) (by omega) (by simp; omega) (wr.heap.size + 1) (by simp) ?_
                 intro gg cap w4 hown4 hgrow hat hlt4
                 have e0 := (hgrow.cell_far ⟨g, 3, none⟩ (by have := hsz1.out; show g < _; omega) (by show some g ≠ some vb2; simpa using hfar)).trans K1.out
                 have e1 := (hgrow.frozen_far ⟨g, 3, none⟩ (by have := hsz1.out; show g < _; omega) (by show some g ≠ some vb2; simpa using hfar)).trans K2.out
                 replace hgrow := As.mk hgrow
                 replace hown4 := As.mk hown4)
              | (refine step_call_eq (by rfl) ?ho hst2.out ?_; (case ho => go_simp)))
            all_goals
              go_wp2_with fail
              have hkp : Keeps (fun k => some k = (Value.slice (some ⟨vb2, 0, none⟩) (ln + m) cp2).ownBlock) wr w4 := (Keeps.of_below (((Below.refl _ _).alloc (Nat.le_refl _) _).drew) _).trans ((Keeps.of_grown hgrow.out).mono (fun _ _ h => h))
              have hks5 := (hkp.mono (T := fun k => some k = (Value.slice (some ⟨vb2, 0, none⟩) (ln + m) cp2).ownBlock ∨ k = g) (fun _ _ h => .inl h)).trans ((keeps_set w4 ⟨g, 3, none⟩ (.slice (some ⟨gg, 0, none⟩) (ln + m + 1) cap)).mono (fun _ _ h => .inr h))
              have hto5 : LinksTo (w4.setCell ⟨g, 3, none⟩ (.slice (some ⟨gg, 0, none⟩) (ln + m + 1) cap)) w.heap.size g P l ((op P k).take k) (op P k ++ (kidsT P s).take (m + 1)) := by
                refine hset'.out w4 (.slice (some ⟨gg, 0, none⟩) (ln + m + 1) cap) _ hkp ?_ ?_
                · have hlo : (op P k ++ (kidsT P s).take (m + 1)).length = ln + m + 1 := by
                    rw [List.length_append, hln.out, List.length_take, kidsT, List.length_map, hks.out]; omega
                  rw [hlo, htk'.out, ← List.append_assoc, intCells_snoc, hy'.out]
                  exact hown4.out
                · rcases hat with h | h
                  · exact .inl h.symm
                  · exact .inr ⟨gg, rfl, by omega⟩
              have hok5 : OwnByt (w4.setCell ⟨g, 3, none⟩ (.slice (some ⟨gg, 0, none⟩) (ln + m + 1) cap)) wo.heap.size (.slice (some ad) kl ck) (kids P s) :=
                own_keep hok2.out hks5 (fun b c' _ hb _ hS => by
                  rcases hS with hS | hS
                  · exact own_not_type hown'.out hb (by decide) hS
                  · obtain ⟨B5, hin5⟩ := hto3.out
                    have := hin5.1
                    subst hS
                    rw [this] at hb
                    injection hb with hb
                    injection hb with _ hb
                    exact absurd hb (by decide))
              have hbel5 : Below w.heap.size w (w4.setCell ⟨g, 3, none⟩ (.slice (some ⟨gg, 0, none⟩) (ln + m + 1) cap)) :=
                hbel2.out.trans (hks5.below (fun k hk hS => by
                  rcases hS with hS | hS
                  · have hS : k = vb2 := Option.some.inj hS
                    omega
                  · omega) hbel2.out.size)
              go_roundg gp
              case rel => exact ⟨m + 1, ⟨by have := hgm.out; omega⟩, ⟨by omega⟩, by go_num, ⟨hto5⟩, ⟨hok5⟩, ⟨hbel5⟩⟩
              case measure => omega
          · obtain rfl : m = kl := by omega
            have hk1 : k + 1 ≤ (op P (k + 1)).length := by rw [op_next hs'.out, List.length_append, hln.out]; omega
            have hnx : op P k ++ (kidsT P s).take m = op P (k + 1) := by
              rw [op_next hs'.out, List.take_of_length_le (by rw [kidsT, List.length_map, hks.out]; omega)]
            have hto6 := hto3.out
            rw [hnx] at hto6
            replace hto6 := As.mk hto6
            replace hk1 := As.mk hk1
            have htk6 := As.mk (take_snoc_op hs'.out)
            obtain ⟨gq, rfl⟩ : ∃ gq, go = gq + 1 := ⟨go - 1, by have := hgk.out; omega⟩
            clear hnx
            by_cases ha0 : a = 0
            · have hsn : s = [] := by
                have := ha2'.out
                rw [ha0, hT.out.root] at this
                injection this with this
                exact this.symm
              subst ha0
              go_wp2_with fail
              go_roundg gq
              case rel => exact ⟨k + 1, ⟨by have := hgk.out; omega⟩, hk1, by go_num, ⟨by rw [htk6.out, hsn]; exact hto6.out.root⟩, hbel2⟩
              case measure => omega
            · have hsn : s ≠ [] := fun e => by
                have h1 := ha1'.out
                rw [e, place_at hT.out.nodup hT.out.root] at h1
                omega
              obtain ⟨B6, hin6⟩ := hto6.out
              have hlk := link_calls w wr w.heap.size g base tg P l _ _ _ (doneF ((op P k).take k ++ [s]) (failF P) (-1)) (doneF ((op P k).take k ++ [s]) (outF P l) (-1)) (doneF ((op P k).take k ++ [s]) (ownF l) 0) (op P (k + 1)) rfl HT.out hbel2.out B6 hin6 hPn hd hlP a s ha2'.out hsn
                (fun x hx hxl => by
                  obtain ⟨j, hj, hjx⟩ := op_before hT.out k hs'.out x hx hxl
                  have hm : x ∈ (op P k).take k := List.mem_of_getElem? (i := j) (by rw [List.getElem?_take_of_lt hj]; exact hjx)
                  exact ⟨if_pos hm, if_pos hm, if_pos hm⟩)
                (by
                  have : s ∉ (op P k).take k := fun hm => by
                    obtain ⟨j, hj⟩ := List.mem_iff_getElem?.1 hm
                    have hjk : j < k := by
                      have := (List.getElem?_eq_some_iff.1 hj).1
                      rw [List.length_take] at this; omega
                    rw [List.getElem?_take_of_lt hjk] at hj
                    have := nodup_get (op_nodup P k) hj hs'.out
                    omega
                  exact if_neg this)
                ⟨doneF_snoc_same _ _, fun y hy => doneF_snoc_other _ _ hy⟩ ⟨doneF_snoc_same _ _, fun y hy => doneF_snoc_other _ _ hy⟩ ⟨doneF_snoc_same _ _, fun y hy => doneF_snoc_other _ _ hy⟩
              replace hlk := As.mk hlk
              have ha0' : ((a : Int) == 0) = false := by simpa using ha0
              clear hin6
              go_wp2_with (go_at_call 60; refine hlk.out.mono ?_; rintro e w7 ⟨rfl, hin7, hb7⟩; replace hin7 := As.mk hin7; replace hb7 := As.mk hb7)
              go_roundg gq
              case rel => exact ⟨k + 1, ⟨by have := hgk.out; omega⟩, hk1, by go_num, ⟨by rw [htk6.out]; exact ⟨_, hin7.out⟩⟩, ⟨hbel2.out.trans hb7.out⟩⟩
              case measure => omega
      · obtain rfl : k = ln := by omega
        have hfull : op P k = op P P.length := op_full hT.out (by omega)
        have hto8 := hto.out.full (fun x hx => by rw [List.take_of_length_le (by omega), hfull]; exact op_all hT.out _ x rfl hx)
        rw [hfull] at hto8
        replace hto8 := As.mk hto8
        clear hset hne3 hfull
        rw [hln] at ho3
        obtain ⟨Av, cv, rfl, hcv⟩ := own_slice ho3
        replace ho3 := As.mk ho3
        replace hln := As.mk hln
        go_wp2
        try rw [Exit.noGoto_ret]
        go_ret
        exact ⟨g, rfl, hto8.out, hbel.out⟩
end Go.Proofs.Ytglalojbdlepfaa
end
section
/- Texts as the printer's words tell them: byte arrays, lists of numbers. Plain facts. -/
set_option linter.unusedVariables false
set_option linter.unusedSimpArgs false
namespace Go.Proofs.Ytglalojbdlepfaa
open Go.RowKit Seine.Trie Go.Proofs.YtglalojbdlepfaaW.PrintWords

def bb (l : Txt) : ByteArray := ⟨l.toArray⟩
def nb (l : Txt) : List Int := l.map fun c => (c.toNat : Int)
theorem nb_length (l : Txt) : (nb l).length = l.length := by simp [nb]
theorem bb_data (l : Txt) : (bb l).data.toList = l := by simp [bb]
theorem bb_of (s : ByteArray) : bb s.data.toList = s := by cases s; simp [bb]
theorem bb_ext {a b : ByteArray} (h : a.data.toList = b.data.toList) : a = b := by rw [← bb_of a, ← bb_of b, h]
theorem bb_size (l : Txt) : (bb l).size = l.length := by simp [bb, ByteArray.size]
theorem bb_toList (l : Txt) : (bb l).toList = l := by rw [ByteArray.toList_eq, bb_data]
theorem bb_inj {a b : Txt} (h : bb a = bb b) : a = b := by rw [← bb_data a, h, bb_data]
theorem bb_append (a b : Txt) : bb a ++ bb b = bb (a ++ b) := bb_ext (by rw [bb_data, ByteArray.data_append, Array.toList_append, bb_data, bb_data])
theorem bb_extract (l : Txt) (a b : Nat) : (bb l).extract a b = bb ((l.drop a).take (b - a)) := bb_ext (by
  rw [bb_data, ByteArray.data_extract, Array.toList_extract, bb_data, List.extract_eq_take_drop])
theorem bb_from (l : Txt) (a : Nat) : (bb l).extract a (bb l).size = bb (l.drop a) := by
  rw [bb_extract, bb_size, List.take_of_length_le (by simp)]
theorem bb_to (l : Txt) (b : Nat) : (bb l).extract 0 b = bb (l.take b) := by rw [bb_extract]; simp
theorem bb_nums (l : Txt) : strOfNums (nb l) = bb l := by
  apply bb_ext
  rw [bb_data]
  simp [strOfNums, nb, Function.comp_def]
theorem bytesOf_bb (l : Txt) : bytesOf (bb l) = nb l := by unfold bytesOf; rw [bb_data]; rfl
theorem rdOf_bb (l : List Txt) (i : Nat) (h : i < l.length) : rdOf ByteArray.empty (l.map bb) (i : Int) = bb (l.getD i []) := by
  unfold rdOf
  rw [Int.toNat_natCast]
  simp [List.getD_eq_getElem?_getD, h]
theorem bt_bb (l : Txt) (i : Nat) (h : i < l.length) : bt (bb l) (i : Int) = ((l.getD i 0).toNat : Int) := by
  unfold bt
  rw [Int.toNat_natCast, dif_pos (by rw [bb_size]; exact h)]
  simp [bb, List.getD_eq_getElem?_getD, h, ByteArray.getElem_eq_getElem_data]
theorem w64s (m : Nat) (h : m ≤ 1000000000000) : wrap64 ((m : Int) + 1) = ((m + 1 : Nat) : Int) := by unfold wrap64; omega
theorem w64 {x : Int} (h0 : -9223372036854775808 ≤ x) (h1 : x < 9223372036854775808) : wrap64 x = x := by unfold wrap64; omega

/-- f answers r, with enough rounds. -/
def Evl {α : Type} (f : Nat → Option α) (r : α) : Prop := ∃ N, ∀ k, N ≤ k → f k = some r
theorem Evl.step {α : Type} {f g : Nat → Option α} {r : α} (h : Evl g r) (e : ∀ k, f (k + 1) = g k) : Evl f r := by
  obtain ⟨N, h⟩ := h
  exact ⟨N + 1, fun k hk => by obtain ⟨m, rfl⟩ : ∃ m, k = m + 1 := ⟨k - 1, by omega⟩; rw [e, h m (by omega)]⟩
theorem Evl.bind {α β : Type} {f : Nat → Option α} {g : Nat → α → Option β} {a : α} {r : β} (h : Evl f a) (k : Evl (fun n => g n a) r) : Evl (fun n => (f n).bind (g n)) r := by
  obtain ⟨N, h⟩ := h
  obtain ⟨M, k⟩ := k
  exact ⟨max N M, fun n hn => by
    show (f n).bind (g n) = some r
    rw [h n (by omega)]; exact k n (by omega)⟩
theorem Evl.of {α : Type} {f : Nat → Option α} {r : α} (h : ∀ k, f k = some r) : Evl f r := ⟨0, fun k _ => h k⟩
theorem Evl.congr {α : Type} {f g : Nat → Option α} {r : α} (h : Evl g r) (e : ∀ k, f k = g k) : Evl f r := by
  obtain ⟨N, h⟩ := h
  exact ⟨N, fun k hk => (e k).trans (h k hk)⟩
theorem Evl.get {α : Type} {f : Nat → Option α} {r : α} (h : Evl f r) : ∃ k, f k = some r := by
  obtain ⟨N, h⟩ := h
  exact ⟨N, h N (Nat.le_refl _)⟩

/-! ### rows -/
theorem kdU8 {w : World} {A : Option Addr} {b : Txt} (h : Byt w A b) (hl : b.length ≤ 9223372036854775807) : Kd.C (Kd.int .u8) w A b.length (nb b) := by
  refine ⟨nb_length b, hl, fun h0 => ?_⟩
  rcases h with h | ⟨ad, hA, _, hc⟩
  · have := congrArg List.length h; rw [byCells_length] at this; simp at this; simp [this] at h0
  · refine ⟨ad, hA, fun j p hp => ⟨[.int .u8 p], rfl, rfl, fun i u hu => ?_⟩⟩
    have hi : i = 0 := by
      have := (List.getElem?_eq_some_iff.1 hu).1
      simpa using this
    subst hi
    injection hu with hu
    subst hu
    have e : (Kd.int .u8).sz = 1 := rfl
    rw [e, Nat.mul_one, Nat.add_zero]
    refine hc j _ ?_
    unfold nb at hp
    unfold byCells
    rw [List.getElem?_map] at hp ⊢
    cases hb : b[j]? with
    | none => rw [hb] at hp; cases hp
    | some c => rw [hb] at hp; injection hp with hp; subst hp; rfl
/-- Rows of whole numbers. -/
def intVals (xs : List Int) : List Value := xs.map (Value.int .i64)
theorem intVals_length (xs : List Int) : (intVals xs).length = xs.length := by simp [intVals]
abbrev Ints (w : World) (A : Option Addr) (xs : List Int) : Prop := Row w A (intVals xs)
theorem kdInts {w : World} {A : Option Addr} {b : List Int} (h : Ints w A b) (hl : b.length ≤ 9223372036854775807) : Kd.C (Kd.int .i64) w A b.length b := by
  refine ⟨rfl, hl, fun h0 => ?_⟩
  rcases h with h | ⟨ad, hA, _, hc⟩
  · have := congrArg List.length h; rw [intVals_length] at this; simp at this; simp [this] at h0
  · refine ⟨ad, hA, fun j p hp => ⟨[.int .i64 p], rfl, rfl, fun i u hu => ?_⟩⟩
    have hi : i = 0 := by
      have := (List.getElem?_eq_some_iff.1 hu).1
      simpa using this
    subst hi
    injection hu with hu
    subst hu
    have e : (Kd.int .i64).sz = 1 := rfl
    rw [e, Nat.mul_one, Nat.add_zero]
    refine hc j _ ?_
    unfold intVals
    rw [List.getElem?_map, hp]; rfl
theorem conv_byt {w : World} {src : TypeId} {A : Option Addr} {b : Txt} {c : Nat} (hs : Try.prog.underlying src = some (.slice 5)) (h : Byt w A b) (hl : b.length ≤ 9223372036854775807) : (convert src 9 (.slice A b.length c)).run Try.prog w = .ok (.string (bb b)) w := by
  have := Kd.C_string (P := Try.prog) (src := src) (dst := 9) (c := c) hs Try.underlying5 Try.underlying9 (kdU8 h hl)
  rw [bb_nums] at this
  exact this
/-- A string of new bytes. -/
theorem strOf {w : World} {A : Option Addr} {b : Txt} {c : Nat} (h : Byt w A b) (hl : b.length ≤ 9223372036854775807) {s : ByteArray} (hs : bb b = s) : (convert 23 9 (.slice A b.length c)).run Try.prog w = .ok (.string s) w := by
  rw [conv_byt Try.underlying23 h hl, hs]
end Go.Proofs.Ytglalojbdlepfaa
end
section
/- The walks of package links: what is asked of links. -/
set_option linter.unusedVariables false
set_option linter.unusedSimpArgs false
namespace Go.Proofs.Ytglalojbdlepfaa
open Go.RowKit Go.Maps Seine.Trie Seine.Links

abbrev OwnInts (w : World) (base : Nat) (v : Value) (xs : List Int) : Prop := w.ownsRow base 3 1 v xs.length (intVals xs)
theorem Ints.at_ {w : World} {A : Option Addr} {xs : List Int} (h : Ints w A xs) {i : Nat} (hi : i < xs.length) : ∃ ad, A = some ad ∧ w.cell? (ad.add i) = some (.int .i64 (xs.getD i 0)) := by
  obtain ⟨ad, h1, h2⟩ := Row.at_ h (j := i) (by rw [intVals_length]; exact hi)
  exact ⟨ad, h1, by rw [h2]; simp [intVals, hi]⟩
theorem OwnInts.row {w : World} {base : Nat} {v : Value} {xs : List Int} (h : OwnInts w base v xs) : ∃ A c, v = .slice A xs.length c ∧ xs.length ≤ c ∧ Ints w A xs := by
  obtain ⟨A, c, rfl, hc⟩ := own_slice h
  exact ⟨A, c, rfl, hc, Row.of_own h⟩
/-- A row of whole numbers in new memory. -/
def RetInts (w : World) (xs : List Int) (e : Ending) (w' : World) : Prop := ∃ v, e = .returned v ∧ OwnInts w' w.heap.size v xs ∧ Below w.heap.size w w'
theorem RetInts.row {w w' : World} {xs : List Int} {e : Ending} (h : RetInts w xs e w') : ∃ A c, e = .returned (.slice A xs.length c) ∧ xs.length ≤ c ∧ Ints w' A xs ∧ Below w.heap.size w w' := by
  obtain ⟨v, rfl, ho, hb⟩ := h
  obtain ⟨A, c, rfl, hc, hr⟩ := OwnInts.row ho
  exact ⟨A, c, rfl, hc, hr, hb⟩

section
variable (w : World) (base g : Nat) (P : List Txt) (F O U : Txt → Int) (o : List Txt)
theorem lis_calls (h : LinksAt w base g P F O U o) (n : Int) (b : Bool) (hb : b = true ↔ 0 ≤ n ∧ n < P.length) : Calls Try.prog 67 #[.pointer (some ⟨g, 0, none⟩), .int .i64 n] w fun e w' => e = .returned (.bool b) ∧ w = w' := by
  obtain ⟨B, h⟩ := h
  obtain ⟨q0, q1, q2, q3, q4⟩ := h.heads
  clear q1 q2 q3 q4 h
  by_cases h0 : 0 ≤ n
  · have h0b : decide (0 ≤ n) = true := decide_eq_true h0
    by_cases h1 : n < P.length
    · obtain rfl : b = true := hb.2 ⟨h0, h1⟩
      clear hb
      go_enter Try.func67, Try.ntmps67
      go_wp2
      go_ret
      exact ⟨rfl, rfl⟩
    · obtain rfl : b = false := by cases b with
        | false => rfl
        | true => exact absurd (hb.1 rfl).2 h1
      clear hb
      have h1b : decide (n < (P.length : Int)) = false := decide_eq_false h1
      go_enter Try.func67, Try.ntmps67
      go_wp2
      go_ret
      exact ⟨rfl, rfl⟩
  · obtain rfl : b = false := by cases b with
      | false => rfl
      | true => exact absurd (hb.1 rfl).1 h0
    clear hb
    have h0b : decide (0 ≤ n) = false := decide_eq_false h0
    go_enter Try.func67, Try.ntmps67
    go_wp2
    go_ret
    exact ⟨rfl, rfl⟩

theorem lfail_calls (h : LinksAt w base g P F O U o) (n : Int) : Calls Try.prog 62 #[.pointer (some ⟨g, 0, none⟩), .int .i64 n] w fun e w' => e = .returned (.int .i64 (askF P F (-1) n)) ∧ w = w' := by
  have his := As.mk (lis_calls w base g P F O U o h n)
  obtain ⟨B, h⟩ := h
  obtain ⟨c1, c2, c3⟩ := h.caps
  obtain ⟨q0, q1, q2, q3, q4⟩ := h.heads
  clear q1 q2 q3 q4 c2 c3
  by_cases hn : 0 ≤ n ∧ n < P.length
  · have hi := As.mk (his.out true (by simp [hn]))
    have hask : askF P F (-1) n = F (P.getD n.toNat []) := if_pos hn
    obtain ⟨m, rfl⟩ : ∃ m : Nat, n = m := ⟨n.toNat, by omega⟩
    have hml : m < P.length := by omega
    obtain ⟨r1, r2, r3, _⟩ := h.rows (get_at hml)
    rw [Int.toNat_natCast] at hask
    rw [hask]
    clear r2 r3 hask hn h
    generalize F (P.getD m []) = fv at *
    go_enter Try.func62, Try.ntmps62
    go_wp2_with (go_at_call 67; refine hi.out.mono ?_; rintro e w' ⟨rfl, rfl⟩)
    go_ret
    exact ⟨rfl, rfl⟩
  · have hi := As.mk (his.out false (by simp; omega))
    have hask : askF P F (-1) n = -1 := if_neg hn
    rw [hask]
    clear hask hn h
    go_enter Try.func62, Try.ntmps62
    go_wp2_with (go_at_call 67; refine hi.out.mono ?_; rintro e w' ⟨rfl, rfl⟩)
    go_ret
    exact ⟨rfl, rfl⟩

end
/-- The links of a tree, whole. -/
def LinksOf (w : World) (base g : Nat) (P l : List Txt) : Prop := LinksAt w base g P (failF P) (outF P l) (ownF l) (op P P.length)
def endsAt (P l : List Txt) (n : Int) : List Int := if 0 ≤ n ∧ n < P.length then endsF l (P.getD n.toNat []) else []
theorem endsAt_place {P l : List Txt} (hT : Tree P) {a : Nat} {s : Txt} (h : P[a]? = some s) : endsAt P l (a : Int) = endsF l s := by
  have hl := (List.getElem?_eq_some_iff.1 h).1
  unfold endsAt
  rw [if_pos (by omega), Int.toNat_natCast, List.getD_eq_getElem?_getD, h]; rfl
theorem endsF_length (l : List Txt) (s : Txt) : (endsF l s).length ≤ s.length := by
  unfold endsF
  rw [List.length_map]
  exact Nat.le_trans (List.length_filter_le _ _) (by simp)
/-- A round of Ends. -/
theorem ends_round {P l : List Txt} (hT : Tree P) (hlP : ∀ x, x ∈ l → x ∈ P) {a : Nat} {s : Txt} (h : P[a]? = some s) : endsF l s = (if 0 < ownF l s then [ownF l s] else []) ++ endsAt P l (outF P l s) ∧ (0 ≤ outF P l s → outF P l s < P.length ∧ (P.getD (outF P l s).toNat []).length < s.length) := by
  rw [ends_rec]
  unfold outF
  cases ho : outN l s with
  | none =>
    refine ⟨?_, fun h0 => by simp at h0⟩
    simp [endsAt]
  | some n =>
    obtain ⟨h1, h2, h3, _⟩ := outN_some ho
    obtain ⟨b, hb1, hb2⟩ := place_nat (hlP _ h3)
    have hbl := (List.getElem?_eq_some_iff.1 hb2).1
    simp only [hb1]
    refine ⟨by rw [endsAt_place hT hb2], fun _ => ⟨by omega, ?_⟩⟩
    rw [Int.toNat_natCast, List.getD_eq_getElem?_getD, hb2]
    show (s.drop n).length < _
    rw [List.length_drop]; omega
theorem backM_lt {P : List Txt} {t : Int} {s : Txt} (h : 0 ≤ t → (P.getD t.toNat []).length < s.length) : backM P (.int .i64 t) < s.length + 1 := by
  unfold backM
  show (if 0 ≤ t then (P.getD t.toNat []).length + 1 else 0) < s.length + 1
  by_cases h0 : 0 ≤ t
  · rw [if_pos h0]; have := h h0; omega
  · rw [if_neg h0]; omega
theorem ownInts_snoc {w : World} {base : Nat} {v : Value} {xs : List Int} {x : Int} (h : w.ownsRow base 3 1 v (xs.length + 1) (intVals xs ++ [.int .i64 x])) : OwnInts w base v (xs ++ [x]) := by
  unfold OwnInts
  rw [List.length_append, show intVals (xs ++ [x]) = intVals xs ++ [.int .i64 x] by simp [intVals]]
  exact h

set_option maxHeartbeats 800000 in
theorem lends_calls (w : World) (base g : Nat) (P l : List Txt) (hT : Tree P) (hlP : ∀ x, x ∈ l → x ∈ P) (hd : ∀ p ∈ P, p.length ≤ 100000) (h : LinksOf w base g P l) (n : Int) :
    Calls Try.prog 43 #[.pointer (some ⟨g, 0, none⟩), .int .i64 n] w (RetInts w (endsAt P l n)) := by
  obtain ⟨R, hR⟩ : ∃ R, endsAt P l n = R := ⟨_, rfl⟩
  rw [hR]
  have hR := As.mk hR
  have HT := As.mk hT
  have HP := As.mk hlP
  have HD := As.mk hd
  obtain ⟨B, hB⟩ := h
  have HL := As.mk hB
  have hRl : As (R.length ≤ 100000) := ⟨by
    rw [← hR.out]
    unfold endsAt
    split
    · refine Nat.le_trans (endsF_length _ _) (hd _ ?_)
      rw [List.getD_eq_getElem?_getD, List.getElem?_eq_getElem (by omega)]
      exact List.getElem_mem _
    · simp⟩
  clear hT hlP hd hB
  obtain ⟨i0, hi, hz0, hz1, hz2⟩ := info_parts info_int
  go_enter Try.func43, Try.ntmps43
  go_wp2
  go_loopw [1, 5] (fun i v wr => ∃ (m : Int) (acc : List Int), i = .int .i64 m ∧ As (acc ++ endsAt P l m = R) ∧ As (OwnInts wr w.heap.size v acc) ∧ As (Below w.heap.size w wr)) (fun i _ _ => backM P i)
  case atStart => exact ⟨n, [], rfl, hR, ⟨World.ownsRow_nil _ _ _ _⟩, ⟨Below.refl _ _⟩⟩
  case round =>
    obtain ⟨m, acc, rfl, hacc, hown, hbel⟩ := hrel
    have hin := HL.out.below hbel.out
    have his := As.mk (lis_calls wr base g P _ _ _ _ ⟨B, hin⟩ m)
    obtain ⟨c1, c2, c3⟩ := hin.caps
    obtain ⟨q0, q1, q2, q3, q4⟩ := hin.heads
    clear q0 q3 q4 c1
    have haccl : As (acc.length ≤ 100000) := ⟨by have := hRl.out; rw [← hacc.out, List.length_append] at this; omega⟩
    by_cases hm : 0 ≤ m ∧ m < P.length
    · have hi1 := As.mk (his.out true (by simp [hm]))
      obtain ⟨a, rfl⟩ : ∃ a : Nat, m = a := ⟨m.toNat, by omega⟩
      have hal : a < P.length := by omega
      have hs := get_at hal
      obtain ⟨s, hs2⟩ : ∃ s, P.getD a [] = s := ⟨_, rfl⟩
      rw [hs2] at hs
      obtain ⟨r1, r2, r3, _⟩ := hin.rows hs
      obtain ⟨e1, e2⟩ := ends_round HT.out HP.out (l := l) hs
      have hea := endsAt_place (l := l) HT.out hs
      obtain ⟨u, hu⟩ : ∃ u, ownF l s = u := ⟨_, rfl⟩
      obtain ⟨t, ht⟩ : ∃ t, outF P l s = t := ⟨_, rfl⟩
      rw [hu] at r3 e1
      rw [ht] at r2 e1 e2
      have hnext : As (∀ v, Below w.heap.size w v → v.cell? ⟨g, 1, none⟩ = some (.slice (some ⟨B.bo, 0, none⟩) P.length B.co) ∧ v.cell? ⟨B.bo, a, none⟩ = some (.int .i64 t)) := ⟨fun v hv => by
        have hin2 := HL.out.below hv
        refine ⟨hin2.heads.2.1, ?_⟩
        rw [← ht]; exact (hin2.rows hs).2.1⟩
      rw [hea, e1] at hacc
      have e2 := As.mk e2
      have hs2 := As.mk hs2
      replace hin := As.mk hin
      clear r1 e1 hea hu ht hm hs
      by_cases hu0 : 0 < u
      · have hu1 : decide (0 < u) = true := decide_eq_true hu0
        rw [if_pos hu0] at hacc
        go_wp2_with (first
          | (go_at_call 67; refine hi1.out.mono ?_; rintro e w' ⟨rfl, rfl⟩)
          | (at_builtin
             refine wpList_app1 _ rfl (.tmp 17) (.tmp 25) 70 rfl w.heap.size 3 _ 1 8 Try.underlying70 info_int rfl (by decide) _ acc.length (intVals acc) rfl hown.out [.int .i64 u] rfl (by simp [Value.oneCell']) _ rfl (by simp) (by have := haccl.out; omega) (by decide) hbel.out.size ?_
             intro v' w2 hown2 hk2 hat2 hb2
             obtain ⟨n1, n2⟩ := hnext.out w2 (hbel.out.trans hb2)))
        go_roundw
        case rel => exact ⟨t, acc ++ [u], rfl, ⟨by rw [← hacc.out, List.append_assoc]⟩, ⟨ownInts_snoc hown2⟩, ⟨hbel.out.trans hb2⟩⟩
        case measure =>
          show backM P (.int .i64 t) < backM P (.int .i64 (a : Int))
          rw [backM_nat, hs2.out]
          exact backM_lt (fun h0 => (e2.out h0).2)
      · have hu1 : decide (0 < u) = false := decide_eq_false hu0
        rw [if_neg hu0] at hacc
        go_wp2_with (go_at_call 67; refine hi1.out.mono ?_; rintro e w' ⟨rfl, rfl⟩)
        go_roundw
        case rel => exact ⟨t, acc, rfl, ⟨by rw [← hacc.out, List.nil_append]⟩, hown, hbel⟩
        case measure =>
          show backM P (.int .i64 t) < backM P (.int .i64 (a : Int))
          rw [backM_nat, hs2.out]
          exact backM_lt (fun h0 => (e2.out h0).2)
    · have hi1 := As.mk (his.out false (by simp; omega))
      have hfin : As (acc = R) := ⟨by rw [← hacc.out]; unfold endsAt; rw [if_neg hm, List.append_nil]⟩
      clear hm
      go_wp2_with (go_at_call 67; refine hi1.out.mono ?_; rintro e w' ⟨rfl, rfl⟩)
      go_ret
      exact ⟨_, rfl, hfin.out ▸ hown.out, hbel.out⟩

end Go.Proofs.Ytglalojbdlepfaa
end
section
/- The walks of slices.Clone at whole numbers and of the nodes' order. -/
set_option linter.unusedVariables false
set_option linter.unusedSimpArgs false
namespace Go.Proofs.Ytglalojbdlepfaa
open Go.RowKit Go.Maps Seine.Trie Seine.Links

set_option maxRecDepth 100000 in
set_option maxHeartbeats 400000 in
theorem cloneInts_calls (w : World) (ad : Addr) (c : Nat) (xs : List Int) (h : Ints w (some ad) xs) (hl : xs.length ≤ 1000000) :
    Calls Try.prog 64 #[.slice (some ad) xs.length c] w (RetInts w xs) := by
  obtain ⟨n, hn⟩ : ∃ n, xs.length = n := ⟨_, rfl⟩
  rw [hn] at hl ⊢
  have hn := As.mk hn
  have H := As.mk h
  clear h
  obtain ⟨i0, hi, hz0, hz1, hz2⟩ := info_parts info_int
  have hown : As ((w.alloc (.cells #[] 3)).ownsRow w.heap.size 3 1 (.slice (some ⟨w.heap.size, 0, none⟩) 0 0) 0 []) := ⟨ownsRow_of_block (cs := []) (heap_alloc_new w _) rfl (Nat.le_refl _) (Nat.zero_le _)⟩

  have hcells : As (∀ j u, (intVals xs)[j]? = some u → (w.alloc (.cells #[] 3)).cell? (ad.add j) = some u) := ⟨fun j u hj => by
    have hjl : j < (intVals xs).length := (List.getElem?_eq_some_iff.1 hj).1
    obtain ⟨ad2, e2, hc2⟩ := Row.at_ (H.out.alloc (.cells #[] 3)) hjl
    injection e2 with e2
    subst e2
    rw [hc2, ← hj]; exact (List.getElem?_eq_getElem hjl).symm⟩
  have hone : As (∀ u ∈ intVals xs, u.oneCell' = true) := ⟨fun u hu => by obtain ⟨x, _, rfl⟩ := List.mem_map.1 hu; rfl⟩
  have hnl : As ((intVals xs).length = n * 1) := ⟨by rw [intVals_length, hn.out, Nat.mul_one]⟩
  have hnil : ∀ (w : World) (a : Addr) (n c : Nat), (binOp .eql 70 (.slice (some a) n c) (.slice none 0 0)).run Try.prog w = .ok (.bool false) w := fun w a n c => Lib.run_eql_slice_nil w _ _ (some a) n c 0 0 Try.underlying70
  go_enter Try.func64, Try.ntmps64
  go_wp2_with (at_builtin
               refine wpList_append_own_at _ rfl (.tmp 5) (.tmp 6) 70 rfl w.heap.size 3 i0 _ 1 8 Try.underlying70 hi hz0 hz1 hz2 rfl (by decide) (.slice (some ⟨w.heap.size, 0, none⟩) 0 0) 0 [] rfl hown.out ad n c (intVals xs) rfl hnl.out hcells.out hone.out (by unfold maxLen; omega) (by omega) (by simp) ?_
               intro v' w' h2 h3 h4 h5)
  go_ret
  refine ⟨v', rfl, ?_, ?_⟩
  · unfold OwnInts; rw [hn.out]; simpa using h2
  · exact ((Below.refl _ _).alloc (Nat.le_refl _) _).grown h3 (by simp) (fun k hk => Nat.le_of_eq (Option.some.inj hk))

/-- The nodes' order, by numbers. -/
def orderF (P : List Txt) : List Int := (op P P.length).map (place P)
theorem orderF_length {P : List Txt} (hT : Tree P) : (orderF P).length = P.length := by
  unfold orderF
  rw [List.length_map]
  have h1 := op_len hT P.length
  have h2 := nodup_len hT.nodup (fun x hx => op_all hT _ x rfl hx)
  omega
theorem lorder_calls (w : World) (base g : Nat) (P l : List Txt) (hT : Tree P) (hl : P.length ≤ 1000000) (h : LinksOf w base g P l) :
    Calls Try.prog 61 #[.pointer (some ⟨g, 0, none⟩)] w (RetInts w (orderF P)) := by
  obtain ⟨v, q3, q4, hgl, hgb, ho, hne, _⟩ := LinksAt.order h
  have hlen := op_len hT P.length
  have hpos : 0 < (op P P.length).length := (List.getElem?_eq_some_iff.1 (op_root P P.length)).1
  have hoi : OwnInts w base v (orderF P) := by unfold OwnInts orderF; rw [List.length_map]; simpa [intVals, intCells, Function.comp_def] using ho
  have hol : (orderF P).length = (op P P.length).length := by unfold orderF; rw [List.length_map]
  obtain ⟨b, cp, rfl, _, _⟩ := hoi.form (by omega)
  have hcl := As.mk (cloneInts_calls w ⟨b, 0, none⟩ cp (orderF P) (Row.of_own hoi) (by omega))
  clear hoi ho hne hol hpos hlen
  go_enter Try.func61, Try.ntmps61
  go_wp2_with (go_at_call 64; refine hcl.out.mono ?_; rintro e w' ⟨v, rfl, ho2, hb2⟩)
  go_ret
  exact ⟨v, rfl, ho2, hb2⟩
end Go.Proofs.Ytglalojbdlepfaa
end
section
/- The walk of dfa.New. -/
set_option linter.unusedVariables false
set_option linter.unusedSimpArgs false
namespace Go.Proofs.Ytglalojbdlepfaa
open Go.RowKit Seine.Trie Seine.Dfa
/-- What `build` writes: an array's values from a place on. -/
theorem fold_get (o : Nat) : ∀ (L : List Value) (k : Nat) (Z : Array Value) (i : Nat), o + k + L.length ≤ Z.size →
    ((L.zipIdx k).foldl (fun cs x => cs.setIfInBounds (o + x.2) x.1) Z)[i]? = if o + k ≤ i ∧ i < o + k + L.length then L[i - (o + k)]? else Z[i]?
  | [], k, Z, i, h => by
    rw [if_neg (by simp)]; rfl
  | v :: r, k, Z, i, h => by
    rw [List.zipIdx_cons, List.foldl_cons, fold_get o r (k + 1) _ i (by simp at h ⊢; omega)]
    simp only [List.length_cons] at h ⊢
    by_cases h1 : o + (k + 1) ≤ i ∧ i < o + (k + 1) + r.length
    · rw [if_pos h1, if_pos (by omega), show i - (o + k) = (i - (o + (k + 1))) + 1 by omega, List.getElem?_cons_succ]
    · rw [if_neg h1]
      by_cases h2 : i = o + k
      · subst h2
        rw [if_pos (by omega), Array.getElem?_setIfInBounds_self_of_lt (by omega)]; simp
      · rw [if_neg (by omega), Array.getElem?_setIfInBounds_ne (by omega)]
theorem fold_arr (o n : Nat) (C Z : Array Value) (hn : C.size = n) (i : Nat) (h : o + n ≤ Z.size) :
    (Array.foldl (fun cs x => cs.setIfInBounds (o + x.2) x.1) Z C.zipIdx 0 n)[i]? = if o ≤ i ∧ i < o + n then C[i - o]? else Z[i]? := by
  subst hn
  have := fold_get o C.toList 0 Z i (by simpa using h)
  simp only [Nat.add_zero, Array.length_toList, Array.getElem?_toList] at this
  rw [← this, ← Array.toList_zipIdx, Array.foldl_toList]
  simp
/-- A table of n rows of W numbers. -/
def tabL (G : Nat → Nat → Int) (n W : Nat) : List Value := (List.range (n * W)).map fun i => .int .i64 (G (i / W) (i % W))
theorem tabL_length (G : Nat → Nat → Int) (n W : Nat) : (tabL G n W).length = n * W := by simp [tabL]
theorem tabL_lt {n W a k : Nat} (ha : a < n) (hk : k < W) : a * W + k < n * W := by
  have h1 : (a + 1) * W ≤ n * W := Nat.mul_le_mul_right _ ha
  rw [Nat.succ_mul] at h1; omega
theorem tabL_at (G : Nat → Nat → Int) {n W a k : Nat} (ha : a < n) (hk : k < W) : (tabL G n W)[a * W + k]? = some (.int .i64 (G a k)) := by
  unfold tabL
  rw [List.getElem?_map, List.getElem?_range (tabL_lt ha hk)]
  have h1 : (a * W + k) / W = a := by rw [Nat.mul_comm, Nat.mul_add_div (by omega), Nat.div_eq_of_lt hk]; rfl
  have h2 : (a * W + k) % W = k := by rw [Nat.mul_comm, Nat.mul_add_mod, Nat.mod_eq_of_lt hk]
  simp [h1, h2]
/-- The block of a table machine: its trie, its links, its classes, its rows. -/
def DfaBlk (w : World) (g tg lg : Nat) (F : UInt8 → Nat) (m : Nat) (v : Value) : Prop :=
  ∃ D : Array Value, w.heap[g]? = some (.cells D 72 (0, 0)) ∧ D.size = 260 ∧ D[0]? = some (.pointer (some ⟨tg, 0, none⟩)) ∧ D[1]? = some (.pointer (some ⟨lg, 0, none⟩)) ∧ (∀ i u, (clsCells F m)[i]? = some u → D[2 + i]? = some u) ∧ D[259]? = some v
theorem DfaBlk.range {w : World} {g tg lg : Nat} {F : UInt8 → Nat} {m : Nat} {v : Value} (h : DfaBlk w g tg lg F m v) : w.rangeAt g 2 (clsCells F m) := fun i u hu => by
  obtain ⟨D, h1, _, _, _, h5, _⟩ := h
  rw [cell_of_blk h1]; exact h5 i u hu
theorem DfaBlk.cells {w : World} {g tg lg : Nat} {F : UInt8 → Nat} {m : Nat} {v : Value} (h : DfaBlk w g tg lg F m v) :
    w.cell? ⟨g, 0, none⟩ = some (.pointer (some ⟨tg, 0, none⟩)) ∧ w.cell? ⟨g, 1, none⟩ = some (.pointer (some ⟨lg, 0, none⟩)) ∧ w.cell? ⟨g, 259, none⟩ = some v := by
  obtain ⟨D, h1, _, h3, h4, _, h6⟩ := h
  exact ⟨by rw [cell_of_blk h1]; exact h3, by rw [cell_of_blk h1]; exact h4, by rw [cell_of_blk h1]; exact h6⟩
theorem DfaBlk.below {w w' : World} {g tg lg : Nat} {F : UInt8 → Nat} {m : Nat} {v : Value} (h : DfaBlk w g tg lg F m v) (hb : Below w.heap.size w w') : DfaBlk w' g tg lg F m v := by
  obtain ⟨D, h1, h2⟩ := h
  exact ⟨D, blkBelow hb h1, h2⟩
end Go.Proofs.Ytglalojbdlepfaa
end
section
/- The walk of dfa's fill. -/
set_option linter.unusedVariables false
set_option linter.unusedSimpArgs false
namespace Go.Proofs.Ytglalojbdlepfaa
open Go.RowKit Seine.Trie Seine.Dfa Seine.Links
/-- What a state's row holds where the rows of `done` are made. -/
def gridF (P l : List Txt) (done : List Txt) (a k : Nat) : Int := match P[a]? with | some s => if s ∈ done then rowF P l s k else 0 | none => 0
theorem gridF_nil (P l : List Txt) : gridF P l [] = fun _ _ => 0 := by
  funext a k; unfold gridF; split <;> simp
theorem gridF_same (P l : List Txt) (done done' : List Txt) (h : ∀ x, x ∈ done ↔ x ∈ done') : gridF P l done = gridF P l done' := by
  funext a k; unfold gridF; split
  · simp only [h]
  · rfl
theorem gridF_snoc (P l : List Txt) (done : List Txt) {a : Nat} {s : Txt} (ha : P[a]? = some s) (hn : P.Nodup) (b k : Nat) :
    gridF P l (done ++ [s]) b k = if b = a then rowF P l s k else gridF P l done b k := by
  unfold gridF
  by_cases h : b = a
  · subst h; rw [if_pos rfl, ha]; simp
  · rw [if_neg h]
    cases hb : P[b]? with
    | none => rfl
    | some t =>
      have hts : t ≠ s := fun e => h (by
        subst e
        obtain ⟨ha1, ha2⟩ := List.getElem?_eq_some_iff.1 ha
        obtain ⟨hb1, hb2⟩ := List.getElem?_eq_some_iff.1 hb
        exact (List.getElem_inj hn).1 (hb2.trans ha2.symm))
      simp [hts]
/-- A grid with one row changed. -/
def updF (G : Nat → Nat → Int) (a : Nat) (R : Nat → Int) (b k : Nat) : Int := if b = a then R k else G b k
theorem updF_upd (G : Nat → Nat → Int) (a : Nat) (R R' : Nat → Int) : updF (updF G a R) a R' = updF G a R' := by
  funext b k; unfold updF; by_cases h : b = a <;> simp [h]
theorem updF_same (G : Nat → Nat → Int) (a : Nat) : updF G a (G a) = G := by
  funext b k; unfold updF; by_cases h : b = a
  · subst h; rw [if_pos rfl]
  · rw [if_neg h]
theorem tab_get (G : Nat → Nat → Int) {n W i : Nat} (hW : 0 < W) (h : i < n * W) : (tabL G n W)[i]? = some (.int .i64 (G (i / W) (i % W))) := by
  have h1 : i % W < W := Nat.mod_lt _ hW
  have h2 : i / W < n := by rw [Nat.div_lt_iff_lt_mul hW]; exact h
  have := tabL_at G h2 h1
  rwa [Nat.div_add_mod'] at this
theorem tab_none (G : Nat → Nat → Int) {n W i : Nat} (h : n * W ≤ i) : (tabL G n W)[i]? = none := List.getElem?_eq_none (by rw [tabL_length]; exact h)
theorem row_of {n W i a : Nat} (hW : 0 < W) (h1 : a * W ≤ i) (h2 : i < a * W + W) : i / W = a ∧ i % W = i - a * W := by
  obtain ⟨k, rfl⟩ : ∃ k, i = a * W + k := ⟨i - a * W, by omega⟩
  have hk : k < W := by omega
  refine ⟨?_, ?_⟩
  · rw [Nat.mul_comm, Nat.mul_add_div (by omega), Nat.div_eq_of_lt hk]; rfl
  · rw [Nat.mul_comm a W, Nat.mul_add_mod, Nat.mod_eq_of_lt hk]; omega
theorem tab_set (G : Nat → Nat → Int) {n W a k : Nat} (ha : a < n) (hk : k < W) (R R' : Nat → Int) (x : Int) (h : ∀ j, R' j = if j = k then x else R j) :
    (tabL (updF G a R) n W).toArray.setIfInBounds (a * W + k) (.int .i64 x) = (tabL (updF G a R') n W).toArray := by
  apply Array.toList_inj.1
  rw [Array.toList_setIfInBounds]
  apply List.ext_getElem?
  intro i
  have hW : 0 < W := by omega
  have hlt := tabL_lt ha hk
  show ((tabL (updF G a R) n W).set (a * W + k) (.int .i64 x))[i]? = (tabL (updF G a R') n W)[i]?
  rw [List.getElem?_set]
  by_cases hi : i < n * W
  · rw [tab_get _ hW hi, tab_get _ hW hi]
    by_cases e : a * W + k = i
    · subst e
      obtain ⟨e1, e2⟩ := row_of (n := n) (i := a * W + k) (a := a) hW (by omega) (by omega)
      rw [if_pos rfl, if_pos (by rw [tabL_length]; exact hlt), e1, e2]
      unfold updF
      rw [if_pos rfl, h, if_pos (by omega)]
    · rw [if_neg e]
      unfold updF
      by_cases hia : i / W = a
      · rw [if_pos hia, if_pos hia, h, if_neg (fun c => e (by rw [← c, ← hia, Nat.div_add_mod']))]
      · rw [if_neg hia, if_neg hia]
  · rw [tab_none _ (by omega), tab_none _ (by omega), if_neg (by omega)]
def rowVals (R : Nat → Int) (W : Nat) : List Value := (List.range W).map fun k => .int .i64 (R k)
theorem rowVals_length (R : Nat → Int) (W : Nat) : (rowVals R W).length = W := by simp [rowVals]
theorem rowVals_get (R : Nat → Int) {W k : Nat} (h : k < W) : (rowVals R W)[k]? = some (.int .i64 (R k)) := by
  unfold rowVals; rw [List.getElem?_map, List.getElem?_range h]; rfl
theorem tab_splice (G : Nat → Nat → Int) {n W a : Nat} (ha : a < n) (hW : 0 < W) (R : Nat → Int) : splice (tabL G n W) (a * W) (rowVals R W) = tabL (updF G a R) n W := by
  have hlt : a * W + W ≤ n * W := by rw [← Nat.succ_mul]; exact Nat.mul_le_mul_right _ ha
  unfold splice
  rw [rowVals_length]
  apply List.ext_getElem?
  intro i
  have hl1 : ((tabL G n W).take (a * W)).length = a * W := by rw [List.length_take, tabL_length]; omega
  by_cases h1 : i < a * W
  · rw [List.getElem?_append_left (by omega), List.getElem?_take_of_lt h1, tab_get _ hW (by omega), tab_get _ hW (by omega)]
    unfold updF
    rw [if_neg]
    intro e
    have := Nat.div_lt_iff_lt_mul hW |>.2 h1
    omega
  · rw [List.getElem?_append_right (by omega), hl1]
    by_cases h2 : i < a * W + W
    · obtain ⟨e1, e2⟩ := row_of (n := n) (i := i) (a := a) hW (by omega) h2
      rw [List.getElem?_append_left (by rw [rowVals_length]; omega), rowVals_get _ (by omega), tab_get _ hW (by omega), e1, e2]
      unfold updF
      rw [if_pos rfl]
    · rw [List.getElem?_append_right (by rw [rowVals_length]; omega), rowVals_length, List.getElem?_drop, show a * W + W + (i - a * W - W) = i by omega]
      by_cases h3 : i < n * W
      · rw [tab_get _ hW h3, tab_get _ hW h3]
        unfold updF
        rw [if_neg]
        intro e
        have h4 : (a + 1) * W ≤ i := by rw [Nat.succ_mul]; omega
        have := (Nat.le_div_iff_mul_le hW).2 h4
        omega
      · rw [tab_none _ (by omega), tab_none _ (by omega)]
theorem gridF_done (P l done : List Txt) {a : Nat} {s : Txt} (ha : P[a]? = some s) (hn : P.Nodup) : gridF P l (done ++ [s]) = updF (gridF P l done) a (rowF P l s) := by
  funext b k; rw [gridF_snoc P l done ha hn]; rfl
theorem gridF_in (P l done : List Txt) {a : Nat} {s : Txt} (ha : P[a]? = some s) (hs : s ∈ done) : gridF P l done a = rowF P l s := by
  funext k; unfold gridF; rw [ha]; simp [hs]
theorem gridF_out (P l done : List Txt) {a : Nat} {s : Txt} (ha : P[a]? = some s) (hs : s ∉ done) : gridF P l done a = fun _ => 0 := by
  funext k; unfold gridF; rw [ha]; simp [hs]
theorem order_before {P : List Txt} (hT : Tree P) {i : Nat} {s x : Txt} (h : (op P P.length)[i]? = some s) (hx : x ∈ P) (hl : x.length < s.length) : x ∈ (op P P.length).take i := by
  have hi := (List.getElem?_eq_some_iff.1 h).1
  have hil : i < P.length := Nat.lt_of_lt_of_le hi (op_len hT _)
  have h2 := op_back (Nat.le_of_lt hil) h (op_long (Nat.le_of_lt hil) hi)
  obtain ⟨j, hj, e⟩ := op_before hT i h2 x hx hl
  have e2 := op_get (Nat.le_of_lt hil) e
  exact List.mem_of_getElem? (by rw [List.getElem?_take_of_lt hj]; exact e2)
theorem order_new {P : List Txt} {i n : Nat} {s : Txt} (h : (op P n)[i]? = some s) : s ∉ (op P n).take i := fun hm => by
  obtain ⟨j, hj, e⟩ := List.mem_iff_getElem.1 hm
  rw [List.length_take] at hj
  rw [List.getElem_take] at e
  have := nodup_get (op_nodup P n) (i := j) (j := i) (x := s) (by rw [List.getElem?_eq_getElem (by omega), e]) h
  omega
theorem gridF_zero (P l : List Txt) : gridF P l ((op P P.length).take 0) = fun _ _ => 0 := by rw [List.take_zero]; exact gridF_nil P l
theorem tab_zero (n W : Nat) : tabL (fun _ _ => 0) n W = List.replicate (n * W) (.int .i64 0) := by
  unfold tabL
  apply List.ext_getElem?
  intro i
  by_cases h : i < n * W
  · rw [List.getElem?_map, List.getElem?_range h, List.getElem?_replicate, if_pos h]; rfl
  · rw [List.getElem?_eq_none (by simp; omega), List.getElem?_eq_none (by simp; omega)]
theorem DfaBlk.set {w : World} {g tg lg : Nat} {F : UInt8 → Nat} {m : Nat} {v : Value} (h : DfaBlk w g tg lg F m v) (u : Value) : DfaBlk (w.setCell ⟨g, 259, none⟩ u) g tg lg F m u := by
  obtain ⟨D, h1, h2, h3, h4, h5, h6⟩ := h
  refine ⟨_, blk_set h1 259 u, by simpa using h2, ?_, ?_, fun i x hx => ?_, ?_⟩
  · rw [Array.getElem?_setIfInBounds_ne (by omega)]; exact h3
  · rw [Array.getElem?_setIfInBounds_ne (by omega)]; exact h4
  · have := (List.getElem?_eq_some_iff.1 hx).1
    rw [clsCells_length] at this
    rw [Array.getElem?_setIfInBounds_ne (by omega)]; exact h5 i x hx
  · rw [Array.getElem?_setIfInBounds_self_of_lt (by omega)]
theorem DfaBlk.keep {S : Nat → Prop} {w w' : World} {g tg lg : Nat} {F : UInt8 → Nat} {m : Nat} {v : Value} (h : DfaBlk w g tg lg F m v) (hk : Keeps S w w') (hS : ¬ S g) : DfaBlk w' g tg lg F m v := by
  obtain ⟨D, h1, h2⟩ := h
  exact ⟨D, blk_keep h1 hk hS, h2⟩
theorem DfaBlk.size {w : World} {g tg lg : Nat} {F : UInt8 → Nat} {m : Nat} {v : Value} (h : DfaBlk w g tg lg F m v) : w.heap.size > g := by
  obtain ⟨D, h1, h2⟩ := h
  exact block_lt h1
theorem keepsRow (w : World) (g : Nat) (cs : Array Value) : Keeps (fun k => k = g) w (w.setRow g cs) := ⟨rfl, rfl, rfl, by simp [World.setRow], fun i hi hn => setRow_other w g i cs hn⟩
end Go.Proofs.Ytglalojbdlepfaa
end
section
/- append of a slice's elements, whatever row they are. -/
set_option linter.unusedVariables false
namespace Go.Proofs.Ytglalojbdlepfaa
open Go.RowKit
theorem wpList_app0 {P : Program} {ops : Array Oper} {rest : List Oper} {o : Oper} {a : Act} {Q : Exit → Act → World → Prop} (w : World) (hgd : o.guard = none) (s x : Operand) (t : TypeId)
    (ho : o.op = .call { callee := .builtin .append, args := #[s, x], argTypes := #[t, t] })
    (e : TypeId) (i : TypeInfo) (ht : P.underlying t = some (.slice e)) (hi : P.info? e = some i)
    (A B : Option Addr) (n c d : Nat) (hs : a.eval s = .slice A n c) (hn : n ≤ c) (hx : a.eval x = .slice B 0 d)
    (h : wpList P ops Q rest (a.put o.dst (.slice A n c)) w) :
    wpList P ops Q (o :: rest) a w := by
  refine wpList_plain hgd fun K hK => ?_
  have hr : (Builtin.append_ #[t, t] o.type #[.slice A n c, .slice B 0 d]).run P w = .ok (.slice A n c) w := by
    have hfc : (Builtin.firstCells i.size 0 (.slice B 0 d)).run P w = .ok #[] w := by
      cases B with
      | none => rfl
      | some b => exact run_firstCells_some (P := P) w i.size 0 b 0 d [] (by simp) (by simp)
    cases A <;> simp [Builtin.append_, run_underlying ht, sizeOf, typeInfo, hi, Builtin.lenOf, hn, hfc, storeCells]
  unfold Oper.wp execOp
  simp only [ho, resolve, invoke, builtin, Sem.run_bind, Sem.run_pure, Result.andThen_ok, List.map_toArray, List.map_cons, List.map_nil, hs, hx, hr]
  exact hK _ _ h
theorem wpList_apps {P : Program} {ops : Array Oper} {rest : List Oper} {o : Oper} {a : Act} {Q : Exit → Act → World → Prop} (w : World) (hgd : o.guard = none) (s x : Operand) (t : TypeId)
    (ho : o.op = .call { callee := .builtin .append, args := #[s, x], argTypes := #[t, t] })
    (base : Nat) (e : TypeId) (z : Value) (size bytes : Nat) (ht : P.underlying t = some (.slice e)) (hi : (P.info? e).map (fun i => (i.zero, i.size, i.bytes)) = some (some z, size, bytes))
    (hzs : z.cells.size = size) (hsz : 0 < size)
    (v : Value) (n : Nat) (xs : List Value) (hs : a.eval s = v) (hown : w.ownsRow base e size v n xs)
    (A : Option Addr) (m c : Nat) (cs : List Value) (hrow : Row w A cs) (hl : cs.length = m * size) (h1 : ∀ u ∈ cs, u.oneCell' = true) (hx : a.eval x = .slice A m c)
    (hlen : n + m ≤ 1000000000000) (hby : bytes ≤ 100) (hbase : base ≤ w.heap.size)
    (h : ∀ v' w', w'.ownsRow base e size v' (n + m) (xs ++ cs) → Below base w w' → wpList P ops Q rest (a.put o.dst v') w') :
    wpList P ops Q (o :: rest) a w := by
  obtain ⟨i, hi, hz, hsize, hbytes⟩ := info_parts hi
  rcases hrow with rfl | ⟨ad, rfl, hlt, hc⟩
  · obtain rfl : m = 0 := by
      have hl : 0 = m * size := by simpa using hl
      rcases Nat.mul_eq_zero.1 hl.symm with h | h
      · exact h
      · omega
    obtain ⟨A0, c0, rfl, hc0⟩ := own_slice hown
    refine wpList_app0 w hgd s x t ho e i ht hi A0 A n c0 c hs hc0 hx ?_
    exact h _ _ (by simpa using hown) (Below.refl _ _)
  · refine wpList_append_own_at w hgd s x t ho base e i z size bytes ht hi hz hsize hbytes hzs hsz v n xs hs hown ad m c cs hx hl hc h1
      (by simp only [maxLen]; omega) ?_ hbase ?_
    · have : (n + m) * bytes ≤ (n + m) * 100 := Nat.mul_le_mul_left _ hby
      omega
    · intro v' w' h2 h3 _ h5
      refine h v' w' h2 ((Below.refl base w).grown h3 hbase (fun k hk => ?_))
      rcases hown.2 with ⟨rfl, _⟩ | ⟨g, cap, cur, rfl, hg, _⟩
      · simp [Value.ownBlock] at hk
      · simp [Value.ownBlock] at hk; omega
end Go.Proofs.Ytglalojbdlepfaa
end
section
/- The walks of package meter: what counts, a text that is scanned. -/
set_option linter.unusedVariables false
set_option linter.unusedSimpArgs false
namespace Go.Proofs.Ytglalojbdlepfaa
open Go.RowKit Seine.Trie
/-- How often what was done. -/
structure Cn where
  s : Int
  l : Int
  h : Int
  m : Int
def Cn.zero : Cn := ⟨0, 0, 0, 0⟩
def Cn.ok (c : Cn) : Prop := 0 ≤ c.s ∧ c.s ≤ 1000000000000 ∧ 0 ≤ c.l ∧ c.l ≤ 1000000000000 ∧ 0 ≤ c.h ∧ c.h ≤ 1000000000000 ∧ 0 ≤ c.m ∧ c.m ≤ 1000000000000
def cnCells (c : Cn) : Array Value := #[.int .i64 c.s, .int .i64 c.l, .int .i64 c.h, .int .i64 c.m]
/-- Block g counts c. -/
def MtAt (w : World) (g : Nat) (c : Cn) : Prop := w.heap[g]? = some (.cells (cnCells c) 67 (0, 0))
/-- The meter, if there is one, counts c. -/
def Mo (w : World) (mo : Option Nat) (c : Cn) : Prop := ∀ g, mo = some g → MtAt w g c
def madr (mo : Option Nat) : Option Addr := mo.map fun g => ⟨g, 0, none⟩
def OnlyM (mo : Option Nat) (k : Nat) : Prop := mo = some k
theorem MtAt.below {w w' : World} {g : Nat} {c : Cn} (h : MtAt w g c) (hb : Below w.heap.size w w') : MtAt w' g c := (hb.block g (block_lt h)).trans h
theorem Mo.below {w w' : World} {mo : Option Nat} {c : Cn} (h : Mo w mo c) (hb : Below w.heap.size w w') : Mo w' mo c := fun g e => (h g e).below hb
theorem Mo.none_ (w : World) (c : Cn) : Mo w none c := fun g e => by cases e
theorem Mo.some_ {w : World} {g : Nat} {c : Cn} (h : MtAt w g c) : Mo w (some g) c := fun g' e => by injection e with e; subst e; exact h
/-- A block of another make is not the meter's. -/
theorem Mo.far {w : World} {mo : Option Nat} {c : Cn} (h : Mo w mo c) {b t : Nat} {cs : Array Value} {fr : Nat × Nat} (hb : w.heap[b]? = some (.cells cs t fr)) (hs : cs.size ≠ 4 ∨ t ≠ 67) : ¬ OnlyM mo b := fun e => by
  have := h b e
  unfold MtAt at this
  rw [hb] at this
  injection this with this
  injection this with e1 e2
  rcases hs with hs | hs
  · exact hs (by rw [e1]; rfl)
  · exact hs e2
theorem Mo.farMap {w : World} {mo : Option Nat} {c : Cn} (h : Mo w mo c) {b : Nat} {es : Array MapEntry} {cl : Nat} (hb : w.heap[b]? = some (.map es cl)) : ¬ OnlyM mo b := fun e => by
  have := h b e
  unfold MtAt at this
  rw [hb] at this
  injection this with this
  cases this
abbrev zeroCounts : Obj := .cells #[.int .i64 0, .int .i64 0, .int .i64 0, .int .i64 0] 41
theorem mcount_none (w : World) : Calls Try.prog 66 #[.pointer none] w fun e w' => e = .returned (.pointer (some ⟨w.heap.size, 0, none⟩)) ∧ w.alloc (.cells #[.int .i64 0, .int .i64 0, .int .i64 0, .int .i64 0] 41) = w' := by
  go_enter Try.func66, Try.ntmps66
  go_wp2
  go_ret
  exact ⟨rfl, rfl⟩
theorem mcount_some (w : World) (g : Nat) : Calls Try.prog 66 #[.pointer (some ⟨g, 0, none⟩)] w fun e w' => e = .returned (.pointer (some ⟨g, 0, none⟩)) ∧ w = w' := by
  go_enter Try.func66, Try.ntmps66
  go_wp2
  go_ret
  exact ⟨rfl, rfl⟩
theorem mnew_calls (w : World) : Calls Try.prog 12 #[] w fun e w' => e = .returned (.pointer (some ⟨w.heap.size, 0, none⟩)) ∧ MtAt w' w.heap.size Cn.zero ∧ Below w.heap.size w w' := by
  go_enter Try.func12, Try.ntmps12
  go_wp2
  go_ret
  exact ⟨rfl, heap_alloc_new _ _, (Below.refl _ _).alloc (Nat.le_refl _) _⟩
theorem mcounts_calls (w : World) (g : Nat) (c : Cn) (h : MtAt w g c) : Calls Try.prog 18 #[.pointer (some ⟨g, 0, none⟩)] w fun e w' => e = .returned (.agg (cnCells c)) ∧ Below w.heap.size w w' := by
  have c0 : w.cell? ⟨g, 0, none⟩ = some (.int .i64 c.s) := cell_of_blk h 0
  have c1 : w.cell? ⟨g, 1, none⟩ = some (.int .i64 c.l) := cell_of_blk h 1
  have c2 : w.cell? ⟨g, 2, none⟩ = some (.int .i64 c.h) := cell_of_blk h 2
  have c3 : w.cell? ⟨g, 3, none⟩ = some (.int .i64 c.m) := cell_of_blk h 3
  have hlt := block_lt h
  obtain ⟨s, l, hh, m⟩ := c
  have hb : Below w.heap.size w (w.alloc (.cells #[.int .i64 s, .int .i64 l, .int .i64 hh, .int .i64 m] 41)) := (Below.refl _ _).alloc (Nat.le_refl _) _
  simp only at c0 c1 c2 c3
  have d0 := cell_of_blk (heap_alloc_new w (.cells #[.int .i64 s, .int .i64 l, .int .i64 hh, .int .i64 m] 41)) 0
  have d1 := cell_of_blk (heap_alloc_new w (.cells #[.int .i64 s, .int .i64 l, .int .i64 hh, .int .i64 m] 41)) 1
  have d2 := cell_of_blk (heap_alloc_new w (.cells #[.int .i64 s, .int .i64 l, .int .i64 hh, .int .i64 m] 41)) 2
  have d3 := cell_of_blk (heap_alloc_new w (.cells #[.int .i64 s, .int .i64 l, .int .i64 hh, .int .i64 m] 41)) 3
  simp at d0 d1 d2 d3
  clear h
  go_enter Try.func18, Try.ntmps18
  go_wp2
  refine bodyPost_ret (v := .agg (cnCells ⟨s, l, hh, m⟩)) (by simp [results, Try.results18, go_sem, d0, d1, d2, d3, cnCells]) rfl ⟨rfl, hb⟩
theorem RetByt.rowg {w w' : World} {b : Txt} {e : Ending} (h : RetByt w b e w') : ∃ A c, e = .returned (.slice A b.length c) ∧ b.length ≤ c ∧ Byt w' A b ∧ (∀ ad, A = some ad → w.heap.size ≤ ad.block) ∧ Below w.heap.size w w' := by
  obtain ⟨v, rfl, ho, hb⟩ := h
  obtain ⟨A, c, rfl, hc, hr⟩ := ho.row
  refine ⟨A, c, rfl, hc, hr, fun ad e => ?_, hb⟩
  rcases own_addr ho with e' | ⟨g, e', hg⟩
  · rw [e] at e'; cases e'
  · rw [e] at e'
    injection e' with e'
    subst e'
    exact hg
/-- A text that is scanned through a meter. -/
def TextAt (w : World) (tb : Nat) (mo : Option Nat) (b : Txt) : Prop :=
  ∃ A c, w.heap[tb]? = some (.cells #[.pointer (madr mo), .slice A b.length c] 111 (0, 0)) ∧ Byt w A b ∧ ∀ ad, A = some ad → ¬ OnlyM mo ad.block
theorem TextAt.below {w w' : World} {tb : Nat} {mo : Option Nat} {b : Txt} (h : TextAt w tb mo b) (hb : Below w.heap.size w w') : TextAt w' tb mo b := by
  obtain ⟨A, c, h1, h2, h3⟩ := h
  exact ⟨A, c, (hb.block tb (block_lt h1)).trans h1, Row.below h2 hb, h3⟩
theorem TextAt.keep {w w' : World} {tb : Nat} {mo : Option Nat} {b : Txt} {c : Cn} (h : TextAt w tb mo b) (hm : Mo w mo c) (hk : Keeps (OnlyM mo) w w') : TextAt w' tb mo b := by
  obtain ⟨A, d, h1, h2, h3⟩ := h
  exact ⟨A, d, blk_keep h1 hk (hm.far h1 (.inl (by simp))), Row.keep h2 hk (fun ad e _ => h3 ad e), h3⟩
theorem cloneByt2_calls (w : World) (A : Option Addr) (c : Nat) (b : Txt) (h : Byt w A b) (hl : b.length ≤ 1000000) :
    Calls Try.prog 63 #[.slice A b.length c] w (RetByt w b) := by
  obtain ⟨n, hn⟩ : ∃ n, b.length = n := ⟨_, rfl⟩
  rw [hn] at hl ⊢
  replace hn := As.mk hn
  have H := As.mk h
  clear h
  cases A with
  | none =>
    have hl0 : b = [] := by
      rcases H.out with h | ⟨ad, e, _⟩
      · have := congrArg List.length h; rw [byCells_length] at this; exact List.eq_nil_of_length_eq_zero (by rw [List.length_nil] at this; omega)
      · cases e
    subst hl0
    have hnil : ∀ (w : World) (n c : Nat), (binOp .eql 23 (.slice none n c) (.slice none 0 0)).run Try.prog w = .ok (.bool true) w := fun w n c => Lib.run_eql_slice_nil w _ _ none n c 0 0 Try.underlying23
    go_enter Try.func63, Try.ntmps63
    go_wp2
    go_ret
    exact ⟨_, rfl, World.ownsRow_nil _ _ _ _, Below.refl _ _⟩
  | some ad =>
    have hown : As ((w.alloc (.cells #[] 5)).ownsRow w.heap.size 5 1 (.slice (some ⟨w.heap.size, 0, none⟩) 0 0) 0 []) := ⟨⟨rfl, .inr ⟨_, 0, #[], rfl, Nat.le_refl _, heap_alloc_new w _, Nat.le_refl _, Nat.zero_le _, rfl, rfl⟩⟩⟩
    have hrow := As.mk (Row.alloc H.out (.cells #[] 5))
    have hnl : As ((byCells b).length = n * 1) := ⟨by rw [byCells_length, hn.out, Nat.mul_one]⟩
    have hnil : ∀ (w : World) (a : Addr) (n c : Nat), (binOp .eql 23 (.slice (some a) n c) (.slice none 0 0)).run Try.prog w = .ok (.bool false) w := fun w a n c => Lib.run_eql_slice_nil w _ _ (some a) n c 0 0 Try.underlying23
    go_enter Try.func63, Try.ntmps63
    go_wp2_with (at_builtin
                 refine wpList_apps _ rfl (.tmp 5) (.tmp 6) 23 rfl w.heap.size 5 _ 1 1 Try.underlying23 info_u8 rfl (by decide) _ 0 [] rfl hown.out (some ad) n c (byCells b) hrow.out hnl.out byt_one2 rfl (by omega) (by decide) (by simp) ?_
                 intro v' w' h2 h3)
    go_ret
    exact ⟨v', rfl, by unfold OwnByt; rw [hn.out]; simpa using h2, ((Below.refl _ _).alloc (Nat.le_refl _) _).trans h3⟩
theorem mtext_calls (w : World) (mo : Option Nat) (cn : Cn) (hm : Mo w mo cn) (A : Option Addr) (c : Nat) (b : Txt) (h : Byt w A b) (hl : b.length ≤ 1000000) :
    Calls Try.prog 37 #[.pointer (madr mo), .slice A b.length c] w fun e w' => ∃ tb, e = .returned (.pointer (some ⟨tb, 0, none⟩)) ∧ TextAt w' tb mo b ∧ Below w.heap.size w w' := by
  have cc := As.mk (cloneByt2_calls w A c b h hl)
  have hmo := As.mk hm
  clear h hm
  go_enter Try.func37, Try.ntmps37
  go_wp2_with (go_at_call 63; refine Calls.mono cc.out ?_; intro e w1 h1; obtain ⟨A1, c1, he, hc1, hr1, hg1, hb⟩ := h1.rowg; subst he)
  go_ret
  refine ⟨_, rfl, ⟨A1, c1, heap_alloc_new _ _, Row.alloc hr1 _, fun ad e hk => ?_⟩, hb.alloc hb.size _⟩
  have h1 := block_lt (hmo.out _ hk)
  have h2 := hg1 ad e
  omega
theorem mlen_calls (w : World) (tb : Nat) (mo : Option Nat) (b : Txt) (h : TextAt w tb mo b) : Calls Try.prog 40 #[.pointer (some ⟨tb, 0, none⟩)] w fun e w' => e = .returned (.int .i64 (b.length : Int)) ∧ w = w' := by
  obtain ⟨A, c, h1, _, _⟩ := h
  have c1 : w.cell? ⟨tb, 1, none⟩ = some (.slice A b.length c) := cell_of_blk h1 1
  clear h1
  go_enter Try.func40, Try.ntmps40
  go_wp2
  go_ret
  exact ⟨rfl, rfl⟩
theorem mat_calls (w : World) (tb : Nat) (mo : Option Nat) (b : Txt) (h : TextAt w tb mo b) (cn : Cn) (hm : Mo w mo cn) (hok : cn.ok) (i : Nat) (hi : i < b.length) :
    Calls Try.prog 42 #[.pointer (some ⟨tb, 0, none⟩), .int .i64 (i : Int)] w fun e w' => e = .returned (.int .i64 ((b.getD i 0).toNat : Int)) ∧ Mo w' mo { cn with s := cn.s + 1 } ∧ Keeps (OnlyM mo) w w' := by
  have hlen := As.mk (mlen_calls w tb mo b h)
  have hk := As.mk (fun (w' : World) (k : Keeps (OnlyM mo) w w') => h.keep hm k)
  have hmo := As.mk hm
  obtain ⟨A, c, h1, h2, h3⟩ := h
  have c0 : w.cell? ⟨tb, 0, none⟩ = some (.pointer (madr mo)) := cell_of_blk h1 0
  have hlt := block_lt h1
  obtain ⟨s, l, hh, m⟩ := cn
  have hs1 : IntKind.i64.wrap (s + 1) = s + 1 := by have := hok.1; have := hok.2.1; simp only [IntKind.wrap, IntKind.signed, IntKind.bits] at *; simp; omega
  cases mo with
  | none =>
    have hB : Below w.heap.size w (w.alloc (.cells #[.int .i64 1, .int .i64 0, .int .i64 0, .int .i64 0] 41)) := (Below.refl _ _).alloc (Nat.le_refl _) _
    obtain ⟨ad, rfl, hc⟩ := Byt.at_ (Row.below h2 hB) hi
    have d1 := (hB.cell (p := ⟨tb, 1, none⟩) hlt).trans (cell_of_blk h1 1)
    unfold madr at c0
    simp only [Option.map_none, Option.map_some] at c0
    simp at d1
    generalize b.getD i 0 = x at *
    have hx : wrap64 (x.toNat : Int) = (x.toNat : Int) := by have := x.toNat_lt; unfold wrap64; omega
    generalize b.length = n at *
    clear h1 h2 h3 hk hmo hok
    go_enter Try.func42, Try.ntmps42
    go_wp2_with (first
      | (go_at_call 40; refine Calls.mono hlen.out ?_; rintro e w1 ⟨rfl, rfl⟩)
      | (go_at_call 66; refine Calls.mono (mcount_none _) ?_; rintro e w1 ⟨rfl, rfl⟩))
    go_ret
    exact ⟨ret_int hx, Mo.none_ _ _, Keeps.of_below hB _⟩
  | some g =>
    have hg := hmo.out g rfl
    have g0 : w.cell? ⟨g, 0, none⟩ = some (.int .i64 s) := cell_of_blk hg 0
    have f0 : w.frozen? ⟨g, 0, none⟩ = false := free_of_blk hg 0
    have hne : tb ≠ g := fun e => hmo.out.far h1 (.inl (by simp)) (by rw [e]; rfl)
    have hK : Keeps (OnlyM (some g)) w (w.setCell ⟨g, 0, none⟩ (.int .i64 (s + 1))) := (keepsSt w ⟨g, 0, none⟩ _).mono fun k _ e => by unfold OnlyM; exact congrArg some e.symm
    have hM : MtAt (w.setCell ⟨g, 0, none⟩ (.int .i64 (s + 1))) g ⟨s + 1, l, hh, m⟩ := by
      have := blk_set hg 0 (.int .i64 (s + 1))
      unfold MtAt
      rw [this]
      simp [cnCells]
    obtain ⟨A', c', k1, k2, _⟩ := hk.out _ hK
    have d1 : (w.setCell ⟨g, 0, none⟩ (.int .i64 (s + 1))).cell? ⟨tb, 1, none⟩ = some (.slice A' b.length c') := cell_of_blk k1 1
    obtain ⟨ad, rfl, hc⟩ := Byt.at_ k2 hi
    unfold madr at c0
    simp only [Option.map_none, Option.map_some] at c0
    generalize b.getD i 0 = x at *
    have hx : wrap64 (x.toNat : Int) = (x.toNat : Int) := by have := x.toNat_lt; unfold wrap64; omega
    generalize b.length = n at *
    replace hK := As.mk hK
    replace hM := As.mk hM
    clear h1 h2 h3 hk hmo hok k1 k2 hg
    go_enter Try.func42, Try.ntmps42
    go_wp2_with (first
      | (go_at_call 40; refine Calls.mono hlen.out ?_; rintro e w1 ⟨rfl, rfl⟩)
      | (go_at_call 66; refine Calls.mono (mcount_some _ _) ?_; rintro e w1 ⟨rfl, rfl⟩))
    go_ret
    exact ⟨ret_int hx, Mo.some_ hM.out, hK.out⟩
end Go.Proofs.Ytglalojbdlepfaa
end
