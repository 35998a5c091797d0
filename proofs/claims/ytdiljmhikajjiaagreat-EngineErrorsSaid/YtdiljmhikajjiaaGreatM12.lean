/- Joined texts: Engine3, Refx0, Refx1, Refx2, Refx3, Refx4, Refx5, Refx6, Refx, TrieRef, Texts, SparseFew, EngLaw, EngAwake. -/
import Derived.Test.YtdiljmhikajjiaaGreatM11
import Derived.Test.YtdiljmhikajjiaaGreatProg
import Derived.Below
import Derived.Deep.Draws
import Derived.Deep.AppendLies
import Derived.Maps.AppendAt
import Derived.OwnWalk
import Derived.Laws.BytesArg
import Derived.Laws.MakeOwn
import Derived.Laws.OwnMore
import Derived.Deep.OwnRows
import Derived.Tactics
import Derived.Lib.ConvBytes
import Derived.Laws.Slices
import Derived.WalkKit
import Derived.KernelRfl
import Derived.RowKit3
import Derived.Deep.LoopGhost
import Derived.Deep.QuietTactic
import Derived.BigQuiet
import Derived.WideLaws
import Derived.Deep.DeepCutAuto
import Derived.Deep.CutBlock
import Derived.Deep.RegionHeld3
import Derived.Laws.Rows
import Derived.Lib.AppendStr
import Derived.ArgAppend
import Derived.Laws.IdiomCopy
import Derived.OrdersHeld
import Derived.Laws.BitsLemmas
import Derived.RowKit
import Derived.Test.YtdiljmhikajjiaaGreatWWords
import Derived.Test.YtdiljmhikajjiaaGreatWLast
import Derived.Test.YtdiljmhikajjiaaGreatWQPut
import Derived.Test.YtdiljmhikajjiaaGreatWApart
import Derived.Test.YtdiljmhikajjiaaGreatWArr
import Derived.Test.YtdiljmhikajjiaaGreatWZeros
import Derived.Test.YtdiljmhikajjiaaGreatWFoot
import Derived.Test.YtdiljmhikajjiaaGreatWKept
import Derived.Test.YtdiljmhikajjiaaGreatWShare
import Derived.Test.YtdiljmhikajjiaaGreatWN
import Derived.Test.YtdiljmhikajjiaaGreatWEqStruct
import Derived.Test.YtdiljmhikajjiaaGreatWNEv
import Derived.Test.YtdiljmhikajjiaaGreatWMore
import Derived.Test.YtdiljmhikajjiaaGreatM2
import Derived.Test.YtdiljmhikajjiaaGreatM3
import Derived.Test.YtdiljmhikajjiaaGreatM5
import Derived.Lib.SlBytesConst
section
set_option linter.unusedVariables false
set_option linter.unusedSimpArgs false
namespace Go.Proofs.YtdiljmhikajjiaaGreat
open Go.RowKit Go.Maps Seine.Trie Seine.Eng Seine.Links Seine.Sparse
open Seine.Sort (sortP occ rise_occ occTo_len)
theorem meth_sparse (p : Option Addr) (w : World) : (Go.method (Tryz.prog.types.size + Made.depth) 68 (.pointer p) "Scan").run Tryz.prog w = .ok (122, .pointer p) w := by kernel_rfl
theorem meth_dfa (p : Option Addr) (w : World) : (Go.method (Tryz.prog.types.size + Made.depth) 70 (.pointer p) "Scan").run Tryz.prog w = .ok (133, .pointer p) w := by kernel_rfl
theorem meth_quiet (v : Value) (w : World) : (Go.method (Tryz.prog.types.size + Made.depth) 78 (.agg #[v]) "Scan").run Tryz.prog w = .ok (137, .agg #[v]) w := by kernel_rfl
theorem enter_sparse (args : Array Value) (w : World) : (callFunc 122 args).run Tryz.prog w = .ok (.enter 122 args) w := by kernel_rfl
theorem enter_dfa (args : Array Value) (w : World) : (callFunc 133 args).run Tryz.prog w = .ok (.enter 133 args) w := by kernel_rfl
theorem enter_quiet (args : Array Value) (w : World) : (callFunc 137 args).run Tryz.prog w = .ok (.enter 137 args) w := by kernel_rfl
theorem wpList_callR {P : Program} {ops : Array Oper} {rest : List Oper} {o : Oper} {a : Act} {Q : Exit → Act → World → Prop} {w : World} (hg : o.guard = none) {f : FuncId} {vals : Array Value} {R : Ending → World → Prop}
    (ho : (execOp a.eval o).run P w = .ok (.enter f vals) w) (hc : Calls P f vals w R) (h : ∀ e w', R e w' → ∃ v, e = .returned v ∧ wpList P ops Q rest (a.put o.dst v) w') : wpList P ops Q (o :: rest) a w := by
  refine wpList_plain hg fun K hK => ?_
  unfold Oper.wp
  rw [ho, Oper.upon_enter]
  refine hc.mono ?_
  intro e w' hr
  obtain ⟨v, rfl, hk⟩ := h e w' hr
  exact hK _ _ hk
theorem exec_invoke {P : Program} {o : Oper} {ρ : Operand → Value} {w : World} (r x y : Operand) (name : String) (ts : Array TypeId) (ho : o.op = .call { callee := .invoke r name, args := #[x, y], argTypes := ts }) (T : TypeId) (V : Value) (F : FuncId) (hr : ρ r = .iface T V)
    (hm : (Go.method (P.types.size + Made.depth) T V name).run P w = .ok (F, V) w) (he : ∀ args, (callFunc F args).run P w = .ok (.enter F args) w) : (execOp ρ o).run P w = .ok (.enter F #[V, ρ x, ρ y]) w := by
  unfold execOp
  simp [ho, resolve, invoke, callMethod, hr, hm, he, run_program]
/-- How many bytes are read, and how many are looked up. -/
def scanN (tag : Int) (l : List Txt) (L : Txt) : Nat := if pset l = [] ∨ 1 < tag then 0 else L.length
def lookN (tag : Int) (l : List Txt) (L : Txt) : Nat := if pset l = [] ∨ 1 < tag then 0 else if tag = 1 then L.length else looksTo (paths (pset l)) L L.length
theorem occ_nil (L : Txt) : occ [] L = [] := by
  refine Seine.Sort.rise_ext (rise_occ _ _) Seine.Sort.Rise.nil fun p => ?_
  rw [Seine.Sort.mem_occ]
  simp [Seine.Sort.Occ]
theorem ScanVal.below {w w' : World} {tag : Int} {ps : List Txt} {v : Value} (h3 : ScanVal w tag ps v) (hb : Below w.heap.size w w') : ScanVal w' tag ps v := by
  rcases h3 with ⟨e, g, h⟩ | ⟨e, e', g, h⟩ | ⟨e, t, g, ad, cb, a, s, sm, h⟩ | ⟨e, g, h⟩
  · exact .inl ⟨e, g, h.1, h.2.below hb⟩
  · exact .inr (.inl ⟨e, e', g, h.1, h.2.below hb⟩)
  · exact .inr (.inr (.inl ⟨e, t, g, ad, cb, a, s, sm, h.1, h.2.1, h.2.2.1, h.2.2.2.below hb⟩))
  · exact .inr (.inr (.inr ⟨e, g, h.1, h.2.below hb⟩))
/-- What any way's scan gives. -/
theorem scanner_calls (w : World) (tag : Int) (ps : List Txt) (sc : Value) (h : ScanVal w tag ps sc) (hs : ∀ t ∈ ps, t.length ≤ 60) (hl : ps.length ≤ 1000) (mo : Option Nat) (cn : Cn) (hm : Mo w mo cn) (hok : cn.room) (A : Option Addr) (c : Nat) (L : Txt) (hx : Byt w A L) (hL : L.length ≤ 900) :
    ∃ T V F, sc = .iface T V ∧ (∀ v, (Go.method (Tryz.prog.types.size + Made.depth) T V "Scan").run Tryz.prog v = .ok (F, V) v) ∧ (∀ args v, (callFunc F args).run Tryz.prog v = .ok (.enter F args) v) ∧ Calls Tryz.prog F #[V, .pointer (madr mo), .slice A L.length c] w (fun e w' => RetPrsM w mo (occ ps L) (cn.more (if 1 < tag then 0 else L.length) (if 1 < tag then 0 else if tag = 1 then L.length else looksTo (paths ps) L L.length)) e w' ∧ ScanVal w' tag ps sc) := by
  have hq : ∀ e w', RetPrs w (occ ps L) e w' → RetPrsM w mo (occ ps L) cn e w' := fun e w' hh => by
    obtain ⟨v, he, ho, hb⟩ := hh.out
    exact ⟨v, he, ho, hm.below hb, Keeps.of_below hb _⟩
  have hEM : EMs w (OnlyM mo) := fun b hb => ⟨_, _, _, onlyM_blk hm b hb, .inr rfl⟩
  have hsv := h
  have htot := short_tot' ps hs
  have hpl := paths_len ps
  have hsp : ∀ p ∈ paths ps, p.length ≤ 60 := fun p hp => by
    rcases ((paths_spec ps).2 p).1 hp with rfl | ⟨b, hb, k, hk, rfl⟩
    · simp
    · have := hs b hb; rw [List.length_take]; omega
  have htm : ∀ x, x ∈ ps → x ∈ paths ps := fun x hx => text_mem_paths hx
  rcases h with ⟨rfl, g, rfl, hA⟩ | ⟨rfl, h160, g, rfl, hA⟩ | ⟨rfl, t, g, ad, cb, a, s, sm, rfl, ht, rfl, hA⟩ | ⟨rfl, g, rfl, hA⟩
  · refine ⟨_, _, _, rfl, meth_sparse _, enter_sparse, ?_⟩
    have := sscan_calls w g (paths ps) ps hA mo cn hm hok (paths_tree ps) htm 60 hsp (by omega) (by omega) A c L hx (by omega) (by omega)
    rw [hits_occ (paths_tree ps) htm L] at this
    exact this.mono fun e w' hh => ⟨by simpa using hh, .inl ⟨rfl, g, rfl, by obtain ⟨_, _, _, _, hk⟩ := hh; exact hA.keepS hk hEM⟩⟩
  · refine ⟨_, _, _, rfl, meth_dfa _, enter_dfa, ?_⟩
    have := dscan_calls w g (paths ps) ps hA rfl h160 mo cn hm hok (paths_tree ps) htm 60 hsp (by omega) A c L hx (by omega) (by omega)
    rw [hits_occ (paths_tree ps) htm L] at this
    exact this.mono fun e w' hh => ⟨by simpa using hh, .inr (.inl ⟨rfl, h160, g, rfl, by obtain ⟨_, _, _, _, hk⟩ := hh; exact hA.keepS hk hEM⟩)⟩
  · refine ⟨_, _, _, rfl, meth_quiet _, enter_quiet, ?_⟩
    have htl := hs t (by simp)
    have := quiet_two w (some ⟨g, 0, none⟩) (.pointer (madr mo)) A L.length c (occ [t] L) (fun v hv => by
      have := scan_calls v g t ad cb a s sm (hA.below hv) (by omega) A c L (Row.below hx hv) (by omega)
      rw [occFrom_occ ht] at this; exact this)
    refine this.mono fun e w' hh => ?_
    have := hq e w' hh
    obtain ⟨_, _, _, hbb⟩ := hh.out
    exact ⟨by simpa [Cn.more_zero] using this, hsv.below hbb⟩
  · refine ⟨_, _, _, rfl, meth_quiet _, enter_quiet, ?_⟩
    have := quiet_cw w (some ⟨g, 0, none⟩) (.pointer (madr mo)) A L.length c (occ ps L) (fun v hv => cscan_calls v g ps (hA.below hv) hs hl A c L (Row.below hx hv) hL)
    refine this.mono fun e w' hh => ?_
    have := hq e w' hh
    obtain ⟨_, _, _, hbb⟩ := hh.out
    exact ⟨by simpa [Cn.more_zero] using this, hsv.below hbb⟩
theorem findF_len (l : List Txt) (L : Txt) : (findF l L).length ≤ L.length * L.length + L.length + 1 := by
  have h1 : (occ l L).length ≤ L.length * L.length := occTo_len l L L.length
  unfold findF
  split
  · have h2 := Seine.Sort.sortP_len (occ l L ++ empties (L.length + 1))
    rw [List.length_append, empties_length] at h2
    omega
  · omega
set_option maxRecDepth 100000 in
set_option maxHeartbeats 12800000 in
theorem efind_calls (w : World) (g : Nat) (tag : Int) (l : List Txt) (h : EngAt w g tag l) (hs : ∀ t ∈ l, t.length ≤ 60) (hll : l.length ≤ 1000) (mo : Option Nat) (cn : Cn) (hm : Mo w mo cn) (hok : cn.room) (A : Option Addr) (c : Nat) (L : Txt) (hx : Byt w A L) (hL : L.length ≤ 900) :
    Calls Tryz.prog 13 #[.pointer (some ⟨g, 0, none⟩), .pointer (madr mo), .slice A L.length c] w (fun e w' => RetPrsM w mo (findF l L) (cn.more (scanN tag l L) (lookN tag l L)) e w' ∧ EngAt w' g tag l) := by
  obtain ⟨base, x, y, z, sc, h1, h2, h3⟩ := h
  have hps60 : ∀ t ∈ pset l, t.length ≤ 60 := fun t ht => hs t (mem_pset.1 ht).1
  have hpl := pset_len l
  have cL := As.mk (pleast_calls w base _ l h2 (fun t ht => by have := hs t ht; omega) (by omega))
  have hEM : EMs w (OnlyM mo) := fun b hb => ⟨_, _, _, onlyM_blk hm b hb, .inr rfl⟩
  have hE9 := As.mk (fun (v : World) (hk : Keeps (OnlyM mo) w v) (hs : ScanVal v tag (pset l) sc) => (⟨base, x, y, z, sc, blk_keep h1 hk (hm.far h1 (.inl (by simp))), h2.keepS hk hEM, hs⟩ : EngAt v g tag l))
  have h3' := As.mk h3
  have cE := As.mk (fun (v : World) (hk : Keeps (OnlyM mo) w v) => pempty_calls v base _ l (h2.keepS hk hEM))
  have hgk := As.mk (fun (v : World) (hk : Keeps (OnlyM mo) w v) => blk_keep h1 hk (hm.far h1 (.inl (by simp))))
  have c1 : w.cell? ⟨g, 1, none⟩ = some x := cell_of_blk h1 1
  have c2 : w.cell? ⟨g, 2, none⟩ = some y := cell_of_blk h1 2
  have c3 : w.cell? ⟨g, 3, none⟩ = some z := cell_of_blk h1 3
  have hrM := As.mk (fun (v : World) (hk : Below w.heap.size w v) => Row.below hx hk)
  have hoc := occ_pset l L
  have hlp := fun (hne : pset l ≠ []) => leastP_pos hne (fun x hx => pset_ne hx)
  have hll2 := leastP_le (l := pset l) (m := 60) hps60
  have hol := occTo_len l L L.length
  have hon : (occ l L).length ≤ 900 * 900 := Nat.le_trans hol (Nat.mul_le_mul hL hL)
  obtain ⟨nL, hnL⟩ : ∃ k, L.length = k := ⟨_, rfl⟩
  by_cases hp : pset l = []
  · have hS : scanN tag l L = 0 := by unfold scanN; rw [if_pos (.inl hp)]
    have hK : lookN tag l L = 0 := by unfold lookN; rw [if_pos (.inl hp)]
    have hO : occ l L = [] := by rw [← hoc, hp]; exact occ_nil L
    have hl0 : leastP (pset l) = 0 := by rw [hp]; rfl
    rw [hl0] at cL
    rw [hS, hK, Cn.more_zero, hnL]
    rw [hnL] at hL
    by_cases hE : ([] : Txt) ∈ l
    · have hres : As (findF l L = sortP ([] ++ empties (nL + 1))) := ⟨by unfold findF; rw [if_pos hE, hO, hnL]⟩
      rw [show decide (([] : Txt) ∈ l) = true from decide_eq_true hE] at cE
      clear h2 h3 hx hs hps60 hlp hol hon hll2 hoc
      have hbe := As.mk hm
      go_enter Tryz.func13, Tryz.ntmps13
      go_wp2_with (go_at_call 33; refine Calls.mono cL.out ?_; rintro e w1 ⟨rfl, hb1⟩; have hk1 := As.mk (Keeps.of_below hb1 (OnlyM mo)); have hg1 := hgk.out _ hk1.out; have d1 : w1.cell? ⟨g, 1, none⟩ = some x := cell_of_blk hg1 1; have d2 : w1.cell? ⟨g, 2, none⟩ = some y := cell_of_blk hg1 2; have d3 : w1.cell? ⟨g, 3, none⟩ = some z := cell_of_blk hg1 3; replace hb1 := As.mk hb1; replace hg1 := As.mk hg1)
      refine Calls.mono (cE.out _ hk1.out) ?_
      rintro e w5 ⟨rfl, hb5⟩
      have hb15 := belowNext hb1.out hb5
      have hk5 := Keeps.of_below hb15 (OnlyM mo)
      have hm5 := hbe.out.below hb15
      have hrO : Prs w5 none [] := .inl rfl
      have hS5 := As.mk (h3'.out.below hb15)
      have hOn : ([] : List Seine.Sort.Pr).length = 0 := rfl
      have hcO : ([] : List Seine.Sort.Pr).length ≤ 0 := Nat.le_refl 0
      have hcOm : 0 ≤ maxLen := Nat.zero_le _
      have hOl : ([] : List Seine.Sort.Pr).length ≤ 1000000 := Nat.zero_le _
      have hL1 : nL ≤ 900 := hL
      have cE := As.mk (empt_calls w5 nL (by omega))
      go_wp2_with fail
      refine Calls.mono cE.out ?_
      intro e w6 h6
      obtain ⟨A6, c6, he6, hc6, hm6, hr6, hb6⟩ := h6.row2
      rw [empties_length] at he6 hc6
      subst he6
      have hro := As.mk (Row.below hrO hb6)
      have cMg := As.mk (by have := merge_calls w6 none 0 [] A6 c6 (empties (nL + 1)) hro.out hr6 hcO (by rw [empties_length]; exact hc6) hcOm hm6 hOl (by rw [empties_length]; omega); rw [empties_length, hOn] at this; exact this : Calls Tryz.prog 34 #[.slice none 0 0, .slice A6 (nL + 1) c6] w6 (RetPrs w6 (sortP ([] ++ empties (nL + 1)))))
      have hb56 := As.mk hb6
      clear hb6 hr6 h6
      obtain ⟨M, hM⟩ : ∃ M, sortP ([] ++ empties (nL + 1)) = M := ⟨_, rfl⟩
      rw [hM] at cMg
      replace hM := As.mk hM
      go_wp2_with fail
      refine Calls.mono cMg.out ?_
      intro e w7 h7
      obtain ⟨v7, he7, ho7, hb7⟩ := h7.out
      subst he7
      have hs5 := hk5.size
      have hs6 := hb56.out.size
      go_wp2_with fail
      go_ret
      have hk7 := (hk5.trans (Keeps.of_below hb56.out _)).trans (Keeps.of_below hb7 _)
      exact ⟨⟨v7, rfl, by rw [hres.out, hM.out]; exact own_base ho7 (by omega), (hm5.below hb56.out).below hb7, hk7⟩, hE9.out _ hk7 ((hS5.out.below hb56.out).below hb7)⟩
    · have hres : As (findF l L = []) := ⟨by unfold findF; rw [if_neg hE, hO]⟩
      rw [show decide (([] : Txt) ∈ l) = false from decide_eq_false hE] at cE
      clear h2 h3 hx hs hps60 hlp hol hon hll2 hoc
      have hbe := As.mk hm
      go_enter Tryz.func13, Tryz.ntmps13
      go_wp2_with (go_at_call 33; refine Calls.mono cL.out ?_; rintro e w1 ⟨rfl, hb1⟩; have hk1 := As.mk (Keeps.of_below hb1 (OnlyM mo)); have hg1 := hgk.out _ hk1.out; have d1 : w1.cell? ⟨g, 1, none⟩ = some x := cell_of_blk hg1 1; have d2 : w1.cell? ⟨g, 2, none⟩ = some y := cell_of_blk hg1 2; have d3 : w1.cell? ⟨g, 3, none⟩ = some z := cell_of_blk hg1 3; replace hb1 := As.mk hb1; replace hg1 := As.mk hg1)
      refine Calls.mono (cE.out _ hk1.out) ?_
      rintro e w5 ⟨rfl, hb5⟩
      have hb15 := As.mk (belowNext hb1.out hb5)
      clear hb5
      go_wp2_with fail
      go_ret
      exact ⟨⟨_, rfl, by rw [hres.out]; exact World.ownsRow_nil _ _ _ _, hbe.out.below hb15.out, Keeps.of_below hb15.out _⟩, hE9.out _ (Keeps.of_below hb15.out _) (h3'.out.below hb15.out)⟩
  · have hl0 := hlp hp
    obtain ⟨m, hmm⟩ : ∃ m, leastP (pset l) = m := ⟨_, rfl⟩
    rw [hmm] at cL hl0 hll2
    have hc0 : decide ((0 : Int) < (m : Int)) = true := decide_eq_true (by omega)
    have hc00 : decide (0 < m) = true := decide_eq_true (by omega)
    obtain ⟨sN, hsN⟩ : ∃ k, (if 1 < tag then 0 else L.length) = k := ⟨_, rfl⟩
    obtain ⟨lN, hlN⟩ : ∃ k, (if 1 < tag then 0 else if tag = 1 then L.length else looksTo (paths (pset l)) L L.length) = k := ⟨_, rfl⟩
    have hS : scanN tag l L = sN := by unfold scanN; simp only [hp, false_or]; exact hsN
    have hK : lookN tag l L = lN := by unfold lookN; simp only [hp, false_or]; exact hlN
    have hsc := As.mk (fun (v : World) (hv : Below w.heap.size w v) => scanner_calls v tag (pset l) sc (h3.below hv) hps60 (by omega) mo cn (hm.below hv) hok A c L (hrM.out v hv) hL)
    rw [hoc, hsN, hlN, hnL] at hsc
    rw [hS, hK, hnL]
    rw [hnL] at hL
    replace hmm := As.mk hmm
    replace hnL := As.mk hnL
    obtain ⟨O, hO⟩ : ∃ O, occ l L = O := ⟨_, rfl⟩
    rw [hO] at hsc hon
    have hOl : O.length ≤ 1000000 := by omega
    obtain ⟨nO, hOn⟩ : ∃ k, O.length = k := ⟨_, rfl⟩
    have hfin : findF l L = if ([] : Txt) ∈ l then sortP (O ++ empties (nL + 1)) else O := by unfold findF; rw [hO, hnL.out]
    obtain ⟨cn2, hcn2⟩ : ∃ k, cn.more sN lN = k := ⟨_, rfl⟩
    rw [hcn2] at hsc ⊢
    replace hO := As.mk hO
    replace hcn2 := As.mk hcn2
    clear h2 h3 hx hs hps60 hlp hol hon hll2 hoc hS hK hsN hlN hok
    by_cases hE : ([] : Txt) ∈ l
    · have hres : As (findF l L = sortP (O ++ empties (nL + 1))) := ⟨by rw [hfin, if_pos hE]⟩
      rw [show decide (([] : Txt) ∈ l) = true from decide_eq_true hE] at cE
      clear hfin
      go_enter Tryz.func13, Tryz.ntmps13
      go_wp2_with (first
        | (go_at_call 33; refine Calls.mono cL.out ?_; rintro e w1 ⟨rfl, hb1⟩; have hk1 := As.mk (Keeps.of_below hb1 (OnlyM mo)); have hg1 := hgk.out _ hk1.out; have d4 : w1.cell? ⟨g, 4, none⟩ = some sc := cell_of_blk hg1 4; obtain ⟨TT, VV, FF, hsv, hme', hen', hcl'⟩ := hsc.out _ hb1; rw [hsv] at d4; have hme := As.mk hme'; have hen := As.mk hen'; have hcl := As.mk hcl'; clear hme' hen' hcl' hsc hsv; replace hb1 := As.mk hb1; replace hg1 := As.mk hg1)
        | (refine wpList_callR (by rfl) (exec_invoke (.tmp 19) (.tmp 20) (.tmp 21) "Scan" _ rfl TT VV FF rfl (hme.out _) (fun args => hen.out args _)) hcl.out ?_
           intro e w4 h4
           obtain ⟨h4a, hS4'⟩ := h4
           have hS4 := As.mk hS4'
           obtain ⟨AO, cO, he4, hc4, hcOm, hr4', hm4', hk4', ho4'⟩ := h4a.out
           rw [hOn] at he4 hc4 ho4'
           refine ⟨_, he4, ?_⟩
           have hk14 := hk1.out.trans hk4'
           have hg4 := hgk.out _ hk14
           have m1 : w4.cell? ⟨g, 1, none⟩ = some x := cell_of_blk hg4 1
           have m2 : w4.cell? ⟨g, 2, none⟩ = some y := cell_of_blk hg4 2
           have m3 : w4.cell? ⟨g, 3, none⟩ = some z := cell_of_blk hg4 3
           have hk4 := As.mk hk14
           have hm4 := As.mk hm4'
           have hr4 := As.mk hr4'
           have ho4 := As.mk ho4'
           replace hg4 := As.mk hg4
           clear hk14 hk4' hm4' hr4' ho4' h4a hS4'))
      refine Calls.mono (cE.out _ hk4.out) ?_
      rintro e w5 ⟨rfl, hb5⟩
      have hS5 := As.mk (hS4.out.below hb5)
      have hk5 := hk4.out.trans (Keeps.of_below hb5 _)
      have hm5 := hm4.out.below hb5
      have hrO : Prs w5 AO O := Row.below hr4.out hb5
      have hcO : O.length ≤ cO := by rw [hOn]; exact hc4
      have hOn' := As.mk hOn
      have hL1 : nL ≤ 900 := hL
      have cE := As.mk (empt_calls w5 nL (by omega))
      go_wp2_with fail
      refine Calls.mono cE.out ?_
      intro e w6 h6
      obtain ⟨A6, c6, he6, hc6, hm6, hr6, hb6⟩ := h6.row2
      rw [empties_length] at he6 hc6
      subst he6
      have hro := As.mk (Row.below hrO hb6)
      have cMg := As.mk (by have := merge_calls w6 AO cO O A6 c6 (empties (nL + 1)) hro.out hr6 hcO (by rw [empties_length]; exact hc6) hcOm hm6 hOl (by rw [empties_length]; omega); rw [empties_length, hOn] at this; exact this : Calls Tryz.prog 34 #[.slice AO nO cO, .slice A6 (nL + 1) c6] w6 (RetPrs w6 (sortP (O ++ empties (nL + 1)))))
      have hb56 := As.mk hb6
      clear hb6 hr6 h6
      obtain ⟨M, hM⟩ : ∃ M, sortP (O ++ empties (nL + 1)) = M := ⟨_, rfl⟩
      rw [hM] at cMg
      replace hM := As.mk hM
      go_wp2_with fail
      refine Calls.mono cMg.out ?_
      intro e w7 h7
      obtain ⟨v7, he7, ho7, hb7⟩ := h7.out
      subst he7
      have hs5 := hk5.size
      have hs6 := hb56.out.size
      go_wp2_with fail
      go_ret
      have hk7 := (hk5.trans (Keeps.of_below hb56.out _)).trans (Keeps.of_below hb7 _)
      exact ⟨⟨v7, rfl, by rw [hres.out, hM.out]; exact own_base ho7 (by omega), (hm5.below hb56.out).below hb7, hk7⟩, hE9.out _ hk7 ((hS5.out.below hb56.out).below hb7)⟩
    · have hres : As (findF l L = O) := ⟨by rw [hfin, if_neg hE]⟩
      rw [show decide (([] : Txt) ∈ l) = false from decide_eq_false hE] at cE
      clear hfin
      go_enter Tryz.func13, Tryz.ntmps13
      go_wp2_with (first
        | (go_at_call 33; refine Calls.mono cL.out ?_; rintro e w1 ⟨rfl, hb1⟩; have hk1 := As.mk (Keeps.of_below hb1 (OnlyM mo)); have hg1 := hgk.out _ hk1.out; have d4 : w1.cell? ⟨g, 4, none⟩ = some sc := cell_of_blk hg1 4; obtain ⟨TT, VV, FF, hsv, hme', hen', hcl'⟩ := hsc.out _ hb1; rw [hsv] at d4; have hme := As.mk hme'; have hen := As.mk hen'; have hcl := As.mk hcl'; clear hme' hen' hcl' hsc hsv; replace hb1 := As.mk hb1; replace hg1 := As.mk hg1)
        | (refine wpList_callR (by rfl) (exec_invoke (.tmp 19) (.tmp 20) (.tmp 21) "Scan" _ rfl TT VV FF rfl (hme.out _) (fun args => hen.out args _)) hcl.out ?_
           intro e w4 h4
           obtain ⟨h4a, hS4'⟩ := h4
           have hS4 := As.mk hS4'
           obtain ⟨AO, cO, he4, hc4, hcOm, hr4', hm4', hk4', ho4'⟩ := h4a.out
           rw [hOn] at he4 hc4 ho4'
           refine ⟨_, he4, ?_⟩
           have hk14 := hk1.out.trans hk4'
           have hg4 := hgk.out _ hk14
           have m1 : w4.cell? ⟨g, 1, none⟩ = some x := cell_of_blk hg4 1
           have m2 : w4.cell? ⟨g, 2, none⟩ = some y := cell_of_blk hg4 2
           have m3 : w4.cell? ⟨g, 3, none⟩ = some z := cell_of_blk hg4 3
           have hk4 := As.mk hk14
           have hm4 := As.mk hm4'
           have hr4 := As.mk hr4'
           have ho4 := As.mk ho4'
           replace hg4 := As.mk hg4
           clear hk14 hk4' hm4' hr4' ho4' h4a hS4'))
      refine Calls.mono (cE.out _ hk4.out) ?_
      rintro e w5 ⟨rfl, hb5⟩
      have hk5 := As.mk (hk4.out.trans (Keeps.of_below hb5 _))
      have hm5 := As.mk (hm4.out.below hb5)
      have ho5 := As.mk (own_below ho4.out hb5)
      have hS5 := As.mk (hS4.out.below hb5)
      clear hb5
      go_wp2_with fail
      go_ret
      have hs1 := hb1.out.size
      have ho6 : OwnPrs w5 w.heap.size (.slice AO nO cO) O := own_base ho5.out hs1
      exact ⟨⟨.slice AO nO cO, rfl, hres.out.symm ▸ ho6, hm5.out, hk5.out⟩, hE9.out _ hk5.out hS5.out⟩
end Go.Proofs.YtdiljmhikajjiaaGreat
end
section
namespace Go.Proofs.YtdiljmhikajjiaaGreat.Ref
open Go.RowKit Go.Proofs.YtdiljmhikajjiaaGreatW.PrintWords Go.Proofs.YtdiljmhikajjiaaGreatW.PrintLast Go.Proofs.YtdiljmhikajjiaaGreatW.PrintMore
attribute [local go_sem] max2_int min2_int max_two min_two max_three min_three max_four min_four   -- for this text's walks alone
set_option linter.unusedVariables false
set_option linter.unusedSimpArgs false
def errW : Option Int → Value
  | none => .nilIface
  | some c => .iface 0 (.int .i64 c)
theorem errW_none : errW none = .nilIface := rfl
theorem errW_some (c : Int) : errW (some c) = .iface 0 (.int .i64 c) := rfl
theorem info9 : (Tryz.prog.info? 9).map (fun i => (i.zero, i.size, i.bytes)) = some (some (.string ⟨#[]⟩), 1, 16) := by kernel_rfl
def rd_L4 (xs : List (List Int)) (i : Int) : (List Int) := xs.getD i.toNat ([] : List Int)
theorem at_L4 {w : World} {A : Option Addr} {n : Nat} {xs : List (List Int)} (h : Kd.C (Kd.slice 5 (Kd.int .u8)) w A n xs) (i : Int) (h0 : 0 ≤ i) (h1 : i < n) : ∃ ad A0 c0, A = some ad ∧ w.cell? (ad.add i.toNat) = some (.slice A0 (rd_L4 xs i).length c0) ∧ (rd_L4 xs i).length ≤ c0 ∧ (Kd.int .u8).C w A0 (rd_L4 xs i).length (rd_L4 xs i) := by
  obtain ⟨ad, c, e, _, hK, hc0⟩ := Kd.C_get h ([] : List Int) i h0 h1
  have hc : ∀ j u, c[j]? = some u → w.cell? (ad.add (i.toNat * 1 + j)) = some u := hc0
  obtain ⟨A0, c0, rfl, l0, g0⟩ := hK
  exact ⟨ad, A0, c0, e, by have hq := hc 0 _ rfl; rwa [Nat.mul_one, Nat.add_zero] at hq, l0, g0⟩
end Go.Proofs.YtdiljmhikajjiaaGreat.Ref
end
section
namespace Go.Proofs.YtdiljmhikajjiaaGreat.Ref
open Go.RowKit Go.Proofs.YtdiljmhikajjiaaGreatW.PrintWords Go.Proofs.YtdiljmhikajjiaaGreatW.PrintLast Go.Proofs.YtdiljmhikajjiaaGreatW.PrintMore
attribute [local go_sem] max2_int min2_int max_two min_two max_three min_three max_four min_four   -- for this text's walks alone
set_option linter.unusedVariables false
set_option linter.unusedSimpArgs false
theorem eqA57 (d : Nat) (w : World) (x0 y0 : Int) (x1 y1 : Int) :
    (Op.equalIn (d + 2) 57 (.agg #[.int .i64 x0, .int .i64 x1]) (.agg #[.int .i64 y0, .int .i64 y1])).run Tryz.prog w = .ok (x0 == y0 && (x1 == y1)) w := by
  refine eqA_of Tryz.underlying57 (by kernel_rfl) ?_
  refine eqf_cons (by rfl) (by go_simp; rfl) (by go_simp; rfl) (by go_simp) ?_
  exact eqf_last (by rfl) (by go_simp; rfl) (by go_simp; rfl) (by go_simp)
end Go.Proofs.YtdiljmhikajjiaaGreat.Ref
end
section
namespace Go.Proofs.YtdiljmhikajjiaaGreat.Ref
open Go.RowKit Go.Proofs.YtdiljmhikajjiaaGreatW.PrintWords Go.Proofs.YtdiljmhikajjiaaGreatW.PrintLast Go.Proofs.YtdiljmhikajjiaaGreatW.PrintMore
attribute [local go_sem] max2_int min2_int max_two min_two max_three min_three max_four min_four   -- for this text's walks alone
set_option linter.unusedVariables false
set_option linter.unusedSimpArgs false
attribute [local go_sem high] eqA57
end Go.Proofs.YtdiljmhikajjiaaGreat.Ref
end
section
namespace Go.Proofs.YtdiljmhikajjiaaGreat.Ref
open Go.RowKit Go.Proofs.YtdiljmhikajjiaaGreatW.PrintWords Go.Proofs.YtdiljmhikajjiaaGreatW.PrintLast Go.Proofs.YtdiljmhikajjiaaGreatW.PrintMore
attribute [local go_sem] max2_int min2_int max_two min_two max_three min_three max_four min_four   -- for this text's walks alone
set_option linter.unusedVariables false
set_option linter.unusedSimpArgs false
attribute [local go_sem high] eqA57
end Go.Proofs.YtdiljmhikajjiaaGreat.Ref
end
section
namespace Go.Proofs.YtdiljmhikajjiaaGreat.Ref
open Go.RowKit Go.Proofs.YtdiljmhikajjiaaGreatW.PrintWords Go.Proofs.YtdiljmhikajjiaaGreatW.PrintLast Go.Proofs.YtdiljmhikajjiaaGreatW.PrintMore
attribute [local go_sem] max2_int min2_int max_two min_two max_three min_three max_four min_four   -- for this text's walks alone
set_option linter.unusedVariables false
set_option linter.unusedSimpArgs false
end Go.Proofs.YtdiljmhikajjiaaGreat.Ref
end
section
namespace Go.Proofs.YtdiljmhikajjiaaGreat.Ref
open Go.RowKit Go.Proofs.YtdiljmhikajjiaaGreatW.PrintWords Go.Proofs.YtdiljmhikajjiaaGreatW.PrintLast Go.Proofs.YtdiljmhikajjiaaGreatW.PrintMore
attribute [local go_sem] max2_int min2_int max_two min_two max_three min_three max_four min_four   -- for this text's walks alone
set_option linter.unusedVariables false
set_option linter.unusedSimpArgs false
end Go.Proofs.YtdiljmhikajjiaaGreat.Ref
end
section
namespace Go.Proofs.YtdiljmhikajjiaaGreat.Ref
open Go.RowKit Go.Proofs.YtdiljmhikajjiaaGreatW.PrintWords Go.Proofs.YtdiljmhikajjiaaGreatW.PrintLast Go.Proofs.YtdiljmhikajjiaaGreatW.PrintMore
attribute [local go_sem] max2_int min2_int max_two min_two max_three min_three max_four min_four   -- for this text's walks alone
set_option linter.unusedVariables false
set_option linter.unusedSimpArgs false
def seinelaw17_texts.l0 : Nat → List (List Int) → List ByteArray → Int → Option (List ByteArray × Bool)
  | 0, _, _, _ => none
  | k + 1, x0, x4, x5 => if x5 < (x0.length : Int) then (if 0 ≤ x5 then (if ((rd_L4 x0 x5).length : Int) > 40 then (some (([] : List ByteArray), false)) else (if x4.length < 8796093022208 then (seinelaw17_texts.l0 k x0 (x4 ++ [strOfNums (rd_L4 x0 x5)]) (wrap64 (x5 + 1))) else (none))) else (none)) else (some (x4, decide ((x0.length : Int) ≤ 12)))
def seinelaw17_texts.f (k : Nat) (l0 : List (List Int)) : Option (List ByteArray × Bool) := seinelaw17_texts.l0 k l0 ([] : List ByteArray) 0
theorem seinelaw17_texts.mono_l : ∀ k, (∀ y0 y1 y2, LeO (seinelaw17_texts.l0 k y0 y1 y2) (seinelaw17_texts.l0 (k + 1) y0 y1 y2))
  | 0 => fun _ _ _ r h => by simp [seinelaw17_texts.l0] at h
  | k + 1 => by
    have ih0 := seinelaw17_texts.mono_l k
    · intro y0 y1 y2
      unfold seinelaw17_texts.l0
      repeat' first
      | (with_reducible exact ih0 _ _ _)
      | (with_reducible exact LeO.refl _)
      | (with_reducible exact LeO.none _)
      | (with_reducible refine LeO.ite ?_ ?_)
      | (with_reducible refine LeO.bind ?_ (fun _ => ?_))
      | exact ih0 _ _ _
      | exact LeO.none _
      | refine LeO.ite ?_ ?_
      | refine LeO.bind ?_ (fun _ => ?_)
theorem seinelaw17_texts.mono : ∀ a0 k, LeO (seinelaw17_texts.f k a0) (seinelaw17_texts.f (k + 1) a0) := by
  intro a0 k
  have ih0 := seinelaw17_texts.mono_l k
  unfold seinelaw17_texts.f
  repeat' first
      | (with_reducible exact ih0 _ _ _)
      | (with_reducible exact LeO.refl _)
      | (with_reducible exact LeO.none _)
      | (with_reducible refine LeO.ite ?_ ?_)
      | (with_reducible refine LeO.bind ?_ (fun _ => ?_))
      | exact ih0 _ _ _
      | exact LeO.none _
      | refine LeO.ite ?_ ?_
      | refine LeO.bind ?_ (fun _ => ?_)
set_option maxHeartbeats 8000000 in
set_option maxRecDepth 100000 in
theorem seinelaw17_texts.calls (k : Nat) (A0 : Option Addr) (c0 : Nat) (l0 : List (List Int)) (r1 : List ByteArray) (r2 : Bool) (w : World) (hr0 : Kd.C (Kd.slice 5 (Kd.int .u8)) w A0 l0.length l0) (hc0 : l0.length ≤ c0) (h : seinelaw17_texts.f k l0 = some (r1, r2)) :
    Calls Tryz.prog 9 #[.slice A0 l0.length c0] w fun e w' => ∃ v0_ : Value, e = .returned (.tuple #[v0_, .bool r2]) ∧ Kd.R Kd.string 9 w' w.heap.size (fun _ => True) v0_ r1 ∧ Below w.heap.size w w' := by
  have HR0 := Aside0.mk hr0
  have HC0 := Aside0.mk hc0
  clear hr0 hc0
  have HB := Aside0.mk (Below.refl w.heap.size w)
  have H : (seinelaw17_texts.l0 k l0 ([] : List ByteArray) 0) = some (r1, r2) := h
  clear h
  have H' := Aside0.mk H
  clear H
  go_enter Tryz.func9, Tryz.ntmps9
  go_wp2
  go_loopg [4, 5] k (fun kq v4 v5 w' => ∃ (x4_1 : List ByteArray) (x5_1 : Int), v5 = .int .i64 x5_1 ∧ Aside0 (seinelaw17_texts.l0 kq l0 x4_1 x5_1 = some (r1, r2)) ∧ Aside0 (kq ≤ k) ∧ Aside0 (Kd.R Kd.string 9 w' w.heap.size (fun _ => True) v4 x4_1) ∧ Aside0 (Below w.heap.size w w'))
  case atStart => exact ⟨(([] : List ByteArray)), (0), (by first | rfl | (simp; done) | (simp [*]; done)), H', ⟨Nat.le_refl _⟩, ⟨by first | exact Kd.R_nil _ _ _ _ _ | exact Kd.N_nil _ _ _ _ _ | exact Kd.V_nil _ _ _ _ _ | exact Kd.Q_nil _ _ _ _ _ | exact Kd.S_nil _ _ _ _ _⟩, ⟨by repeat (first | (with_reducible first | exact HB.out | apply below_alloc | apply pw_below_drewN | apply below_drew1) | exact HB.out)⟩⟩
  case round =>
    clear H'
    obtain ⟨x4_1, x5_1, rfl, HA, HK1, HO_4, HB⟩ := hrel
    cases gk with
    | zero => exact absurd HA.out (by simp [seinelaw17_texts.l0])
    | succ k1 =>
      have H := HA.out
      clear HA
      simp only [seinelaw17_texts.l0] at H
      by_cases c2 : x5_1 < (l0.length : Int)
      · rw [if_pos c2] at H
        have c2b0 : decide (x5_1 < (l0.length : Int)) = true := decide_eq_true c2
        clear c2
        by_cases c3 : 0 ≤ x5_1
        · rw [if_pos c3] at H
          have c3b0 : decide (0 ≤ x5_1) = true := decide_eq_true c3
          clear c3
          by_cases c4 : ((rd_L4 l0 x5_1).length : Int) > 40
          · rw [if_pos c4] at H
            have c4b0 : decide (40 < ((rd_L4 l0 x5_1).length : Int)) = true := decide_eq_true c4
            have c4b1 : decide (40 < (rd_L4 l0 x5_1).length) = true := decide_eq_true (by omega)
            clear c4
            simp only [Option.some.injEq, Prod.mk.injEq] at H
            obtain ⟨rfl, rfl⟩ := H
            have p179 : 0 ≤ (x5_1 : Int) := of_decide_eq_true (by first | (with_reducible assumption) | assumption)
            have q179 : x5_1 < (l0.length : Int) := of_decide_eq_true (by first | (with_reducible assumption) | assumption)
            obtain ⟨ad179, A179_0, c179_0, e179, hx179_0, hl179_0, hi179_0⟩ := at_L4 HR0.out x5_1 p179 q179
            cases e179
            replace hx179_0 := (HB.out.cell (World.block_lt_of_cell? w _ hx179_0)).trans hx179_0
            have HR179_0 := Aside0.mk hi179_0
            have HC179_0 := Aside0.mk hl179_0
            clear hi179_0 hl179_0
            replace p179 := eq_true p179
            replace q179 := eq_true q179
            go_wp2
            go_ret2
            exact ⟨_, by first | rfl | (simp [errW_none, errW_some] <;> rfl) | (simp [*, errW_none, errW_some] <;> rfl), by first | exact Kd.R_nil _ _ _ _ _ | exact Kd.N_nil _ _ _ _ _ | exact Kd.V_nil _ _ _ _ _ | exact Kd.Q_nil _ _ _ _ _ | exact Kd.S_nil _ _ _ _ _, by repeat (first | (with_reducible first | exact HB.out | apply below_alloc | apply pw_below_drewN | apply below_drew1) | exact HB.out)⟩
          · rw [if_neg c4] at H
            have c4b0 : decide (40 < ((rd_L4 l0 x5_1).length : Int)) = false := decide_eq_false c4
            have c4b1 : decide (40 < (rd_L4 l0 x5_1).length) = false := decide_eq_false (by omega)
            clear c4
            by_cases c5 : x4_1.length < 8796093022208
            · rw [if_pos c5] at H
              have LMc5 := Aside0.mk c5
              clear c5
              obtain ⟨y181, hy181⟩ : ∃ y_ : List ByteArray, y_ = (x4_1 ++ [strOfNums (rd_L4 l0 x5_1)]) := ⟨_, rfl⟩
              replace H : (seinelaw17_texts.l0 k1 l0 y181 (wrap64 (x5_1 + 1))) = some (r1, r2) := by first | (rw [hy181]; with_reducible exact H) | (have H2_ := (Option.bind_some _ _).symm.trans H; rw [hy181]; with_reducible exact H2_) | (have H2_ := (Option.bind_some _ _).symm.trans H; with_reducible exact H2_) | with_reducible exact H | (rw [hy181]; exact H) | exact H
              have Ny181 := Aside0.mk hy181
              clear hy181
              have H' := Aside0.mk H
              clear H
              have p179 : 0 ≤ (x5_1 : Int) := of_decide_eq_true (by first | (with_reducible assumption) | assumption)
              have q179 : x5_1 < (l0.length : Int) := of_decide_eq_true (by first | (with_reducible assumption) | assumption)
              obtain ⟨ad179, A179_0, c179_0, e179, hx179_0, hl179_0, hi179_0⟩ := at_L4 HR0.out x5_1 p179 q179
              cases e179
              replace hx179_0 := (HB.out.cell (World.block_lt_of_cell? w _ hx179_0)).trans hx179_0
              have HR179_0 := Aside0.mk hi179_0
              have HC179_0 := Aside0.mk hl179_0
              clear hi179_0 hl179_0
              replace p179 := eq_true p179
              replace q179 := eq_true q179
              have p180 : 0 ≤ (x5_1 : Int) := of_decide_eq_true (by first | (with_reducible assumption) | assumption)
              have q180 : x5_1 < (l0.length : Int) := of_decide_eq_true (by first | (with_reducible assumption) | assumption)
              obtain ⟨ad180, A180_0, c180_0, e180, hx180_0, hl180_0, hi180_0⟩ := at_L4 HR0.out x5_1 p180 q180
              obtain rfl : ad179 = ad180 := (by injection e180)
              replace hx180_0 := (HB.out.cell (World.block_lt_of_cell? w _ hx180_0)).trans hx180_0
              have HR180_0 := Aside0.mk hi180_0
              have HC180_0 := Aside0.mk hl180_0
              clear hi180_0 hl180_0
              replace p180 := eq_true p180
              replace q180 := eq_true q180
              have ea_ := Option.some.inj (hx179_0.symm.trans hx180_0)
              injection ea_ with ea_ en_ ec_
              subst ea_
              subst ec_
              clear en_
              have hcv6 := Kd.C_string (P := Tryz.prog) (A := A179_0) (c := c179_0) Tryz.underlying23 Tryz.underlying5 Tryz.underlying9 (Kd.C_below HR180_0.out HB.out)
              go_wp2_with (first | ((with_reducible refine gate_builtin (b := .append) (xs := #[.tmp 18, .tmp 24]) rfl ?_); at_builtin; refine Kd.R_append Kd.string (w0 := w) w.heap.size rfl (.tmp 18) (.tmp 24) 25 9 (.string ⟨#[]⟩) 16 rfl Tryz.underlying25 info9 rfl (by decide) (by omega) u4 x4_1 (strOfNums (rd_L4 l0 x5_1)) [.string (strOfNums (rd_L4 l0 x5_1))] (fun _ => True) (fun _ => False) rfl rfl ?aP (fun _ hk => hk.elim) ?aF ?aO ?aB ?aS ?aL ?_; (case aP => exact rfl); (case aB => exact (by repeat (first | (with_reducible first | exact HB.out | apply below_alloc | apply pw_below_drewN | apply below_drew1) | exact HB.out))); (case aF => exact (fun _ _ => trivial)); (case aO => exact (by (with_reducible repeat (first | apply Kd.R_alloc | apply Kd.R_drewN | apply Kd.R_drew)); exact HO_4.out)); (case aS => exact (below_size (by repeat (first | (with_reducible first | exact HB.out | apply below_alloc | apply pw_below_drewN | apply below_drew1) | exact HB.out)))); (case aL => have := LMc5.out; omega); intro v182 w7 ho hb hg hat; rw [← Ny181.out] at ho; have n0_ := Aside0.mk (hb); have n1_ := Aside0.mk (ho); clear HB; clear HO_4; have HB := n0_; have HO183 := n1_; clear n0_ n1_; clear ho hb hg hat))
              go_roundg k1
              case measure => have := HK1.out; omega
              case rel => exact ⟨(y181), (wrap64 (x5_1 + 1)), (by first | rfl | (simp; done) | (simp [*]; done)), H', ⟨by have := HK1.out; omega⟩, ⟨by (with_reducible repeat (first | apply Kd.R_alloc | apply Kd.R_drewN | apply Kd.R_drew)); exact HO183.out⟩, ⟨by repeat (first | (with_reducible first | exact HB.out | apply below_alloc | apply pw_below_drewN | apply below_drew1) | exact HB.out)⟩⟩
            · rw [if_neg c5] at H
              exact absurd H (by simp)
        · rw [if_neg c3] at H
          exact absurd H (by simp)
      · rw [if_neg c2] at H
        have c2b0 : decide (x5_1 < (l0.length : Int)) = false := decide_eq_false c2
        clear c2
        simp only [Option.some.injEq, Prod.mk.injEq] at H
        obtain ⟨rfl, rfl⟩ := H
        go_wp2
        go_ret2
        exact ⟨_, by first | rfl | (simp [errW_none, errW_some] <;> rfl) | (simp [*, errW_none, errW_some] <;> rfl), by (with_reducible repeat (first | apply Kd.R_alloc | apply Kd.R_drewN | apply Kd.R_drew)); exact HO_4.out, by repeat (first | (with_reducible first | exact HB.out | apply below_alloc | apply pw_below_drewN | apply below_drew1) | exact HB.out)⟩
end Go.Proofs.YtdiljmhikajjiaaGreat.Ref
end
section
namespace Go.Proofs.YtdiljmhikajjiaaGreat.Ref
open Go.RowKit Go.Proofs.YtdiljmhikajjiaaGreatW.PrintWords Go.Proofs.YtdiljmhikajjiaaGreatW.PrintLast Go.Proofs.YtdiljmhikajjiaaGreatW.PrintMore
attribute [local go_sem] max2_int min2_int max_two min_two max_three min_three max_four min_four   -- for this text's walks alone
set_option linter.unusedVariables false
set_option linter.unusedSimpArgs false
end Go.Proofs.YtdiljmhikajjiaaGreat.Ref
end
section
set_option linter.unusedVariables false
set_option linter.unusedSimpArgs false
namespace Go.Proofs.YtdiljmhikajjiaaGreat
open Go.RowKit Seine.Trie Seine.Links Go.Proofs.YtdiljmhikajjiaaGreatW.PrintWords Go.Proofs.YtdiljmhikajjiaaGreat.Ref
theorem kdTxts {w : World} {A : Option Addr} {l : List Txt} (h : Txts w A l) (hl : l.length ≤ 9223372036854775807) (ht : ∀ x ∈ l, x.length ≤ 9223372036854775807) : Kd.C (Kd.slice 5 (Kd.int .u8)) w A l.length (l.map nb) := by
  refine ⟨by simp, hl, fun h0 => ?_⟩
  obtain ⟨ad0, A0, c0, e0, _⟩ := h.at_ h0
  refine ⟨ad0, e0, fun j p hp => ?_⟩
  have hj : j < l.length := by
    have := (List.getElem?_eq_some_iff.1 hp).1
    simpa using this
  obtain ⟨ad, A', c', e1, h1, h2, h3⟩ := h.at_ hj
  rw [e0] at e1; injection e1 with e1; subst e1
  have hp' : p = nb (l.getD j []) := by
    rw [List.getElem?_map, List.getElem?_eq_getElem hj] at hp
    injection hp with hp
    rw [← hp]; simp [List.getD_eq_getElem?_getD, hj]
  subst hp'
  have hlen : (l.getD j []).length ≤ 9223372036854775807 := ht _ (by rw [List.getD_eq_getElem?_getD, List.getElem?_eq_getElem hj]; exact List.getElem_mem _)
  refine ⟨[.slice A' (nb (l.getD j [])).length c'], rfl, ⟨A', c', rfl, by rw [nb_length]; exact h2, by rw [nb_length]; exact kdU8 h3 hlen⟩, fun i u hu => ?_⟩
  have hi : i = 0 := by
    have := (List.getElem?_eq_some_iff.1 hu).1
    simpa using this
  subst hi
  injection hu with hu
  subst hu
  have e : (Kd.slice 5 (Kd.int .u8)).sz = 1 := rfl
  rw [e, Nat.mul_one, Nat.add_zero, nb_length]
  exact h1
/-- A row of texts, as strings. -/
structure KdS (w : World) (A : Option Addr) (l : List Txt) : Prop where
  row : Kd.C Kd.string w A (l.map bb).length (l.map bb)
theorem KdS.below {w w' : World} {A : Option Addr} {l : List Txt} (h : KdS w A l) (hb : Below w.heap.size w w') : KdS w' A l := ⟨Kd.C_below h.row hb⟩
theorem KdS.at_ {w : World} {A : Option Addr} {l : List Txt} (h : KdS w A l) {i : Nat} (hi : i < l.length) : ∃ ad, A = some ad ∧ w.cell? (ad.add i) = some (.string (bb (l.getD i []))) := by
  obtain ⟨ad, e, hc⟩ := Kd.at_string h.row (i : Int) (by omega) (by rw [List.length_map]; omega)
  rw [rdOf_bb l i hi, Int.toNat_natCast] at hc
  exact ⟨ad, e, hc⟩
theorem KdS.of_R {w : World} {base e : Nat} {ok : Nat → Prop} {v : Value} {l : List Txt} (h : Kd.R Kd.string e w base ok v (l.map bb)) : ∃ A c, v = .slice A l.length c ∧ l.length ≤ c ∧ KdS w A l := by
  obtain ⟨A, c, hv, hc, hr⟩ := Kd.R_reads h
  rw [List.length_map] at hv hc
  exact ⟨A, c, hv, hc, ⟨hr⟩⟩
end Go.Proofs.YtdiljmhikajjiaaGreat
end
section
set_option linter.unusedVariables false
set_option linter.unusedSimpArgs false
namespace Go.Proofs.YtdiljmhikajjiaaGreat
open Go.RowKit Seine.Trie Go.Proofs.YtdiljmhikajjiaaGreatW.PrintWords Go.Proofs.YtdiljmhikajjiaaGreat.Ref
theorem refTexts (l : List Txt) (hl : l.length ≤ 6000000000000) : Evl (fun k => seinelaw17_texts.f k (l.map nb)) (if ∀ x ∈ l, x.length ≤ 40 then (l.map bb, decide (l.length ≤ 12)) else ([], false)) := by
  have key : ∀ (d i : Nat), i + d = l.length → Evl (fun k => seinelaw17_texts.l0 k (l.map nb) ((l.take i).map bb) (i : Int)) (if ∀ x ∈ l.drop i, x.length ≤ 40 then (l.map bb, decide (l.length ≤ 12)) else ([], false)) := by
    intro d
    induction d with
    | zero =>
      intro i h
      refine ⟨1, fun k hk => ?_⟩
      obtain ⟨q, rfl⟩ : ∃ q, k = q + 1 := ⟨k - 1, by omega⟩
      simp only [seinelaw17_texts.l0, List.length_map]
      rw [if_neg (by omega), List.drop_eq_nil_of_le (by omega), if_pos (by simp), List.take_of_length_le (by omega)]
      congr 2
      rw [decide_eq_decide]; omega
    | succ d ih =>
      intro i h
      have hi : i < l.length := by omega
      have hdr : l.drop i = l.getD i [] :: l.drop (i + 1) := by
        rw [List.drop_eq_getElem_cons hi]; simp [List.getD_eq_getElem?_getD, hi]
      have hrd : (l.map nb).getD (i : Int).toNat [] = nb (l.getD i []) := by
        rw [Int.toNat_natCast]; simp [List.getD_eq_getElem?_getD, hi]
      by_cases h40 : (l.getD i []).length ≤ 40
      · have hc : (∀ x ∈ l.drop i, x.length ≤ 40) ↔ ∀ x ∈ l.drop (i + 1), x.length ≤ 40 := by
          rw [hdr]; simp only [List.mem_cons, forall_eq_or_imp]
          exact ⟨fun h => h.2, fun h => ⟨h40, h⟩⟩
        simp only [hc]
        refine (ih (i + 1) (by omega)).step fun k => ?_
        simp only [seinelaw17_texts.l0, List.length_map]
        rw [if_pos (by omega), if_pos (by omega), if_neg (by show ¬ ((((l.map nb).getD (i : Int).toNat []).length : Nat) : Int) > 40; rw [hrd, nb_length]; omega), if_pos (by rw [List.length_take]; omega), w64 (by omega) (by omega)]
        show seinelaw17_texts.l0 k _ (_ ++ [strOfNums ((l.map nb).getD (i : Int).toNat [])]) _ = _
        rw [hrd, bb_nums, take_snoc_txt l i hi, List.map_append]
        rfl
      · have hc : ¬ ∀ x ∈ l.drop i, x.length ≤ 40 := by
          rw [hdr]; intro hx; exact h40 (hx _ (by simp))
        rw [if_neg hc]
        refine ⟨1, fun k hk => ?_⟩
        obtain ⟨q, rfl⟩ : ∃ q, k = q + 1 := ⟨k - 1, by omega⟩
        simp only [seinelaw17_texts.l0, List.length_map]
        rw [if_pos (by omega), if_pos (by omega), if_pos (by show ((((l.map nb).getD (i : Int).toNat []).length : Nat) : Int) > 40; rw [hrd, nb_length]; omega)]
  have := key l.length 0 (by omega)
  rw [List.drop_zero] at this
  exact this
theorem texts_calls (w : World) (A : Option Addr) (c : Nat) (l : List Txt) (hx : Txts w A l) (hc : l.length ≤ c) (hr : c * 24 ≤ 140737488351232) (hm : ∀ x ∈ l, x.length ≤ maxLen) :
    Calls Tryz.prog 9 #[.slice A l.length c] w fun e w' => (∃ A' c' b, e = .returned (.tuple #[.slice A' (if b then l.length else 0) c', .bool (b && decide (l.length ≤ 12))]) ∧ (b = decide (∀ x ∈ l, x.length ≤ 40)) ∧ (b = true → l.length ≤ c' ∧ KdS w' A' l)) ∧ Below w.heap.size w w' := by
  obtain ⟨k, hk⟩ := (refTexts l (by omega)).get
  have hkd := kdTxts hx (by omega) (fun x h => by have := hm x h; unfold maxLen at this; omega)
  by_cases h40 : ∀ x ∈ l, x.length ≤ 40
  · rw [if_pos h40] at hk
    have := seinelaw17_texts.calls k A c (l.map nb) (l.map bb) (decide (l.length ≤ 12)) w (by rw [List.length_map]; exact hkd) (by rw [List.length_map]; exact hc) hk
    rw [List.length_map] at this
    refine this.mono ?_
    rintro e w' ⟨v, rfl, hR, hb⟩
    obtain ⟨A', c', rfl, hc', hS⟩ := KdS.of_R hR
    exact ⟨⟨A', c', true, by simp, (decide_eq_true h40).symm, fun _ => ⟨hc', hS⟩⟩, hb⟩
  · rw [if_neg h40] at hk
    have := seinelaw17_texts.calls k A c (l.map nb) [] false w (by rw [List.length_map]; exact hkd) (by rw [List.length_map]; exact hc) hk
    rw [List.length_map] at this
    refine this.mono ?_
    rintro e w' ⟨v, rfl, hR, hb⟩
    obtain ⟨A', c', rfl, hc', hS⟩ := KdS.of_R (l := []) hR
    exact ⟨⟨A', c', false, by simp, (decide_eq_false h40).symm, fun h => by cases h⟩, hb⟩
/-- Of few short texts. -/
structure Few (l : List Txt) : Prop where
  len : l.length ≤ 12
  short : ∀ x ∈ l, x.length ≤ 40
theorem Few.tot {l : List Txt} (h : Few l) : tot l ≤ 480 := by
  have : ∀ l : List Txt, (∀ x ∈ l, x.length ≤ 40) → Go.Proofs.YtdiljmhikajjiaaGreat.tot l ≤ 40 * l.length := by
    intro l
    induction l with
    | nil => intro _; simp [Go.Proofs.YtdiljmhikajjiaaGreat.tot]
    | cons x l ih =>
      intro h
      have h1 := h x (by simp)
      have h2 := ih fun y hy => h y (by simp [hy])
      simp only [Go.Proofs.YtdiljmhikajjiaaGreat.tot, List.map_cons, List.sum_cons, List.length_cons] at h2 ⊢
      omega
  have h1 := this l h.short
  have h2 := h.len
  omega
theorem Few.paths_len {l : List Txt} (h : Few l) : (paths l).length ≤ 481 := by have := Go.Proofs.YtdiljmhikajjiaaGreat.paths_len l; have := h.tot; omega
theorem Byt.take {w : World} {A : Option Addr} {b : Txt} (h : Byt w A b) (k : Nat) : Byt w A (b.take k) := by
  rcases h with h | ⟨ad, e, hlt, hc⟩
  · have : b = [] := by have := congrArg List.length h; rw [byCells_length] at this; exact List.eq_nil_of_length_eq_zero this
    subst this
    exact .inl (by simp [byCells])
  · refine .inr ⟨ad, e, hlt, fun j u hu => hc j u ?_⟩
    unfold byCells at hu ⊢
    rw [List.map_take, List.getElem?_take] at hu
    split at hu
    · exact hu
    · cases hu
end Go.Proofs.YtdiljmhikajjiaaGreat
end
section
set_option linter.unusedVariables false
set_option linter.unusedSimpArgs false
namespace Go.Proofs.YtdiljmhikajjiaaGreat
open Go.RowKit Go.Maps Seine.Trie Seine.Links Seine.Sparse
open Seine.Sort (sortP occ mem_occ Occ)
theorem RetPrsM.plain {w w' : World} {xs : List Pr} {cn : Cn} {e : Ending} (h : RetPrsM w none xs cn e w') : RetPrs w xs e w' := by
  obtain ⟨v, he, ho, _, hk⟩ := h
  exact ⟨v, he, ho, hk.below (fun k _ hS => by cases hS) (Nat.le_refl _)⟩
theorem Cn.zero_room : Cn.zero.room := by unfold Cn.room Cn.zero; decide
end Go.Proofs.YtdiljmhikajjiaaGreat
end
section
set_option linter.unusedVariables false
set_option linter.unusedSimpArgs false
namespace Go.Proofs.YtdiljmhikajjiaaGreat
open Go.RowKit Go.Maps Seine.Trie Seine.Eng Seine.Sparse
theorem u8_byte {a : Int} (h : (Lit.int .u8 a).wf = true) : ∃ c : UInt8, a = (c.toNat : Int) := by
  exact ⟨_, (u8_in h).symm⟩
theorem eis_calls (w : World) (tag : Int) : Calls Tryz.prog 17 #[.int .i64 tag] w fun e w' => e = .returned (.bool (decide (0 ≤ tag ∧ tag ≤ 3))) ∧ w = w' := by
  by_cases h0 : 0 ≤ tag
  · have e0 : decide (0 ≤ tag) = true := decide_eq_true h0
    by_cases h1 : tag < 4
    · have e1 : decide (tag < 4) = true := decide_eq_true h1
      rw [decide_eq_true (by omega : 0 ≤ tag ∧ tag ≤ 3)]
      go_enter Tryz.func17, Tryz.ntmps17
      go_wp2
      go_ret
      exact ⟨rfl, rfl⟩
    · have e1 : decide (tag < 4) = false := decide_eq_false h1
      rw [decide_eq_false (by omega : ¬ (0 ≤ tag ∧ tag ≤ 3))]
      go_enter Tryz.func17, Tryz.ntmps17
      go_wp2
      go_ret
      exact ⟨rfl, rfl⟩
  · have e0 : decide (0 ≤ tag) = false := decide_eq_false h0
    rw [decide_eq_false (by omega : ¬ (0 ≤ tag ∧ tag ≤ 3))]
    go_enter Tryz.func17, Tryz.ntmps17
    go_wp2
    go_ret
    exact ⟨rfl, rfl⟩
theorem etag_calls (w : World) (g : Nat) (tag : Int) (l : List Txt) (h : EngAt w g tag l) : Calls Tryz.prog 20 #[.pointer (some ⟨g, 0, none⟩)] w fun e w' => e = .returned (.int .i64 tag) ∧ w = w' := by
  obtain ⟨base, x, y, z, sc, h1, _, _⟩ := h
  have c0 : w.cell? ⟨g, 0, none⟩ = some (.int .i64 tag) := cell_of_blk h1 0
  clear h1
  go_enter Tryz.func20, Tryz.ntmps20
  go_wp2
  go_ret
  exact ⟨rfl, rfl⟩
theorem enew_yes (w : World) (tag : Int) (V : Value) (base : Nat) (l : List Txt) (h : PsAt w base V l) (hs : ∀ t ∈ l, t.length ≤ 60) (hll : l.length ≤ 1000) (hw : wrongF tag l = 0) :
    Calls Tryz.prog 11 #[.int .i64 tag, V] w fun e w' => ∃ g, e = .returned (.tuple #[.pointer (some ⟨g, 0, none⟩), .int .i64 0]) ∧ EngAt w' g tag l ∧ Below w.heap.size w w' :=
  (enew_calls w tag V base l h hs hll).mono fun e w' hh => by
    rw [if_pos hw] at hh
    obtain ⟨⟨g, h1, h2⟩, h3⟩ := hh
    exact ⟨g, h1, h2, h3⟩
theorem enew_no (w : World) (tag : Int) (V : Value) (base : Nat) (l : List Txt) (h : PsAt w base V l) (hs : ∀ t ∈ l, t.length ≤ 60) (hll : l.length ≤ 1000) (hw : ¬ wrongF tag l = 0) :
    Calls Tryz.prog 11 #[.int .i64 tag, V] w fun e w' => e = .returned (.tuple #[.pointer none, .int .i64 (wrongF tag l)]) ∧ Below w.heap.size w w' :=
  (enew_calls w tag V base l h hs hll).mono fun e w' hh => by
    rw [if_neg hw] at hh
    exact hh
theorem efind0_calls (w : World) (g : Nat) (tag : Int) (l : List Txt) (h : EngAt w g tag l) (hs : ∀ t ∈ l, t.length ≤ 60) (hll : l.length ≤ 1000) (A : Option Addr) (c : Nat) (L : Txt) (hx : Byt w A L) (hL : L.length ≤ 900) :
    Calls Tryz.prog 13 #[.pointer (some ⟨g, 0, none⟩), .pointer none, .slice A L.length c] w (RetPrs w (findF l L)) :=
  (efind_calls w g tag l h hs hll none Cn.zero (Mo.none_ _ _) Cn.zero_room A c L hx hL).mono fun _ _ h => h.1.plain
end Go.Proofs.YtdiljmhikajjiaaGreat
end
section
set_option linter.unusedVariables false
set_option linter.unusedSimpArgs false
namespace Go.Proofs.YtdiljmhikajjiaaGreat
open Go.RowKit Go.Maps Seine.Trie Seine.Eng
open Seine.Sort (sortP)
theorem eqCn (d : Nat) (w : World) (x0 x1 x2 x3 y0 y1 y2 y3 : Int) :
    (Op.equalIn (d + 2) 49 (.agg #[.int .i64 x0, .int .i64 x1, .int .i64 x2, .int .i64 x3]) (.agg #[.int .i64 y0, .int .i64 y1, .int .i64 y2, .int .i64 y3])).run Tryz.prog w = .ok (x0 == y0 && (x1 == y1 && (x2 == y2 && (x3 == y3)))) w := by
  have h := field_eq (P := Tryz.prog) (d := d + 1) (w := w) (xs := #[.int .i64 x0, .int .i64 x1, .int .i64 x2, .int .i64 x3]) (ys := #[.int .i64 y0, .int .i64 y1, .int .i64 y2, .int .i64 y3]) (f := ⟨"Scan", 3, 0, false, "", "", 0⟩) (by decide) (by go_simp; rfl) (by go_simp; rfl) (by go_simp; rfl)
    (field_eq (f := ⟨"Look", 3, 1, false, "", "", 8⟩) (by decide) (by go_simp; rfl) (by go_simp; rfl) (by go_simp; rfl)
      (field_eq (f := ⟨"Hunt", 3, 2, false, "", "", 16⟩) (by decide) (by go_simp; rfl) (by go_simp; rfl) (by go_simp; rfl)
        (field_eq (f := ⟨"Move", 3, 3, false, "", "", 24⟩) (by decide) (by go_simp; rfl) (by go_simp; rfl) (by go_simp; rfl) fields_none)))
  rw [Bool.and_true] at h
  exact struct_eq Tryz.underlying49 (by kernel_rfl) h
attribute [local go_sem high] eqCn
theorem txtsOf {w : World} {b t : Nat} {vs : List Value} {l : List Txt} {fr : Nat × Nat} (h : w.heap[b]? = some (.cells vs.toArray t fr)) (hl : vs.length = l.length) (hv : ∀ i, i < l.length → ∃ A' c', vs[i]? = some (.slice A' (l.getD i []).length c') ∧ (l.getD i []).length ≤ c' ∧ Byt w A' (l.getD i [])) : Txts w (some ⟨b, 0, none⟩) l := ⟨vs, hl, rowOfBlk h, hv⟩
theorem PsAt.open_ {w : World} {base : Nat} {V : Value} {l : List Txt} (h : PsAt w base V l) : ∃ A c mb, V = .agg #[.slice A (pset l).length c, .map (some mb), .bool (decide ([] ∈ l))] := by
  obtain ⟨v, mb, n, f, rfl, h2, _, _⟩ := h
  obtain ⟨A, c, rfl, hc, ht⟩ := h2.txts
  exact ⟨A, c, mb, rfl⟩
def exE : List Txt := [[97, 98], []]
theorem exE_w3 : wrongF 3 exE = 0 := by decide
theorem exE_w2 : wrongF 2 exE = 13 := by decide
theorem exE_w4 : wrongF 4 exE = 11 := by decide
theorem exE_f : findF exE [97, 98] = [(0, 0), (0, 2), (1, 1), (2, 2)] := by decide
set_option maxRecDepth 100000 in
set_option maxHeartbeats 3200000 in
theorem awake_calls (w : World) : Calls Tryz.prog 8 #[] w fun e w' => e = .returned (.bool true) ∧ Below w.heap.size w w' := by
  have kc : ∀ (W : World) (C : Array Value) (n c b : Nat), b = W.heap.size → (convert 23 23 (.slice (some ⟨b, 0, none⟩) n c)).run Tryz.prog (W.alloc (.cells C 5)) = .ok (.slice (some ⟨b, 0, none⟩) n c) (W.alloc (.cells C 5 (C.size, C.size + 1))) := fun W C n c b h => by
    subst h; exact Lib.run_convert_bytes_const (P := Tryz.prog) W 23 5 C n c Tryz.underlying23 Tryz.underlying5
  have hw0 := Below.refl w.heap.size w
  go_enter Tryz.func8, Tryz.ntmps8
  go_wp2_with fail
  refine Calls.mono (pof_calls _ _ 2 exE ?tx (by decide) (by decide)) ?_
  case tx =>
    refine txtsOf (vs := [.slice (some ⟨w.heap.size, 0, none⟩) 2 2, .slice none 0 0]) (by (repeat (first | (with_reducible assumption) | (with_reducible exact heap_alloc_new _ _) | (exact heapNewAt (by (first | omega | (simp only [World.size_alloc, World.size_drew]; done) | (simp only [World.size_alloc, World.size_drew]; omega)))) | (with_reducible refine blkDrew ?_) | (with_reducible refine blk_old ?_) | (refine blkBelow (by with_reducible assumption) ?_)))) rfl (fun i hi => ?_)
    match i, hi with
    | 0, _ => exact ⟨_, 2, rfl, by decide, litByt [97, 98] [.int .u8 97, .int .u8 98] rfl (by (repeat (first | (with_reducible assumption) | (with_reducible exact heap_alloc_new _ _) | (exact heapNewAt (by (first | omega | (simp only [World.size_alloc, World.size_drew]; done) | (simp only [World.size_alloc, World.size_drew]; omega)))) | (with_reducible refine blkDrew ?_) | (with_reducible refine blk_old ?_) | (refine blkBelow (by with_reducible assumption) ?_))))⟩
    | 1, _ => exact ⟨_, 0, rfl, by decide, .inl rfl⟩
  rintro e w1 ⟨V, rfl, hP, hb1⟩
  obtain ⟨A1, c1, mb, rfl⟩ := hP.open_
  have hw1 : Below w.heap.size w w1 := by (repeat (first | (with_reducible assumption) | (with_reducible exact Below.refl _ _) | (with_reducible refine Below.drew ?_) | (with_reducible refine below_drewN ?_ _) | (with_reducible refine Below.alloc ?_ (by (first | omega | (simp only [World.size_alloc, World.size_drew]; done) | (simp only [World.size_alloc, World.size_drew]; omega))) _) | (refine Below.trans ?_ (Below.mono (by with_reducible assumption) (by (first | omega | (simp only [World.size_alloc, World.size_drew]; done) | (simp only [World.size_alloc, World.size_drew]; omega)))))))
  rw [show (pset exE).length = 1 from rfl, show decide (([] : Txt) ∈ exE) = true from rfl] at hP ⊢
  have hz1 := heap_alloc_new w1 (.cells #[.slice A1 1 c1, .map (some mb), .bool true] 30)
  have hPs := As.mk (hP.below ((Below.refl _ _).alloc (Nat.le_refl _) (.cells #[.slice A1 1 c1, .map (some mb), .bool true] 30)))
  have hBs : Below w1.heap.size w1 (w1.alloc (.cells #[.slice A1 1 c1, .map (some mb), .bool true] 30)) := (Below.refl _ _).alloc (Nat.le_refl _) _
  obtain ⟨b1, hb1e⟩ : ∃ g, w1.heap.size = g := ⟨_, rfl⟩
  obtain ⟨W1, hW1⟩ : ∃ W, w1.alloc (.cells #[.slice A1 1 c1, .map (some mb), .bool true] 30) = W := ⟨_, rfl⟩
  rw [hb1e] at hz1
  rw [hW1] at hz1 hPs hBs
  have q0 : ∀ v, Below W1.heap.size W1 v → v.cell? ⟨b1, 0, none⟩ = some (.slice A1 1 c1) := fun v hv => cell_of_blk (blkBelow hv hz1) 0
  have q1 : ∀ v, Below W1.heap.size W1 v → v.cell? ⟨b1, 1, none⟩ = some (.map (some mb)) := fun v hv => cell_of_blk (blkBelow hv hz1) 1
  have q2 : ∀ v, Below W1.heap.size W1 v → v.cell? ⟨b1, 2, none⟩ = some (.bool true) := fun v hv => cell_of_blk (blkBelow hv hz1) 2
  have hWr : Below W1.heap.size W1 W1 := Below.refl _ _
  replace hz1 := As.mk hz1
  clear hP
  have hBW := As.mk (belowNext hw1 hBs)
  have cW := As.mk (fun (v : World) (hv : Below W1.heap.size W1 v) => enew_yes v 3 _ _ exE (hPs.out.below hv) (by decide) (by decide) exE_w3)
  have cT := As.mk (fun (v : World) (hv : Below W1.heap.size W1 v) => (by have := enew_no v 2 _ _ exE (hPs.out.below hv) (by decide) (by decide) (by rw [exE_w2]; decide); rw [exE_w2] at this; exact this : Calls Tryz.prog 11 #[.int .i64 2, .agg #[.slice A1 1 c1, .map (some mb), .bool true]] v fun e w' => e = .returned (.tuple #[.pointer none, .int .i64 13]) ∧ Below v.heap.size v w'))
  have cF := As.mk (fun (v : World) (hv : Below W1.heap.size W1 v) => (by have := enew_no v 4 _ _ exE (hPs.out.below hv) (by decide) (by decide) (by rw [exE_w4]; decide); rw [exE_w4] at this; exact this : Calls Tryz.prog 11 #[.int .i64 4, .agg #[.slice A1 1 c1, .map (some mb), .bool true]] v fun e w' => e = .returned (.tuple #[.pointer none, .int .i64 11]) ∧ Below v.heap.size v w'))
  clear hb1 hw1 hBs hw0
  go_wp2_with (first | (rw [hW1]) | (rw [hb1e]))
  refine Calls.mono (cW.out _ hWr) ?_
  rintro e w2 ⟨g, rfl, hE, hb2⟩
  have hk2 : Below W1.heap.size W1 w2 := hb2
  replace hE := As.mk hE
  go_wp2_with fail
  refine Calls.mono (cT.out _ hk2) ?_
  rintro e w3 ⟨rfl, hb3⟩
  have hk3 : Below W1.heap.size W1 w3 := belowNext hk2 hb3
  replace hE := As.mk (hE.out.below hb3)
  go_wp2_with fail
  refine Calls.mono (cF.out _ hk3) ?_
  rintro e w4 ⟨rfl, hb4⟩
  have hk4 : Below W1.heap.size W1 w4 := belowNext hk3 hb4
  replace hE := As.mk (hE.out.below hb4)
  clear hb2 hb3 hb4 hk2 hk3 cW cT cF
  go_wp2_with fail
  have hBa : Below w4.heap.size w4 (w4.alloc (.cells #[.int .u8 97, .int .u8 98] 5 (2, 3))) := (Below.refl _ _).alloc (Nat.le_refl _) _
  refine Calls.mono (efind0_calls _ g 3 exE (hE.out.below hBa) (by decide) (by decide) _ 2 [97, 98] (litByt [97, 98] [.int .u8 97, .int .u8 98] rfl (by (repeat (first | (with_reducible assumption) | (with_reducible exact heap_alloc_new _ _) | (exact heapNewAt (by (first | omega | (simp only [World.size_alloc, World.size_drew]; done) | (simp only [World.size_alloc, World.size_drew]; omega)))) | (with_reducible refine blkDrew ?_) | (with_reducible refine blk_old ?_) | (refine blkBelow (by with_reducible assumption) ?_))))) (by decide)) ?_
  intro e w5 h5
  rw [exE_f] at h5
  obtain ⟨A5, c5, he5, hc5, hr5, hb5⟩ := h5.row
  rw [show List.length [((0 : Int), (0 : Int)), (0, 2), (1, 1), (2, 2)] = 4 from rfl] at he5 hc5
  subst he5
  have hb45 : Below w4.heap.size w4 w5 := hBa.trans (hb5.mono hBa.size)
  have hE5 := As.mk ((hE.out.below hBa).below hb5)
  have hB5 := As.mk (belowNext hBW.out (belowNext hk4 hb45))
  have hr5' := As.mk hr5
  clear hE hb5 hb45 hBa hk4 hr5 h5
  have cTag := As.mk (fun (v : World) (hv : Below w5.heap.size w5 v) => etag_calls v g 3 exE (hE5.out.below hv))
  have cI3 := As.mk (eis_calls w5 3)
  have cIm := As.mk (eis_calls w5 (-1))
  rw [show decide ((0 : Int) ≤ 3 ∧ (3 : Int) ≤ 3) = true from rfl] at cI3
  rw [show decide ((0 : Int) ≤ -1 ∧ (-1 : Int) ≤ 3) = false from rfl] at cIm
  go_wp2_with (first
    | (go_at_call 17; with_reducible refine Calls.mono cI3.out ?_; rintro e w' ⟨rfl, rfl⟩)
    | (go_at_call 17; with_reducible refine Calls.mono cIm.out ?_; rintro e w' ⟨rfl, rfl⟩)
    | (go_at_call 20; refine Calls.mono (cTag.out _ (Below.refl _ _)) ?_; rintro e w' ⟨rfl, rfl⟩))
  refine Calls.mono (same_calls _ _ _ _ [(0, 0), (0, 2), (1, 1), (2, 2)] [(0, 0), (0, 2), (1, 1), (2, 2)] _ ?p1 ?p2 (by decide) (by decide)) ?_
  case p1 => exact Row.below hr5'.out ((Below.refl _ _).alloc (Nat.le_refl _) _)
  case p2 => exact rowOfBlk (by (repeat (first | (with_reducible assumption) | (with_reducible exact heap_alloc_new _ _) | (exact heapNewAt (by (first | omega | (simp only [World.size_alloc, World.size_drew]; done) | (simp only [World.size_alloc, World.size_drew]; omega)))) | (with_reducible refine blkDrew ?_) | (with_reducible refine blk_old ?_) | (refine blkBelow (by with_reducible assumption) ?_))))
  rintro e w8 ⟨rfl, n1, rfl⟩
  rw [show decide ([((0 : Int), (0 : Int)), (0, 2), (1, 1), (2, 2)] = [(0, 0), (0, 2), (1, 1), (2, 2)]) = true by decide]
  go_wp2_with fail
  go_ret
  exact ⟨rfl, below_drewN (hB5.out.alloc hB5.out.size _) _⟩
end Go.Proofs.YtdiljmhikajjiaaGreat
end
