/- Joined texts: Engine3. -/
import Derived.Test.YtdiljmhikajjiaaGreatM13
set_option linter.unusedVariables false
set_option linter.unusedSimpArgs false
section
namespace Go.Proofs.YtdiljmhikajjiaaGreat
open Go.RowKit Go.Maps Seine.Trie Seine.Eng Seine.Links Seine.Sparse
open Seine.Sort (sortP occ rise_occ occTo_len)
theorem meth_sparse (p : Option Addr) (w : World) : (Go.method (Tryz.prog.types.size + Made.depth) 68 (.pointer p) "Scan").run Tryz.prog w = .ok (122, .pointer p) w := by kernel_rfl
theorem meth_dfa (p : Option Addr) (w : World) : (Go.method (Tryz.prog.types.size + Made.depth) 70 (.pointer p) "Scan").run Tryz.prog w = .ok (133, .pointer p) w := by kernel_rfl
theorem meth_quiet (v : Value) (w : World) : (Go.method (Tryz.prog.types.size + Made.depth) 78 (.agg #[v]) "Scan").run Tryz.prog w = .ok (137, .agg #[v]) w := by kernel_rfl
theorem enter_sparse (args : Array Value) (w : World) : (callFunc 122 args).run Tryz.prog w = .ok (.enter 122 args) w := by kernel_rfl
theorem enter_dfa (args : Array Value) (w : World) : (callFunc 133 args).run Tryz.prog w = .ok (.enter 133 args) w := by kernel_rfl
theorem enter_quiet (args : Array Value) (w : World) : (callFunc 137 args).run Tryz.prog w = .ok (.enter 137 args) w := by kernel_rfl
theorem wpList_callR {P : Program} {ops : Array Oper} {rest : List Oper} {o : Oper} {a : Act} {Q : Exit → Act → World → Prop} {w : World} (hg : o.guard = none) {f : FuncId} {vals : Array Value} {R : Ending → World → Prop}
    (ho : (execOp a.eval o).run P w = .ok (.enter f vals) w) (hc : Calls P f vals w R) (h : ∀ e w', R e w' → ∃ v, e = .returned v ∧ wpList P ops Q rest (a.put o.dst v) w') : wpList P ops Q (o :: rest) a w := by
  refine wpList_plain hg fun K hK => ?_
  unfold Oper.wp
  rw [ho, Oper.upon_enter]
  refine hc.mono ?_
  intro e w' hr
  obtain ⟨v, rfl, hk⟩ := h e w' hr
  exact hK _ _ hk
theorem exec_invoke {P : Program} {o : Oper} {ρ : Operand → Value} {w : World} (r x y : Operand) (name : String) (ts : Array TypeId) (ho : o.op = .call { callee := .invoke r name, args := #[x, y], argTypes := ts }) (T : TypeId) (V : Value) (F : FuncId) (hr : ρ r = .iface T V)
    (hm : (Go.method (P.types.size + Made.depth) T V name).run P w = .ok (F, V) w) (he : ∀ args, (callFunc F args).run P w = .ok (.enter F args) w) : (execOp ρ o).run P w = .ok (.enter F #[V, ρ x, ρ y]) w := by
  unfold execOp
  simp [ho, resolve, invoke, callMethod, hr, hm, he, run_program]
/-- How many bytes are read, and how many are looked up. -/
def scanN (tag : Int) (l : List Txt) (L : Txt) : Nat := if pset l = [] ∨ 1 < tag then 0 else L.length
def lookN (tag : Int) (l : List Txt) (L : Txt) : Nat := if pset l = [] ∨ 1 < tag then 0 else if tag = 1 then L.length else looksTo (paths (pset l)) L L.length
theorem occ_nil (L : Txt) : occ [] L = [] := by
  refine Seine.Sort.rise_ext (rise_occ _ _) Seine.Sort.Rise.nil fun p => ?_
  rw [Seine.Sort.mem_occ]
  simp [Seine.Sort.Occ]
theorem ScanVal.below {w w' : World} {tag : Int} {ps : List Txt} {v : Value} (h3 : ScanVal w tag ps v) (hb : Below w.heap.size w w') : ScanVal w' tag ps v := by
  rcases h3 with ⟨e, g, h⟩ | ⟨e, e', g, h⟩ | ⟨e, t, g, ad, cb, a, s, sm, h⟩ | ⟨e, g, h⟩
  · exact .inl ⟨e, g, h.1, h.2.below hb⟩
  · exact .inr (.inl ⟨e, e', g, h.1, h.2.below hb⟩)
  · exact .inr (.inr (.inl ⟨e, t, g, ad, cb, a, s, sm, h.1, h.2.1, h.2.2.1, h.2.2.2.below hb⟩))
  · exact .inr (.inr (.inr ⟨e, g, h.1, h.2.below hb⟩))
/-- What any way's scan gives. -/
theorem scanner_calls (w : World) (tag : Int) (ps : List Txt) (sc : Value) (h : ScanVal w tag ps sc) (hs : ∀ t ∈ ps, t.length ≤ 60) (hl : ps.length ≤ 1000) (mo : Option Nat) (cn : Cn) (hm : Mo w mo cn) (hok : cn.room) (A : Option Addr) (c : Nat) (L : Txt) (hx : Byt w A L) (hL : L.length ≤ 900) :
    ∃ T V F, sc = .iface T V ∧ (∀ v, (Go.method (Tryz.prog.types.size + Made.depth) T V "Scan").run Tryz.prog v = .ok (F, V) v) ∧ (∀ args v, (callFunc F args).run Tryz.prog v = .ok (.enter F args) v) ∧ Calls Tryz.prog F #[V, .pointer (madr mo), .slice A L.length c] w (fun e w' => RetPrsM w mo (occ ps L) (cn.more (if 1 < tag then 0 else L.length) (if 1 < tag then 0 else if tag = 1 then L.length else looksTo (paths ps) L L.length)) e w' ∧ ScanVal w' tag ps sc) := by
  have hq : ∀ e w', RetPrs w (occ ps L) e w' → RetPrsM w mo (occ ps L) cn e w' := fun e w' hh => by
    obtain ⟨v, he, ho, hb⟩ := hh.out
    exact ⟨v, he, ho, hm.below hb, Keeps.of_below hb _⟩
  have hEM : EMs w (OnlyM mo) := fun b hb => ⟨_, _, _, onlyM_blk hm b hb, .inr rfl⟩
  have hsv := h
  have htot := short_tot' ps hs
  have hpl := paths_len ps
  have hsp : ∀ p ∈ paths ps, p.length ≤ 60 := fun p hp => by
    rcases ((paths_spec ps).2 p).1 hp with rfl | ⟨b, hb, k, hk, rfl⟩
    · simp
    · have := hs b hb; rw [List.length_take]; omega
  have htm : ∀ x, x ∈ ps → x ∈ paths ps := fun x hx => text_mem_paths hx
  rcases h with ⟨rfl, g, rfl, hA⟩ | ⟨rfl, h160, g, rfl, hA⟩ | ⟨rfl, t, g, ad, cb, a, s, sm, rfl, ht, rfl, hA⟩ | ⟨rfl, g, rfl, hA⟩
  · refine ⟨_, _, _, rfl, meth_sparse _, enter_sparse, ?_⟩
    have := sscan_calls w g (paths ps) ps hA mo cn hm hok (paths_tree ps) htm 60 hsp (by omega) (by omega) A c L hx (by omega) (by omega)
    rw [hits_occ (paths_tree ps) htm L] at this
    exact this.mono fun e w' hh => ⟨by simpa using hh, .inl ⟨rfl, g, rfl, by obtain ⟨_, _, _, _, hk⟩ := hh; exact hA.keepS hk hEM⟩⟩
  · refine ⟨_, _, _, rfl, meth_dfa _, enter_dfa, ?_⟩
    have := dscan_calls w g (paths ps) ps hA rfl h160 mo cn hm hok (paths_tree ps) htm 60 hsp (by omega) A c L hx (by omega) (by omega)
    rw [hits_occ (paths_tree ps) htm L] at this
    exact this.mono fun e w' hh => ⟨by simpa using hh, .inr (.inl ⟨rfl, h160, g, rfl, by obtain ⟨_, _, _, _, hk⟩ := hh; exact hA.keepS hk hEM⟩)⟩
  · refine ⟨_, _, _, rfl, meth_quiet _, enter_quiet, ?_⟩
    have htl := hs t (by simp)
    have := quiet_two w (some ⟨g, 0, none⟩) (.pointer (madr mo)) A L.length c (occ [t] L) (fun v hv => by
      have := scan_calls v g t ad cb a s sm (hA.below hv) (by omega) A c L (Row.below hx hv) (by omega)
      rw [occFrom_occ ht] at this; exact this)
    refine this.mono fun e w' hh => ?_
    have := hq e w' hh
    obtain ⟨_, _, _, hbb⟩ := hh.out
    exact ⟨by simpa [Cn.more_zero] using this, hsv.below hbb⟩
  · refine ⟨_, _, _, rfl, meth_quiet _, enter_quiet, ?_⟩
    have := quiet_cw w (some ⟨g, 0, none⟩) (.pointer (madr mo)) A L.length c (occ ps L) (fun v hv => cscan_calls v g ps (hA.below hv) hs hl A c L (Row.below hx hv) hL)
    refine this.mono fun e w' hh => ?_
    have := hq e w' hh
    obtain ⟨_, _, _, hbb⟩ := hh.out
    exact ⟨by simpa [Cn.more_zero] using this, hsv.below hbb⟩
theorem efind_none (w : World) (mv lv : Value) : Calls Tryz.prog 13 #[.pointer none, mv, lv] w fun e w' => e = .returned (.slice none 0 0) ∧ w = w' := by
  go_enter Tryz.func13, Tryz.ntmps13
  go_wp2
  go_ret
  exact ⟨rfl, rfl⟩
theorem findF_len (l : List Txt) (L : Txt) : (findF l L).length ≤ L.length * L.length + L.length + 1 := by
  have h1 : (occ l L).length ≤ L.length * L.length := occTo_len l L L.length
  unfold findF
  split
  · have h2 := Seine.Sort.sortP_len (occ l L ++ empties (L.length + 1))
    rw [List.length_append, empties_length] at h2
    omega
  · omega
set_option maxRecDepth 100000 in
set_option maxHeartbeats 12800000 in
theorem efind_calls (w : World) (g : Nat) (tag : Int) (l : List Txt) (h : EngAt w g tag l) (hs : ∀ t ∈ l, t.length ≤ 60) (hll : l.length ≤ 1000) (mo : Option Nat) (cn : Cn) (hm : Mo w mo cn) (hok : cn.room) (A : Option Addr) (c : Nat) (L : Txt) (hx : Byt w A L) (hL : L.length ≤ 900) :
    Calls Tryz.prog 13 #[.pointer (some ⟨g, 0, none⟩), .pointer (madr mo), .slice A L.length c] w (fun e w' => RetPrsM w mo (findF l L) (cn.more (scanN tag l L) (lookN tag l L)) e w' ∧ EngAt w' g tag l) := by
  obtain ⟨base, x, y, z, sc, h1, h2, h3⟩ := h
  have hps60 : ∀ t ∈ pset l, t.length ≤ 60 := fun t ht => hs t (mem_pset.1 ht).1
  have hpl := pset_len l
  have cL := As.mk (pleast_calls w base _ l h2 (fun t ht => by have := hs t ht; omega) (by omega))
  have hEM : EMs w (OnlyM mo) := fun b hb => ⟨_, _, _, onlyM_blk hm b hb, .inr rfl⟩
  have hE9 := As.mk (fun (v : World) (hk : Keeps (OnlyM mo) w v) (hs : ScanVal v tag (pset l) sc) => (⟨base, x, y, z, sc, blk_keep h1 hk (hm.far h1 (.inl (by simp))), h2.keepS hk hEM, hs⟩ : EngAt v g tag l))
  have h3' := As.mk h3
  have cE := As.mk (fun (v : World) (hk : Keeps (OnlyM mo) w v) => pempty_calls v base _ l (h2.keepS hk hEM))
  have hgk := As.mk (fun (v : World) (hk : Keeps (OnlyM mo) w v) => blk_keep h1 hk (hm.far h1 (.inl (by simp))))
  have c1 : w.cell? ⟨g, 1, none⟩ = some x := cell_of_blk h1 1
  have c2 : w.cell? ⟨g, 2, none⟩ = some y := cell_of_blk h1 2
  have c3 : w.cell? ⟨g, 3, none⟩ = some z := cell_of_blk h1 3
  have hrM := As.mk (fun (v : World) (hk : Below w.heap.size w v) => Row.below hx hk)
  have hoc := occ_pset l L
  have hlp := fun (hne : pset l ≠ []) => leastP_pos hne (fun x hx => pset_ne hx)
  have hll2 := leastP_le (l := pset l) (m := 60) hps60
  have hol := occTo_len l L L.length
  have hon : (occ l L).length ≤ 900 * 900 := Nat.le_trans hol (Nat.mul_le_mul hL hL)
  obtain ⟨nL, hnL⟩ : ∃ k, L.length = k := ⟨_, rfl⟩
  by_cases hp : pset l = []
  · have hS : scanN tag l L = 0 := by unfold scanN; rw [if_pos (.inl hp)]
    have hK : lookN tag l L = 0 := by unfold lookN; rw [if_pos (.inl hp)]
    have hO : occ l L = [] := by rw [← hoc, hp]; exact occ_nil L
    have hl0 : leastP (pset l) = 0 := by rw [hp]; rfl
    rw [hl0] at cL
    rw [hS, hK, Cn.more_zero, hnL]
    rw [hnL] at hL
    by_cases hE : ([] : Txt) ∈ l
    · have hres : As (findF l L = sortP ([] ++ empties (nL + 1))) := ⟨by unfold findF; rw [if_pos hE, hO, hnL]⟩
      rw [show decide (([] : Txt) ∈ l) = true from decide_eq_true hE] at cE
      clear h2 h3 hx hs hps60 hlp hol hon hll2 hoc
      have hbe := As.mk hm
      go_enter Tryz.func13, Tryz.ntmps13
      go_wp2_with (go_at_call 33; refine Calls.mono cL.out ?_; rintro e w1 ⟨rfl, hb1⟩; have hk1 := As.mk (Keeps.of_below hb1 (OnlyM mo)); have hg1 := hgk.out _ hk1.out; have d1 : w1.cell? ⟨g, 1, none⟩ = some x := cell_of_blk hg1 1; have d2 : w1.cell? ⟨g, 2, none⟩ = some y := cell_of_blk hg1 2; have d3 : w1.cell? ⟨g, 3, none⟩ = some z := cell_of_blk hg1 3; replace hb1 := As.mk hb1; replace hg1 := As.mk hg1)
      refine Calls.mono (cE.out _ hk1.out) ?_
      rintro e w5 ⟨rfl, hb5⟩
      have hb15 := belowNext hb1.out hb5
      have hk5 := Keeps.of_below hb15 (OnlyM mo)
      have hm5 := hbe.out.below hb15
      have hrO : Prs w5 none [] := .inl rfl
      have hS5 := As.mk (h3'.out.below hb15)
      have hOn : ([] : List Seine.Sort.Pr).length = 0 := rfl
      have hcO : ([] : List Seine.Sort.Pr).length ≤ 0 := Nat.le_refl 0
      have hcOm : 0 ≤ maxLen := Nat.zero_le _
      have hOl : ([] : List Seine.Sort.Pr).length ≤ 1000000 := Nat.zero_le _
      have hL1 : nL ≤ 900 := hL
      have cE := As.mk (empt_calls w5 nL (by omega))
      go_wp2_with fail
      refine Calls.mono cE.out ?_
      intro e w6 h6
      obtain ⟨A6, c6, he6, hc6, hm6, hr6, hb6⟩ := h6.row2
      rw [empties_length] at he6 hc6
      subst he6
      have hro := As.mk (Row.below hrO hb6)
      have cMg := As.mk (by have := merge_calls w6 none 0 [] A6 c6 (empties (nL + 1)) hro.out hr6 hcO (by rw [empties_length]; exact hc6) hcOm hm6 hOl (by rw [empties_length]; omega); rw [empties_length, hOn] at this; exact this : Calls Tryz.prog 34 #[.slice none 0 0, .slice A6 (nL + 1) c6] w6 (RetPrs w6 (sortP ([] ++ empties (nL + 1)))))
      have hb56 := As.mk hb6
      clear hb6 hr6 h6
      obtain ⟨M, hM⟩ : ∃ M, sortP ([] ++ empties (nL + 1)) = M := ⟨_, rfl⟩
      rw [hM] at cMg
      replace hM := As.mk hM
      go_wp2_with fail
      refine Calls.mono cMg.out ?_
      intro e w7 h7
      obtain ⟨v7, he7, ho7, hb7⟩ := h7.out
      subst he7
      have hs5 := hk5.size
      have hs6 := hb56.out.size
      go_wp2_with fail
      go_ret
      have hk7 := (hk5.trans (Keeps.of_below hb56.out _)).trans (Keeps.of_below hb7 _)
      exact ⟨⟨v7, rfl, by rw [hres.out, hM.out]; exact own_base ho7 (by omega), (hm5.below hb56.out).below hb7, hk7⟩, hE9.out _ hk7 ((hS5.out.below hb56.out).below hb7)⟩
    · have hres : As (findF l L = []) := ⟨by unfold findF; rw [if_neg hE, hO]⟩
      rw [show decide (([] : Txt) ∈ l) = false from decide_eq_false hE] at cE
      clear h2 h3 hx hs hps60 hlp hol hon hll2 hoc
      have hbe := As.mk hm
      go_enter Tryz.func13, Tryz.ntmps13
      go_wp2_with (go_at_call 33; refine Calls.mono cL.out ?_; rintro e w1 ⟨rfl, hb1⟩; have hk1 := As.mk (Keeps.of_below hb1 (OnlyM mo)); have hg1 := hgk.out _ hk1.out; have d1 : w1.cell? ⟨g, 1, none⟩ = some x := cell_of_blk hg1 1; have d2 : w1.cell? ⟨g, 2, none⟩ = some y := cell_of_blk hg1 2; have d3 : w1.cell? ⟨g, 3, none⟩ = some z := cell_of_blk hg1 3; replace hb1 := As.mk hb1; replace hg1 := As.mk hg1)
      refine Calls.mono (cE.out _ hk1.out) ?_
      rintro e w5 ⟨rfl, hb5⟩
      have hb15 := As.mk (belowNext hb1.out hb5)
      clear hb5
      go_wp2_with fail
      go_ret
      exact ⟨⟨_, rfl, by rw [hres.out]; exact World.ownsRow_nil _ _ _ _, hbe.out.below hb15.out, Keeps.of_below hb15.out _⟩, hE9.out _ (Keeps.of_below hb15.out _) (h3'.out.below hb15.out)⟩
  · have hl0 := hlp hp
    obtain ⟨m, hmm⟩ : ∃ m, leastP (pset l) = m := ⟨_, rfl⟩
    rw [hmm] at cL hl0 hll2
    have hc0 : decide ((0 : Int) < (m : Int)) = true := decide_eq_true (by omega)
    have hc00 : decide (0 < m) = true := decide_eq_true (by omega)
    obtain ⟨sN, hsN⟩ : ∃ k, (if 1 < tag then 0 else L.length) = k := ⟨_, rfl⟩
    obtain ⟨lN, hlN⟩ : ∃ k, (if 1 < tag then 0 else if tag = 1 then L.length else looksTo (paths (pset l)) L L.length) = k := ⟨_, rfl⟩
    have hS : scanN tag l L = sN := by unfold scanN; simp only [hp, false_or]; exact hsN
    have hK : lookN tag l L = lN := by unfold lookN; simp only [hp, false_or]; exact hlN
    have hsc := As.mk (fun (v : World) (hv : Below w.heap.size w v) => scanner_calls v tag (pset l) sc (h3.below hv) hps60 (by omega) mo cn (hm.below hv) hok A c L (hrM.out v hv) hL)
    rw [hoc, hsN, hlN, hnL] at hsc
    rw [hS, hK, hnL]
    rw [hnL] at hL
    replace hmm := As.mk hmm
    replace hnL := As.mk hnL
    obtain ⟨O, hO⟩ : ∃ O, occ l L = O := ⟨_, rfl⟩
    rw [hO] at hsc hon
    have hOl : O.length ≤ 1000000 := by omega
    obtain ⟨nO, hOn⟩ : ∃ k, O.length = k := ⟨_, rfl⟩
    have hfin : findF l L = if ([] : Txt) ∈ l then sortP (O ++ empties (nL + 1)) else O := by unfold findF; rw [hO, hnL.out]
    obtain ⟨cn2, hcn2⟩ : ∃ k, cn.more sN lN = k := ⟨_, rfl⟩
    rw [hcn2] at hsc ⊢
    replace hO := As.mk hO
    replace hcn2 := As.mk hcn2
    clear h2 h3 hx hs hps60 hlp hol hon hll2 hoc hS hK hsN hlN hok
    by_cases hE : ([] : Txt) ∈ l
    · have hres : As (findF l L = sortP (O ++ empties (nL + 1))) := ⟨by rw [hfin, if_pos hE]⟩
      rw [show decide (([] : Txt) ∈ l) = true from decide_eq_true hE] at cE
      clear hfin
      go_enter Tryz.func13, Tryz.ntmps13
      go_wp2_with (first
        | (go_at_call 33; refine Calls.mono cL.out ?_; rintro e w1 ⟨rfl, hb1⟩; have hk1 := As.mk (Keeps.of_below hb1 (OnlyM mo)); have hg1 := hgk.out _ hk1.out; have d4 : w1.cell? ⟨g, 4, none⟩ = some sc := cell_of_blk hg1 4; obtain ⟨TT, VV, FF, hsv, hme', hen', hcl'⟩ := hsc.out _ hb1; rw [hsv] at d4; have hme := As.mk hme'; have hen := As.mk hen'; have hcl := As.mk hcl'; clear hme' hen' hcl' hsc hsv; replace hb1 := As.mk hb1; replace hg1 := As.mk hg1)
        | (refine wpList_callR (by rfl) (exec_invoke (.tmp 19) (.tmp 20) (.tmp 21) "Scan" _ rfl TT VV FF rfl (hme.out _) (fun args => hen.out args _)) hcl.out ?_
           intro e w4 h4
           obtain ⟨h4a, hS4'⟩ := h4
           have hS4 := As.mk hS4'
           obtain ⟨AO, cO, he4, hc4, hcOm, hr4', hm4', hk4', ho4'⟩ := h4a.out
           rw [hOn] at he4 hc4 ho4'
           refine ⟨_, he4, ?_⟩
           have hk14 := hk1.out.trans hk4'
           have hg4 := hgk.out _ hk14
           have m1 : w4.cell? ⟨g, 1, none⟩ = some x := cell_of_blk hg4 1
           have m2 : w4.cell? ⟨g, 2, none⟩ = some y := cell_of_blk hg4 2
           have m3 : w4.cell? ⟨g, 3, none⟩ = some z := cell_of_blk hg4 3
           have hk4 := As.mk hk14
           have hm4 := As.mk hm4'
           have hr4 := As.mk hr4'
           have ho4 := As.mk ho4'
           replace hg4 := As.mk hg4
           clear hk14 hk4' hm4' hr4' ho4' h4a hS4'))
      refine Calls.mono (cE.out _ hk4.out) ?_
      rintro e w5 ⟨rfl, hb5⟩
      have hS5 := As.mk (hS4.out.below hb5)
      have hk5 := hk4.out.trans (Keeps.of_below hb5 _)
      have hm5 := hm4.out.below hb5
      have hrO : Prs w5 AO O := Row.below hr4.out hb5
      have hcO : O.length ≤ cO := by rw [hOn]; exact hc4
      have hOn' := As.mk hOn
      have hL1 : nL ≤ 900 := hL
      have cE := As.mk (empt_calls w5 nL (by omega))
      go_wp2_with fail
      refine Calls.mono cE.out ?_
      intro e w6 h6
      obtain ⟨A6, c6, he6, hc6, hm6, hr6, hb6⟩ := h6.row2
      rw [empties_length] at he6 hc6
      subst he6
      have hro := As.mk (Row.below hrO hb6)
      have cMg := As.mk (by have := merge_calls w6 AO cO O A6 c6 (empties (nL + 1)) hro.out hr6 hcO (by rw [empties_length]; exact hc6) hcOm hm6 hOl (by rw [empties_length]; omega); rw [empties_length, hOn] at this; exact this : Calls Tryz.prog 34 #[.slice AO nO cO, .slice A6 (nL + 1) c6] w6 (RetPrs w6 (sortP (O ++ empties (nL + 1)))))
      have hb56 := As.mk hb6
      clear hb6 hr6 h6
      obtain ⟨M, hM⟩ : ∃ M, sortP (O ++ empties (nL + 1)) = M := ⟨_, rfl⟩
      rw [hM] at cMg
      replace hM := As.mk hM
      go_wp2_with fail
      refine Calls.mono cMg.out ?_
      intro e w7 h7
      obtain ⟨v7, he7, ho7, hb7⟩ := h7.out
      subst he7
      have hs5 := hk5.size
      have hs6 := hb56.out.size
      go_wp2_with fail
      go_ret
      have hk7 := (hk5.trans (Keeps.of_below hb56.out _)).trans (Keeps.of_below hb7 _)
      exact ⟨⟨v7, rfl, by rw [hres.out, hM.out]; exact own_base ho7 (by omega), (hm5.below hb56.out).below hb7, hk7⟩, hE9.out _ hk7 ((hS5.out.below hb56.out).below hb7)⟩
    · have hres : As (findF l L = O) := ⟨by rw [hfin, if_neg hE]⟩
      rw [show decide (([] : Txt) ∈ l) = false from decide_eq_false hE] at cE
      clear hfin
      go_enter Tryz.func13, Tryz.ntmps13
      go_wp2_with (first
        | (go_at_call 33; refine Calls.mono cL.out ?_; rintro e w1 ⟨rfl, hb1⟩; have hk1 := As.mk (Keeps.of_below hb1 (OnlyM mo)); have hg1 := hgk.out _ hk1.out; have d4 : w1.cell? ⟨g, 4, none⟩ = some sc := cell_of_blk hg1 4; obtain ⟨TT, VV, FF, hsv, hme', hen', hcl'⟩ := hsc.out _ hb1; rw [hsv] at d4; have hme := As.mk hme'; have hen := As.mk hen'; have hcl := As.mk hcl'; clear hme' hen' hcl' hsc hsv; replace hb1 := As.mk hb1; replace hg1 := As.mk hg1)
        | (refine wpList_callR (by rfl) (exec_invoke (.tmp 19) (.tmp 20) (.tmp 21) "Scan" _ rfl TT VV FF rfl (hme.out _) (fun args => hen.out args _)) hcl.out ?_
           intro e w4 h4
           obtain ⟨h4a, hS4'⟩ := h4
           have hS4 := As.mk hS4'
           obtain ⟨AO, cO, he4, hc4, hcOm, hr4', hm4', hk4', ho4'⟩ := h4a.out
           rw [hOn] at he4 hc4 ho4'
           refine ⟨_, he4, ?_⟩
           have hk14 := hk1.out.trans hk4'
           have hg4 := hgk.out _ hk14
           have m1 : w4.cell? ⟨g, 1, none⟩ = some x := cell_of_blk hg4 1
           have m2 : w4.cell? ⟨g, 2, none⟩ = some y := cell_of_blk hg4 2
           have m3 : w4.cell? ⟨g, 3, none⟩ = some z := cell_of_blk hg4 3
           have hk4 := As.mk hk14
           have hm4 := As.mk hm4'
           have hr4 := As.mk hr4'
           have ho4 := As.mk ho4'
           replace hg4 := As.mk hg4
           clear hk14 hk4' hm4' hr4' ho4' h4a hS4'))
      refine Calls.mono (cE.out _ hk4.out) ?_
      rintro e w5 ⟨rfl, hb5⟩
      have hk5 := As.mk (hk4.out.trans (Keeps.of_below hb5 _))
      have hm5 := As.mk (hm4.out.below hb5)
      have ho5 := As.mk (own_below ho4.out hb5)
      have hS5 := As.mk (hS4.out.below hb5)
      clear hb5
      go_wp2_with fail
      go_ret
      have hs1 := hb1.out.size
      have ho6 : OwnPrs w5 w.heap.size (.slice AO nO cO) O := own_base ho5.out hs1
      exact ⟨⟨.slice AO nO cO, rfl, hres.out.symm ▸ ho6, hm5.out, hk5.out⟩, hE9.out _ hk5.out hS5.out⟩
end Go.Proofs.YtdiljmhikajjiaaGreat
end
