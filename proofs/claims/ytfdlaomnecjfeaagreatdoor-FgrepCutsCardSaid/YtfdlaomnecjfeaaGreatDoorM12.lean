/- Joined texts: Engine3, FgPure2, FgPure, FgPure3, FgPure4, FgPure5, FgModel, FoldB, Admit, Meter2, Window, Window2. -/
import Derived.Test.YtfdlaomnecjfeaaGreatDoorM11
import Derived.Test.YtfdlaomnecjfeaaGreatDoorM3
import Derived.Test.YtfdlaomnecjfeaaGreatDoorM1
import Derived.Test.YtfdlaomnecjfeaaGreatDoorM2
import Derived.Test.YtfdlaomnecjfeaaGreatDoorM5
import Derived.Laws.CopyOwn
import Derived.Test.YtfdlaomnecjfeaaGreatDoorM4
import Derived.Still
import Derived.StillTailTactics
import Derived.Deep.RegionLaw
import Derived.WalkSpells
set_option linter.unusedVariables false
set_option linter.unusedSimpArgs false
section
namespace Go.Proofs.YtfdlaomnecjfeaaGreatDoor
open Go.RowKit Go.Maps Seine.Trie Seine.Eng Seine.Links Seine.Sparse
open Seine.Sort (sortP occ rise_occ occTo_len)
theorem meth_sparse (p : Option Addr) (w : World) : (Go.method (Tryz.prog.types.size + Made.depth) 167 (.pointer p) "Scan").run Tryz.prog w = .ok (264, .pointer p) w := by kernel_rfl
theorem meth_dfa (p : Option Addr) (w : World) : (Go.method (Tryz.prog.types.size + Made.depth) 169 (.pointer p) "Scan").run Tryz.prog w = .ok (274, .pointer p) w := by kernel_rfl
theorem ZdA (v : Value) (w : World) : (Go.method (Tryz.prog.types.size + Made.depth) 177 (.agg #[v]) "Scan").run Tryz.prog w = .ok (278, .agg #[v]) w := by kernel_rfl
theorem enter_sparse (args:Array Value) (w:World):(callFunc 264 args).run Tryz.prog w=.ok (.enter 264 args) w:=by kernel_rfl
theorem enter_dfa (args:Array Value) (w:World):(callFunc 274 args).run Tryz.prog w=.ok (.enter 274 args) w:=by kernel_rfl
theorem Zcz (args:Array Value) (w:World):(callFunc 278 args).run Tryz.prog w=.ok (.enter 278 args) w:=by kernel_rfl
theorem ZbE {P:Program} {ops:Array Oper} {rest:List Oper} {o:Oper} {a:Act} {Q:Exit→Act→World→Prop} {w:World} (hg:o.guard=none) {f:FuncId} {vals:Array Value} {R:Ending→World→Prop}
    (ho:(execOp a.eval o).run P w=.ok (.enter f vals) w) (hc:Calls P f vals w R) (h:∀ e w',R e w'→∃ v,e=.returned v∧wpList P ops Q rest (a.put o.dst v) w'):wpList P ops Q (o::rest) a w:=by
 refine wpList_plain hg fun K hK=>?_
 unfold Oper.wp
 rw [ho,Oper.upon_enter]
 refine hc.mono ?_
 intro e w' hr
 obtain ⟨v,rfl,hk⟩:=h e w' hr
 exact hK _ _ hk
theorem ZcA {P:Program} {o:Oper} {ρ:Operand→Value} {w:World} (r x y:Operand) (name:String) (ts:Array TypeId) (ho:o.op=.call { callee:=.invoke r name,args:=#[x,y],argTypes:=ts }) (T:TypeId) (V:Value) (F:FuncId) (hr:ρ r=.iface T V)
    (hm:(Go.method (P.types.size+Made.depth) T V name).run P w=.ok (F,V) w) (he:∀ args,(callFunc F args).run P w=.ok (.enter F args) w):(execOp ρ o).run P w=.ok (.enter F #[V,ρ x,ρ y]) w:=by
 unfold execOp
 simp [ho,resolve,invoke,callMethod,hr,hm,he,run_program]
/-- How many bytes are read, and how many are looked up. -/
def YZ (tag:Int) (l:List Txt) (L:Txt):Nat:=if ZH l=[]∨1<tag then 0 else L.length
def QS (tag:Int) (l:List Txt) (L:Txt):Nat:=if ZH l=[]∨1<tag then 0 else if tag=1 then L.length else ZU (Zl (ZH l)) L L.length
theorem occ_nil (L:Txt):occ [] L=[]:=by
 refine Seine.Sort.rise_ext (rise_occ _ _) Seine.Sort.Rise.nil fun p=>?_
 rw [Seine.Sort.mem_occ]
 simp [Seine.Sort.Occ]
theorem ScanVal.below {w w':World} {tag:Int} {ps:List Txt} {v:Value} (h3:ScanVal w tag ps v) (hb:Below w.heap.size w w'):ScanVal w' tag ps v:=by
 rcases h3 with ⟨e,g,h⟩ | ⟨e,e',g,h⟩ | ⟨e,t,g,ad,cb,a,s,sm,h⟩ | ⟨e,g,h⟩
 · exact .inl ⟨e,g,h.1,h.2.below hb⟩
 · exact .inr (.inl ⟨e,e',g,h.1,h.2.below hb⟩)
 · exact .inr (.inr (.inl ⟨e,t,g,ad,cb,a,s,sm,h.1,h.2.1,h.2.2.1,h.2.2.2.below hb⟩))
 · exact .inr (.inr (.inr ⟨e,g,h.1,h.2.below hb⟩))
/-- What any way's scan gives. -/
theorem scanner_calls (w:World) (tag:Int) (ps:List Txt) (sc:Value) (h:ScanVal w tag ps sc) (hst:tot ps≤60000) (h11:∀ t∈ps,t.length≤1100) (mo:Option Nat) (cn:Cn) (hm:Mo w mo cn) (hok:cn.room) (A:Option Addr) (c:Nat) (L:Txt) (hx:Byt w A L) (hL:L.length≤900) :
    ∃ T V F, sc = .iface T V ∧ (∀ v, (Go.method (Tryz.prog.types.size + Made.depth) T V "Scan").run Tryz.prog v = .ok (F, V) v) ∧ (∀ args v, (callFunc F args).run Tryz.prog v = .ok (.enter F args) v) ∧ Calls Tryz.prog F #[V, .pointer (Xk mo), .slice A L.length c] w (fun e w' => RetPrsM w mo (occ ps L) (cn.more (if 1 < tag then 0 else L.length) (if 1 < tag then 0 else if tag = 1 then L.length else ZU (Zl ps) L L.length)) e w' ∧ ScanVal w' tag ps sc) := by
 have hq:∀ e w',RetPrs w (occ ps L) e w'→RetPrsM w mo (occ ps L) cn e w':=fun e w' hh=>by
  obtain ⟨v,he,ho,hb⟩:=hh.out
  exact ⟨v,he,ho,hm.below hb,Keeps.of_below hb _⟩
 have hEM:EMs w (Zu mo):=fun b hb=>⟨_,_,_,JX hm b hb,.inr rfl⟩
 have hsv:=h
 have hpl:=Yq ps
 have hsp:∀ p∈Zl ps,p.length≤1100:=fun p hp=>by
  rcases ((ZaH ps).2 p).1 hp with rfl | ⟨b,hb,k,hk,rfl⟩
  · simp
  · have:=h11 b hb;rw [List.length_take];omega
 have htm:∀ x,x∈ps→x∈Zl ps:=fun x hx=>Qp hx
 rcases h with ⟨rfl,g,rfl,hA⟩ | ⟨rfl,h160,g,rfl,hA⟩ | ⟨rfl,t,g,ad,cb,a,s,sm,rfl,ht,rfl,hA⟩ | ⟨rfl,g,rfl,hA⟩
 · refine ⟨_,_,_,rfl,meth_sparse _,enter_sparse,?_⟩
   have:=sscan_calls w g (Zl ps) ps hA mo cn hm hok (ZC ps) htm 1100 hsp (by omega) (by omega) A c L hx (by omega) (by omega)
   rw [ZaR (ZC ps) htm L] at this
   exact this.mono fun e w' hh=>⟨by simpa using hh,.inl ⟨rfl,g,rfl,by obtain ⟨_,_,_,_,hk⟩:=hh;exact hA.keepS hk hEM⟩⟩
 · refine ⟨_,_,_,rfl,meth_dfa _,enter_dfa,?_⟩
   have:=dscan_calls w g (Zl ps) ps hA rfl h160 mo cn hm hok (ZC ps) htm 1100 hsp (by omega) A c L hx (by omega) (by omega)
   rw [ZaR (ZC ps) htm L] at this
   exact this.mono fun e w' hh=>⟨by simpa using hh,.inr (.inl ⟨rfl,h160,g,rfl,by obtain ⟨_,_,_,_,hk⟩:=hh;exact hA.keepS hk hEM⟩)⟩
 · refine ⟨_,_,_,rfl,ZdA _,Zcz,?_⟩
   have htl:t.length≤60000:=Nat.le_trans (X7 (by simp)) hst
   have:=quiet_two w (some ⟨g,0,none⟩) (.pointer (Xk mo)) A L.length c (occ [t] L) (fun v hv=>by
    have:=scan_calls v g t ad cb a s sm (hA.below hv) (by omega) A c L (Row.below hx hv) (by omega)
    rw [occFrom_occ ht] at this;exact this)
   refine this.mono fun e w' hh=>?_
   have:=hq e w' hh
   obtain ⟨_,_,_,hbb⟩:=hh.out
   exact ⟨by simpa [Cn.more_zero] using this,hsv.below hbb⟩
 · refine ⟨_,_,_,rfl,ZdA _,Zcz,?_⟩
   have:=quiet_cw w (some ⟨g,0,none⟩) (.pointer (Xk mo)) A L.length c (occ ps L) (fun v hv=>cscanT_calls v g ps (hA.below hv) hst A c L (Row.below hx hv) hL)
   refine this.mono fun e w' hh=>?_
   have:=hq e w' hh
   obtain ⟨_,_,_,hbb⟩:=hh.out
   exact ⟨by simpa [Cn.more_zero] using this,hsv.below hbb⟩
theorem findF_len (l:List Txt) (L:Txt):(findF l L).length≤L.length * L.length+L.length+1:=by
 have h1:(occ l L).length≤L.length * L.length:=occTo_len l L L.length
 unfold findF
 split
 · have h2:=Seine.Sort.sortP_len (occ l L++Z3 (L.length+1))
   rw [List.length_append,Z7] at h2
   omega
 · omega
set_option maxRecDepth 100000 in
set_option maxHeartbeats 12800000 in
theorem efindT_calls (w:World) (g:Nat) (tag:Int) (l:List Txt) (h:EngAt w g tag l) (hst:tot l≤60000) (h11:∀ t∈l,t.length≤1100) (hll:l.length≤1000000) (mo:Option Nat) (cn:Cn) (hm:Mo w mo cn) (hok:cn.room) (A:Option Addr) (c:Nat) (L:Txt) (hx:Byt w A L) (hL:L.length≤900) :
    Calls Tryz.prog 105 #[.pointer (some ⟨g,0,none⟩),.pointer (Xk mo),.slice A L.length c] w (fun e w'=>RetPrsM w mo (findF l L) (cn.more (YZ tag l L) (QS tag l L)) e w'∧EngAt w' g tag l):=by
 obtain ⟨base,x,y,z,sc,h1,h2,h3⟩:=h
 have hps60:∀ t∈ZH l,t.length≤60000:=fun t ht=>Nat.le_trans (X7 (mem_pset.1 ht).1) hst
 have hp11:∀ t∈ZH l,t.length≤1100:=fun t ht=>h11 t (mem_pset.1 ht).1
 have hpst:tot (ZH l)≤60000:=Nat.le_trans (Zeq l) hst
 have hpl:=JB l
 have cL:=As.mk (pleast_calls w base _ l h2 (fun t ht=>by have:=X7 ht;omega) (by omega))
 have hEM:EMs w (Zu mo):=fun b hb=>⟨_,_,_,JX hm b hb,.inr rfl⟩
 have hE9:=As.mk (fun (v:World) (hk:Keeps (Zu mo) w v) (hs:ScanVal v tag (ZH l) sc)=>(⟨base,x,y,z,sc,Zd h1 hk (hm.far h1 (.inl (by simp))),h2.keepS hk hEM,hs⟩:EngAt v g tag l))
 have h3':=As.mk h3
 have cE:=As.mk (fun (v:World) (hk:Keeps (Zu mo) w v)=>Zbr v base _ l (h2.keepS hk hEM))
 have hgk:=As.mk (fun (v:World) (hk:Keeps (Zu mo) w v)=>Zd h1 hk (hm.far h1 (.inl (by simp))))
 have c1:w.cell? ⟨g,1,none⟩=some x:=Za h1 1
 have c2:w.cell? ⟨g,2,none⟩=some y:=Za h1 2
 have c3:w.cell? ⟨g,3,none⟩=some z:=Za h1 3
 have hrM:=As.mk (fun (v:World) (hk:Below w.heap.size w v)=>Row.below hx hk)
 have hoc:=occ_pset l L
 have hlp:=fun (hne:ZH l≠[])=>leastP_pos hne (fun x hx=>Zfv hx)
 have hll2:=leastP_le (l:=ZH l) (m:=60000) hps60
 have hol:=occTo_len l L L.length
 have hon:(occ l L).length≤900 * 900:=Nat.le_trans hol (Nat.mul_le_mul hL hL)
 obtain ⟨nL,hnL⟩:∃ k,L.length=k:=⟨_,rfl⟩
 by_cases hp:ZH l=[]
 · have hS:YZ tag l L=0:=by unfold YZ;rw [if_pos (.inl hp)]
   have hK:QS tag l L=0:=by unfold QS;rw [if_pos (.inl hp)]
   have hO:occ l L=[]:=by rw [← hoc,hp];exact occ_nil L
   have hl0:Xb (ZH l)=0:=by rw [hp];rfl
   rw [hl0] at cL
   rw [hS,hK,Cn.more_zero,hnL]
   rw [hnL] at hL
   by_cases hE:([]:Txt)∈l
   · have hres:As (findF l L=sortP ([]++Z3 (nL+1))):=⟨by unfold findF;rw [if_pos hE,hO,hnL]⟩
     rw [show decide (([]:Txt)∈l)=true from decide_eq_true hE] at cE
     clear h2 h3 hx hst hpst hp11 h11 hps60 hlp hol hon hll2 hoc
     have hbe:=As.mk hm
     go_enter Tryz.func105,Tryz.ntmps105
     go_wp2_with (go_at_call 154;refine Calls.mono cL.out ?_;rintro e w1 ⟨rfl,hb1⟩;have hk1:=As.mk (Keeps.of_below hb1 (Zu mo));have hg1:=hgk.out _ hk1.out;have d1:w1.cell? ⟨g,1,none⟩=some x:=Za hg1 1;have d2:w1.cell? ⟨g,2,none⟩=some y:=Za hg1 2;have d3:w1.cell? ⟨g,3,none⟩=some z:=Za hg1 3;replace hb1:=As.mk hb1;replace hg1:=As.mk hg1)
     refine Calls.mono (cE.out _ hk1.out) ?_
     rintro e w5 ⟨rfl,hb5⟩
     have hb15:=Ze hb1.out hb5
     have hk5:=Keeps.of_below hb15 (Zu mo)
     have hm5:=hbe.out.below hb15
     have hrO:Prs w5 none []:=.inl rfl
     have hS5:=As.mk (h3'.out.below hb15)
     have hOn:([]:List Seine.Sort.Pr).length=0:=rfl
     have hcO:([]:List Seine.Sort.Pr).length≤0:=Nat.le_refl 0
     have hcOm:0≤maxLen:=Nat.zero_le _
     have hOl:([]:List Seine.Sort.Pr).length≤1000000:=Nat.zero_le _
     have hL1:nL≤900:=hL
     have cE:=As.mk (Zdz w5 nL (by omega))
     go_wp2_with fail
     refine Calls.mono cE.out ?_
     intro e w6 h6
     obtain ⟨A6,c6,he6,hc6,hm6,hr6,hb6⟩:=h6.row2
     rw [Z7] at he6 hc6
     subst he6
     have hro:=As.mk (Row.below hrO hb6)
     have cMg:=As.mk (by have:=Zcx w6 none 0 [] A6 c6 (Z3 (nL+1)) hro.out hr6 hcO (by rw [Z7];exact hc6) hcOm hm6 hOl (by rw [Z7];omega);rw [Z7,hOn] at this;exact this:Calls Tryz.prog 155 #[.slice none 0 0,.slice A6 (nL+1) c6] w6 (RetPrs w6 (sortP ([]++Z3 (nL+1)))))
     have hb56:=As.mk hb6
     clear hb6 hr6 h6
     obtain ⟨M,hM⟩:∃ M,sortP ([]++Z3 (nL+1))=M:=⟨_,rfl⟩
     rw [hM] at cMg
     replace hM:=As.mk hM
     go_wp2_with fail
     refine Calls.mono cMg.out ?_
     intro e w7 h7
     obtain ⟨v7,he7,ho7,hb7⟩:=h7.out
     subst he7
     have hs5:=hk5.size
     have hs6:=hb56.out.size
     go_wp2_with fail
     go_ret
     have hk7:=(hk5.trans (Keeps.of_below hb56.out _)).trans (Keeps.of_below hb7 _)
     exact ⟨⟨v7,rfl,by rw [hres.out,hM.out];exact ZB ho7 (by omega),(hm5.below hb56.out).below hb7,hk7⟩,hE9.out _ hk7 ((hS5.out.below hb56.out).below hb7)⟩
   · have hres:As (findF l L=[]):=⟨by unfold findF;rw [if_neg hE,hO]⟩
     rw [show decide (([]:Txt)∈l)=false from decide_eq_false hE] at cE
     clear h2 h3 hx hst hpst hp11 h11 hps60 hlp hol hon hll2 hoc
     have hbe:=As.mk hm
     go_enter Tryz.func105,Tryz.ntmps105
     go_wp2_with (go_at_call 154;refine Calls.mono cL.out ?_;rintro e w1 ⟨rfl,hb1⟩;have hk1:=As.mk (Keeps.of_below hb1 (Zu mo));have hg1:=hgk.out _ hk1.out;have d1:w1.cell? ⟨g,1,none⟩=some x:=Za hg1 1;have d2:w1.cell? ⟨g,2,none⟩=some y:=Za hg1 2;have d3:w1.cell? ⟨g,3,none⟩=some z:=Za hg1 3;replace hb1:=As.mk hb1;replace hg1:=As.mk hg1)
     refine Calls.mono (cE.out _ hk1.out) ?_
     rintro e w5 ⟨rfl,hb5⟩
     have hb15:=As.mk (Ze hb1.out hb5)
     clear hb5
     go_wp2_with fail
     go_ret
     exact ⟨⟨_,rfl,by rw [hres.out];exact World.ownsRow_nil _ _ _ _,hbe.out.below hb15.out,Keeps.of_below hb15.out _⟩,hE9.out _ (Keeps.of_below hb15.out _) (h3'.out.below hb15.out)⟩
 · have hl0:=hlp hp
   obtain ⟨m,hmm⟩:∃ m,Xb (ZH l)=m:=⟨_,rfl⟩
   rw [hmm] at cL hl0 hll2
   have hc0:decide ((0:Int)<(m:Int))=true:=decide_eq_true (by omega)
   have hc00:decide (0<m)=true:=decide_eq_true (by omega)
   obtain ⟨sN,hsN⟩:∃ k,(if 1<tag then 0 else L.length)=k:=⟨_,rfl⟩
   obtain ⟨lN,hlN⟩:∃ k,(if 1<tag then 0 else if tag=1 then L.length else ZU (Zl (ZH l)) L L.length)=k:=⟨_,rfl⟩
   have hS:YZ tag l L=sN:=by unfold YZ;simp only [hp,false_or];exact hsN
   have hK:QS tag l L=lN:=by unfold QS;simp only [hp,false_or];exact hlN
   have hsc:=As.mk (fun (v:World) (hv:Below w.heap.size w v)=>scanner_calls v tag (ZH l) sc (h3.below hv) hpst hp11 mo cn (hm.below hv) hok A c L (hrM.out v hv) hL)
   rw [hoc,hsN,hlN,hnL] at hsc
   rw [hS,hK,hnL]
   rw [hnL] at hL
   replace hmm:=As.mk hmm
   replace hnL:=As.mk hnL
   obtain ⟨O,hO⟩:∃ O,occ l L=O:=⟨_,rfl⟩
   rw [hO] at hsc hon
   have hOl:O.length≤1000000:=by omega
   obtain ⟨nO,hOn⟩:∃ k,O.length=k:=⟨_,rfl⟩
   have hfin:findF l L=if ([]:Txt)∈l then sortP (O++Z3 (nL+1)) else O:=by unfold findF;rw [hO,hnL.out]
   obtain ⟨cn2,hcn2⟩:∃ k,cn.more sN lN=k:=⟨_,rfl⟩
   rw [hcn2] at hsc ⊢
   replace hO:=As.mk hO
   replace hcn2:=As.mk hcn2
   clear h2 h3 hx hst hpst hp11 h11 hps60 hlp hol hon hll2 hoc hS hK hsN hlN hok
   by_cases hE:([]:Txt)∈l
   · have hres:As (findF l L=sortP (O++Z3 (nL+1))):=⟨by rw [hfin,if_pos hE]⟩
     rw [show decide (([]:Txt)∈l)=true from decide_eq_true hE] at cE
     clear hfin
     go_enter Tryz.func105,Tryz.ntmps105
     go_wp2_with (first
      | (go_at_call 154;refine Calls.mono cL.out ?_;rintro e w1 ⟨rfl,hb1⟩;have hk1:=As.mk (Keeps.of_below hb1 (Zu mo));have hg1:=hgk.out _ hk1.out;have d4:w1.cell? ⟨g,4,none⟩=some sc:=Za hg1 4;obtain ⟨TT,VV,FF,hsv,hme',hen',hcl'⟩:=hsc.out _ hb1;rw [hsv] at d4;have hme:=As.mk hme';have hen:=As.mk hen';have hcl:=As.mk hcl';clear hme' hen' hcl' hsc hsv;replace hb1:=As.mk hb1;replace hg1:=As.mk hg1)
      | (refine ZbE (by rfl) (ZcA (.tmp 19) (.tmp 20) (.tmp 21) "Scan" _ rfl TT VV FF rfl (hme.out _) (fun args => hen.out args _)) hcl.out ?_
         intro e w4 h4
         obtain ⟨h4a,hS4'⟩:=h4
         have hS4:=As.mk hS4'
         obtain ⟨AO,cO,he4,hc4,hcOm,hr4',hm4',hk4',ho4'⟩:=h4a.out
         rw [hOn] at he4 hc4 ho4'
         refine ⟨_,he4,?_⟩
         have hk14:=hk1.out.trans hk4'
         have hg4:=hgk.out _ hk14
         have m1:w4.cell? ⟨g,1,none⟩=some x:=Za hg4 1
         have m2:w4.cell? ⟨g,2,none⟩=some y:=Za hg4 2
         have m3:w4.cell? ⟨g,3,none⟩=some z:=Za hg4 3
         have hk4:=As.mk hk14
         have hm4:=As.mk hm4'
         have hr4:=As.mk hr4'
         have ho4:=As.mk ho4'
         replace hg4:=As.mk hg4
         clear hk14 hk4' hm4' hr4' ho4' h4a hS4'))
     refine Calls.mono (cE.out _ hk4.out) ?_
     rintro e w5 ⟨rfl,hb5⟩
     have hS5:=As.mk (hS4.out.below hb5)
     have hk5:=hk4.out.trans (Keeps.of_below hb5 _)
     have hm5:=hm4.out.below hb5
     have hrO:Prs w5 AO O:=Row.below hr4.out hb5
     have hcO:O.length≤cO:=by rw [hOn];exact hc4
     have hOn':=As.mk hOn
     have hL1:nL≤900:=hL
     have cE:=As.mk (Zdz w5 nL (by omega))
     go_wp2_with fail
     refine Calls.mono cE.out ?_
     intro e w6 h6
     obtain ⟨A6,c6,he6,hc6,hm6,hr6,hb6⟩:=h6.row2
     rw [Z7] at he6 hc6
     subst he6
     have hro:=As.mk (Row.below hrO hb6)
     have cMg:=As.mk (by have:=Zcx w6 AO cO O A6 c6 (Z3 (nL+1)) hro.out hr6 hcO (by rw [Z7];exact hc6) hcOm hm6 hOl (by rw [Z7];omega);rw [Z7,hOn] at this;exact this:Calls Tryz.prog 155 #[.slice AO nO cO,.slice A6 (nL+1) c6] w6 (RetPrs w6 (sortP (O++Z3 (nL+1)))))
     have hb56:=As.mk hb6
     clear hb6 hr6 h6
     obtain ⟨M,hM⟩:∃ M,sortP (O++Z3 (nL+1))=M:=⟨_,rfl⟩
     rw [hM] at cMg
     replace hM:=As.mk hM
     go_wp2_with fail
     refine Calls.mono cMg.out ?_
     intro e w7 h7
     obtain ⟨v7,he7,ho7,hb7⟩:=h7.out
     subst he7
     have hs5:=hk5.size
     have hs6:=hb56.out.size
     go_wp2_with fail
     go_ret
     have hk7:=(hk5.trans (Keeps.of_below hb56.out _)).trans (Keeps.of_below hb7 _)
     exact ⟨⟨v7,rfl,by rw [hres.out,hM.out];exact ZB ho7 (by omega),(hm5.below hb56.out).below hb7,hk7⟩,hE9.out _ hk7 ((hS5.out.below hb56.out).below hb7)⟩
   · have hres:As (findF l L=O):=⟨by rw [hfin,if_neg hE]⟩
     rw [show decide (([]:Txt)∈l)=false from decide_eq_false hE] at cE
     clear hfin
     go_enter Tryz.func105,Tryz.ntmps105
     go_wp2_with (first
      | (go_at_call 154;refine Calls.mono cL.out ?_;rintro e w1 ⟨rfl,hb1⟩;have hk1:=As.mk (Keeps.of_below hb1 (Zu mo));have hg1:=hgk.out _ hk1.out;have d4:w1.cell? ⟨g,4,none⟩=some sc:=Za hg1 4;obtain ⟨TT,VV,FF,hsv,hme',hen',hcl'⟩:=hsc.out _ hb1;rw [hsv] at d4;have hme:=As.mk hme';have hen:=As.mk hen';have hcl:=As.mk hcl';clear hme' hen' hcl' hsc hsv;replace hb1:=As.mk hb1;replace hg1:=As.mk hg1)
      | (refine ZbE (by rfl) (ZcA (.tmp 19) (.tmp 20) (.tmp 21) "Scan" _ rfl TT VV FF rfl (hme.out _) (fun args => hen.out args _)) hcl.out ?_
         intro e w4 h4
         obtain ⟨h4a,hS4'⟩:=h4
         have hS4:=As.mk hS4'
         obtain ⟨AO,cO,he4,hc4,hcOm,hr4',hm4',hk4',ho4'⟩:=h4a.out
         rw [hOn] at he4 hc4 ho4'
         refine ⟨_,he4,?_⟩
         have hk14:=hk1.out.trans hk4'
         have hg4:=hgk.out _ hk14
         have m1:w4.cell? ⟨g,1,none⟩=some x:=Za hg4 1
         have m2:w4.cell? ⟨g,2,none⟩=some y:=Za hg4 2
         have m3:w4.cell? ⟨g,3,none⟩=some z:=Za hg4 3
         have hk4:=As.mk hk14
         have hm4:=As.mk hm4'
         have hr4:=As.mk hr4'
         have ho4:=As.mk ho4'
         replace hg4:=As.mk hg4
         clear hk14 hk4' hm4' hr4' ho4' h4a hS4'))
     refine Calls.mono (cE.out _ hk4.out) ?_
     rintro e w5 ⟨rfl,hb5⟩
     have hk5:=As.mk (hk4.out.trans (Keeps.of_below hb5 _))
     have hm5:=As.mk (hm4.out.below hb5)
     have ho5:=As.mk (Zo ho4.out hb5)
     have hS5:=As.mk (hS4.out.below hb5)
     clear hb5
     go_wp2_with fail
     go_ret
     have hs1:=hb1.out.size
     have ho6:OwnPrs w5 w.heap.size (.slice AO nO cO) O:=ZB ho5.out hs1
     exact ⟨⟨.slice AO nO cO,rfl,hres.out.symm ▸ ho6,hm5.out,hk5.out⟩,hE9.out _ hk5.out hS5.out⟩
end Go.Proofs.YtfdlaomnecjfeaaGreatDoor
end
section
namespace Seine.Fg
open Seine.Trie Seine.Sort
def Yn (c:UInt8):UInt8:=if 65≤c.toNat∧c.toNat≤90 then c+32 else c
def low (b:Txt):Txt:=b.map Yn
theorem XK (b:Txt):(low b).length=b.length:=by simp [low]
theorem ZdB (c:UInt8):(Yn c).toNat=if 65≤c.toNat∧c.toNat≤90 then c.toNat+32 else c.toNat:=by
 unfold Yn
 split
 · rename_i h
   rw [UInt8.toNat_add]
   show (c.toNat+32) % 256=c.toNat+32
   omega
 · rfl
def ZeT (c:UInt8):Bool:=decide ((65≤c.toNat∧c.toNat≤90)∨(97≤c.toNat∧c.toNat≤122)∨(48≤c.toNat∧c.toNat≤57)∨c.toNat=95)
/-- Is a pair a piece of a line? -/
def pieceB (L:Txt) (p:Pr):Bool:=decide (0≤p.1∧p.1≤p.2∧p.2≤(L.length:Int))
def ZbF (L:Txt) (i:Int):Bool:=decide (0≤i∧i<(L.length:Int)) && ZeT (L.getD i.toNat 0)
def freeB (L:Txt) (p:Pr):Bool:=pieceB L p && !(p.1 == p.2) && !ZbF L (p.1 - 1) && !ZbF L p.2
def wholeB (L:Txt) (p:Pr):Bool:=p.1 == 0 && p.2 == (L.length:Int)
def Zam (L:Txt) (w x:Bool) (p:Pr):Bool:=pieceB L p && (!w || freeB L p) && (!x || wholeB L p)
def Q6 (L:Txt) (l:List Pr) (w x:Bool):List Pr:=l.filter (Zam L w x)
theorem ZcB (L:Txt) (l:List Pr) (w x:Bool):(Q6 L l w x).length≤l.length:=List.length_filter_le _ _
theorem filter_take {α:Type} (f:α→Bool) {l:List α} {k:Nat} (h:k<l.length):(l.take (k+1)).filter f=(l.take k).filter f++(if f l[k] then [l[k]] else []):=by
 rw [List.take_succ_eq_append_getElem h,List.filter_append]
 congr 1
 by_cases e:f l[k]=true <;> simp [e]
/-- Options. -/
structure Opt where
 i:Bool
 w:Bool
 x:Bool
 o:Bool
 b:Bool
 v:Bool
 c:Bool
def ZaY (o:Opt):Bool:=(o.o && (o.v || o.c)) || (o.b && o.c)
end Seine.Fg
end
section
namespace Seine.Fg
open Seine.Trie
/-- Lines of bytes, of which cur stand ahead. -/
def XL (cur:Txt):Txt→List Txt
 | []=>if cur=[] then [] else [cur]
 | c::r=>if c=10 then cur::XL [] r else XL (cur++[c]) r
def Z0 (b:Txt):List Txt:=XL [] b
/-- A line that a stream tells: its number, where it begins, its bytes. -/
structure Ln where
 num:Nat
 off:Nat
 text:Txt
/-- A stream: the line that didn't end yet, how many ended, where the next one begins, how many bytes were read, whether a line was too long. -/
structure St where
 cur:Txt
 num:Nat
 off:Nat
 hunt:Nat
 over:Bool
def St.zero:St:=⟨[],0,0,0,false⟩
def ZL (s:St) (c:UInt8):St × List Ln :=
 if s.over=true then (s,[])
 else if c=10 then (⟨[],s.num+1,s.off+s.cur.length+1,s.hunt+1,false⟩,[⟨s.num,s.off,s.cur⟩])
 else if 400≤s.cur.length then (⟨s.cur,s.num,s.off,s.hunt+1,true⟩,[])
 else (⟨s.cur++[c],s.num,s.off,s.hunt+1,false⟩,[])
def Zq (s:St):Txt→St × List Ln
 | []=>(s,[])
 | c::r=>((Zq (ZL s c).1 r).1,(ZL s c).2++(Zq (ZL s c).1 r).2)
def YR (s:St):List Ln:=if s.over=true∨s.cur=[] then [] else [⟨s.num,s.off,s.cur⟩]
/-- All lines of an input, up to one that is too long. -/
def Qu (b:Txt):List Ln:=(Zq St.zero b).2++YR (Zq St.zero b).1
theorem ZbG:∀ (a b:Txt) (s:St),Zq s (a++b)=((Zq (Zq s a).1 b).1,(Zq s a).2++(Zq (Zq s a).1 b).2)
 | [],b,s=>rfl
 | c::r,b,s=>by
   rw [List.cons_append]
   simp only [Zq]
   rw [ZbG r b]
   simp [List.append_assoc]
theorem Jr:∀ (b:Txt) (s:St),s.over=true→Zq s b=(s,[])
 | [],s,_=>rfl
 | c::r,s,h=>by
   have h1:ZL s c=(s,[]):=by unfold ZL;rw [if_pos h]
   simp only [Zq]
   rw [h1,Jr r s h]
   rfl
/-- Numbers and places go on. -/
theorem Zc3:∀ (b:Txt) (s:St),(Zq s b).1.num=s.num+(Zq s b).2.length∧(Zq s b).1.hunt≤s.hunt+b.length
 | [],s=>⟨rfl,Nat.le_refl _⟩
 | c::r,s=>by
   simp only [Zq]
   have h:=Zc3 r (ZL s c).1
   have h1:(ZL s c).1.num=s.num+(ZL s c).2.length∧(ZL s c).1.hunt≤s.hunt+1:=by
    unfold ZL
    split
    · exact ⟨rfl,by simp⟩
    · split
      · exact ⟨rfl,Nat.le_refl _⟩
      · split <;> exact ⟨rfl,Nat.le_refl _⟩
   rw [h.1,h1.1,List.length_append]
   refine ⟨by omega,?_⟩
   have:=h.2
   simp only [List.length_cons]
   omega
/-- The line that is being read is short, and where it begins is known. -/
theorem Zc4:∀ (b:Txt) (s:St),s.cur.length≤400→(Zq s b).1.cur.length≤400∧(∀ x∈(Zq s b).2,x.text.length≤400)
 | [],s,h=>⟨h,by simp [Zq]⟩
 | c::r,s,h=>by
   simp only [Zq]
   have h1:(ZL s c).1.cur.length≤400∧∀ x∈(ZL s c).2,x.text.length≤400:=by
    unfold ZL
    split
    · exact ⟨h,by simp⟩
    · split
      · exact ⟨by simp,by simpa using h⟩
      · split
        · exact ⟨h,by simp⟩
        · exact ⟨by simp;omega,by simp⟩
   obtain ⟨h2,h3⟩:=Zc4 r (ZL s c).1 h1.1
   refine ⟨h2,fun x hx=>?_⟩
   rw [List.mem_append] at hx
   exact hx.elim (h1.2 x) (h3 x)
/-- Where the next line begins, with the bytes of the one that is being read, is how many bytes were read. -/
theorem Zfj:∀ (b:Txt) (s:St),s.off+s.cur.length≤s.hunt→(Zq s b).1.off+(Zq s b).1.cur.length≤(Zq s b).1.hunt
 | [],s,h=>h
 | c::r,s,h=>by
   simp only [Zq]
   refine Zfj r _ ?_
   unfold ZL
   split
   · exact h
   · split
     · simp;omega
     · split
       · simp;omega
       · simp;omega
/-- A window: how many bytes it holds, its room, how many bytes were moved. -/
structure Wn where
 held:Nat
 room:Nat
 move:Nat
def Wn.zero:Wn:=⟨0,0,0⟩
def Z8 (s:Wn) (n:Nat):Wn:=if n=0 then s else if s.room<s.held+n then ⟨s.held+n,max (max (2 * s.room) (s.held+n)) 16,s.move+s.held+n⟩ else ⟨s.held+n,s.room,s.move+n⟩
def JN (s:Wn):Wn:=⟨0,s.room,s.move⟩
/-- a line ends behind n bytes more -/
def ZW (s:Wn) (n:Nat):Wn:=if 0<s.held then JN (Z8 s n) else s
/-- A piece is taken, of which n bytes of the line that is being read stand ahead. -/
def Q4 (s:Wn) (n:Nat):Txt→Wn
 | []=>Z8 s n
 | c::r=>if c=10 then Q4 (ZW s n) 0 r else if 400≤s.held+n then s else Q4 s (n+1) r
end Seine.Fg
end
section
namespace Seine.Fg
open Seine.Trie
/-- Where a text of n bytes is cut, behind a place. -/
def placesF (n last:Nat):List Int→List Nat
 | []=>[]
 | c::r=>(min (max c (last:Int)) (n:Int)).toNat::placesF n (min (max c (last:Int)) (n:Int)).toNat r
/-- The bytes of a text between places. -/
def YS (t:Txt) (last:Nat):List Nat→List Txt
 | []=>[t.drop last]
 | p::r=>(t.drop last).take (p - last)::YS t p r
def Zv (t:Txt) (cuts:List Int):List Txt:=YS t 0 (placesF t.length 0 cuts)
theorem X8 (n:Nat):∀ (cuts:List Int) (last:Nat),(placesF n last cuts).length=cuts.length
 | [],_=>rfl
 | c::r,last=>by unfold placesF;rw [List.length_cons,X8 n r,List.length_cons]
theorem Yd (t:Txt):∀ (ps:List Nat) (last:Nat),(YS t last ps).length=ps.length+1
 | [],_=>rfl
 | p::r,last=>by unfold YS;rw [List.length_cons,Yd t r,List.length_cons]
/-- The place behind some cuts. -/
def YF (n last:Nat) (cuts:List Int):Nat:=cuts.foldl (fun a c=>(min (max c (a:Int)) (n:Int)).toNat) last
theorem lastF_snoc (n last:Nat) (cuts:List Int) (c:Int):YF n last (cuts++[c])=(min (max c (YF n last cuts:Int)) (n:Int)).toNat:=by unfold YF;rw [List.foldl_append];rfl
theorem Zfk {n:Nat}:∀ (cuts:List Int) {last:Nat},last≤n→last≤YF n last cuts∧YF n last cuts≤n
 | [],last,h=>⟨Nat.le_refl _,h⟩
 | c::r,last,h=>by
   have h1:(min (max c (last:Int)) (n:Int)).toNat≤n:=by omega
   have h2:=Zfk r h1
   have h3:YF n last (c::r)=YF n (min (max c (last:Int)) (n:Int)).toNat r:=rfl
   rw [h3]
   exact ⟨by omega,h2.2⟩
theorem ZbH (n:Nat):∀ (cuts:List Int) (last:Nat) (c:Int),placesF n last (cuts++[c])=placesF n last cuts++[YF n last (cuts++[c])]
 | [],last,c=>rfl
 | d::r,last,c=>by
   have h:=ZbH n r (min (max d (last:Int)) (n:Int)).toNat c
   rw [List.cons_append]
   unfold placesF
   rw [h]
   rfl
/-- Places rise, and none is behind the end. -/
def ZaZ (n:Nat):Nat→List Nat→Prop
 | _,[]=>True
 | a,p::r=>a≤p∧p≤n∧ZaZ n p r
theorem JO {n:Nat}:∀ (cuts:List Int) {last:Nat},last≤n→ZaZ n last (placesF n last cuts)
 | [],_,_=>trivial
 | c::r,last,h=>⟨by omega,by omega,JO r (by omega)⟩
theorem ZeD (t:Txt):∀ (ps:List Nat) (last:Nat),ZaZ t.length last ps→(YS t last ps).flatten=t.drop last
 | [],last,_=>by simp [YS]
 | p::r,last,⟨h1,h2,h3⟩=>by
   unfold YS
   rw [List.flatten_cons,ZeD t r p h3]
   have:t.drop p=(t.drop last).drop (p - last):=by rw [List.drop_drop];congr 1;omega
   rw [this,List.take_append_drop]
theorem Ye (t:Txt) (cuts:List Int):(Zv t cuts).flatten=t:=by
 unfold Zv
 rw [ZeD t _ 0 (JO cuts (Nat.zero_le _))]
 rfl
/-- A stream that is fed pieces. -/
def Qm (s:St):List Txt→St × List Ln
 | []=>(s,[])
 | p::r=>((Qm (Zq s p).1 r).1,(Zq s p).2++(Qm (Zq s p).1 r).2)
theorem Js:∀ (ps:List Txt) (s:St),Qm s ps=Zq s ps.flatten
 | [],s=>rfl
 | p::r,s=>by
   rw [List.flatten_cons,ZbG]
   unfold Qm
   rw [Js r]
theorem ZbI:∀ (ps qs:List Txt) (s:St),Qm s (ps++qs)=((Qm (Qm s ps).1 qs).1,(Qm s ps).2++(Qm (Qm s ps).1 qs).2)
 | [],qs,s=>rfl
 | p::r,qs,s=>by
   rw [List.cons_append]
   simp only [Qm]
   rw [ZbI r qs]
   simp [List.append_assoc]
/-- Its window. -/
def QI (s:St) (w:Wn):List Txt→Wn
 | []=>w
 | p::r=>QI (Zq s p).1 (if s.over=true then w else Q4 w 0 p) r
theorem ZdC:∀ (ps:List Txt) (p:Txt) (s:St) (w:Wn),QI s w (ps++[p])=(if (Qm s ps).1.over=true then QI s w ps else Q4 (QI s w ps) 0 p)
 | [],p,s,w=>rfl
 | q::r,p,s,w=>by
   rw [List.cons_append]
   simp only [QI,Qm]
   exact ZdC r p _ _
theorem feedP_take (s:St) {ps:List Txt} {k:Nat} (h:k<ps.length):Qm s (ps.take (k+1))=((Zq (Qm s (ps.take k)).1 (ps.getD k [])).1,(Qm s (ps.take k)).2++(Zq (Qm s (ps.take k)).1 (ps.getD k [])).2):=by
 have e:ps.getD k []=ps[k]:=by simp [h]
 rw [List.take_succ_eq_append_getElem h,ZbI,e]
 simp [Qm]
theorem feedQ_take (s:St) (w:Wn) {ps:List Txt} {k:Nat} (h:k<ps.length):QI s w (ps.take (k+1))=(if (Qm s (ps.take k)).1.over=true then QI s w (ps.take k) else Q4 (QI s w (ps.take k)) 0 (ps.getD k [])):=by
 have e:ps.getD k []=ps[k]:=by simp [h]
 rw [List.take_succ_eq_append_getElem h,ZdC,e]
end Seine.Fg
end
section
namespace Seine.Fg
open Seine.Trie
/-- T bytes were read, of which n stand ahead of the window. -/
structure MvOk (w:Wn) (n T:Nat):Prop where
 fit:w.held≤w.room
 line:w.held+n≤T
 sum:∃ A C,w.move=A+C∧A+n≤T∧C≤2 * T∧(C+16≤w.room∨(w.room=0∧C=0))
theorem MvOk.zero:MvOk Wn.zero 0 0:=⟨Nat.le_refl _,Nat.le_refl _,0,0,rfl,Nat.le_refl _,Nat.le_refl _,.inr ⟨rfl,rfl⟩⟩
theorem MvOk.mono {w:Wn} {n m T U:Nat} (h:MvOk w n T) (hn:m≤n) (hT:T≤U):MvOk w m U:=by
 obtain ⟨h1,h2,A,C,h3,h4,h5,h6⟩:=h
 exact ⟨h1,by omega,A,C,h3,by omega,by omega,h6⟩
theorem MvOk.step {w:Wn} {n T:Nat} (h:MvOk w n T):MvOk w (n+1) (T+1):=by
 obtain ⟨h1,h2,A,C,h3,h4,h5,h6⟩:=h
 exact ⟨h1,by omega,A,C,h3,by omega,by omega,h6⟩
theorem MvOk.add {w:Wn} {n T:Nat} (h:MvOk w n T):MvOk (Z8 w n) 0 T:=by
 obtain ⟨h1,h2,A,C,h3,h4,h5,h6⟩:=h
 unfold Z8
 split
 · rename_i h0
   exact ⟨h1,by omega,A,C,h3,by omega,h5,h6⟩
 · split
   · rename_i h0 h7
     refine ⟨by simp only;omega,by simp only;omega,A+n,C+w.held,by simp only;omega,by omega,?_,.inl ?_⟩
     · rcases h6 with h6 | ⟨h6,h8⟩ <;> omega
     · rcases h6 with h6 | ⟨h6,h8⟩ <;> (simp only;omega)
   · rename_i h0 h7
     exact ⟨by simp only;omega,by simp only;omega,A+n,C,by simp only;omega,by omega,h5,h6⟩
theorem MvOk.clear {w:Wn} {n T:Nat} (h:MvOk w n T):MvOk (JN w) n T:=by
 obtain ⟨h1,h2,h3⟩:=h
 exact ⟨Nat.zero_le _,by unfold JN;simp only;omega,h3⟩
theorem MvOk.endl {w:Wn} {n T:Nat} (h:MvOk w n T):MvOk (ZW w n) 0 T:=by
 unfold ZW
 split
 · exact h.add.clear
 · exact h.mono (Nat.zero_le _) (Nat.le_refl _)
theorem Zc5:∀ (b:Txt) {w:Wn} {n T:Nat},MvOk w n T→MvOk (Q4 w n b) 0 (T+b.length)
 | [],w,n,T,h=>h.add
 | c::r,w,n,T,h=>by
   unfold Q4
   rw [List.length_cons,show T+(r.length+1)=T+1+r.length by omega]
   split
   · exact Zc5 r (h.endl.mono (Nat.le_refl _) (Nat.le_succ _))
   · split
     · exact h.mono (Nat.zero_le _) (by omega)
     · exact Zc5 r h.step
theorem Zfl:∀ (ps:List Txt) {s:St} {w:Wn} {T:Nat},MvOk w 0 T→MvOk (QI s w ps) 0 (T+ps.flatten.length)
 | [],s,w,T,h=>h
 | p::r,s,w,T,h=>by
   unfold QI
   rw [List.flatten_cons,List.length_append,← Nat.add_assoc]
   refine Zfl r ?_
   split
   · exact h.mono (Nat.le_refl _) (by omega)
   · exact Zc5 p h
/-- No more than three times as many bytes are moved as there are. -/
theorem moves_le (s:St) (ps:List Txt):(QI s Wn.zero ps).move≤3 * ps.flatten.length:=by
 obtain ⟨_,_,A,C,h3,h4,h5,_⟩:=Zfl ps (s:=s) MvOk.zero
 omega
/-- The window holds the line that is being read. -/
theorem ZeE (w:Wn) (n:Nat):(Z8 w n).held=w.held+n:=by
 unfold Z8
 split
 · omega
 · split <;> rfl
theorem addW_room (w:Wn) (n:Nat) (h:w.held≤w.room):(Z8 w n).held≤(Z8 w n).room:=by
 unfold Z8
 split
 · exact h
 · split
   · simp only;omega
   · simp only;omega
theorem lineW_held (w:Wn) (n:Nat):(ZW w n).held=0:=by
 unfold ZW
 split
 · rfl
 · omega
end Seine.Fg
end
section
namespace Seine.Fg
open Seine.Trie
/-- A line: where it begins, its bytes, whether a newline stands behind it. -/
structure Lx where
 off:Nat
 text:Txt
 ends:Bool
def Qg (off:Nat) (cur:Txt):Txt→List Lx
 | []=>if cur=[] then [] else [⟨off,cur,false⟩]
 | c::r=>if c=10 then ⟨off,cur,true⟩::Qg (off+cur.length+1) [] r else Qg off (cur++[c]) r
def QU (b:Txt):List Lx:=Qg 0 [] b
theorem Za0:∀ (b:Txt) (off:Nat) (cur:Txt),(Qg off cur b).map Lx.text=XL cur b
 | [],off,cur=>by unfold Qg XL;split <;> rfl
 | c::r,off,cur=>by
   unfold Qg XL
   split
   · rw [List.map_cons,Za0 r]
   · exact Za0 r _ _
theorem Yf (b:Txt):(QU b).map Lx.text=Z0 b:=Za0 b 0 []
/-- Where the first newline stands. -/
def XP:Txt→Option Nat
 | []=>none
 | c::r=>if c=10 then some 0 else (XP r).map (·+1)
theorem ZeF:∀ {b:Txt} {n:Nat},XP b=some n→n<b.length∧b.getD n 0=10∧∀ j,j<n→b.getD j 0≠10
 | [],n,h=>by cases h
 | c::r,n,h=>by
   unfold XP at h
   split at h
   · rename_i hc
     injection h with h
     subst h
     exact ⟨by simp,by simpa using hc,fun j hj=>absurd hj (Nat.not_lt_zero _)⟩
   · rename_i hc
     rw [Option.map_eq_some_iff] at h
     obtain ⟨m,hm,rfl⟩:=h
     obtain ⟨h1,h2,h3⟩:=ZeF hm
     refine ⟨by simp;omega,by simpa using h2,fun j hj=>?_⟩
     cases j with
     | zero=>simpa using hc
     | succ j=>simpa using h3 j (by omega)
theorem ZfD:∀ {b:Txt} {n:Nat},n<b.length→b.getD n 0=10→(∀ j,j<n→b.getD j 0≠10)→XP b=some n
 | [],n,h,_,_=>absurd h (Nat.not_lt_zero _)
 | c::r,0,_,h,_=>by unfold XP;rw [if_pos (by simpa using h)]
 | c::r,n+1,h,h2,h3=>by
   unfold XP
   rw [if_neg (by simpa using h3 0 (by omega)),ZfD (b:=r) (n:=n) (by simpa using h) (by simpa using h2) (fun j hj=>by simpa using h3 (j+1) (by omega))]
   rfl
theorem Zfm:∀ {b:Txt},(∀ j,j<b.length→b.getD j 0≠10)→XP b=none
 | [],_=>rfl
 | c::r,h=>by
   unfold XP
   rw [if_neg (by simpa using h 0 (by simp)),Zfm (b:=r) (fun j hj=>by simpa using h (j+1) (by simpa using hj))]
   rfl
theorem ZdD:∀ {b:Txt} {n:Nat} (off:Nat) (cur:Txt),XP b=some n→Qg off cur b=⟨off,cur++b.take n,true⟩::Qg (off+cur.length+n+1) [] (b.drop (n+1))
 | [],n,off,cur,h=>by cases h
 | c::r,n,off,cur,h=>by
   unfold XP at h
   rw [show Qg off cur (c::r)=if c=10 then ⟨off,cur,true⟩::Qg (off+cur.length+1) [] r else Qg off (cur++[c]) r from rfl]
   split at h
   · rename_i hc
     injection h with h
     subst h
     rw [if_pos hc]
     simp
   · rename_i hc
     rw [Option.map_eq_some_iff] at h
     obtain ⟨m,hm,rfl⟩:=h
     rw [if_neg hc,ZdD off (cur++[c]) hm]
     simp only [List.take_succ_cons,List.drop_succ_cons,List.append_assoc,List.singleton_append,List.length_append,List.length_singleton]
     congr 2
     omega
theorem ZdE:∀ {b:Txt} (off:Nat) (cur:Txt),XP b=none→Qg off cur b=if cur++b=[] then [] else [⟨off,cur++b,false⟩]
 | [],off,cur,_=>by unfold Qg;simp
 | c::r,off,cur,h=>by
   unfold XP at h
   unfold Qg
   split at h
   · cases h
   · rename_i hc
     rw [Option.map_eq_none_iff] at h
     rw [if_neg hc,ZdE off (cur++[c]) h]
     simp
/-- Lines that begin at a place, and those ahead of it. -/
theorem linesX_at {b:Txt} {k n:Nat} (h:XP (b.drop k)=some n):Qg k [] (b.drop k)=⟨k,(b.drop k).take n,true⟩::Qg (k+n+1) [] (b.drop (k+n+1)):=by
 rw [ZdD k [] h]
 simp [List.drop_drop,Nat.add_assoc]
theorem linesX_last {b:Txt} {k:Nat} (hk:k<b.length) (h:XP (b.drop k)=none):Qg k [] (b.drop k)=[⟨k,b.drop k,false⟩]:=by
 rw [ZdE k [] h]
 have:b.drop k≠[]:=fun e=>by have:=congrArg List.length e;rw [List.length_drop] at this;simp at this;omega
 simp [this]
theorem Xr:∀ (b:Txt) (off:Nat) (cur:Txt),(Qg off cur b).length≤b.length+1
 | [],off,cur=>by unfold Qg;split <;> simp
 | c::r,off,cur=>by
   unfold Qg
   split
   · have:=Xr r (off+cur.length+1) []
     simp only [List.length_cons];omega
   · have:=Xr r off (cur++[c])
     simp only [List.length_cons];omega
theorem Xg:∀ (b cur:Txt),((XL cur b).map List.length).sum≤cur.length+b.length
 | [],cur=>by unfold XL;split <;> simp
 | c::r,cur=>by
   unfold XL
   split
   · have h1:=Xg r []
     have h2:([]:Txt).length=0:=rfl
     rw [List.map_cons,List.sum_cons,List.length_cons];omega
   · have h1:=Xg r (cur++[c])
     rw [List.length_append,List.length_singleton] at h1
     rw [List.length_cons];omega
end Seine.Fg
end
section
namespace Go.Proofs.YtfdlaomnecjfeaaGreatDoor
open Go.RowKit Seine.Trie Seine.Eng Seine.Fg
/-- A line as it is searched. -/
def QZ (o:Opt) (t:Txt):Txt:=if o.i=true then low t else t
theorem Xu (o:Opt) (t:Txt):(QZ o t).length=t.length:=by unfold QZ;split <;> simp [XK]
/-- The pieces of a line that may be. -/
def JP (o:Opt) (l:List Txt) (t:Txt):List Pr:=Q6 (QZ o t) (findF l (QZ o t)) o.w o.x
/-- Is a line selected? -/
def YT (o:Opt) (l:List Txt) (t:Txt):Bool:=decide (0<(JP o l t).length) != o.v
/-- What a selected line prints. -/
def Yg (o:Opt) (off:Int) (t:Txt) (may:List Pr):Txt :=
 if o.c=true then [] else if o.o=true then Xm off t (Seine.Pick.longest may XU) o.b else Yi off t o.b
/-- What was printed, how many lines were selected, what was scanned and looked up. -/
structure Ac where
 out:Txt
 n:Nat
 s:Nat
 k:Nat
def Ac.zero:Ac:=⟨[],0,0,0⟩
def QT (o:Opt) (tag:Int) (l:List Txt) (a:Ac) (x:Ln):Ac :=
 ⟨a.out++(if YT o l x.text=true then Yg o (x.off:Int) x.text (JP o l x.text) else []),a.n+(if YT o l x.text=true then 1 else 0),a.s+YZ tag l (QZ o x.text),a.k+QS tag l (QZ o x.text)⟩
def Zs (o:Opt) (tag:Int) (l:List Txt) (a:Ac) (ls:List Ln):Ac:=ls.foldl (QT o tag l) a
theorem Jf (o:Opt) (tag:Int) (l:List Txt) (a:Ac) (ls ms:List Ln):Zs o tag l a (ls++ms)=Zs o tag l (Zs o tag l a ls) ms:=by unfold Zs;rw [List.foldl_append]
theorem ZcC (o:Opt) (tag:Int) (l:List Txt) (a:Ac) {ls:List Ln} {k:Nat} (h:k<ls.length):Zs o tag l a (ls.take (k+1))=QT o tag l (Zs o tag l a (ls.take k)) ls[k]:=by
 rw [List.take_succ_eq_append_getElem h,Jf];rfl
/-- The patterns of a file. -/
def Z6 (i:Bool) (file:Txt):List Txt:=Z0 (if i=true then low file else file)
/-- What is wrong with a script; 0: nothing. -/
def Qn (o:Opt) (tag:Int) (file:Txt):Int :=
 if ZaY o=true then 10 else if tag<0∨3<tag then 11 else if 1024<file.length then 12 else Qe tag (Z6 o.i file)
/-- What comes of a script. -/
structure Rs where
 out:Txt
 status:Int
 err:Int
 line:Int
 cn:Cn
def QG (o:Opt) (tag:Int) (file input:Txt) (cuts:List Int):Rs :=
 if Qn o tag file≠0 then ⟨[],2,Qn o tag file,0,Cn.zero⟩
 else if (Zq St.zero input).1.over=true then
  ⟨(Zs o tag (Z6 o.i file) Ac.zero (Qu input)).out,2,15,((Zq St.zero input).1.num:Int),
   ⟨(Zs o tag (Z6 o.i file) Ac.zero (Qu input)).s,(Zs o tag (Z6 o.i file) Ac.zero (Qu input)).k,(Zq St.zero input).1.hunt,(QI St.zero Wn.zero (Zv input cuts)).move⟩⟩
 else
  ⟨if o.c=true then dig ((Zs o tag (Z6 o.i file) Ac.zero (Qu input)).n:Int)++[10] else (Zs o tag (Z6 o.i file) Ac.zero (Qu input)).out,
   if (Zs o tag (Z6 o.i file) Ac.zero (Qu input)).n=0 then 1 else 0,0,0,
   ⟨(Zs o tag (Z6 o.i file) Ac.zero (Qu input)).s,(Zs o tag (Z6 o.i file) Ac.zero (Qu input)).k,(Zq St.zero input).1.hunt,(QI St.zero Wn.zero (Zv input cuts)).move⟩⟩
end Go.Proofs.YtfdlaomnecjfeaaGreatDoor
end
section
namespace Go.Proofs.YtfdlaomnecjfeaaGreatDoor
open Go.RowKit Seine.Trie Seine.Fg
theorem ZcD (w:World) (c:UInt8):Calls Tryz.prog 132 #[.int .u8 (c.toNat:Int)] w fun e w'=>e=.returned (.int .u8 ((Yn c).toNat:Int))∧w=w':=by
 have hc:=c.toNat_lt
 have hl:=ZdB c
 obtain ⟨n,hn⟩:∃ n,c.toNat=n:=⟨_,rfl⟩
 rw [hn] at hl hc ⊢
 by_cases h1:65≤n
 · have d1:decide ((65:Int)≤(n:Int))=true:=decide_eq_true (by omega)
   by_cases h2:n≤90
   · have d2:decide ((n:Int)≤90)=true:=decide_eq_true (by omega)
     rw [if_pos ⟨h1,h2⟩] at hl
     rw [hl]
     clear hl hn
     have e1:IntKind.u8.wrap ((n:Int)+97)=(n:Int)+97:=by simp only [IntKind.wrap,IntKind.signed,IntKind.bits];simp;omega
     have e2:IntKind.u8.wrap ((n:Int)+97 - 65)=((n+32:Nat):Int):=by simp only [IntKind.wrap,IntKind.signed,IntKind.bits];simp;omega
     go_enter Tryz.func132,Tryz.ntmps132
     go_wp2
     go_ret
     exact ⟨rfl,rfl⟩
   · have d2:decide ((n:Int)≤90)=false:=decide_eq_false (by omega)
     rw [if_neg (by omega)] at hl
     rw [hl]
     clear hl hn
     go_enter Tryz.func132,Tryz.ntmps132
     go_wp2
     go_ret
     exact ⟨rfl,rfl⟩
 · have d1:decide ((65:Int)≤(n:Int))=false:=decide_eq_false (by omega)
   rw [if_neg (by omega)] at hl
   rw [hl]
   clear hl hn
   go_enter Tryz.func132,Tryz.ntmps132
   go_wp2
   go_ret
   exact ⟨rfl,rfl⟩
/-- the first k bytes without case -/
def YU (b:Txt) (k:Nat):Txt:=low (b.take k)++b.drop k
theorem lowK_length (b:Txt) (k:Nat):(YU b k).length=b.length:=by unfold YU;rw [List.length_append,XK,List.length_take,List.length_drop];omega
theorem lowK_zero (b:Txt):YU b 0=b:=by simp [YU,low]
theorem lowK_all (b:Txt):YU b b.length=low b:=by simp [YU]
theorem lowK_get (b:Txt) {k:Nat} (h:k<b.length):(YU b k).getD k 0=b.getD k 0:=by
 have e:(low (b.take k)).length=k:=by rw [XK,List.length_take];omega
 unfold YU
 rw [List.getD_eq_getElem?_getD,List.getElem?_append_right (by omega),e,Nat.sub_self,List.getElem?_drop,Nat.add_zero,← List.getD_eq_getElem?_getD]
theorem lowK_succ (b:Txt) {k:Nat} (h:k<b.length):(YU b k).set k (Yn (b.getD k 0))=YU b (k+1):=by
 have e:(low (b.take k)).length=k:=by rw [XK,List.length_take];omega
 have h1:b.take (k+1)=b.take k++[b[k]]:=List.take_succ_eq_append_getElem h
 have h2:b.drop k=b[k]::b.drop (k+1):=List.drop_eq_getElem_cons h
 have h3:b.getD k 0=b[k]:=by simp [h]
 have h4:(b.drop k).set 0 (Yn b[k])=Yn b[k]::b.drop (k+1):=by rw [h2];rfl
 unfold YU
 rw [h3,List.set_append_right _ _ (by omega),e,Nat.sub_self,h4,h1]
 unfold low
 rw [List.map_append,List.append_assoc]
 rfl
set_option maxRecDepth 100000 in
theorem ZbJ (w:World) (A:Option Addr) (c:Nat) (b:Txt) (hb:Byt w A b) (hl:b.length≤1000000):Calls Tryz.prog 86 #[.slice A b.length c] w (RetByt w (low b)):=by
 have cc:=As.mk (ZR w A c b hb hl)
 have hk0:=As.mk (lowK_zero b)
 have hkl:=As.mk (fun k=>lowK_length b k)
 have hks:=As.mk (fun k (h:k<b.length)=>lowK_succ b h)
 have hkg:=As.mk (fun k (h:k<b.length)=>lowK_get b h)
 have hka:=As.mk (lowK_all b)
 obtain ⟨n,hn⟩:∃ n,b.length=n:=⟨_,rfl⟩
 rw [hn] at cc hl hks hkg hka hkl ⊢
 replace hn:=As.mk hn
 clear hb
 go_enter Tryz.func86,Tryz.ntmps86
 go_wp2_with (go_at_call 104;refine Calls.mono cc.out ?_;intro e w1 h1;obtain ⟨v1,he,ho1,hb1⟩:=h1;subst he;obtain ⟨A1,c1,rfl,hc1⟩:=Zk ho1;rw [hn.out] at ho1 hc1 ⊢;replace ho1:=As.mk ho1;replace hb1:=As.mk hb1)
 go_loopw [10] (fun i wr=>∃ k:Nat,k≤n∧i=.int .i64 k∧As (OwnByt wr w.heap.size (.slice A1 n c1) (YU b k))∧As (Below w.heap.size w wr)) (fun i _=>n - (intOf i).toNat)
 case atStart=>exact ⟨0,Nat.zero_le _,rfl,⟨by rw [hk0.out];exact ho1.out⟩,hb1⟩
 case round =>
  obtain ⟨k,hk,rfl,ho,hbw⟩:=hrel
  by_cases hlt:k<n
  · have hown':wr.ownsRow w.heap.size 5 1 (.slice A1 n c1) n (Zh (YU b k)):=by
      have:=ho.out;unfold OwnByt at this;rw [hkl.out k] at this;exact this
    obtain ⟨g,rfl,hgb⟩:∃ g,A1=some ⟨g,0,none⟩∧w.heap.size≤g:=by
     rcases hown'.2 with ⟨_,h⟩ | ⟨g,cap,cur,hv,hg,_⟩
     · omega
     · injection hv with h _ _;exact ⟨g,h,hg⟩
    have hcell:wr.cell? ⟨g,k,none⟩=some (.int .u8 ((b.getD k 0).toNat:Int)):=by
     rw [World.ownsRow.cellAt hown' k (by omega),← hkg.out k hlt]
     simp [Zh,List.getD_eq_getElem?_getD,hkl.out k,hlt]
    have f0:=World.ownsRow.frozenAt hown' k
    have hnx:=As.mk (hks.out k hlt)
    have hso:=As.mk (World.ownsRow.stored hown' k (.int .u8 ((Yn (b.getD k 0)).toNat:Int)))
    have hlk:=As.mk (hkl.out (k+1))
    have cb:=As.mk (fun v=>ZcD v (b.getD k 0))
    have hbs:=As.mk ((hbw.out.setCell (p:=⟨g,k,none⟩) hgb (.int .u8 ((Yn (b.getD k 0)).toNat:Int))))
    generalize b.getD k 0=x at *
    clear hown'
    go_wp2_with (go_at_call 132;refine Calls.mono (cb.out _) ?_;rintro e w2 ⟨rfl,rfl⟩)
    go_roundw
    case rel=>exact ⟨k+1,hlt,(by first | rfl | go_num | (congr 1;omega)),⟨by unfold OwnByt;rw [hlk.out,← hnx.out,← Zab];exact hso.out.1⟩,hbs⟩
    case measure=>simp [intOf];omega
  · obtain rfl:k=n:=by omega
    have ho2:=ho.out
    rw [hka.out] at ho2
    replace ho2:=As.mk ho2
    clear ho
    go_wp2
    go_ret
    exact ⟨_,rfl,ho2.out,hbw.out⟩
end Go.Proofs.YtfdlaomnecjfeaaGreatDoor
end
section
namespace Go.Proofs.YtfdlaomnecjfeaaGreatDoor
open Go.RowKit Seine.Trie Seine.Fg
theorem wordC_low (c:UInt8):ZeT c=decide ((97≤(Yn c).toNat∧(Yn c).toNat≤122)∨(48≤(Yn c).toNat∧(Yn c).toNat≤57)∨(Yn c).toNat=95):=by
 have h:=ZdB c
 unfold ZeT
 rw [Bool.eq_iff_iff,decide_eq_true_iff,decide_eq_true_iff,h]
 split <;> omega
theorem fword_calls (w:World) (c:UInt8):Calls Tryz.prog 238 #[.int .u8 (c.toNat:Int)] w fun e w'=>e=.returned (.bool (ZeT c))∧w=w':=by
 have cb:=As.mk (ZcD w c)
 rw [wordC_low]
 obtain ⟨x,hx⟩:∃ x,(Yn c).toNat=x:=⟨_,rfl⟩
 rw [hx] at cb ⊢
 clear hx
 rcases (show x<48∨(48≤x∧x≤57)∨(58≤x∧x≤94)∨x=95∨x=96∨(97≤x∧x≤122)∨123≤x by omega) with h | h | h | h | h | h | h
 · --
   have d1:decide ((97:Int)≤(x:Int))=false:=by simp;omega
   have d2:decide ((x:Int)≤122)=true:=by simp;omega
   have d3:decide ((48:Int)≤(x:Int))=false:=by simp;omega
   have d4:decide ((x:Int)≤57)=true:=by simp;omega
   have d5:((x:Int) == 95)=false:=by simp;omega
   have hr:decide ((97≤x∧x≤122)∨(48≤x∧x≤57)∨x=95)=false:=by simp;omega
   rw [hr]
   clear hr h
   go_enter Tryz.func238,Tryz.ntmps238
   go_wp2_with (go_at_call 132;refine Calls.mono cb.out ?_;rintro e w2 ⟨rfl,rfl⟩)
   go_ret
   exact ⟨rfl,rfl⟩
 · --
   have d1:decide ((97:Int)≤(x:Int))=false:=by simp;omega
   have d2:decide ((x:Int)≤122)=true:=by simp;omega
   have d3:decide ((48:Int)≤(x:Int))=true:=by simp;omega
   have d4:decide ((x:Int)≤57)=true:=by simp;omega
   have d5:((x:Int) == 95)=false:=by simp;omega
   have hr:decide ((97≤x∧x≤122)∨(48≤x∧x≤57)∨x=95)=true:=by simp;omega
   rw [hr]
   clear hr h
   go_enter Tryz.func238,Tryz.ntmps238
   go_wp2_with (go_at_call 132;refine Calls.mono cb.out ?_;rintro e w2 ⟨rfl,rfl⟩)
   go_ret
   exact ⟨rfl,rfl⟩
 · --
   have d1:decide ((97:Int)≤(x:Int))=false:=by simp;omega
   have d2:decide ((x:Int)≤122)=true:=by simp;omega
   have d3:decide ((48:Int)≤(x:Int))=true:=by simp;omega
   have d4:decide ((x:Int)≤57)=false:=by simp;omega
   have d5:((x:Int) == 95)=false:=by simp;omega
   have hr:decide ((97≤x∧x≤122)∨(48≤x∧x≤57)∨x=95)=false:=by simp;omega
   rw [hr]
   clear hr h
   go_enter Tryz.func238,Tryz.ntmps238
   go_wp2_with (go_at_call 132;refine Calls.mono cb.out ?_;rintro e w2 ⟨rfl,rfl⟩)
   go_ret
   exact ⟨rfl,rfl⟩
 · --
   have d1:decide ((97:Int)≤(x:Int))=false:=by simp;omega
   have d2:decide ((x:Int)≤122)=true:=by simp;omega
   have d3:decide ((48:Int)≤(x:Int))=true:=by simp;omega
   have d4:decide ((x:Int)≤57)=false:=by simp;omega
   have d5:((x:Int) == 95)=true:=by simp;omega
   have hr:decide ((97≤x∧x≤122)∨(48≤x∧x≤57)∨x=95)=true:=by simp;omega
   rw [hr]
   clear hr h
   go_enter Tryz.func238,Tryz.ntmps238
   go_wp2_with (go_at_call 132;refine Calls.mono cb.out ?_;rintro e w2 ⟨rfl,rfl⟩)
   go_ret
   exact ⟨rfl,rfl⟩
 · --
   have d1:decide ((97:Int)≤(x:Int))=false:=by simp;omega
   have d2:decide ((x:Int)≤122)=true:=by simp;omega
   have d3:decide ((48:Int)≤(x:Int))=true:=by simp;omega
   have d4:decide ((x:Int)≤57)=false:=by simp;omega
   have d5:((x:Int) == 95)=false:=by simp;omega
   have hr:decide ((97≤x∧x≤122)∨(48≤x∧x≤57)∨x=95)=false:=by simp;omega
   rw [hr]
   clear hr h
   go_enter Tryz.func238,Tryz.ntmps238
   go_wp2_with (go_at_call 132;refine Calls.mono cb.out ?_;rintro e w2 ⟨rfl,rfl⟩)
   go_ret
   exact ⟨rfl,rfl⟩
 · --
   have d1:decide ((97:Int)≤(x:Int))=true:=by simp;omega
   have d2:decide ((x:Int)≤122)=true:=by simp;omega
   have d3:decide ((48:Int)≤(x:Int))=true:=by simp;omega
   have d4:decide ((x:Int)≤57)=false:=by simp;omega
   have d5:((x:Int) == 95)=false:=by simp;omega
   have hr:decide ((97≤x∧x≤122)∨(48≤x∧x≤57)∨x=95)=true:=by simp;omega
   rw [hr]
   clear hr h
   go_enter Tryz.func238,Tryz.ntmps238
   go_wp2_with (go_at_call 132;refine Calls.mono cb.out ?_;rintro e w2 ⟨rfl,rfl⟩)
   go_ret
   exact ⟨rfl,rfl⟩
 · --
   have d1:decide ((97:Int)≤(x:Int))=true:=by simp;omega
   have d2:decide ((x:Int)≤122)=false:=by simp;omega
   have d3:decide ((48:Int)≤(x:Int))=true:=by simp;omega
   have d4:decide ((x:Int)≤57)=false:=by simp;omega
   have d5:((x:Int) == 95)=false:=by simp;omega
   have hr:decide ((97≤x∧x≤122)∨(48≤x∧x≤57)∨x=95)=false:=by simp;omega
   rw [hr]
   clear hr h
   go_enter Tryz.func238,Tryz.ntmps238
   go_wp2_with (go_at_call 132;refine Calls.mono cb.out ?_;rintro e w2 ⟨rfl,rfl⟩)
   go_ret
   exact ⟨rfl,rfl⟩
theorem ZbK (w:World) (A:Option Addr) (c:Nat) (L:Txt) (s e:Int):Calls Tryz.prog 224 #[.slice A L.length c,.agg #[.int .i64 s,.int .i64 e]] w fun r w'=>r=.returned (.bool (pieceB L (s,e)))∧Below w.heap.size w w':=by
 have hB:Below w.heap.size w (w.alloc (.cells #[.int .i64 s,.int .i64 e] 67)):=(Below.refl _ _).alloc (Nat.le_refl _) _
 have hp:pieceB L (s,e)=(decide (0≤s) && (decide (s≤e) && decide (e≤(L.length:Int)))):=by unfold pieceB;simp only;rw [Bool.eq_iff_iff];simp
 rw [hp]
 by_cases h1:0≤s
 · have d1:=decide_eq_true h1
   by_cases h2:s≤e
   · have d2:=decide_eq_true h2
     rw [d1,d2,Bool.true_and,Bool.true_and]
     go_enter Tryz.func224,Tryz.ntmps224
     go_wp2
     go_ret
     exact ⟨rfl,hB⟩
   · have d2:=decide_eq_false h2
     rw [d1,d2,Bool.true_and,Bool.false_and]
     go_enter Tryz.func224,Tryz.ntmps224
     go_wp2
     go_ret
     exact ⟨rfl,hB⟩
 · have d1:=decide_eq_false h1
   rw [d1,Bool.false_and]
   go_enter Tryz.func224,Tryz.ntmps224
   go_wp2
   go_ret
   exact ⟨rfl,hB⟩
/-- Free's own function: is a byte of words at a place? -/
theorem afree1_calls (w:World) (lb:Nat) (A:Option Addr) (c:Nat) (L:Txt) (hl:w.heap[lb]? = some (.cells #[.slice A L.length c] 22 (0,0))) (hL:Byt w A L) (i:Int) :
    Calls Tryz.prog 237 #[.int .i64 i,.pointer (some ⟨lb,0,none⟩)] w fun r w'=>r=.returned (.bool (ZbF L i))∧w=w':=by
 have l0:w.cell? ⟨lb,0,none⟩=some (.slice A L.length c):=Za hl 0
 unfold ZbF
 by_cases h1:0≤i
 · have d1:=decide_eq_true h1
   by_cases h2:i<(L.length:Int)
   · obtain ⟨k,rfl⟩:=Int.eq_ofNat_of_zero_le h1
     have hk:k<L.length:=by omega
     have d2:=decide_eq_true h2
     have d3:decide (0≤(k:Int)∧(k:Int)<(L.length:Int))=true:=decide_eq_true ⟨h1,h2⟩
     rw [d3,Bool.true_and,Int.toNat_natCast]
     obtain ⟨ad,rfl,ca⟩:=Byt.at_ hL hk
     have cw:=As.mk (fword_calls w (L.getD k 0))
     generalize L.getD k 0=x at *
     have d5:decide (0≤(k:Int))=true:=decide_eq_true (by omega)
     clear hl hL
     go_enter Tryz.func237,Tryz.ntmps237
     go_wp2_with (go_at_call 238;refine Calls.mono cw.out ?_;rintro e w2 ⟨rfl,rfl⟩)
     go_ret
     exact ⟨rfl,rfl⟩
   · have d2:=decide_eq_false h2
     have d3:decide (0≤i∧i<(L.length:Int))=false:=decide_eq_false (fun h=>h2 h.2)
     rw [d3,Bool.false_and]
     clear hl hL
     go_enter Tryz.func237,Tryz.ntmps237
     go_wp2
     go_ret
     exact ⟨rfl,rfl⟩
 · have d1:=decide_eq_false h1
   have d3:decide (0≤i∧i<(L.length:Int))=false:=decide_eq_false (fun h=>h1 h.1)
   rw [d3,Bool.false_and]
   clear hl hL
   go_enter Tryz.func237,Tryz.ntmps237
   go_wp2
   go_ret
   exact ⟨rfl,rfl⟩
theorem afree_calls (w:World) (A:Option Addr) (c:Nat) (L:Txt) (hL:Byt w A L) (hLl:L.length≤1000000) (s e:Int) (hs:-1000000≤s) (hs2:s≤1000000):Calls Tryz.prog 226 #[.slice A L.length c,.agg #[.int .i64 s,.int .i64 e]] w fun r w'=>r=.returned (.bool (freeB L (s,e)))∧Below w.heap.size w w':=by
 have hB:Below w.heap.size w ((w.alloc (.cells #[.slice A L.length c] 22)).alloc (.cells #[.int .i64 s,.int .i64 e] 67)):=((Below.refl _ _).alloc (Nat.le_refl _) _).alloc (by simp) _
 have hl0:=Zn (o':=.cells #[.int .i64 s,.int .i64 e] 67) (heap_alloc_new w (.cells #[.slice A L.length c] 22))
 have hp0:=Q8 w (.cells #[.slice A L.length c] 22) (.cells #[.int .i64 s,.int .i64 e] 67)
 have hw:IntKind.i64.wrap (s - 1)=s - 1:=by rw [IntKind.wrap_i64];omega
 have hmf:∀ (fn:Fn) (first cap:Array Value) (w:World),(Instr.makeFunc fn first cap).run Tryz.prog w=.ok (.func fn first cap) w:=fun _ _ _ _=>rfl
 unfold freeB
 obtain ⟨W1,hW1⟩:∃ W,(w.alloc (.cells #[.slice A L.length c] 22)).alloc (.cells #[.int .i64 s,.int .i64 e] 67)=W:=⟨_,rfl⟩
 obtain ⟨z,hz⟩:∃ z,w.heap.size=z:=⟨_,rfl⟩
 rw [hW1] at hB hl0 hp0
 rw [hz] at hl0 hp0
 have l0:W1.cell? ⟨z,0,none⟩=some (.slice A L.length c):=Za hl0 0
 have p0:W1.cell? ⟨z+1,0,none⟩=some (.int .i64 s):=Za hp0 0
 have p1:W1.cell? ⟨z+1,1,none⟩=some (.int .i64 e):=Za hp0 1
 have cp:=As.mk (ZbK W1 A c L s e)
 have hBA:=As.mk hB
 have hl0A:=As.mk hl0
 have hp0A:=As.mk hp0
 have hLA:=As.mk (Row.below hL hB)
 replace hW1:=As.mk hW1
 replace hz:=As.mk hz
 clear hl0 hp0 hL hB
 cases hp:pieceB L (s,e) with
 | false =>
   rw [hp] at cp
   simp only [Bool.false_and]
   go_enter Tryz.func226,Tryz.ntmps226
   go_wp2_with (first
    | (rw [hW1.out])
    | (rw [hz.out])
    | (go_at_call 224;refine Calls.mono cp.out ?_;rintro e w2 ⟨rfl,hb2⟩))
   go_ret
   exact ⟨rfl,by rw [← hz.out];exact Ze hBA.out hb2⟩
 | true =>
   rw [hp] at cp
   simp only [Bool.true_and]
   have cF:=As.mk (fun (v:World) (hv:Below W1.heap.size W1 v) (i:Int)=>afree1_calls v z A c L (Zc hv hl0A.out) (Row.below hLA.out hv) i)
   have hpc:=As.mk (fun (v:World) (hv:Below W1.heap.size W1 v)=>(⟨Za (Zc hv hp0A.out) 0,Za (Zc hv hp0A.out) 1⟩:v.cell? ⟨z+1,0,none⟩=some (.int .i64 s)∧v.cell? ⟨z+1,1,none⟩=some (.int .i64 e)))
   by_cases hse:s=e
   · have d1:(s == e)=true:=beq_iff_eq.2 hse
     rw [d1]
     simp only [Bool.not_true,Bool.false_and]
     replace hse:=As.mk hse
     go_enter Tryz.func226,Tryz.ntmps226
     go_wp2_with (first
      | (rw [hW1.out])
      | (rw [hz.out])
      | (go_at_call 224;refine Calls.mono cp.out ?_;rintro e w2 ⟨rfl,hb2⟩;obtain ⟨a0,a1⟩:=hpc.out _ hb2))
     go_ret
     exact ⟨rfl,by rw [← hz.out];exact Ze hBA.out hb2⟩
   · have d1:(s == e)=false:=beq_eq_false_iff_ne.2 hse
     rw [d1]
     simp only [Bool.not_false,Bool.true_and]
     cases hw1:ZbF L (s - 1) with
     | true =>
       simp only [Bool.not_true,Bool.false_and]
       have c1:=As.mk (fun (v:World) (hv:Below W1.heap.size W1 v)=>(by have:=cF.out v hv (s - 1);rw [hw1] at this;exact this:Calls Tryz.prog 237 #[.int .i64 (s - 1),.pointer (some ⟨z,0,none⟩)] v fun r w'=>r=.returned (.bool true)∧v=w'))
       go_enter Tryz.func226,Tryz.ntmps226
       go_wp2_with (first
        | (rw [hW1.out])
        | (rw [hz.out])
        | (go_at_call 224;refine Calls.mono cp.out ?_;rintro e w2 ⟨rfl,hb2⟩;obtain ⟨a0,a1⟩:=hpc.out _ hb2)
        | (go_at_call 237;refine Calls.mono (c1.out _ hb2) ?_;rintro e w3 ⟨rfl,rfl⟩))
       go_ret
       exact ⟨rfl,by rw [← hz.out];exact Ze hBA.out hb2⟩
     | false =>
       simp only [Bool.not_false,Bool.true_and]
       have c1:=As.mk (fun (v:World) (hv:Below W1.heap.size W1 v)=>(by have:=cF.out v hv (s - 1);rw [hw1] at this;exact this:Calls Tryz.prog 237 #[.int .i64 (s - 1),.pointer (some ⟨z,0,none⟩)] v fun r w'=>r=.returned (.bool false)∧v=w'))
       have c2:=As.mk (fun (v:World) (hv:Below W1.heap.size W1 v)=>cF.out v hv e)
       go_enter Tryz.func226,Tryz.ntmps226
       go_wp2_with (first
        | (rw [hW1.out])
        | (rw [hz.out])
        | (go_at_call 224;refine Calls.mono cp.out ?_;rintro e w2 ⟨rfl,hb2⟩;obtain ⟨a0,a1⟩:=hpc.out _ hb2)
        | (go_at_call 237;(with_reducible refine Calls.mono (c1.out _ hb2) ?_);rintro e w3 ⟨rfl,rfl⟩)
        | (go_at_call 237;(with_reducible refine Calls.mono (c2.out _ hb2) ?_);rintro e w3 ⟨rfl,rfl⟩))
       go_ret
       exact ⟨rfl,by rw [← hz.out];exact Ze hBA.out hb2⟩
end Go.Proofs.YtfdlaomnecjfeaaGreatDoor
end
section
namespace Go.Proofs.YtfdlaomnecjfeaaGreatDoor
open Go.RowKit Seine.Trie
theorem mread_calls (w:World) (g:Nat) (cn:Cn) (hm:MtAt w g cn) (h0:0≤cn.h) (h1:cn.h≤1000000000000) (A:Option Addr) (c:Nat) (b:Txt) (hb:Byt w A b) (i:Nat) (hi:i<b.length) :
    Calls Tryz.prog 114 #[.pointer (some ⟨g,0,none⟩),.slice A b.length c,.int .i64 (i:Int)] w fun e w'=>e=.returned (.tuple #[.int .u8 ((b.getD i 0).toNat:Int),.bool true])∧MtAt w' g { cn with h:=cn.h+1 }∧Keeps (fun k=>k=g) w w':=by
 obtain ⟨s,l,hh,m⟩:=cn
 have hs1:IntKind.i64.wrap (hh+1)=hh+1:=by rw [IntKind.wrap_i64];simp only at h0 h1;omega
 have hw1:wrap64 (hh+1)=hh+1:=by simp only at h0 h1;unfold wrap64;omega
 have g2:w.cell? ⟨g,2,none⟩=some (.int .i64 hh):=Za hm 2
 have f2:w.frozen? ⟨g,2,none⟩=false:=Zb hm 2
 obtain ⟨ad,rfl,hc⟩:=Byt.at_ hb hi
 have hne:ad.block≠g:=fun e=>by
  have h:=hc
  unfold MtAt at hm
  unfold World.cell? at h
  rw [Addr.block_add,e,hm] at h
  simp only at h
  split at h
  · cases h
  · have h2:=Array.mem_of_getElem? h
    simp [Qr] at h2
 have hM:=Zi hm 2 (.int .i64 (hh+1))
 have hK:Keeps (fun k=>k=g) w (w.setCell ⟨g,2,none⟩ (.int .i64 (hh+1))):=(Zm w ⟨g,2,none⟩ _).mono fun k _ e=>e
 have hc2:(w.setCell ⟨g,2,none⟩ (.int .i64 (hh+1))).cell? (ad.add i)=some (.int .u8 ((b.getD i 0).toNat:Int)):=by
  have hlt:=World.block_lt_of_cell? w (ad.add i) hc
  exact (hK.cell hlt (by rw [Addr.block_add];exact hne)).trans hc
 generalize b.getD i 0=x at *
 generalize b.length=n at *
 have hM':=As.mk hM
 have hK':=As.mk hK
 clear hM hK hm hb
 go_enter Tryz.func114,Tryz.ntmps114
 go_wp2_with (go_at_call 165;refine Calls.mono (XN _ _) ?_;rintro e w1 ⟨rfl,rfl⟩)
 go_ret2
 refine ⟨rfl,?_,hK'.out⟩
 unfold MtAt
 rw [hM'.out]
 simp [Qr]
theorem ZcY9 (w:World) (g:Nat) (cs:Array Value):Keeps (fun k=>k=g) w (w.setRow g cs):=⟨rfl,rfl,rfl,by simp [World.setRow],fun k hk hn=>setRow_other w g k cs hn⟩
theorem Zfn:(Tryz.prog.info? 5).map (·.size)=some 1:=by kernel_rfl
/-- Bytes are moved into a row: which lies behind them, which ahead. -/
theorem ZcE (w:World) (g:Nat) (cn:Cn) (hm:MtAt w g cn) (h0:0≤cn.m) (h1:cn.m≤1000000000000) (gd off dLen dCap:Nat) (cur:List Value) (hg:w.heap[gd]? = some (.cells cur.toArray 5 (0,0)))
    (dp:Option Addr) (hdp:dp=some ⟨gd,off,none⟩) (A:Option Addr) (c:Nat) (b:Txt) (hb:Byt w A b) (hl:b.length≤dLen) (hfit:off+b.length≤cur.length) (hbl:b.length≤1000000) :
    Calls Tryz.prog 167 #[.pointer (some ⟨g,0,none⟩),.slice dp dLen dCap,.slice A b.length c] w fun e w'=>e=.returned (.int .i64 (b.length:Int))∧w'.heap[gd]? = some (.cells (splice cur off (Zh b)).toArray 5 (0,0))∧MtAt w' g { cn with m:=cn.m+(b.length:Int) }∧Keeps (fun k=>k=g∨k=gd) w w':=by
 subst hdp
 obtain ⟨s,l,hh,m⟩:=cn
 have hne:gd≠g:=fun e=>by
  unfold MtAt at hm
  rw [e,hm] at hg
  injection hg with hg
  injection hg with _ h2
  exact absurd h2 (by decide)
 have hm0:=As.mk hm
 rcases Nat.eq_zero_or_pos b.length with hz | hz
 · have hb0:b=[]:=List.eq_nil_of_length_eq_zero hz
   subst hb0
   have hw1:IntKind.i64.wrap (m+0)=m:=by rw [IntKind.wrap_i64];simp only at h0 h1;omega
   have hw2:IntKind.i64.wrap m=m:=by rw [IntKind.wrap_i64];simp only at h0 h1;omega
   have g3:w.cell? ⟨g,3,none⟩=some (.int .i64 m):=Za hm 3
   have f3:w.frozen? ⟨g,3,none⟩=false:=Zb hm 3
   have hM:=As.mk (Zi hm 3 (.int .i64 m))
   have hG:=As.mk (Z2 (p:=⟨g,3,none⟩) hg hne (.int .i64 m))
   have hK:As (Keeps (fun k=>k=g∨k=gd) w (w.setCell ⟨g,3,none⟩ (.int .i64 m))):=⟨(Zm w ⟨g,3,none⟩ _).mono fun k _ e=>.inl e⟩
   clear hm hb hg
   go_enter Tryz.func167,Tryz.ntmps167
   go_wp2_with (first
    | (refine wpList_copy_nothing rfl (.tmp 8) (.tmp 9) 22 22 rfl 5 Tryz.underlying22 Zfn _ _ dLen dCap _ c rfl rfl (by simp) ?_)
    | (go_at_call 165;refine Calls.mono (XN _ _) ?_;rintro e w1 ⟨rfl,rfl⟩))
   go_ret
   refine ⟨rfl,?_,?_,hK.out⟩
   · rw [hG.out];simp [splice,Zh]
   · unfold MtAt;rw [hM.out];simp [Qr]
 · obtain ⟨ad,rfl,hc⟩:∃ ad,A=some ad∧∀ j u,(Zh b)[j]? = some u→w.cell? (ad.add j)=some u:=by
     rcases hb with h | ⟨ad,hA,_,hc⟩
     · have:=congrArg List.length h;rw [Zt] at this;simp only [List.length_nil] at this;omega
     · exact ⟨ad,hA,hc⟩
   have hlc:=Zt b
   have h1c:=ZcS (b:=b)
   obtain ⟨cs,hcs⟩:∃ cs,Zh b=cs:=⟨_,rfl⟩
   obtain ⟨n,hn⟩:∃ n,b.length=n:=⟨_,rfl⟩
   rw [hcs] at hc h1c hlc ⊢
   rw [hn] at hl hfit hbl hz hlc ⊢
   have hmin:cs.length=Nat.min n dLen:=by rw [hlc];exact (Nat.min_eq_left hl).symm
   have hG:=setRow_heap w gd _ (splice cur off cs).toArray 5 _ hg
   have hK1:=ZcY9 w gd (splice cur off cs).toArray
   have hM1:MtAt (w.setRow gd (splice cur off cs).toArray) g ⟨s,l,hh,m⟩:=Zd hm hK1 (fun e=>hne e.symm)
   have hsp:(cur.toArray.toList.take off++(cs++cur.toArray.toList.drop (off+cs.length))).toArray=(splice cur off cs).toArray:=rfl
   obtain ⟨W1,hW1⟩:∃ W,w.setRow gd (splice cur off cs).toArray=W:=⟨_,rfl⟩
   rw [hW1] at hG hK1 hM1
   have hw1:IntKind.i64.wrap (m+(n:Int))=m+(n:Int):=by rw [IntKind.wrap_i64];simp only at h0 h1;omega
   have g3:W1.cell? ⟨g,3,none⟩=some (.int .i64 m):=Za hM1 3
   have f3:W1.frozen? ⟨g,3,none⟩=false:=Zb hM1 3
   have hM:=As.mk (Zi hM1 3 (.int .i64 (m+(n:Int))))
   have hG2:=As.mk (Z2 (p:=⟨g,3,none⟩) hG hne (.int .i64 (m+(n:Int))))
   have hK:As (Keeps (fun k=>k=g∨k=gd) w (W1.setCell ⟨g,3,none⟩ (.int .i64 (m+(n:Int))))):=⟨(hK1.mono fun k _ e=>.inr e).trans ((Zm W1 ⟨g,3,none⟩ _).mono fun k _ e=>.inl e)⟩
   have hg':=As.mk hg
   have hc':=As.mk hc
   have hW1':=As.mk hW1
   have hmin':=As.mk hmin
   have h1c':=As.mk h1c
   have hlc':=As.mk hlc
   have hfit':=As.mk hfit
   clear hm hb hg hc hG hK1 hM1 hcs hW1 hmin h1c hlc hfit hsp hm0
   go_enter Tryz.func167,Tryz.ntmps167
   go_wp2_with (first
    | (refine wpList_copy_own rfl (.tmp 8) (.tmp 9) 22 22 rfl 5 Tryz.underlying22 Zfn gd off dLen dCap ad n c rfl rfl cur.toArray 5 hg'.out cs hmin'.out hc'.out (by rw [hlc'.out];simpa using hfit'.out) h1c'.out ?_;rw [show w.setRow gd (cur.toArray.toList.take off++(cs++cur.toArray.toList.drop (off+cs.length))).toArray=W1 from hW1'.out,hlc'.out])
    | (go_at_call 165;refine Calls.mono (XN _ _) ?_;rintro e w1 ⟨rfl,rfl⟩))
   go_ret
   refine ⟨rfl,hG2.out,?_,hK.out⟩
   unfold MtAt;rw [hM.out];simp [Qr]
end Go.Proofs.YtfdlaomnecjfeaaGreatDoor
end
section
namespace Go.Proofs.YtfdlaomnecjfeaaGreatDoor
open Go.RowKit Seine.Trie Seine.Fg
theorem max_three' (ats:Array TypeId) (ty:TypeId) (a b c:Value):Builtin.max_ ats ty #[a,b,c]=(Builtin.max2 a b >>= fun s=>Builtin.max2 s c >>= fun t=>pure t):=by simp only [Builtin.max_,List.foldlM_cons,List.foldlM_nil]
/-- Bytes stand in no block of other cells. -/
theorem Byt.farOf {w:World} {A:Option Addr} {b:Txt} (h:Byt w A b) (hb:b≠[]) {k t:Nat} {cs:Array Value} {fr:Nat × Nat} (hk:w.heap[k]? = some (.cells cs t fr)) (hn:∀ x∈cs,∀ n,x≠.int .u8 n):∀ ad,A=some ad→ad.block≠k:=fun ad hA e=>by
 obtain ⟨ad',hA',hc⟩:=Byt.at_ h (List.length_pos_iff.2 hb)
 rw [hA] at hA'
 injection hA' with hA'
 subst hA'
 unfold World.cell? at hc
 rw [Addr.block_add,e,hk] at hc
 simp only at hc
 split at hc
 · cases hc
 · exact hn _ (Array.mem_of_getElem? hc) _ rfl
theorem Byt.keepNot {S:Nat→Prop} {w w':World} {A:Option Addr} {b:Txt} (h:Byt w A b) (hk:Keeps S w w') (hS:b≠[]→∀ ad,A=some ad→¬ S ad.block):Byt w' A b:=by
 by_cases hb:b=[]
 · subst hb;exact .inl rfl
 · exact Row.keep h hk (fun ad hA _=>hS hb ad hA)
/-- Room for bytes, as a make lays it. -/
def RoomAt (w:World) (base:Nat) (v:Value) (full:Txt):Prop :=
 (full=[]∧v=.slice none 0 0)∨∃ gd,base≤gd∧v=.slice (some ⟨gd,0,none⟩) full.length full.length∧w.heap[gd]? = some (.cells (Zh full).toArray 5 (0,0))
theorem RoomAt.keep {S:Nat→Prop} {w w':World} {base:Nat} {v:Value} {full:Txt} (h:RoomAt w base v full) (hk:Keeps S w w') (hS:∀ k,some k=v.ownBlock→¬ S k):RoomAt w' base v full:=by
 rcases h with h | ⟨gd,h1,rfl,h3⟩
 · exact .inl h
 · exact .inr ⟨gd,h1,rfl,Zd h3 hk (hS gd rfl)⟩
theorem RoomAt.byt {w:World} {base:Nat} {v:Value} {full:Txt} (h:RoomAt w base v full):∃ A,v=.slice A full.length full.length∧Byt w A full:=by
 rcases h with ⟨rfl,rfl⟩ | ⟨gd,h1,rfl,h3⟩
 · exact ⟨_,rfl,.inl rfl⟩
 · exact ⟨_,rfl,ZcQ h3⟩
theorem Byt.takeN {w:World} {A:Option Addr} {b:Txt} (h:Byt w A b) (k:Nat):Byt w A (b.take k):=by
 rcases h with h | ⟨ad,hA,hlt,hc⟩
 · have:b=[]:=by have:=congrArg List.length h;rw [Zt] at this;exact List.eq_nil_of_length_eq_zero this
   subst this;simp;exact .inl rfl
 · refine .inr ⟨ad,hA,hlt,fun j u hu=>hc j u ?_⟩
   unfold Zh at hu ⊢
   rw [List.map_take,List.getElem?_take] at hu
   split at hu
   · exact hu
   · cases hu
/-- A window: its block, its meter's, its room, what it holds. -/
def WinAt (w:World) (base gw g:Nat) (v:Value) (B:Txt) (R:Nat):Prop :=
 w.heap[gw]? = some (.cells #[.pointer (some ⟨g,0,none⟩),v,.int .i64 (B.length:Int)] 268 (0,0))∧∃ full:Txt,RoomAt w base v full∧full.length=R∧full.take B.length=B
theorem WinAt.fit {w:World} {base gw g:Nat} {v:Value} {B:Txt} {R:Nat} (h:WinAt w base gw g v B R):B.length≤R:=by
 obtain ⟨_,full,_,h1,h2⟩:=h
 have:=congrArg List.length h2
 rw [List.length_take] at this
 omega
theorem WinAt.keep {S:Nat→Prop} {w w':World} {base gw g:Nat} {v:Value} {B:Txt} {R:Nat} (h:WinAt w base gw g v B R) (hk:Keeps S w w') (h1:¬ S gw) (h2:∀ k,some k=v.ownBlock→¬ S k):WinAt w' base gw g v B R:=by
 obtain ⟨a,full,b,c⟩:=h
 exact ⟨Zd a hk h1,full,b.keep hk h2,c⟩
theorem WinAt.below {w w':World} {base gw g:Nat} {v:Value} {B:Txt} {R:Nat} (h:WinAt w base gw g v B R) (hb:Below w.heap.size w w'):WinAt w' base gw g v B R :=
 h.keep (Keeps.of_below hb fun _=>False) (fun h=>h) (fun _ _ h=>h)
set_option maxRecDepth 100000 in
theorem make_byts (n:Nat) (hn:n≤10000000):∃ Z:Txt,Z.length=n∧∀ w:World,(Instr.makeSlice 22 (.int .i64 (n:Int)) (.int .i64 (n:Int))).run Tryz.prog w=.ok (.slice (some ⟨w.heap.size,0,none⟩) n n) (w.alloc (.cells (Zh Z).toArray 5)):=by
 refine ⟨List.replicate n 0,by simp,fun w=>?_⟩
 obtain ⟨i,hi0,hz0,hz1,hz2⟩:=info_parts X2
 have h:=run_make (P:=Tryz.prog) w 22 5 i _ Tryz.underlying22 hi0 hz0 .i64 .i64 (n:Int) (n:Int) (by omega) (Int.le_refl _) (by rw [hz2];omega) (by omega)
 rw [h,hz1]
 congr 3
 simp only [Int.toNat_natCast,Nat.mul_one]
 apply Array.ext
 · simp [madeCells,Zh]
 · intro j h1 h2
   simp [madeCells,Value.cells,Nat.mod_one,Zh]
theorem wnew_calls (w:World) (g:Nat):Calls Tryz.prog 108 #[.pointer (some ⟨g,0,none⟩)] w fun e w'=>e=.returned (.pointer (some ⟨w.heap.size,0,none⟩))∧WinAt w' w.heap.size w.heap.size g (.slice none 0 0) [] 0∧Below w.heap.size w w':=by
 go_enter Tryz.func108,Tryz.ntmps108
 go_wp2
 go_ret
 exact ⟨rfl,⟨heap_alloc_new _ _,[],.inl ⟨rfl,rfl⟩,rfl,rfl⟩,(Below.refl _ _).alloc (Nat.le_refl _) _⟩
theorem Za1 (w:World) (base gw g:Nat) (v:Value) (B:Txt) (R:Nat) (h:WinAt w base gw g v B R):Calls Tryz.prog 115 #[.pointer (some ⟨gw,0,none⟩)] w fun e w'=>e=.returned (.int .i64 (B.length:Int))∧w=w':=by
 have c2:w.cell? ⟨gw,2,none⟩=some (.int .i64 (B.length:Int)):=Za h.1 2
 clear h
 go_enter Tryz.func115,Tryz.ntmps115
 go_wp2
 go_ret
 exact ⟨rfl,rfl⟩
theorem wclear_calls (w:World) (base gw g:Nat) (v:Value) (B:Txt) (R:Nat) (h:WinAt w base gw g v B R):Calls Tryz.prog 164 #[.pointer (some ⟨gw,0,none⟩)] w fun e w'=>e=.returned (.tuple #[])∧WinAt w' base gw g v [] R∧Keeps (fun k=>k=gw) w w':=by
 have hfr:∀ k,some k=v.ownBlock→¬ k=gw:=fun k hk e=>by
  obtain ⟨a,full,b,c⟩:=h
  rcases b with ⟨_,rfl⟩ | ⟨gd,_,rfl,b⟩
  · simp [Value.ownBlock] at hk
  · simp [Value.ownBlock] at hk
    subst hk;subst e
    rw [a] at b
    injection b with b
    injection b with _ b
    exact absurd b (by decide)
 obtain ⟨a,full,b,c1,c2⟩:=h
 have f2:w.frozen? ⟨gw,2,none⟩=false:=Zb a 2
 have d2:w.cell? ⟨gw,2,none⟩=some (.int .i64 (B.length:Int)):=Za a 2
 have hK:=Zm w ⟨gw,2,none⟩ (.int .i64 0)
 have hW:WinAt (w.setCell ⟨gw,2,none⟩ (.int .i64 0)) base gw g v [] R:=⟨by rw [Zi a 2 (.int .i64 0)];simp,full,b.keep hK hfr,c1,by simp⟩
 have hW':=As.mk hW
 have hK':=As.mk hK
 clear hW hK a b hfr
 go_enter Tryz.func164,Tryz.ntmps164
 go_wp2
 go_end0
 exact ⟨rfl,hW'.out,hK'.out⟩
set_option maxRecDepth 100000 in
theorem wbytes_calls (w:World) (base gw g:Nat) (v:Value) (B:Txt) (R:Nat) (h:WinAt w base gw g v B R) (hR:R≤1000000):Calls Tryz.prog 163 #[.pointer (some ⟨gw,0,none⟩)] w (RetByt w B):=by
 have hf:=h.fit
 obtain ⟨a,full,b,c1,c2⟩:=h
 have d1:w.drew.cell? ⟨gw,1,none⟩=some v:=Za a 1
 have d2:w.drew.cell? ⟨gw,2,none⟩=some (.int .i64 (B.length:Int)):=Za a 2
 have e1:w.cell? ⟨gw,1,none⟩=some v:=Za a 1
 have e2:w.cell? ⟨gw,2,none⟩=some (.int .i64 (B.length:Int)):=Za a 2
 obtain ⟨A,rfl,hby⟩:=b.byt
 rw [c1] at d1 e1
 have hB0:Byt w.drew A B:=by have h:=hby.takeN B.length;rw [c2] at h;exact h
 cases A with
 | none =>
   have hR0:R=0:=by
    rcases b with ⟨rfl,_⟩ | ⟨gd,_,e,_⟩
    · simpa using c1.symm
    · injection e with e _ _;cases e
   subst hR0
   have hB1:B=[]:=List.eq_nil_of_length_eq_zero (by omega)
   subst hB1
   have cc:=As.mk (ZR w.drew none 0 [] (.inl rfl) (by simp))
   clear a b hby hB0
   go_enter Tryz.func163,Tryz.ntmps163
   go_wp2
   go_still_tail 13,(by kernel_rfl)
   change wpList _ _ _ _ _ w.drew
   go_wp2_with (go_at_call 104;refine Calls.mono cc.out ?_;intro e w1 h1;obtain ⟨v1,he,ho1,hb1⟩:=h1;subst he)
   go_ret
   exact ⟨_,rfl,ho1,(Below.refl _ _).drew.trans hb1⟩
 | some ad =>
   have cc:=As.mk (ZR w.drew (some ad) B.length B hB0 (by omega))
   generalize B.length=n at *
   clear a b hby hB0
   go_enter Tryz.func163,Tryz.ntmps163
   go_wp2
   go_still_tail 13,(by kernel_rfl)
   change wpList _ _ _ _ _ w.drew
   go_wp2_with (go_at_call 104;refine Calls.mono cc.out ?_;intro e w1 h1;obtain ⟨v1,he,ho1,hb1⟩:=h1;subst he)
   go_ret
   exact ⟨_,rfl,ho1,(Below.refl _ _).drew.trans hb1⟩
end Go.Proofs.YtfdlaomnecjfeaaGreatDoor
end
section
namespace Go.Proofs.YtfdlaomnecjfeaaGreatDoor
open Go.RowKit Seine.Trie Seine.Fg
attribute [local go_sem high] Xn max_three'
theorem ZaE (a b:Txt):Zh (a++b)=Zh a++Zh b:=by simp [Zh]
theorem byCells_drop (a:Txt) (n:Nat):(Zh a).drop n=Zh (a.drop n):=by simp [Zh,List.map_drop]
theorem byCells_take (a:Txt) (n:Nat):(Zh a).take n=Zh (a.take n):=by simp [Zh,List.map_take]
/-- b laid over a text from a place on. -/
def Y0 (full:Txt) (k:Nat) (b:Txt):Txt:=full.take k++(b++full.drop (k+b.length))
theorem ZdF (full b:Txt) (k:Nat):splice (Zh full) k (Zh b)=Zh (Y0 full k b):=by
 unfold splice Y0
 rw [ZaE,ZaE,byCells_take,byCells_drop,Zt]
theorem ZbL {full b:Txt} {k:Nat} (h:k+b.length≤full.length):(Y0 full k b).length=full.length:=by
 unfold Y0
 rw [List.length_append,List.length_append,List.length_take,List.length_drop]
 omega
theorem ZdG {full b:Txt} {k:Nat} (h:k+b.length≤full.length):(Y0 full k b).take (k+b.length)=full.take k++b:=by
 unfold Y0
 rw [← List.append_assoc,List.take_append_of_le_length (by rw [List.length_append,List.length_take];omega)]
 exact List.take_of_length_le (by rw [List.length_append,List.length_take];omega)
/-- The window's own value is a block of its room's, never the window's or a meter's. -/
theorem WinAt.apart {w:World} {base gw g:Nat} {v:Value} {B:Txt} {R:Nat} {cn:Cn} (h:WinAt w base gw g v B R) (hm:MtAt w g cn):gw≠g∧∀ k,some k=v.ownBlock→k≠gw∧k≠g:=by
 obtain ⟨a,full,b,_⟩:=h
 refine ⟨fun e=>?_,fun k hk=>?_⟩
 · unfold MtAt at hm
   rw [e,hm] at a
   injection a with a
   injection a with _ a
   exact absurd a (by decide)
 · rcases b with ⟨_,rfl⟩ | ⟨gd,_,rfl,b⟩
   · simp [Value.ownBlock] at hk
   · simp [Value.ownBlock] at hk
     subst hk
     refine ⟨fun e=>?_,fun e=>?_⟩
     · rw [← e,b] at a
       injection a with a
       injection a with _ a
       exact absurd a (by decide)
     · unfold MtAt at hm
       rw [← e,b] at hm
       injection hm with hm
       injection hm with _ hm
       exact absurd hm (by decide)
set_option maxRecDepth 100000 in
set_option maxHeartbeats 1600000 in
theorem wgrow_calls (w:World) (base gw g:Nat) (v:Value) (B:Txt) (R:Nat) (h:WinAt w base gw g v B R) (cn:Cn) (hm:MtAt w g cn) (h0:0≤cn.m) (h1:cn.m≤1000000000000) (hR:R≤1000000) (n:Nat) (hn:n≤1000000) (hbase:base≤w.heap.size) :
    Calls Tryz.prog 166 #[.pointer (some ⟨gw,0,none⟩),.int .i64 (n:Int)] w fun e w'=>e=.returned (.tuple #[])∧(∃ v',WinAt w' base gw g v' B (max (max (2 * R) n) 16)∧∃ k,v'.ownBlock=some k∧w.heap.size≤k)∧MtAt w' g { cn with m:=cn.m+(B.length:Int) }∧Keeps (fun k=>k=gw∨k=g) w w':=by
 have hf:=h.fit
 have hap:=h.apart hm
 obtain ⟨N,hN⟩:∃ N,max (max (2 * R) n) 16=N:=⟨_,rfl⟩
 have hNl:N≤10000000∧B.length≤N∧16≤N:=by omega
 have hmx:max (max ((2:Int) * (R:Int)) (n:Int)) 16=(N:Int):=by omega
 have hwr:IntKind.i64.wrap (2 * (R:Int))=2 * (R:Int):=by rw [IntKind.wrap_i64];omega
 rw [hN]
 obtain ⟨Z,hZ,hmk⟩:=make_byts N hNl.1
 obtain ⟨a,full,b,c1,c2⟩:=h
 have d0:w.cell? ⟨gw,0,none⟩=some (.pointer (some ⟨g,0,none⟩)):=Za a 0
 have d1:w.cell? ⟨gw,1,none⟩=some v:=Za a 1
 have d2:w.cell? ⟨gw,2,none⟩=some (.int .i64 (B.length:Int)):=Za a 2
 have hglt:=Zf a
 obtain ⟨gz,hgz⟩:∃ k,w.heap.size=k:=⟨_,rfl⟩
 have hz0:=heap_alloc_new w (.cells (Zh Z).toArray 5)
 have hba:Below w.heap.size w (w.alloc (.cells (Zh Z).toArray 5)):=(Below.refl _ _).alloc (Nat.le_refl _) _
 have hmk0:=hmk w
 obtain ⟨W1,hW1⟩:∃ W,w.alloc (.cells (Zh Z).toArray 5)=W:=⟨_,rfl⟩
 rw [hW1,hgz] at hmk0
 rw [hW1,hgz] at hz0
 rw [hW1] at hba
 have hba':=As.mk hba
 have q0:W1.drew.cell? ⟨gw,0,none⟩=some (.pointer (some ⟨g,0,none⟩)):=Za (Zc hba a) 0
 have q1:W1.drew.cell? ⟨gw,1,none⟩=some v:=Za (Zc hba a) 1
 have q2:W1.drew.cell? ⟨gw,2,none⟩=some (.int .i64 (B.length:Int)):=Za (Zc hba a) 2
 have p0:W1.cell? ⟨gw,0,none⟩=some (.pointer (some ⟨g,0,none⟩)):=q0
 have p1:W1.cell? ⟨gw,1,none⟩=some v:=q1
 have p2:W1.cell? ⟨gw,2,none⟩=some (.int .i64 (B.length:Int)):=q2
 obtain ⟨A,rfl,hby⟩:=b.byt
 have hB0:Byt W1.drew A B:=by have h:=Byt.takeN (Row.below hby hba) B.length;rw [c2] at h;exact h
 have hBn:A=none→B.length=0∧R=0:=fun e=>by
  rcases b with ⟨hb,_⟩ | ⟨gd,_,e',_⟩
  · subst hb;simp at c1;omega
  · injection e' with e' _ _;rw [e] at e';cases e'
 have hCa:=fun (c:Nat)=>As.mk (ZcE W1.drew g cn (hm.below hba.drew) h0 h1 gz 0 N N (Zh Z) hz0 (some ⟨gz,0,none⟩) rfl A c B hB0 hNl.2.1 (by rw [Zt,hZ];omega) (by omega))
 rw [c1] at d1 q1 p1
 have hap':=As.mk hap
 have ha':=As.mk a
 have hfin:∀ W2 W3:World,W2.heap[gz]? = some (.cells (splice (Zh Z) 0 (Zh B)).toArray 5 (0,0))→MtAt W2 g { cn with m:=cn.m+(B.length:Int) }→Keeps (fun k=>k=g∨k=gz) W1.drew W2 →
     W3=W2.setCell ⟨gw,1,none⟩ (.slice (some ⟨gz,0,none⟩) N N) →
     (∃ v',WinAt W3 base gw g v' B N∧∃ k,v'.ownBlock=some k∧gz≤k)∧MtAt W3 g { cn with m:=cn.m+(B.length:Int) }∧Keeps (fun k=>k=gw∨k=g) w W3:=by
  intro W2 W3 e1 e2 e3 rfl
  have hs1:=hba'.out.size
  have hgg:gw≠gz:=by omega
  have h2:W2.heap[gw]? = some (.cells #[.pointer (some ⟨g,0,none⟩),.slice A full.length full.length,.int .i64 (B.length:Int)] 268 (0,0)):=Zd (Zc hba'.out.drew ha'.out) e3 (by rintro (h | h);exact hap'.out.1 h;exact hgg h)
  have h3:=Zi h2 1 (.slice (some ⟨gz,0,none⟩) N N)
  have h4:=Z2 (p:=⟨gw,1,none⟩) e1 (fun e=>hgg e.symm) (.slice (some ⟨gz,0,none⟩) N N)
  rw [ZdF] at h4
  have hol:(Y0 Z 0 B).length=N:=by rw [ZbL (by omega),hZ]
  refine ⟨⟨.slice (some ⟨gz,0,none⟩) N N,⟨by rw [h3];simp,Y0 Z 0 B,.inr ⟨gz,by omega,by rw [hol],h4⟩,hol,?_⟩,gz,rfl,Nat.le_refl _⟩,?_,?_⟩
  · have:=ZdG (full:=Z) (b:=B) (k:=0) (by omega)
    simpa using this
  · exact Z2 (p:=⟨gw,1,none⟩) e2 (fun e=>hap'.out.1 e.symm) _
  · have k1:Keeps (fun k=>k=gw∨k=g) w W2:=⟨e3.os.trans hba'.out.os,e3.tape.trans hba'.out.tape,e3.output.trans hba'.out.output,Nat.le_trans hs1 e3.size,fun k hk hn=>(e3.block k (Nat.lt_of_lt_of_le hk hs1) (by omega)).trans (hba'.out.block k hk)⟩
    exact k1.trans ((Zm W2 ⟨gw,1,none⟩ _).mono fun _ _ h=>.inl h)
 replace hfin:=As.mk hfin
 replace hmx:=As.mk hmx
 replace hNl:=As.mk hNl
 replace hN:=As.mk hN
 replace c1:=As.mk c1
 replace hgz:=As.mk hgz
 replace hap':=As.mk hap
 have hmx2:=hmx.out
 have fz:∀ W2:World,Keeps (fun k=>k=g∨k=gz) W1.drew W2→W2.cell? ⟨gw,1,none⟩=some (.slice A R R)∧W2.frozen? ⟨gw,1,none⟩=false:=fun W2 e3=>by
  have hs1:=hba'.out.size
  have h2:W2.heap[gw]? = some (.cells #[.pointer (some ⟨g,0,none⟩),.slice A full.length full.length,.int .i64 (B.length:Int)] 268 (0,0)):=Zd (Zc hba'.out.drew ha'.out) e3 (by have:=hap'.out.1;have:=hgz.out;omega)
  rw [c1.out] at h2
  exact ⟨Za h2 1,Zb h2 1⟩
 replace fz:=As.mk fz
 clear b hby hB0 hm h0 h1 a hap hz0 hba hmk
 cases A with
 | none =>
   obtain ⟨hB1,hR1⟩:=hBn rfl
   obtain rfl:B=[]:=List.eq_nil_of_length_eq_zero hB1
   have hC:=hCa 0
   subst hR1
   simp only [List.length_nil,Int.natCast_zero] at p2 q2 d2
   have hmx3:max (n:Int) 16=(N:Int):=by have:=hN.out;omega
   clear hCa hBn
   go_enter Tryz.func166,Tryz.ntmps166
   go_wp2
   go_still_tail 14,(by kernel_rfl)
   change wpList _ _ _ _ _ W1.drew
   go_wp2_with (go_at_call 167;refine Calls.mono hC.out ?_;rintro e W2 ⟨rfl,e1,e2,e3⟩;obtain ⟨z1,z2⟩:=fz.out _ e3;replace e1:=As.mk e1;replace e2:=As.mk e2;replace e3:=As.mk e3)
   go_end0
   rw [hgz.out]
   exact ⟨rfl,hfin.out _ _ e1.out e2.out e3.out rfl⟩
 | some ad =>
   have hC:=hCa R
   generalize B.length=bl at *
   clear hCa hBn
   go_enter Tryz.func166,Tryz.ntmps166
   go_wp2
   go_still_tail 14,(by kernel_rfl)
   change wpList _ _ _ _ _ W1.drew
   go_wp2_with (go_at_call 167;refine Calls.mono hC.out ?_;rintro e W2 ⟨rfl,e1,e2,e3⟩;obtain ⟨z1,z2⟩:=fz.out _ e3;replace e1:=As.mk e1;replace e2:=As.mk e2;replace e3:=As.mk e3)
   go_end0
   rw [hgz.out]
   exact ⟨rfl,hfin.out _ _ e1.out e2.out e3.out rfl⟩
end Go.Proofs.YtfdlaomnecjfeaaGreatDoor
end
