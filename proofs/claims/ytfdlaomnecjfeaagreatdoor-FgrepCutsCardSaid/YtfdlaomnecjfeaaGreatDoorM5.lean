/- Joined texts: Patset, Patset2, Sparse2, SortWalk, SortWalk2. -/
import Derived.Test.YtfdlaomnecjfeaaGreatDoorM1
import Derived.Test.YtfdlaomnecjfeaaGreatDoorM2
import Derived.Test.YtfdlaomnecjfeaaGreatDoorM3
import Derived.Test.YtfdlaomnecjfeaaGreatDoorM4
import Derived.StringKeys
import Derived.Deep.RegionLaw
import Derived.Deep.AppendLies
import Derived.ScopeJumps
import Derived.RegionTactic
import Derived.BigRegion
import Derived.Deep.RegionWith
import Derived.Deep.LoopGhost
import Derived.WalkSpells
import Derived.StillTailTactics
set_option linter.unusedVariables false
set_option linter.unusedSimpArgs false
section
namespace Go.Proofs.YtfdlaomnecjfeaaGreatDoor
open Go.RowKit Go.Maps Seine.Trie Seine.Eng
theorem Xq {P:Program} {ops:Array Oper} {o:Oper} {a:Act} {w:World} {K:Act→World→Prop} {Q:Exit→Act→World→Prop} {E:Prop} (hg:o.guard=none) {f:FuncId} {vals:Array Value} {R:Ending→World→Prop}
    (ho:(execOp a.eval o).run P w=.ok (.enter f vals) w) (hc:Calls P f vals w R) (h:∀ e w',R e w'→∃ v,e=.returned v∧K (a.put o.dst v) w') :
    if Region.wanted o (yielded ops a.tmps)=true then Oper.wp P o a w K Q else E:=by
 have hw:Region.wanted o (yielded ops a.tmps)=true:=by simp [Region.wanted,hg]
 rw [if_pos hw]
 unfold Oper.wp
 rw [ho,Oper.upon_enter]
 refine hc.mono ?_
 intro e w' hr
 obtain ⟨v,rfl,hk⟩:=h e w' hr
 exact hk
/-- append to an own row, as a step of a region that draws. -/
theorem step_app {P:Program} {ops:Array Oper} {o:Oper} {a:Act} {w:World} {K:Act→World→Prop} {Q:Exit→Act→World→Prop} {E:Prop} (hg:o.guard=none) (s x:Operand) (t:TypeId)
    (hop:o.op=Op.call { callee:=Callee.builtin Builtin.append,args:=#[s,x],argTypes:=#[t,t] })
    (base:Nat) (e:TypeId) (z:Value) (size bytes:Nat) (ht:P.underlying t=some (.slice e)) (hi:(P.info? e).map (fun i=>(i.zero,i.size,i.bytes))=some (some z,size,bytes)) (hzs:z.cells.size=size) (hsz:0<size)
    (v:Value) (n:Nat) (xs:List Value) (hs:a.eval s=v) (hown:w.ownsRow base e size v n xs)
    (ad:Addr) (m c:Nat) (news:List Value) (hx:a.eval x=.slice (some ad) m c) (hn:news.length=m * size) (hc:∀ j u,news[j]? = some u→w.cell? (ad.add j)=some u) (h1c:∀ u∈news,u.oneCell'=true)
    (hlen:n+m≤1000000000000) (hby:bytes≤100) (hbase:base≤w.heap.size)
    (h:∀ v' w',w'.ownsRow base e size v' (n+m) (xs++news)→Keeps (fun k=>some k=v.ownBlock) w w'→Below base w w'→K (a.put o.dst v') w') :
    if Region.wanted o (yielded ops a.tmps)=true then Oper.wp P o a w K Q else E:=by
 have hw:Region.wanted o (yielded ops a.tmps)=true:=by simp [Region.wanted,hg]
 rw [if_pos hw]
 obtain ⟨i,hi,hz,hsize,hbytes⟩:=info_parts hi
 obtain ⟨v',w',hrun,r1,r2,_⟩:=run_append_own (P:=P) w base t o.type e i z size bytes ht hi hz hsize hbytes hzs hsz v n xs hown ad m c news hn hc h1c (by simp only [maxLen];omega) (by
  have:(n+m) * bytes≤(n+m) * 100:=Nat.mul_le_mul_left _ hby
  omega) hbase
 unfold Oper.wp
 simp [execOp,hop,resolve,invoke,builtin,hs,hx,hrun,Result.andThen]
 refine h v' w' r1 ((Keeps.of_grown r2).mono fun _ _ h=>h) ((Below.refl base w).grown r2 hbase (fun k hk=>?_))
 rcases hown.2 with ⟨rfl,_⟩ | ⟨g,cap,cur,rfl,hg,_⟩
 · simp [Value.ownBlock] at hk
 · simp [Value.ownBlock] at hk;omega
theorem Yt:(Tryz.prog.info? 22).map (fun i=>(i.zero,i.size,i.bytes))=some (some (.slice none 0 0),1,24):=by kernel_rfl
/-- Texts of one's own, in a slice of one's own. -/
def OwnPs (base:Nat) (w:World) (v:Value) (ls:List Txt):Prop:=∃ vs:List Value,vs.length=ls.length∧w.ownsRow base 22 1 v ls.length vs∧∀ i,i<ls.length→∃ u,vs[i]? = some u∧OwnByt w base u (ls.getD i [])
theorem OwnPs.nil (base:Nat) (w:World):OwnPs base w (.slice none 0 0) []:=⟨[],rfl,World.ownsRow_nil _ _ _ _,fun i hi=>absurd hi (Nat.not_lt_zero _)⟩
theorem OwnPs.below {base:Nat} {w w':World} {v:Value} {ls:List Txt} (h:OwnPs base w v ls) (hb:Below w.heap.size w w'):OwnPs base w' v ls:=by
 obtain ⟨vs,h1,h2,h3⟩:=h
 exact ⟨vs,h1,Zo h2 hb,fun i hi=>by obtain ⟨u,a,b⟩:=h3 i hi;exact ⟨u,a,Zo b hb⟩⟩
/-- What stores into blocks of other makes leave. -/
theorem OwnPs.keep {S:Nat→Prop} {base:Nat} {w w':World} {v:Value} {ls:List Txt} (h:OwnPs base w v ls) (hk:Keeps S w w') (hS:∀ b,base≤b→S b→∃ x,w.heap[b]? = some x∧∀ c,x≠.cells c 22 (0,0)∧x≠.cells c 5 (0,0)):OwnPs base w' v ls:=by
 obtain ⟨vs,h1,h2,h3⟩:=h
 refine ⟨vs,h1,Zj h2 hk (fun b c hb hh _ hs=>?_),fun i hi=>?_⟩
 · obtain ⟨x,e,hx⟩:=hS b hb hs
   rw [hh] at e
   injection e with e
   exact (hx c).1 e.symm
 · obtain ⟨u,a,b⟩:=h3 i hi
   refine ⟨u,a,Zj b hk (fun b c hb hh _ hs=>?_)⟩
   obtain ⟨x,e,hx⟩:=hS b hb hs
   rw [hh] at e
   injection e with e
   exact (hx c).2 e.symm
theorem OwnPs.txts {base:Nat} {w:World} {v:Value} {ls:List Txt} (h:OwnPs base w v ls):∃ A c,v=.slice A ls.length c∧ls.length≤c∧Txts w A ls:=by
 obtain ⟨vs,hl,ho,hbv⟩:=h
 obtain ⟨A,c,rfl,hc⟩:=Zk ho
 refine ⟨A,c,rfl,hc,vs,hl,Row.of_own ho,fun i hi=>?_⟩
 obtain ⟨u,a,b⟩:=hbv i hi
 obtain ⟨A',c',rfl,hc'⟩:=Zk b
 exact ⟨A',c',a,hc',Row.of_own b⟩
theorem getD_snoc_lt {ls:List Txt} {t:Txt} {i:Nat} (h:i<ls.length):(ls++[t]).getD i []=ls.getD i []:=by rw [List.getD_eq_getElem?_getD,List.getElem?_append_left h,← List.getD_eq_getElem?_getD]
theorem getD_snoc_eq {ls:List Txt} {t:Txt}:(ls++[t]).getD ls.length []=t:=by rw [List.getD_eq_getElem?_getD,List.getElem?_append_right (Nat.le_refl _)];simp
/-- Behind an append of one's own text. -/
theorem OwnPs.snoc {base:Nat} {w w':World} {v v' u:Value} {ls:List Txt} {t:Txt} {vs:List Value} (hl:vs.length=ls.length) (hb:∀ i,i<ls.length→∃ u,vs[i]? = some u∧OwnByt w base u (ls.getD i []))
    (hu:OwnByt w base u t) (hv:w.ownsRow base 22 1 v ls.length vs) (hk:Keeps (fun k=>some k=v.ownBlock) w w') (ho:w'.ownsRow base 22 1 v' (ls.length+1) (vs++[u])):OwnPs base w' v' (ls++[t]):=by
 have hfar:∀ b c,w.heap[b]? = some (.cells c 5 (0,0))→¬ some b=v.ownBlock:=fun b c hh hs=>by
  obtain ⟨c',h⟩:=QE hv hs
  rw [hh] at h
  injection h with h
  injection h with _ h
  exact absurd h (by decide)
 refine ⟨vs++[u],by simp [hl],by rw [List.length_append];exact ho,fun i hi=>?_⟩
 rw [List.length_append,List.length_singleton] at hi
 by_cases h:i<ls.length
 · obtain ⟨x,a,b⟩:=hb i h
   rw [getD_snoc_lt h]
   exact ⟨x,by rw [List.getElem?_append_left (by omega)];exact a,Zj b hk (fun b c _ hh _=>hfar b c hh)⟩
 · obtain rfl:i=ls.length:=by omega
   rw [getD_snoc_eq]
   exact ⟨u,by rw [← hl,List.getElem?_append_right (Nat.le_refl _)];simp,Zj hu hk (fun b c _ hh _=>hfar b c hh)⟩
/-- The keys are the texts. -/
def SetMap (ps:List Txt) (f:Value→Option Int):Prop:=∀ t:Txt,t.length≤1000000→((f (.string (bb t))).isSome=true↔t∈ps)
theorem SetMap.snoc {ps:List Txt} {f f':Value→Option Int} {t:Txt} {n:Int} (h:SetMap ps f) (h1:f' (.string (bb t))=some n) (h2:∀ x,x≠.string (bb t)→f' x=f x):SetMap (ps++[t]) f':=fun s hs=>by
 by_cases e:s=t
 · subst e;rw [h1];simp
 · rw [h2 _ (fun h'=>e (by injection h' with h';exact bb_inj h')),h s hs];simp [e]
theorem Zfy:Keyed Tryz.prog 9:=Keyed.of_law (WideMaps.string_law Tryz.underlying9)
theorem str_key (t:Txt) (h:t.length≤1000000):∃ kl,keyOf Tryz.prog 9 (.string (bb t))=some kl:=⟨_,WideMaps.keyOf_string_mk Tryz.underlying9 (by rw [Zas];unfold maxLen;omega)⟩
/-- A set of patterns, by value. -/
def PsAt (w:World) (base:Nat) (V:Value) (l:List Txt):Prop :=
 ∃ v mb n f,V=.agg #[v,.map (some mb),.bool (decide ([]∈l))]∧OwnPs base w v (ZH l)∧MapIs Tryz.prog 9 3 w mb n f∧SetMap (ZH l) f
theorem PsAt.below {w w':World} {base:Nat} {V:Value} {l:List Txt} (h:PsAt w base V l) (hb:Below w.heap.size w w'):PsAt w' base V l:=by
 obtain ⟨v,mb,n,f,h1,h2,h3,h4⟩:=h
 exact ⟨v,mb,n,f,h1,h2.below hb,h3.below hb,h4⟩
/-- Patterns that are being made: k texts have been read; the set's block, its map's. -/
structure PsTo (w0 w:World) (gs mb:Nat) (l:List Txt) (k n:Nat) (v:Value) (f:Value→Option Int):Prop where
 blk:w.heap[gs]? = some (.cells #[v,.map (some mb),.bool (decide ([]∈l.take k))] 76 (0,0))
 row:OwnPs w0.heap.size w v (ZH (l.take k))
 map:MapIs Tryz.prog 9 3 w mb n f
 key:SetMap (ZH (l.take k)) f
 bel:Below w0.heap.size w0 w
theorem emp_take {l:List Txt} {k:Nat} (h:k<l.length):decide (([]:Txt)∈l.take (k+1))=(decide (([]:Txt)∈l.take k) || decide (l.getD k []=[])):=by
 have e:l.getD k []=l[k]:=by simp [h]
 rw [List.take_succ_eq_append_getElem h,e,Bool.eq_iff_iff,decide_eq_true_iff,Bool.or_eq_true,decide_eq_true_iff,decide_eq_true_iff,List.mem_append,List.mem_singleton]
 exact ⟨Or.imp id Eq.symm,Or.imp id Eq.symm⟩
set_option maxRecDepth 100000 in
set_option maxHeartbeats 1600000 in
theorem Zep (w:World) (A:Option Addr) (c:Nat) (l:List Txt) (hx:Txts w A l) (hl:∀ t∈l,t.length≤1000000) (hll:l.length≤1000000) :
    Calls Tryz.prog 87 #[.slice A l.length c] w fun e w'=>∃ V,e=.returned V∧PsAt w' w.heap.size V l∧Below w.heap.size w w':=by
 have HX:=As.mk hx
 have HL:=As.mk hl
 have hmm:=@run_makeMap Tryz.prog
 obtain ⟨n,hn⟩:∃ n,l.length=n:=⟨_,rfl⟩
 rw [hn] at hll ⊢
 replace hn:=As.mk hn
 clear hx hl
 go_enter Tryz.func87,Tryz.ntmps87
 go_wp2
 obtain ⟨g0,hg0⟩:∃ g,w.heap.size=g:=⟨_,rfl⟩
 have z2:(((w.alloc (.cells #[.slice none 0 0,.map none,.bool false] 76)).alloc (.map #[] 0)).alloc (.cells #[.slice none 0 0,.map (some (w.heap.size+1)),.bool false] 76)).heap[g0+1+1]? = some (.cells #[.slice none 0 0,.map (some (g0+1)),.bool false] 76 (0,0)):=by
  rw [← hg0]
  have:=heap_alloc_new ((w.alloc (.cells #[.slice none 0 0,.map none,.bool false] 76)).alloc (.map #[] 0)) (.cells #[.slice none 0 0,.map (some (w.heap.size+1)),.bool false] 76)
  simpa using this
 have z0:(((w.alloc (.cells #[.slice none 0 0,.map none,.bool false] 76)).alloc (.map #[] 0)).alloc (.cells #[.slice none 0 0,.map (some (w.heap.size+1)),.bool false] 76)).heap[g0]? = some (.cells #[.slice none 0 0,.map none,.bool false] 76 (0,0)):=by
  rw [← hg0];exact Zn (Zn (heap_alloc_new _ _))
 have zm:MapIs Tryz.prog 9 3 (((w.alloc (.cells #[.slice none 0 0,.map none,.bool false] 76)).alloc (.map #[] 0)).alloc (.cells #[.slice none 0 0,.map (some (w.heap.size+1)),.bool false] 76)) (g0+1) 0 (fun _=>none):=by
  have:=(MapIs.made (w.alloc (.cells #[.slice none 0 0,.map none,.bool false] 76)) Tryz.prog 9 3).below ((Below.refl _ _).alloc (Nat.le_refl _) (.cells #[.slice none 0 0,.map (some (w.heap.size+1)),.bool false] 76))
  simpa [hg0] using this
 have zB:Below w.heap.size w (((w.alloc (.cells #[.slice none 0 0,.map none,.bool false] 76)).alloc (.map #[] 0)).alloc (.cells #[.slice none 0 0,.map (some (w.heap.size+1)),.bool false] 76)):=(((Below.refl _ _).alloc (Nat.le_refl _) _).alloc (by simp) _).alloc (by simp;omega) _
 obtain ⟨W0,hW0⟩:∃ W,(((w.alloc (.cells #[.slice none 0 0,.map none,.bool false] 76)).alloc (.map #[] 0)).alloc (.cells #[.slice none 0 0,.map (some (w.heap.size+1)),.bool false] 76))=W:=⟨_,rfl⟩
 rw [hW0] at z0 z2 zm zB ⊢
 rw [hg0]
 have hp0:As (PsTo w W0 (g0+1+1) (g0+1) l 0 0 (.slice none 0 0) (fun _=>none)):=⟨⟨by simpa using z2,by simpa [Ze2] using OwnPs.nil _ _,zm,fun t _=>by simp [Ze2],zB⟩⟩
 replace z0:=As.mk z0
 replace hg0:=As.mk hg0
 clear z2 zm zB hW0
 go_loopg [12] (n+1) (fun gk i wr=>∃ (k m:Nat) (v:Value) (f:Value→Option Int),As (n+1≤gk+k)∧m≤k∧k≤n∧i=.int .i64 k∧As (PsTo w wr (g0+1+1) (g0+1) l k m v f)∧As (wr.heap[g0]? = some (.cells #[.slice none 0 0,.map none,.bool false] 76 (0,0))))
 case atStart=>exact ⟨0,0,_,_,⟨by omega⟩,Nat.le_refl _,Nat.zero_le _,rfl,hp0,z0⟩
 case round =>
  obtain ⟨k,m,v,f,hgk,hmk,hk,rfl,hp,hz⟩:=hrel
  obtain ⟨pb,pr,pm,pk,pB⟩:=hp.out
  by_cases hlt:k<n
  · obtain ⟨gp,rfl⟩:∃ gp,gk=gp+1:=⟨gk - 1,by have:=hgk.out;omega⟩
    have hkl:k<l.length:=by rw [hn.out];exact hlt
    obtain ⟨ad,A',c',rfl,ca0,hc',hrw⟩:=HX.out.at_ hkl
    have ca:=(pB.cell (p:=ad.add k) (World.block_lt_of_cell? w _ ca0)).trans ca0
    clear ca0
    have hpt:=pset_take hkl
    have het:=emp_take hkl
    have htl:=HL.out (l.getD k []) (by rw [List.getD_eq_getElem?_getD,List.getElem?_eq_getElem hkl];exact List.getElem_mem hkl)
    obtain ⟨t,ht⟩:∃ t,l.getD k []=t:=⟨_,rfl⟩
    rw [ht] at ca hc' hrw hpt het htl
    have hpl:=JB (l.take k)
    rw [List.length_take] at hpl
    obtain ⟨ps,hps⟩:∃ ps,ZH (l.take k)=ps:=⟨_,rfl⟩
    rw [hps] at hpt pr pk hpl
    obtain ⟨e0,he0⟩:∃ e,decide (([]:Txt)∈l.take k)=e:=⟨_,rfl⟩
    rw [he0] at pb het
    have b0:wr.cell? ⟨g0+1+1,0,none⟩=some v:=Za pb 0
    have b1:wr.cell? ⟨g0+1+1,1,none⟩=some (.map (some (g0+1))):=Za pb 1
    have b2:wr.cell? ⟨g0+1+1,2,none⟩=some (.bool e0):=Za pb 2
    have f2:wr.frozen? ⟨g0+1+1,2,none⟩=false:=Zb pb 2
    obtain ⟨tl,htl2⟩:∃ k,t.length=k:=⟨_,rfl⟩
    by_cases hte:t=[]
    · have h0:tl=0:=by rw [← htl2,hte];rfl
      rw [htl2,h0] at ca
      have hpt':ZH (l.take (k+1))=ps:=by rw [hpt];unfold XV;rw [if_pos (.inl hte)]
      have hk9:Keeps (fun q=>q=g0+1+1) wr (wr.setCell ⟨g0+1+1,2,none⟩ (.bool true)):=(Zm wr ⟨g0+1+1,2,none⟩ _).mono fun _ _ h=>h
      have hp9:As (PsTo w (wr.setCell ⟨g0+1+1,2,none⟩ (.bool true)) (g0+1+1) (g0+1) l (k+1) m v f):=⟨⟨by
       have:=Zi pb 2 (.bool true)
       rw [this,het,hte];simp,by
       rw [hpt'];exact pr.keep hk9 (fun b _ hb=>⟨_,hb ▸ pb,fun c=>⟨by simp,by simp⟩⟩),pm.keep hk9 (by show ¬ (g0+1=g0+1+1);omega),by rw [hpt'];exact pk,pB.setCell (p:=⟨g0+1+1,2,none⟩) (by rw [hg0.out];show g0≤g0+1+1;omega) _⟩⟩
      have hz9:As ((wr.setCell ⟨g0+1+1,2,none⟩ (.bool true)).heap[g0]? = some (.cells #[.slice none 0 0,.map none,.bool false] 76 (0,0))):=⟨Z2 (p:=⟨g0+1+1,2,none⟩) hz.out (by show g0≠g0+1+1;omega) _⟩
      replace pb:=As.mk pb
      clear hpt hpt' het pr pm pk pB hk9 hrw he0 b0 b1 hte htl htl2 hp hpl
      go_wp2_with fail
      go_roundg gp
      case rel=>exact ⟨k+1,m,v,f,⟨by have:=hgk.out;omega⟩,by omega,hlt,(by first | rfl | go_num | (congr 1;omega)),hp9,hz9⟩
      case measure=>exact Nat.lt_succ_self _
    · have htn:¬ tl=0:=fun e=>hte (List.eq_nil_of_length_eq_zero (by omega))
      have htn2:((tl:Int) == 0)=false:=by simp;omega
      have hee:decide (t=[])=false:=decide_eq_false hte
      rw [hee,Bool.or_false] at het
      obtain ⟨kl,hkey⟩:=str_key t htl
      have hcv:=Yk (c:=c') Tryz.underlying22 (Row.below hrw pB) (by omega:t.length≤9223372036854775807)
      have hlk:=pm.look Zfy Tryz.underlying74 Tryz.underlying3 (Jx _) hkey
      have hisS:=pk t htl
      rw [htl2] at ca hcv hc'
      obtain ⟨sT,hsT⟩:∃ s,bb t=s:=⟨_,rfl⟩
      rw [hsT] at hcv hlk hkey hisS
      by_cases hin:t∈ps
      · have hpt':ZH (l.take (k+1))=ps:=by rw [hpt];unfold XV;rw [if_pos (.inr hin)]
        rw [hisS.2 hin] at hlk
        generalize (f (.string sT)).getD 0=r at hlk
        have hp9:As (PsTo w wr (g0+1+1) (g0+1) l (k+1) m v f):=⟨⟨by rw [het];exact pb,by rw [hpt'];exact pr,pm,by rw [hpt'];exact pk,pB⟩⟩
        replace pb:=As.mk pb
        clear hpt hpt' het pr pm pk pB hrw he0 b0 b2 f2 hte htl htl2 hp hpl hin hisS hkey hee htn
        go_wp2_with fail
        go_roundg gp
        case rel=>exact ⟨k+1,m,v,f,⟨by have:=hgk.out;omega⟩,by omega,hlt,(by first | rfl | go_num | (congr 1;omega)),hp9,hz⟩
        case measure=>exact Nat.lt_succ_self _
      · have hpt':ZH (l.take (k+1))=ps++[t]:=by
          rw [hpt];unfold XV;rw [if_neg];rintro (e | e)
          · exact hte e
          · exact hin e
        have hfn:(f (.string sT)).isSome=false:=by
         cases h:(f (.string sT)).isSome
         · rfl
         · exact absurd (hisS.1 h) hin
        rw [hfn] at hlk
        generalize (f (.string sT)).getD 0=r at hlk
        obtain ⟨pn,hpn⟩:∃ k,ps.length=k:=⟨_,rfl⟩
        rw [hpn] at hpl
        classical
        obtain ⟨w4,hrun,hm4,hg4⟩:=MapIs.put pm Zfy Tryz.underlying74 Tryz.underlying3 (by unfold maxLen;omega) hkey (v:=(pn:Int)) (by simp [Lit.wf,IntKind.min,IntKind.max,IntKind.signed,IntKind.bits];omega)
         (f':=fun y=>if y=.string sT then some (pn:Int) else f y) (if_pos rfl) (fun y hy=>if_neg hy)
        have hk4:As (SetMap (ps++[t]) (fun y=>if y=.string sT then some (pn:Int) else f y)):=⟨pk.snoc (by rw [hsT];exact if_pos rfl) (fun x hx=>by rw [hsT] at hx;exact if_neg hx)⟩
        obtain ⟨es,cl,hmes⟩:=pm.is_map
        have hkg:=Keeps.of_grown hg4
        have hr4:=pr.keep hkg (fun b _ hb=>by injection hb with hb;subst hb;exact ⟨_,hmes,fun c=>⟨by simp,by simp⟩⟩)
        have pb4:=Zd pb hkg (fun e=>by injection e with e;omega)
        have hz4:=As.mk (Zd hz.out hkg (fun e=>by injection e with e;omega))
        have hB4:Below w.heap.size w w4:=pB.grown hg4 pB.size (fun q hq=>by injection hq with hq;have:=hg0.out;omega)
        obtain ⟨vs,hvl,hvo,hvb⟩:=hr4
        obtain ⟨A2,c2,rfl,hc2⟩:=Zk hvo
        rw [hpn] at hvl hvo hc2 b0 pb4
        have hcl:=As.mk (fun (v:World) (hv:Below w.heap.size w v)=>(by have:=ZR v A' c' t (Row.below hrw hv) htl;rw [htl2] at this;exact this:Calls Tryz.prog 104 #[.slice A' tl c'] v (RetByt v t)))
        have c40:w4.cell? ⟨g0+1+1,0,none⟩=some (.slice A2 pn c2):=Za pb4 0
        have hgl4:=Zf pb4
        have hm4':=As.mk hm4
        replace hvo:=As.mk hvo
        replace hvb:=As.mk hvb
        replace hvl:=As.mk hvl
        replace pb4:=As.mk pb4
        replace hpt':=As.mk hpt'
        replace hB4:=As.mk hB4
        replace pb:=As.mk pb
        replace hpn:=As.mk hpn
        replace het:=As.mk het
        replace htl2:=As.mk htl2
        clear hpt pr pm pk pB hrw he0 b2 f2 hte htl hp hin hisS hkey hee htn hm4 hg4 hkg hmes hfn hps ht
        go_wp2_with fail
        have hs4:=hB4.out.size
        go_region_law (first
         | (refine step_app (by rfl) (.tmp 38) (.tmp 41) 73 (by rfl) w.heap.size 22 _ 1 24 Tryz.underlying73 Yt rfl (by decide) (.slice A2 pn c2) pn vs (by rfl) hown5.out ⟨w5.heap.size,0,none⟩ 1 1 [.slice A5 tl c5] (by rfl) (by rfl) hnews.out (by simp [Value.oneCell']) (by omega) (by decide) (by simp;omega) ?_
            intro v6 w6 ho6 hk6 hb6
            obtain ⟨A6,c6,rfl,hc6⟩:=Zk ho6
            have e0:=(hk6.cell (p:=⟨g0+1+1,0,none⟩) (by show g0+1+1<_;simp;omega) hfar5).trans a50
            have e1:=Zb (Zd (Zn pb5.out) hk6 hfar5) 0
            replace ho6:=As.mk ho6
            replace hk6:=As.mk hk6
            replace hb6:=As.mk hb6)
         | (refine Xq (by rfl) ?ho (hcl.out _ ?hv) ?_
            case ho=>go_simp
            case hv=>exact hB4.out.drew
            intro e w5 h5
            obtain ⟨v5,he5,ho5,hb5⟩:=h5.open_
            have hb5':Below w4.heap.size w4 w5:=((Below.refl _ _).drew).trans hb5
            obtain ⟨A5,c5,hv5,hc5⟩:=Zk ho5
            rw [htl2.out] at hv5 hc5
            subst hv5
            refine ⟨_,he5,?_⟩
            have hs5:=hb5'.size
            have pb5:=As.mk (Zc hb5' pb4.out)
            have c50:w5.cell? ⟨g0+1+1,0,none⟩=some (.slice A2 pn c2):=Za pb5.out 0
            have a50:(w5.alloc (.cells #[.slice A5 tl c5] 22)).cell? ⟨g0+1+1,0,none⟩=some (.slice A2 pn c2):=Za (Zn pb5.out) 0
            have hown5:=As.mk ((Zo hvo.out hb5').alloc (.cells #[.slice A5 tl c5] 22))
            have hnews:=As.mk (World.news_of_block (cs:=#[.slice A5 tl c5]) (t:=22) (fr:=(0,0)) (heap_alloc_new w5 _))
            have hfar5:=Zy hown5.out (Zn pb5.out) (by decide)
            replace hb5':=As.mk hb5'
            replace ho5:=As.mk ho5
            clear hb5 h5))
        all_goals
         go_wp2_with fail
         have hOw:OwnPs w.heap.size w6 (.slice A6 (pn+1) c6) (ps++[t]):=by
          have hvl':vs.length=ps.length:=by rw [hvl.out,hpn.out]
          refine OwnPs.snoc (w:=w5.alloc (.cells #[.slice A5 tl c5] 22)) (vs:=vs) (u:=.slice A5 tl c5) (v:=.slice A2 pn c2) hvl' (fun i hi=>?_) (ZB (Zo ho5.out ((Below.refl _ _).alloc (Nat.le_refl _) _)) (by simp;omega)) (by rw [hpn.out];exact hown5.out) hk6.out (by rw [hpn.out];exact ho6.out)
          obtain ⟨u,hu,huo⟩:=hvb.out i hi
          exact ⟨u,hu,Zo (Zo huo hb5'.out) ((Below.refl _ _).alloc (Nat.le_refl _) _)⟩
         have hkA:Keeps (fun q=>some q=(Value.slice A2 pn c2).ownBlock) w4 w6:=(Keeps.of_below (hb5'.out.alloc hb5'.out.size _) _).trans hk6.out
         have hk9:Keeps (fun q=>q=g0+1+1) w6 (w6.setCell ⟨g0+1+1,0,none⟩ (.slice A6 (pn+1) c6)):=(Zm w6 ⟨g0+1+1,0,none⟩ _).mono fun _ _ h=>h
         have hfA:=Zy hvo.out pb4.out (by decide)
         have pb6:=Zd pb4.out hkA hfA
         have hmf:¬ some (g0+1)=(Value.slice A2 pn c2).ownBlock:=fun e=>by
          obtain ⟨es4,cl4,h4⟩:=hm4'.out.is_map
          obtain ⟨c,h⟩:=QE hvo.out e
          rw [h4] at h
          injection h with h
          cases h
         have hz6:=Zd hz4.out hkA (Zy hvo.out hz4.out (by decide))
         have hB6:Below w.heap.size w w6:=(hB4.out.trans (hb5'.out.mono hs4)).alloc (by omega) _ |>.trans hb6.out
         go_roundg gp
         case measure=>exact Nat.lt_succ_self _
         case rel =>
          refine ⟨k+1,m+1,.slice A6 (pn+1) c6,_,⟨by have:=hgk.out;omega⟩,by omega,hlt,(by first | rfl | go_num | (congr 1;omega)),⟨⟨?_,?_,(hm4'.out.keep hkA hmf).keep hk9 (by show ¬ (g0+1=g0+1+1);omega),by rw [hpt'.out];exact hk4.out,hB6.setCell (p:=⟨g0+1+1,0,none⟩) (by rw [hg0.out];show g0≤g0+1+1;omega) _⟩⟩,⟨Z2 (p:=⟨g0+1+1,0,none⟩) hz6 (by show g0≠g0+1+1;omega) _⟩⟩
          · have:=Zi pb6 0 (.slice A6 (pn+1) c6)
            rw [this,het.out];simp
          · rw [hpt'.out];exact hOw.keep hk9 (fun b _ hb=>⟨_,hb ▸ pb6,fun c=>⟨by simp,by simp⟩⟩)
  · obtain rfl:k=n:=by omega
    have htk:l.take k=l:=by rw [← hn.out,List.take_length]
    rw [htk] at pb pr pk
    obtain ⟨e0,he0⟩:∃ e,decide (([]:Txt)∈l)=e:=⟨_,rfl⟩
    rw [he0] at pb
    have b0:wr.cell? ⟨g0+1+1,0,none⟩=some v:=Za pb 0
    have b1:wr.cell? ⟨g0+1+1,1,none⟩=some (.map (some (g0+1))):=Za pb 1
    have b2:wr.cell? ⟨g0+1+1,2,none⟩=some (.bool e0):=Za pb 2
    obtain ⟨vs,hvl,hvo,hvb⟩:=pr
    obtain ⟨A2,c2,rfl,hc2⟩:=Zk hvo
    have pr:OwnPs w.heap.size wr (.slice A2 (ZH l).length c2) (ZH l):=⟨vs,hvl,hvo,hvb⟩
    obtain ⟨pn,hpn⟩:∃ k,(ZH l).length=k:=⟨_,rfl⟩
    rw [hpn] at pr b0
    have q0:wr.cell? ⟨g0,0,none⟩=some (.slice none 0 0):=Za hz.out 0
    have q1:wr.cell? ⟨g0,1,none⟩=some (.map none):=Za hz.out 1
    have q2:wr.cell? ⟨g0,2,none⟩=some (.bool false):=Za hz.out 2
    have k0:wr.frozen? ⟨g0,0,none⟩=false:=Zb hz.out 0
    have k1:wr.frozen? ⟨g0,1,none⟩=false:=Zb hz.out 1
    have k2:wr.frozen? ⟨g0,2,none⟩=false:=Zb hz.out 2
    replace he0:=As.mk he0
    replace hpn:=As.mk hpn
    replace pb:=As.mk pb
    replace hp:=As.mk hp.out
    replace pr:=As.mk pr
    replace pm:=As.mk pm
    replace pk:=As.mk pk
    replace pB:=As.mk pB
    clear hvl hvo hvb hc2 hp htk
    go_wp2_with fail
    have s0:=Zi hz.out 0 (.slice A2 pn c2)
    have s1:=Zi s0 1 (.map (some (g0+1)))
    have s2:=Zi s1 2 (.bool e0)
    have hk9:Keeps (fun q=>q=g0) wr (((wr.setCell ⟨g0,0,none⟩ (.slice A2 pn c2)).setCell ⟨g0,1,none⟩ (.map (some (g0+1)))).setCell ⟨g0,2,none⟩ (.bool e0)) :=
     (((Zm wr ⟨g0,0,none⟩ _).mono fun _ _ h=>h).trans ((Zm _ ⟨g0,1,none⟩ _).mono fun _ _ h=>h)).trans ((Zm _ ⟨g0,2,none⟩ _).mono fun _ _ h=>h)
    have hB9:Below w.heap.size w (((wr.setCell ⟨g0,0,none⟩ (.slice A2 pn c2)).setCell ⟨g0,1,none⟩ (.map (some (g0+1)))).setCell ⟨g0,2,none⟩ (.bool e0)):=by
     rw [hg0.out]
     have h9:=pB.out
     rw [hg0.out] at h9
     exact ((h9.setCell (p:=⟨g0,0,none⟩) (Nat.le_refl _) _).setCell (p:=⟨g0,1,none⟩) (Nat.le_refl _) _).setCell (p:=⟨g0,2,none⟩) (Nat.le_refl _) _
    refine bodyPost_ret (v:=.agg #[.slice A2 pn c2,.map (some (g0+1)),.bool e0]) (results_cell_row (p:=2) (ty:=76) rfl _ _ g0 _ #[.slice A2 pn c2,.map (some (g0+1)),.bool e0] _ _ rfl (show _=some (Obj.cells #[.slice A2 pn c2,.map (some (g0+1)),.bool e0] 76 (0,0)) by rw [s2];simp) Tryz.underlying76 rfl (by kernel_rfl)) rfl ⟨_,rfl,⟨.slice A2 pn c2,g0+1,m,f,by rw [he0.out],pr.out.keep hk9 (fun b _ hb=>⟨_,hb ▸ hz.out,fun c=>⟨by simp,by simp⟩⟩),pm.out.keep hk9 (by show ¬ (g0+1=g0);omega),pk.out⟩,hB9⟩
theorem Zbr (w:World) (base:Nat) (V:Value) (l:List Txt) (h:PsAt w base V l):Calls Tryz.prog 91 #[V] w fun e w'=>e=.returned (.bool (decide ([]∈l)))∧Below w.heap.size w w':=by
 obtain ⟨v,mb,n,f,rfl,h2,_,_⟩:=h
 obtain ⟨A,c,rfl,hc,ht⟩:=h2.txts
 obtain ⟨e0,he0⟩:∃ e,decide (([]:Txt)∈l)=e:=⟨_,rfl⟩
 rw [he0]
 have hB:∀ o,Below w.heap.size w (w.alloc o):=fun o=>(Below.refl _ _).alloc (Nat.le_refl _) _
 clear ht h2
 go_enter Tryz.func91,Tryz.ntmps91
 go_wp2
 go_ret
 exact ⟨rfl,hB _⟩
theorem pleast_calls (w:World) (base:Nat) (V:Value) (l:List Txt) (h:PsAt w base V l) (hl:∀ t∈l,t.length≤1000000) (hll:l.length≤1000000):Calls Tryz.prog 154 #[V] w fun e w'=>e=.returned (.int .i64 (Xb (ZH l):Int))∧Below w.heap.size w w':=by
 obtain ⟨v,mb,n,f,rfl,h2,_,_⟩:=h
 obtain ⟨A,c,rfl,hc,ht⟩:=h2.txts
 generalize decide (([]:Txt)∈l)=e0
 have hsl:As (∀ t∈ZH l,t.length≤1000000):=⟨fun t ht=>hl t (mem_pset.1 ht).1⟩
 have hpl:=JB l
 obtain ⟨ps,hps⟩:∃ ps,ZH l=ps:=⟨_,rfl⟩
 rw [hps] at ht hsl hc hpl ⊢
 obtain ⟨pn,hpn⟩:∃ k,ps.length=k:=⟨_,rfl⟩
 rw [hpn] at hc hpl ⊢
 have hz:=heap_alloc_new w (.cells #[.slice A pn c,.map (some mb),.bool e0] 76)
 have hB:Below w.heap.size w (w.alloc (.cells #[.slice A pn c,.map (some mb),.bool e0] 76)):=(Below.refl _ _).alloc (Nat.le_refl _) _
 have HT:=As.mk (ht.below hB)
 obtain ⟨gb,hgb⟩:∃ g,w.heap.size=g:=⟨_,rfl⟩
 obtain ⟨W1,hW1⟩:∃ W,w.alloc (.cells #[.slice A pn c,.map (some mb),.bool e0] 76)=W:=⟨_,rfl⟩
 rw [hgb] at hz hB
 rw [hW1] at hz hB HT
 have c0:W1.cell? ⟨gb,0,none⟩=some (.slice A pn c):=Za hz 0
 replace hz:=As.mk hz
 replace hB:=As.mk hB
 obtain ⟨R,hR⟩:∃ R,Xb ps=R:=⟨_,rfl⟩
 rw [hR]
 replace hR:=As.mk hR
 replace hpn:=As.mk hpn
 replace hps:=As.mk hps
 clear ht h2 hl
 go_enter Tryz.func154,Tryz.ntmps154
 go_wp2_with (first | (rw [hW1]) | (rw [hgb]))
 go_loopw [3,9] (fun v i wr=>∃ k:Nat,k≤pn∧i=.int .i64 k∧v=.int .i64 (Xb (ps.take k):Int)∧wr=W1) (fun _ i _=>pn - (intOf i).toNat)
 case atStart=>exact ⟨0,Nat.zero_le _,rfl,rfl,by first | rfl | exact hW1⟩
 case round =>
  obtain ⟨k,hk,rfl,rfl,rfl⟩:=hrel
  by_cases hlt:k<pn
  · have hkl:k<ps.length:=by rw [hpn.out];exact hlt
    obtain ⟨ad,A',c',rfl,ca,hc',hrw⟩:=HT.out.at_ hkl
    have hnx:=As.mk (leastP_take hkl)
    have htl:=hsl.out (ps.getD k []) (by rw [List.getD_eq_getElem?_getD,List.getElem?_eq_getElem hkl];exact List.getElem_mem hkl)
    generalize ps.getD k []=t at *
    obtain ⟨tl,htl2⟩:∃ k,t.length=k:=⟨_,rfl⟩
    obtain ⟨m,hm⟩:∃ m,Xb (ps.take k)=m:=⟨_,rfl⟩
    rw [hm] at hnx ⊢
    rw [htl2] at ca hc' htl
    have hnx2:As (Xb (ps.take (k+1))=if m=0∨tl<m then tl else m):=⟨by rw [hnx.out,← htl2];rfl⟩
    clear hrw hnx htl2 hm
    by_cases h0:m=0
    · subst h0
      go_wp2_with fail
      go_roundw
      case rel=>exact ⟨k+1,by omega,(by first | rfl | go_num | (congr 1;omega)),by rw [hnx2.out,if_pos (.inl rfl)],by first | rfl | trivial⟩
      case measure=>simp [intOf];omega
    · have e1:((m:Int) == 0)=false:=by simp;exact h0
      by_cases h1:tl<m
      · have e2:decide ((tl:Int)<(m:Int))=true:=decide_eq_true (by omega)
        go_wp2_with fail
        go_roundw
        case rel=>exact ⟨k+1,by omega,(by first | rfl | go_num | (congr 1;omega)),by rw [hnx2.out,if_pos (.inr h1)],by first | rfl | trivial⟩
        case measure=>simp [intOf];omega
      · have e2:decide ((tl:Int)<(m:Int))=false:=decide_eq_false (by omega)
        go_wp2_with fail
        go_roundw
        case rel=>exact ⟨k+1,by omega,(by first | rfl | go_num | (congr 1;omega)),by rw [hnx2.out,if_neg (by omega)],by first | rfl | trivial⟩
        case measure=>simp [intOf];omega
  · obtain rfl:k=pn:=by omega
    have htk:As (ps.take k=ps):=⟨by rw [← hpn.out,List.take_length]⟩
    rw [htk.out,hR.out]
    go_wp2_with fail
    go_ret
    exact ⟨rfl,by first | exact hB.out | (rw [hgb];exact hB.out)⟩
end Go.Proofs.YtfdlaomnecjfeaaGreatDoor
end
section
namespace Go.Proofs.YtfdlaomnecjfeaaGreatDoor
open Go.RowKit Go.Maps Seine.Trie Seine.Eng
def ZfY (l:List Txt):Nat:=(l.map List.length).sum
theorem Zeq (l:List Txt):ZfY (ZH l)≤tot l:=by
 have:=Zeh l []
 simpa [ZH,ZfY,tot] using this
set_option maxRecDepth 100000 in
theorem patterns_calls (w:World) (base:Nat) (V:Value) (l:List Txt) (h:PsAt w base V l) (hl:∀ t∈l,t.length≤1000000) (hll:l.length≤1000000):Calls Tryz.prog 88 #[V] w fun e w'=>∃ A' c',e=.returned (.slice A' (ZH l).length c')∧(ZH l).length≤c'∧Txts w' A' (ZH l)∧Below w.heap.size w w':=by
 obtain ⟨v,mb,n,f,rfl,h2,_,_⟩:=h
 obtain ⟨A,c,rfl,hc,ht⟩:=h2.txts
 generalize decide (([]:Txt)∈l)=e0
 have hsl:As (∀ t∈ZH l,t.length≤1000000):=⟨fun t ht=>hl t (mem_pset.1 ht).1⟩
 have hpl:=JB l
 obtain ⟨ps,hps⟩:∃ ps,ZH l=ps:=⟨_,rfl⟩
 rw [hps] at ht hsl hc hpl ⊢
 obtain ⟨pn,hpn⟩:∃ k,ps.length=k:=⟨_,rfl⟩
 rw [hpn] at hc hpl ⊢
 have hz:=heap_alloc_new w (.cells #[.slice A pn c,.map (some mb),.bool e0] 76)
 have hB:Below w.heap.size w (w.alloc (.cells #[.slice A pn c,.map (some mb),.bool e0] 76)):=(Below.refl _ _).alloc (Nat.le_refl _) _
 have HT:=As.mk (ht.below hB)
 obtain ⟨gb,hgb⟩:∃ g,w.heap.size=g:=⟨_,rfl⟩
 obtain ⟨W1,hW1⟩:∃ W,w.alloc (.cells #[.slice A pn c,.map (some mb),.bool e0] 76)=W:=⟨_,rfl⟩
 rw [hgb] at hz hB
 rw [hW1] at hz hB HT
 have c0:W1.cell? ⟨gb,0,none⟩=some (.slice A pn c):=Za hz 0
 replace hz:=As.mk hz
 replace hB:=As.mk hB
 replace hps:=As.mk hps
 clear ht h2 hl
 replace hpn:=As.mk hpn
 go_enter Tryz.func88,Tryz.ntmps88
 go_wp2_with (first | (rw [hW1]) | (rw [hgb]))
 obtain ⟨s1,hs1⟩:∃ s,W1.heap.size=s:=⟨_,rfl⟩
 have hst:As (OwnPs s1 W1 (.slice none 0 0) (ps.take 0)):=⟨by rw [List.take_zero];exact OwnPs.nil _ _⟩
 have hgs1:gb≤s1:=by have:=Zf hz.out;omega
 go_loopg [3,9] (pn+1) (fun gk v i wr=>∃ (k:Nat) (u:Value),u=v∧As (pn+1≤gk+k)∧k≤pn∧i=.int .i64 k∧As (OwnPs s1 wr u (ps.take k))∧As (Below W1.heap.size W1 wr))
 case atStart=>exact ⟨0,_,rfl,⟨by omega⟩,Nat.zero_le _,rfl,hst,⟨Below.refl _ _⟩⟩
 case round =>
  obtain ⟨k,u,rfl,hgk,hk,rfl,ho,hb1⟩:=hrel
  by_cases hlt:k<pn
  · obtain ⟨gp,rfl⟩:∃ gp,gk=gp+1:=⟨gk - 1,by have:=hgk.out;omega⟩
    have hkl:k<ps.length:=by rw [hpn.out];exact hlt
    obtain ⟨ad,A',c',rfl,ca0,hc',hrw⟩:=HT.out.at_ hkl
    have ca:=(hb1.out.cell (p:=ad.add k) (World.block_lt_of_cell? W1 _ ca0)).trans ca0
    have htl:=hsl.out (ps.getD k []) (by rw [List.getD_eq_getElem?_getD,List.getElem?_eq_getElem hkl];exact List.getElem_mem hkl)
    have hnx:ps.take (k+1)=ps.take k++[ps.getD k []]:=by rw [List.take_succ_eq_append_getElem hkl];simp [hkl]
    generalize ps.getD k []=t at *
    have hcl:=ZR wr A' c' t (Row.below hrw hb1.out) htl
    obtain ⟨tl,htl2⟩:∃ k,t.length=k:=⟨_,rfl⟩
    rw [htl2] at ca ca0 hc' hcl
    obtain ⟨acc,hacc⟩:∃ a,ps.take k=a:=⟨_,rfl⟩
    have hal:acc.length=k:=by rw [← hacc,List.length_take,hpn.out];omega
    rw [hacc] at ho hnx
    obtain ⟨vs,hvl,hvo,hvb⟩:=ho.out
    rw [hal] at hvl hvo
    replace hcl:=As.mk hcl
    replace hnx:=As.mk hnx
    replace htl2:=As.mk htl2
    replace hacc:=As.mk hacc
    replace hal:=As.mk hal
    replace hvl:=As.mk hvl
    replace hvo:=As.mk hvo
    replace hvb:=As.mk hvb
    clear ca0 hrw ho
    have hsz:=hb1.out.size
    rw [hs1] at hsz
    go_wp2_with (first
     | (go_at_call 104;refine Calls.mono hcl.out ?_;intro e w5 h5;obtain ⟨v5,he5,ho5,hb5⟩:=h5.open_;subst he5;have hs5:=hb5.size;obtain ⟨A5,c5,hv5,hc5⟩:=Zk ho5;rw [htl2.out] at hv5 hc5;subst hv5;have hvo5:=As.mk (Zo hvo.out hb5);replace ho5:=As.mk ho5;replace hb5:=As.mk hb5;clear h5)
     | (at_builtin
        (refine ZA w5 rfl (.tmp 13) (.tmp 16) 73 rfl s1 22 _ 1 24 Tryz.underlying73 Yt rfl (by decide) u k vs rfl hvo5.out [.slice A5 tl c5] rfl (by simp [Value.oneCell']) _ rfl (by simp) (by omega) (by decide) (by omega) ?_)
        intro v6 w6 ho6 hk6 _ hb6))
    have hOw:OwnPs s1 w6 v6 (acc++[t]):=by
     refine OwnPs.snoc (w:=w5) (vs:=vs) (u:=.slice A5 tl c5) (v:=u) (by rw [hvl.out,hal.out]) (fun i hi=>?_) (ZB ho5.out (by omega)) (by rw [hal.out];exact hvo5.out) hk6 (by rw [hal.out];exact ho6)
     obtain ⟨x,hx,hxo⟩:=hvb.out i hi
     exact ⟨x,hx,Zo hxo hb5.out⟩
    go_roundg gp
    case measure=>exact Nat.lt_succ_self _
    case rel=>exact ⟨k+1,_,rfl,⟨by have:=hgk.out;omega⟩,hlt,(by first | rfl | go_num | (congr 1;omega)),⟨by rw [hnx.out];exact hOw⟩,⟨by rw [hs1] at hb1 ⊢;exact (hb1.out.trans (hb5.out.mono hsz)).trans hb6⟩⟩
  · obtain rfl:k=pn:=by omega
    have htk:ps.take k=ps:=by rw [← hpn.out,List.take_length]
    rw [htk] at ho
    obtain ⟨A9,c9,rfl,hc9,ht9⟩:=ho.out.txts
    rw [hpn.out] at hc9 ⊢
    replace ht9:=As.mk ht9
    clear ho
    have hBr:Below gb w wr:=hB.out.trans (hb1.out.mono (by omega))
    go_wp2_with fail
    go_ret
    exact ⟨A9,c9,rfl,hc9,ht9.out,by first | exact hBr | (rw [hgb];exact hBr)⟩
end Go.Proofs.YtfdlaomnecjfeaaGreatDoor
end
section
namespace Go.Proofs.YtfdlaomnecjfeaaGreatDoor
open Go.RowKit Go.Maps Seine.Trie Seine.Links Seine.Sparse
attribute [local go_sem high] QM Xn
def Cn.looked (c:Cn) (n:Nat):Cn:={ c with l:=c.l+(n:Int) }
theorem Cn.looked_one (c:Cn):{ c with l:=c.l+1 }=c.looked 1:=rfl
/-- Where a step stands: a shorter state, from which it ends where the first one does. -/
def Zdp (w0:World) (g:Nat) (P l:List Txt) (mo:Option Nat) (cn:Cn) (s:Txt) (c:UInt8) (s':Txt) (w:World):Prop :=
 s'∈P∧lng P (s'++[c])=lng P (s++[c])∧∃ d,Qi P s c=d+Qi P s' c∧Mo w mo (cn.looked d)∧Keeps (Zu mo) w0 w
theorem place_getD {P:List Txt} {s:Txt} (h:s∈P):P.getD (place P s).toNat []=s:=by
 rw [List.getD_eq_getElem?_getD,Y1 h];rfl
theorem Cn.looked_looked (c:Cn) (a b:Nat):(c.looked a).looked b=c.looked (a+b):=by
 unfold Cn.looked;simp only [Cn.mk.injEq,true_and,and_true];push_cast;omega
set_option maxRecDepth 100000 in
set_option maxHeartbeats 3200000 in
theorem sstep_calls (w:World) (g eb:Nat) (P l:List Txt) (h:AutoAt w g P l) (mo:Option Nat) (ht:TabS w eb mo P) (cn:Cn) (hm:Mo w mo cn) (hT:Tree P) (hl:P.length≤1000000) (s:Txt) (hs:s∈P) (c:UInt8)
    (hok:(cn.looked (Qi P s c)).ok∧cn.ok) :
    Calls Tryz.prog 269 #[.pointer (some ⟨g,0,none⟩),.pointer (some ⟨eb,0,none⟩),.int .i64 (place P s),.int .u8 (c.toNat:Int)] w fun e w' =>
     e=.returned (.int .i64 (place P (lng P (s++[c]))))∧Mo w' mo (cn.looked (Qi P s c))∧Keeps (Zu mo) w w':=by
 have HA:=As.mk h
 have HTab:=As.mk ht
 have HM:=As.mk hm
 have hTr:=As.mk hT
 have hst0:As (Zdp w g P l mo cn s c s w):=⟨hs,rfl,0,by omega,by unfold Cn.looked;simpa using hm,Keeps.refl _ _⟩
 clear h ht hm hT
 go_enter Tryz.func269,Tryz.ntmps269
 go_wp2_with fail
 refine wp_scope_jumps 0 (fun a' w'=>∃ (s':Txt) (u9 u10 u11 u12 u13 u14 u15 u16 u17 u18 u19 u20 u21 u22 u23 u24 u25 u26 u27:Value),a'={ tmps:=#[.pointer (some ⟨g,0,none⟩),.pointer (some ⟨eb,0,none⟩),.int .i64 (place P s'),.int .u8 (c.toNat:Int),undef,undef,undef,undef,.int .i64 0,u9,u10,u11,u12,u13,u14,u15,u16,u17,u18,u19,u20,u21,u22,u23,u24,u25,u26,u27],defers:=[] }∧As (Zdp w g P l mo cn s c s' w')) (fun a' _=>(P.getD (intOf (a'.tmps.getD 2 undef)).toNat []).length) rfl ?_ ?_
 · go_wp2_with fail
   go_step3
   obtain ⟨sp,hspe⟩:∃ x,x=s:=⟨_,rfl⟩
   subst hspe
   have hst:=hst0
   obtain ⟨hsP,hlng,dl,hdl,hmo,hkp⟩:=hst.out
   obtain ⟨a,ea,ha⟩:=QR hsP
   have hga:P.getD a []=sp:=by rw [List.getD_eq_getElem?_getD,ha];rfl
   have hal:=(List.getElem?_eq_some_iff.1 ha).1
   have hTb':=HTab.out.keep HM.out hkp
   have hAu':=HA.out.keepM HM.out hkp
   obtain ⟨B,h1,h2,h3,h4⟩:=hAu'
   have hlk:=As.mk (Zcf _ eb mo P hTb' (cn.looked dl) hmo (by have:=hok;have:=ZaP P sp c;unfold Cn.ok Cn.looked at *;simp only at *;omega) a hal hl c)
   rw [hga] at hlk
   rw [ea]
   have hc1:w.cell? ⟨g,1,none⟩=some (.pointer (some ⟨B.lg,0,none⟩)):=Za h1 1
   by_cases hq:sp++[c]∈P
   · obtain ⟨r,er,_⟩:=QR hq
     have hres:=As.mk (show place P (lng P (sp++[c]))=(r:Int) by rw [← hlng,JH hTr.out hq,er])
     have hlo:=ZaO hq
     rw [er] at hlk
     have hn1:decide ((r:Int)<0)=false:=decide_eq_false (by omega)
     have hmx:max (r:Int) 0=(r:Int):=by omega
     have hdd:=As.mk (show Qi P sp c=dl+1 by rw [hdl,hlo])
     replace hkp:=As.mk hkp
     clear hst h1 h2 h3 h4 hTb' hlng hlo hq hmo
     go_wp2_with (go_at_call 273;refine Calls.mono hlk.out ?_;rintro e w4 ⟨rfl,hm4,hk4⟩;replace hm4:=As.mk hm4;replace hk4:=As.mk hk4)
     simp only [Exit.jump]
     go_ret
     exact ⟨QL hres.out.symm,by have hm5:=hm4.out;rw [Cn.looked_one,Cn.looked_looked] at hm5;rw [hdd.out];exact hm5,hkp.out.trans hk4.out⟩
   · by_cases hs0:sp=[]
     · subst hs0
       have hres:=As.mk (show place P (lng P ([]++[c]))=0 by rw [← hlng,List.nil_append,JV hTr.out (by simpa using hq),ZO hTr.out.nodup hTr.out.root];rfl)
       have ha0:a=0:=by rw [ZO hTr.out.nodup hTr.out.root] at ea;omega
       subst ha0
       rw [ZQ hq] at hlk
       have hdd:=As.mk (show Qi P [] c=dl+1 by rw [hdl,Zah])
       replace hkp:=As.mk hkp
       clear hst h1 h2 h3 h4 hTb' hlng hq hmo
       go_wp2_with (go_at_call 273;refine Calls.mono hlk.out ?_;rintro e w4 ⟨rfl,hm4,hk4⟩;replace hm4:=As.mk hm4;replace hk4:=As.mk hk4)
       simp only [Exit.jump]
       go_ret
       exact ⟨QL hres.out.symm,by have hm5:=hm4.out;rw [Cn.looked_one,Cn.looked_looked] at hm5;rw [hdd.out];exact hm5,hkp.out.trans hk4.out⟩
     · obtain ⟨m,hf⟩:=Y3 hTr.out hs0
       obtain ⟨f1,f2,f3,f4⟩:=Qx hf
       have hfall:=Zai hq hf
       have hlf:=JW hTr.out hq hf
       have ha0:0<a:=by
        rcases Nat.eq_zero_or_pos a with z | z
        · subst z;rw [hTr.out.root] at ha;injection ha with ha;exact absurd ha.symm hs0
        · exact z
       have hff:ZN P sp=place P (sp.drop m):=by unfold ZN;rw [hf]
       have ha1:decide (0<(a:Int))=true:=decide_eq_true (by omega)
       rw [ZQ hq] at hlk
       have hlen:=As.mk (show (sp.drop m).length<sp.length by rw [List.length_drop];omega)
       have hnxt:=As.mk (fun w4 (hm4:Mo w4 mo { cn.looked dl with l:=(cn.looked dl).l+1 }) (hk4:Keeps (Zu mo) w w4)=>(⟨f3,by rw [← hlf,hlng],dl+1,by rw [hdl,hfall];omega,by rw [Cn.looked_one,Cn.looked_looked] at hm4;exact hm4,hkp.trans hk4⟩:Zdp w g P l mo cn sp c (sp.drop m) w4))
       have hfc:=As.mk (fun w4 (hk4:Keeps (Zu mo) w w4)=>(by have:=Zag w4 B.lb B.lg P _ _ _ _ (LinksAt.keepM h3 hmo hk4) (a:Int);unfold askF at this;rw [if_pos (by omega),Int.toNat_natCast,hga,hff] at this;exact this:Calls Tryz.prog 189 #[.pointer (some ⟨B.lg,0,none⟩),.int .i64 (a:Int)] w4 fun e w'=>e=.returned (.int .i64 (place P (sp.drop m)))∧w4=w'))
       have hgk:=As.mk (fun w4 (hk4:Keeps (Zu mo) w w4)=>(Zd h1 hk4 (hmo.far h1 (.inl (by simp)))))
       generalize sp.drop m=s2 at *
       clear hst h1 h2 h3 h4 hTb' hlng hq hmo hf f4 hfall hlf hff
       go_wp2_with (first
        | (go_at_call 273;refine Calls.mono hlk.out ?_;rintro e w4 ⟨rfl,hm4,hk4⟩;have hg4:=Za (hgk.out w4 hk4) 1;simp only [List.getElem?_toArray,List.getElem?_cons_succ,List.getElem?_cons_zero] at hg4)
        | (go_at_call 189;refine Calls.mono (hfc.out _ hk4) ?_;rintro e w5 ⟨rfl,rfl⟩))
       go_step3
       exact ⟨rfl,s2,_,_,_,_,_,_,_,_,_,_,_,_,_,_,_,_,_,_,_,rfl,⟨hnxt.out _ hm4 hk4⟩⟩
 · rintro a' wr ⟨sp,u9,u10,u11,u12,u13,u14,u15,u16,u17,u18,u19,u20,u21,u22,u23,u24,u25,u26,u27,rfl,hst⟩
   obtain ⟨hsP,hlng,dl,hdl,hmo,hkp⟩:=hst.out
   obtain ⟨a,ea,ha⟩:=QR hsP
   have hga:P.getD a []=sp:=by rw [List.getD_eq_getElem?_getD,ha];rfl
   have hal:=(List.getElem?_eq_some_iff.1 ha).1
   have hTb':=HTab.out.keep HM.out hkp
   have hAu':=HA.out.keepM HM.out hkp
   obtain ⟨B,h1,h2,h3,h4⟩:=hAu'
   have hlk:=As.mk (Zcf _ eb mo P hTb' (cn.looked dl) hmo (by have:=hok;have:=ZaP P sp c;unfold Cn.ok Cn.looked at *;simp only at *;omega) a hal hl c)
   rw [hga] at hlk
   rw [ea]
   have hc1:wr.cell? ⟨g,1,none⟩=some (.pointer (some ⟨B.lg,0,none⟩)):=Za h1 1
   by_cases hq:sp++[c]∈P
   · obtain ⟨r,er,_⟩:=QR hq
     have hres:=As.mk (show place P (lng P (s++[c]))=(r:Int) by rw [← hlng,JH hTr.out hq,er])
     have hlo:=ZaO hq
     rw [er] at hlk
     have hn1:decide ((r:Int)<0)=false:=decide_eq_false (by omega)
     have hmx:max (r:Int) 0=(r:Int):=by omega
     have hdd:=As.mk (show Qi P s c=dl+1 by rw [hdl,hlo])
     replace hkp:=As.mk hkp
     clear hst h1 h2 h3 h4 hTb' hlng hlo hq hmo
     go_wp2_with (go_at_call 273;refine Calls.mono hlk.out ?_;rintro e w4 ⟨rfl,hm4,hk4⟩;replace hm4:=As.mk hm4;replace hk4:=As.mk hk4)
     simp only [Exit.jump]
     go_ret
     exact ⟨QL hres.out.symm,by have hm5:=hm4.out;rw [Cn.looked_one,Cn.looked_looked] at hm5;rw [hdd.out];exact hm5,hkp.out.trans hk4.out⟩
   · by_cases hs0:sp=[]
     · subst hs0
       have hres:=As.mk (show place P (lng P (s++[c]))=0 by rw [← hlng,List.nil_append,JV hTr.out (by simpa using hq),ZO hTr.out.nodup hTr.out.root];rfl)
       have ha0:a=0:=by rw [ZO hTr.out.nodup hTr.out.root] at ea;omega
       subst ha0
       rw [ZQ hq] at hlk
       have hdd:=As.mk (show Qi P s c=dl+1 by rw [hdl,Zah])
       replace hkp:=As.mk hkp
       clear hst h1 h2 h3 h4 hTb' hlng hq hmo
       go_wp2_with (go_at_call 273;refine Calls.mono hlk.out ?_;rintro e w4 ⟨rfl,hm4,hk4⟩;replace hm4:=As.mk hm4;replace hk4:=As.mk hk4)
       simp only [Exit.jump]
       go_ret
       exact ⟨QL hres.out.symm,by have hm5:=hm4.out;rw [Cn.looked_one,Cn.looked_looked] at hm5;rw [hdd.out];exact hm5,hkp.out.trans hk4.out⟩
     · obtain ⟨m,hf⟩:=Y3 hTr.out hs0
       obtain ⟨f1,f2,f3,f4⟩:=Qx hf
       have hfall:=Zai hq hf
       have hlf:=JW hTr.out hq hf
       have ha0:0<a:=by
        rcases Nat.eq_zero_or_pos a with z | z
        · subst z;rw [hTr.out.root] at ha;injection ha with ha;exact absurd ha.symm hs0
        · exact z
       have hff:ZN P sp=place P (sp.drop m):=by unfold ZN;rw [hf]
       have ha1:decide (0<(a:Int))=true:=decide_eq_true (by omega)
       rw [ZQ hq] at hlk
       have hlen:=As.mk (show (sp.drop m).length<sp.length by rw [List.length_drop];omega)
       have hnxt:=As.mk (fun w4 (hm4:Mo w4 mo { cn.looked dl with l:=(cn.looked dl).l+1 }) (hk4:Keeps (Zu mo) wr w4)=>(⟨f3,by rw [← hlf,hlng],dl+1,by rw [hdl,hfall];omega,by rw [Cn.looked_one,Cn.looked_looked] at hm4;exact hm4,hkp.trans hk4⟩:Zdp w g P l mo cn s c (sp.drop m) w4))
       have hfc:=As.mk (fun w4 (hk4:Keeps (Zu mo) wr w4)=>(by have:=Zag w4 B.lb B.lg P _ _ _ _ (LinksAt.keepM h3 hmo hk4) (a:Int);unfold askF at this;rw [if_pos (by omega),Int.toNat_natCast,hga,hff] at this;exact this:Calls Tryz.prog 189 #[.pointer (some ⟨B.lg,0,none⟩),.int .i64 (a:Int)] w4 fun e w'=>e=.returned (.int .i64 (place P (sp.drop m)))∧w4=w'))
       have hgk:=As.mk (fun w4 (hk4:Keeps (Zu mo) wr w4)=>(Zd h1 hk4 (hmo.far h1 (.inl (by simp)))))
       generalize sp.drop m=s2 at *
       clear hst h1 h2 h3 h4 hTb' hlng hq hmo hf f4 hfall hlf hff
       go_wp2_with (first
        | (go_at_call 273;refine Calls.mono hlk.out ?_;rintro e w4 ⟨rfl,hm4,hk4⟩;have hg4:=Za (hgk.out w4 hk4) 1;simp only [List.getElem?_toArray,List.getElem?_cons_succ,List.getElem?_cons_zero] at hg4)
        | (go_at_call 189;refine Calls.mono (hfc.out _ hk4) ?_;rintro e w5 ⟨rfl,rfl⟩))
       go_step3
       exact ⟨rfl,⟨s2,_,_,_,_,_,_,_,_,_,_,_,_,_,_,_,_,_,_,_,rfl,⟨hnxt.out _ hm4 hk4⟩⟩,by show (P.getD (place P s2).toNat []).length<(P.getD ((a:Int)).toNat []).length;rw [Int.toNat_natCast,hga,place_getD f3];exact hlen.out⟩
end Go.Proofs.YtfdlaomnecjfeaaGreatDoor
end
section
namespace Go.Proofs.YtfdlaomnecjfeaaGreatDoor
open Go.RowKit Seine.Sort
attribute [local go_sem high] ZfX
theorem pless_calls (w:World) (a1 a2 b1 b2:Int) (r:Bool) (hr:r=decide (lt (a1,a2) (b1,b2))) :
    Calls Tryz.prog 202 #[.agg #[.int .i64 a1,.int .i64 a2],.agg #[.int .i64 b1,.int .i64 b2]] w fun e w'=>e=.returned (.bool r)∧Below w.heap.size w w':=by
 have hb:∀ o o',Below w.heap.size w ((w.alloc o).alloc o'):=fun o o'=>((Below.refl _ _).alloc (Nat.le_refl _) _).alloc (by simp) _
 by_cases h:a1=b1
 · have hr2:r=decide (a2<b2):=by rw [hr,decide_eq_decide];unfold lt;simp;omega
   have hx:(!(a1 == b1))=false:=by simp [h]
   clear hr
   go_enter Tryz.func202,Tryz.ntmps202
   go_wp2
   go_ret
   exact ⟨YH hr2.symm,hb _ _⟩
 · have hr2:r=decide (a1<b1):=by rw [hr,decide_eq_decide];unfold lt;simp;omega
   have hx:(!(a1 == b1))=true:=by simp [h]
   clear hr
   go_enter Tryz.func202,Tryz.ntmps202
   go_wp2
   go_ret
   exact ⟨YH hr2.symm,hb _ _⟩
theorem Prs.tail {w:World} {ad:Addr} {x:Pr} {xs:List Pr} (h:Prs w (some ad) (x::xs)):Prs w (some (ad.add 2)) xs:=by
 rcases h with h | ⟨ad',e,hlt,hc⟩
 · simp [Zr] at h
 · injection e with e
   subst e
   refine .inr ⟨_,rfl,by rw [Addr.block_add];exact hlt,fun j u hu=>?_⟩
   rw [Addr.add_add',Nat.add_comm 2 j]
   exact hc _ u (by simpa [Zr] using hu)
theorem Prs.head {w:World} {A:Option Addr} {x:Pr} {xs:List Pr} (h:Prs w A (x::xs)):∃ ad,A=some ad∧w.cell? ad=some (.int .i64 x.1)∧w.cell? ⟨ad.block,ad.off+1,none⟩=some (.int .i64 x.2):=by
 obtain ⟨ad,e,h1,h2⟩:=Prs.at_ h (i:=0) (by simp)
 have h0:ad.add 0=ad:=by simp [Addr.add]
 rw [Nat.zero_mul,h0] at h1 h2
 exact ⟨ad,e,h1,h2⟩
theorem prLast {w:World} {base:Nat} {v:Value} {out:List Pr} {x:Pr} (h:OwnPrs w base v (out++[x])):∃ b c,v=.slice (some ⟨b,0,none⟩) (out.length+1) c∧out.length+1≤c∧w.cell? ⟨b,out.length * 2,none⟩=some (.int .i64 x.1)∧w.cell? ⟨b,out.length * 2+1,none⟩=some (.int .i64 x.2)∧b<w.heap.size:=by
 obtain ⟨A,c,e,hc,hr⟩:=OwnPrs.row h
 rw [List.length_append,List.length_singleton] at e hc
 rcases h.2 with ⟨_,h0⟩ | ⟨b,cap,cur,hv,_,hh,_⟩
 · simp at h0
 · rw [hv] at e
   injection e with e1 _ e3
   subst e1
   obtain ⟨ad,e4,h1,h2⟩:=Prs.at_ hr (i:=out.length) (by simp)
   injection e4 with e4
   subst e4
   have hg:(out++[x]).getD out.length (0,0)=x:=by simp [List.getD_eq_getElem?_getD]
   rw [hg] at h1 h2
   have hadd:(⟨b,0,none⟩:Addr).add (out.length * 2)=⟨b,out.length * 2,none⟩:=by unfold Addr.add;split <;> simp_all
   rw [hadd] at h1 h2
   exact ⟨b,c,by rw [hv,e3,List.length_append,List.length_singleton],hc,h1,h2,Zf hh⟩
/-- Where two rows are put together: what is left of each, and what is out. -/
def JRel (w:World) (a b:List Pr) (n1 n2 gk:Nat) (v1 v2 v3:Value) (wr:World):Prop :=
 ∃ (A' B':Option Addr) (m1 c' m2 d':Nat) (a' b' out:List Pr) (u:Value),v1=.slice A' m1 c'∧v2=.slice B' m2 d'∧v3=u∧As (a'.length=m1)∧As (b'.length=m2)∧As (m1+m2+1≤gk)∧m1≤c'∧m2≤d'∧c'≤9223372036854775807∧d'≤9223372036854775807∧As (out.length+m1+m2≤n1+n2) ∧
   As (Prs w A' a')∧As (Prs w B' b')∧As (Join a b a' b' out)∧As (OwnPrs wr w.heap.size u out)∧As (Below w.heap.size w wr)
theorem JRel.nextA {w wr:World} {a b a' b' out:List Pr} {n1 n2 gk m1 m2 c' d':Nat} {x:Pr} {B':Option Addr} (hm1:(x::a').length=m1) (hm2:b'.length=m2) (hgk:m1+m2+1≤gk+1) (hmc:m1≤c') (hmd:m2≤d') (hc':c'≤9223372036854775807) (hd':d'≤9223372036854775807)
    (hout:out.length+m1+m2≤n1+n2) (hJ:Join a b a' b' (Yl out x)) (hRB:Prs w B' b') (A'':Option Addr) (hRA:Prs w A'' a') :
    ∀ v4 w4,OwnPrs w4 w.heap.size v4 (Yl out x)→Below w.heap.size w w4→JRel w a b n1 n2 gk (.slice A'' (m1 - 1) (c' - 1)) (.slice B' m2 d') v4 w4:=fun v4 w4 ho4 hb4=>by
 have:=Ze1 out x
 rw [List.length_cons] at hm1
 exact ⟨_,_,m1 - 1,c' - 1,m2,d',a',b',_,_,rfl,rfl,rfl,⟨by omega⟩,⟨hm2⟩,⟨by omega⟩,by omega,hmd,by omega,hd',⟨by omega⟩,⟨hRA⟩,⟨hRB⟩,⟨hJ⟩,⟨ho4⟩,⟨hb4⟩⟩
theorem JRel.nextB {w wr:World} {a b a' b' out:List Pr} {n1 n2 gk m1 m2 c' d':Nat} {x:Pr} {A':Option Addr} (hm1:a'.length=m1) (hm2:(x::b').length=m2) (hgk:m1+m2+1≤gk+1) (hmc:m1≤c') (hmd:m2≤d') (hc':c'≤9223372036854775807) (hd':d'≤9223372036854775807)
    (hout:out.length+m1+m2≤n1+n2) (hJ:Join a b a' b' (Yl out x)) (hRA:Prs w A' a') (B'':Option Addr) (hRB:Prs w B'' b') :
    ∀ v4 w4,OwnPrs w4 w.heap.size v4 (Yl out x)→Below w.heap.size w w4→JRel w a b n1 n2 gk (.slice A' m1 c') (.slice B'' (m2 - 1) (d' - 1)) v4 w4:=fun v4 w4 ho4 hb4=>by
 have:=Ze1 out x
 rw [List.length_cons] at hm2
 exact ⟨_,_,m1,c',m2 - 1,d' - 1,a',b',_,_,rfl,rfl,rfl,⟨hm1⟩,⟨by omega⟩,⟨by omega⟩,hmc,by omega,hc',by omega,⟨by omega⟩,⟨hRA⟩,⟨hRB⟩,⟨hJ⟩,⟨ho4⟩,⟨hb4⟩⟩
theorem Ze7 {α:Type} {x:α} {l:List α} {m:Nat} (h:(x::l).length=m) (h1:m≤1):l=[]:=by
 rw [List.length_cons] at h
 exact List.eq_nil_of_length_eq_zero (by omega)
theorem ZaS {wr W1:World} (h:Below wr.heap.size wr W1) (x1 x2:Value):Keeps (fun k=>k=wr.heap.size) wr ((W1.setCell ⟨wr.heap.size,0,none⟩ x1).setCell ⟨wr.heap.size,1,none⟩ x2).drew :=
 Keeps.drew (((Keeps.of_below h (fun k=>k=wr.heap.size)).trans (Zm W1 ⟨wr.heap.size,0,none⟩ x1)).trans (Zm (W1.setCell ⟨wr.heap.size,0,none⟩ x1) ⟨wr.heap.size,1,none⟩ x2))
theorem nil_or_snoc:∀ (out:List Pr),out=[]∨∃ pre z,out=pre++[z]
 | []=>.inl rfl
 | x::l=>.inr ⟨(x::l).dropLast,(x::l).getLast (by simp),(List.dropLast_concat_getLast (by simp)).symm⟩
theorem Ze8 {out:List Pr} {x:Pr} (h:out.getLast?≠some x):Yl out x=out++[x]:=if_neg h
theorem push_old {out:List Pr} {x:Pr} (h:out.getLast? = some x):Yl out x=out:=if_pos h
def Pick (t:Bool) (a b:List Pr):Prop:=(t=true→∃ x a2,a=x::a2∧∀ y∈b,lt x y∨x=y)∧(t=false→∃ y b2,b=y::b2∧∀ x∈a,lt y x∨y=x)
theorem Pick.left {x:Pr} {a b:List Pr} (h:∀ y∈b,lt x y∨x=y):Pick true (x::a) b:=⟨fun _=>⟨x,a,rfl,h⟩,fun h=>by cases h⟩
theorem Pick.right {y:Pr} {a b:List Pr} (h:∀ x∈a,lt y x∨y=x):Pick false a (y::b):=⟨fun h=>(by cases h),fun _=>⟨y,b,rfl,h⟩⟩
abbrev ZcW:Obj:=.cells #[.int .i64 0,.int .i64 0] 67
set_option maxRecDepth 100000 in
set_option maxHeartbeats 1600000 in
theorem Zbs (A:Option Addr) (c:Nat) (a:List Pr) (B:Option Addr) (d:Nat) (b:List Pr) (w:World) (ha:Prs w A a) (hb:Prs w B b) (hac:a.length≤c) (hbd:b.length≤d) (hcm:c≤maxLen) (hdm:d≤maxLen) (ra:Rise a) (rb:Rise b) (hl:a.length+b.length≤100000000) :
    Calls Tryz.prog 201 #[.slice A a.length c,.slice B b.length d,.func (.func 202) #[] #[]] w (RetPrs w (sortP (a++b))):=by
 have hu25:=Tryz.underlying67
 unfold maxLen at hcm hdm
 obtain ⟨R,hR⟩:∃ R,sortP (a++b)=R:=⟨_,rfl⟩
 rw [hR]
 replace hR:=As.mk hR
 obtain ⟨n1,hn1⟩:∃ n,a.length=n:=⟨_,rfl⟩
 obtain ⟨n2,hn2⟩:∃ n,b.length=n:=⟨_,rfl⟩
 rw [hn1] at hac hl ⊢
 rw [hn2] at hbd hl ⊢
 have hstart:As (JRel w a b n1 n2 (n1+n2+1) (.slice A n1 c) (.slice B n2 d) (.slice none 0 0) w) :=
  ⟨⟨A,B,n1,c,n2,d,a,b,[],_,rfl,rfl,rfl,⟨hn1⟩,⟨hn2⟩,⟨by omega⟩,hac,hbd,by omega,by omega,⟨by simp⟩,⟨ha⟩,⟨hb⟩,⟨Join.start ra rb⟩,⟨World.ownsRow_nil _ _ _ _⟩,⟨Below.refl _ _⟩⟩⟩
 clear ha hb ra rb
 go_enter Tryz.func201,Tryz.ntmps201
 go_wp2
 go_loopg [0,1,7] (n1+n2+1) (fun gk v1 v2 v3 wr=>JRel w a b n1 n2 gk v1 v2 v3 wr)
 case atStart=>exact hstart.out
 case round =>
  obtain ⟨A',B',m1,c',m2,d',a',b',out,v3,rfl,rfl,rfl,hm1,hm2,hgk,hmc,hmd,hc',hd',hout,hRA,hRB,hJ,hown,hbel⟩:=hrel
  by_cases hend:m1=0∧m2=0
  · obtain ⟨rfl,rfl⟩:=hend
    obtain rfl:=List.eq_nil_of_length_eq_zero hm1.out
    obtain rfl:=List.eq_nil_of_length_eq_zero hm2.out
    go_wp2
    go_ret
    exact ⟨_,rfl,by rw [← hR.out,← hJ.out.done];exact hown.out,hbel.out⟩
  · obtain ⟨gp,rfl⟩:∃ gp,gk=gp+1:=⟨gk - 1,by have:=hgk.out;omega⟩
    go_upto_region 2 with fail
    go_cut [16] from 9 to 62 (fun v16 wx=>v16=.bool true∧wr=wx)
    case first =>
     by_cases h1:0<m1
     · have hz1:decide (0<(m1:Int))=true:=decide_eq_true (by omega)
       go_wp2_with fail
       go_meet
       case rel=>exact ⟨rfl,rfl⟩
     · obtain rfl:m1=0:=by omega
       have h2:0<m2:=by omega
       have hz2:decide (0<(m2:Int))=true:=decide_eq_true (by omega)
       go_wp2_with fail
       go_meet
       case rel=>exact ⟨rfl,rfl⟩
    case rest =>
     obtain ⟨rfl,rfl⟩:=hcut
     go_upto_region 4 with fail
     have hW0:=As.mk ((Below.refl wr.heap.size wr).alloc (Nat.le_refl _) ZcW)
     have hq0:=As.mk (show (wr.alloc ZcW).heap[wr.heap.size]? = some (.cells #[.int .i64 0,.int .i64 0] 67 (0,0)) from heap_alloc_new _ _)
     obtain ⟨W0,hWe⟩:∃ W,wr.alloc (.cells #[.int .i64 0,.int .i64 0] 67)=W:=⟨_,rfl⟩
     unfold ZcW at hW0 hq0
     rw [hWe] at hW0 hq0 ⊢
     clear hWe
     have hB0:=As.mk (hbel.out.trans (hW0.out.mono hbel.out.size))
     go_cut [35] from 9 to 62 (fun v35 wx=>∃ t:Bool,v35=.bool t∧As (Below wr.heap.size wr wx)∧As (wx.heap[wr.heap.size]? = some (.cells #[.int .i64 0,.int .i64 0] 67 (0,0)))∧As (Pick t a' b'))
     case first =>
      cases b' with
      | nil =>
        obtain rfl:m2=0:=hm2.out.symm
        cases a' with
        | nil=>exact absurd ⟨hm1.out.symm,rfl⟩ hend
        | cons x a' =>
          have hP:=As.mk (Pick.left (a:=a') (b:=[]) (x:=x) (by simp))
          go_region
          go_wp2_with fail
          go_meet
          case rel=>exact ⟨_,rfl,⟨hW0.out.drew⟩,hq0,hP⟩
      | cons y b' =>
        have hp2:0<m2:=by have:=hm2.out;simp at this;omega
        have hz3:((m2:Int) == 0)=false:=by simp;omega
        cases a' with
        | nil =>
          obtain rfl:m1=0:=hm1.out.symm
          have hP:=As.mk (Pick.right (a:=[]) (b:=b') (y:=y) (by simp))
          go_region
          go_wp2_with fail
          go_meet
          case rel=>exact ⟨_,rfl,⟨hW0.out.drew⟩,hq0,hP⟩
        | cons x a' =>
          have hp1:0<m1:=by have:=hm1.out;simp at this;omega
          have hz1:decide (0<(m1:Int))=true:=decide_eq_true (by omega)
          have hP:As (Pick (!decide (lt y x)) (x::a') (y::b')):=⟨by
           by_cases hlt:lt y x
           · rw [decide_eq_true hlt];exact Pick.right (Zee hJ.out.ra (.inl hlt))
           · rw [decide_eq_false hlt]
             refine Pick.left (Zee hJ.out.rb ?_)
             rcases lt_tri x y with h | h | h
             · exact .inl h
             · exact .inr h
             · exact absurd h hlt⟩
          have hc1:=Prs.head (Row.below hRA.out hB0.out)
          have hc2:=Prs.head (Row.below hRB.out hB0.out)
          have cl:=As.mk (fun v=>pless_calls v y.1 y.2 x.1 x.2 (decide (lt y x)) rfl)
          generalize decide (lt y x)=t at *
          obtain ⟨o1,o2⟩:=x
          obtain ⟨o3,o4⟩:=y
          obtain ⟨ad,rfl,p1,p2⟩:=hc1
          obtain ⟨bd,rfl,p3,p4⟩:=hc2
          simp only at p1 p2 p3 p4 cl
          go_still_tail 15,(by kernel_rfl)
          change wpList _ _ _ _ _ W0.drew
          go_wp2_with (go_at_call 202;refine Calls.mono (cl.out _) ?_;rintro e W1 ⟨rfl,hb⟩)
          go_meet
          case rel=>exact ⟨_,rfl,⟨Ze (Below.drew hW0.out) hb⟩,⟨Zc hb hq0.out⟩,hP⟩
     case rest =>
      obtain ⟨t,rfl,hW,hq1,hp⟩:=hcut
      obtain ⟨W1,hWc⟩:∃ W,wc=W:=⟨_,rfl⟩
      rw [hWc] at hW hq1 ⊢
      clear hWc hW0 hq0 hB0
      have hB1:=As.mk (hbel.out.trans (hW.out.mono hbel.out.size))
      go_upto_if 35 with fail
      go_cut [0,1] from 9 to 62 (fun v0 v1 wx=>∃ x1 x2,As (wx.heap[wr.heap.size]? = some (.cells #[.int .i64 x1,.int .i64 x2] 67 (0,0)))∧As (Keeps (fun k=>k=wr.heap.size) wr wx)∧As (∀ v4 w4,OwnPrs w4 w.heap.size v4 (Yl out (x1,x2))→Below w.heap.size w w4→JRel w a b n1 n2 gp v0 v1 v4 w4))
      case first =>
       cases t with
       | true =>
         obtain ⟨⟨x1,x2⟩,a2,rfl,hmin⟩:=hp.out.1 rfl
         have hJ2:=As.mk (hJ.out.takeA hmin)
         have hp1:0<m1:=by have:=hm1.out;simp at this;omega
         clear hmin hp
         have k0:W1.cell? ⟨wr.heap.size,0,none⟩=some (.int .i64 0):=Za hq1.out 0
         have k1:W1.cell? ⟨wr.heap.size,1,none⟩=some (.int .i64 0):=Za hq1.out 1
         have f0:W1.frozen? ⟨wr.heap.size,0,none⟩=false:=Zb hq1.out 0
         have f1:W1.frozen? ⟨wr.heap.size,1,none⟩=false:=Zb hq1.out 1
         obtain ⟨ad,rfl,a1,a2⟩:=Prs.head (Row.below hRA.out hB1.out)
         by_cases hcl:c'=1
         · subst hcl
           obtain rfl:m1=1:=by omega
           have ha0:=Ze7 hm1.out (Nat.le_refl _)
           have hfin:=As.mk (JRel.nextA (x:=(x1,x2)) (n1:=n1) (n2:=n2) (out:=out) (wr:=wr) hm1.out hm2.out hgk.out hmc hmd hc' hd' hout.out hJ2.out hRB.out (some ad) (.inl (by rw [ha0];rfl)))
           have hK2:Keeps (fun k=>k=wr.heap.size) wr ((W1.setCell ⟨wr.heap.size,0,none⟩ (.int .i64 x1)).setCell ⟨wr.heap.size,1,none⟩ (.int .i64 x2)).drew:=ZaS hW.out _ _
           have hq2:((W1.setCell ⟨wr.heap.size,0,none⟩ (.int .i64 x1)).setCell ⟨wr.heap.size,1,none⟩ (.int .i64 x2)).drew.heap[wr.heap.size]? = some (.cells #[.int .i64 x1,.int .i64 x2] 67 (0,0)):=by
            have:=Zi (Zi hq1.out 0 (.int .i64 x1)) 1 (.int .i64 x2)
            simp only [List.setIfInBounds_toArray,List.set_cons_zero,List.set_cons_succ] at this
            exact this
           go_wp2
           go_region
           all_goals
            go_wp2_with fail
            go_meet
            case rel=>exact ⟨x1,x2,⟨hq2⟩,⟨hK2⟩,hfin⟩
         · have hfin:=As.mk (JRel.nextA (x:=(x1,x2)) (n1:=n1) (n2:=n2) (out:=out) (wr:=wr) hm1.out hm2.out hgk.out hmc hmd hc' hd' hout.out hJ2.out hRB.out (some ⟨ad.block,ad.off+2,none⟩) (Prs.tail hRA.out))
           have hK2:Keeps (fun k=>k=wr.heap.size) wr ((W1.setCell ⟨wr.heap.size,0,none⟩ (.int .i64 x1)).setCell ⟨wr.heap.size,1,none⟩ (.int .i64 x2)).drew:=ZaS hW.out _ _
           have hq2:((W1.setCell ⟨wr.heap.size,0,none⟩ (.int .i64 x1)).setCell ⟨wr.heap.size,1,none⟩ (.int .i64 x2)).drew.heap[wr.heap.size]? = some (.cells #[.int .i64 x1,.int .i64 x2] 67 (0,0)):=by
            have:=Zi (Zi hq1.out 0 (.int .i64 x1)) 1 (.int .i64 x2)
            simp only [List.setIfInBounds_toArray,List.set_cons_zero,List.set_cons_succ] at this
            exact this
           go_wp2
           go_region
           all_goals
            go_wp2_with fail
            go_meet
            case rel=>exact ⟨x1,x2,⟨hq2⟩,⟨hK2⟩,hfin⟩
       | false =>
         obtain ⟨⟨x1,x2⟩,b2,rfl,hmin⟩:=hp.out.2 rfl
         have hJ2:=As.mk (hJ.out.takeB hmin)
         have hp1:0<m2:=by have:=hm2.out;simp at this;omega
         clear hmin hp
         have k0:W1.cell? ⟨wr.heap.size,0,none⟩=some (.int .i64 0):=Za hq1.out 0
         have k1:W1.cell? ⟨wr.heap.size,1,none⟩=some (.int .i64 0):=Za hq1.out 1
         have f0:W1.frozen? ⟨wr.heap.size,0,none⟩=false:=Zb hq1.out 0
         have f1:W1.frozen? ⟨wr.heap.size,1,none⟩=false:=Zb hq1.out 1
         obtain ⟨ad,rfl,a1,a2⟩:=Prs.head (Row.below hRB.out hB1.out)
         by_cases hcl:d'=1
         · subst hcl
           obtain rfl:m2=1:=by omega
           have ha0:=Ze7 hm2.out (Nat.le_refl _)
           have hfin:=As.mk (JRel.nextB (x:=(x1,x2)) (n1:=n1) (n2:=n2) (out:=out) (wr:=wr) hm1.out hm2.out hgk.out hmc hmd hc' hd' hout.out hJ2.out hRA.out (some ad) (.inl (by rw [ha0];rfl)))
           have hK2:Keeps (fun k=>k=wr.heap.size) wr ((W1.setCell ⟨wr.heap.size,0,none⟩ (.int .i64 x1)).setCell ⟨wr.heap.size,1,none⟩ (.int .i64 x2)).drew:=ZaS hW.out _ _
           have hq2:((W1.setCell ⟨wr.heap.size,0,none⟩ (.int .i64 x1)).setCell ⟨wr.heap.size,1,none⟩ (.int .i64 x2)).drew.heap[wr.heap.size]? = some (.cells #[.int .i64 x1,.int .i64 x2] 67 (0,0)):=by
            have:=Zi (Zi hq1.out 0 (.int .i64 x1)) 1 (.int .i64 x2)
            simp only [List.setIfInBounds_toArray,List.set_cons_zero,List.set_cons_succ] at this
            exact this
           go_wp2
           go_region
           all_goals
            go_wp2_with fail
            go_meet
            case rel=>exact ⟨x1,x2,⟨hq2⟩,⟨hK2⟩,hfin⟩
         · have hfin:=As.mk (JRel.nextB (x:=(x1,x2)) (n1:=n1) (n2:=n2) (out:=out) (wr:=wr) hm1.out hm2.out hgk.out hmc hmd hc' hd' hout.out hJ2.out hRA.out (some ⟨ad.block,ad.off+2,none⟩) (Prs.tail hRB.out))
           have hK2:Keeps (fun k=>k=wr.heap.size) wr ((W1.setCell ⟨wr.heap.size,0,none⟩ (.int .i64 x1)).setCell ⟨wr.heap.size,1,none⟩ (.int .i64 x2)).drew:=ZaS hW.out _ _
           have hq2:((W1.setCell ⟨wr.heap.size,0,none⟩ (.int .i64 x1)).setCell ⟨wr.heap.size,1,none⟩ (.int .i64 x2)).drew.heap[wr.heap.size]? = some (.cells #[.int .i64 x1,.int .i64 x2] 67 (0,0)):=by
            have:=Zi (Zi hq1.out 0 (.int .i64 x1)) 1 (.int .i64 x2)
            simp only [List.setIfInBounds_toArray,List.set_cons_zero,List.set_cons_succ] at this
            exact this
           go_wp2
           go_region
           all_goals
            go_wp2_with fail
            go_meet
            case rel=>exact ⟨x1,x2,⟨hq2⟩,⟨hK2⟩,hfin⟩
      case rest =>
       obtain ⟨x1,x2,hq2,hK2,hfin⟩:=hcut
       obtain ⟨W2,hWc2⟩:∃ W,wc=W:=⟨_,rfl⟩
       rw [hWc2] at hq2 hK2 ⊢
       clear hWc2
       have hown2:=As.mk (Zj hown.out hK2.out (fun q c _ hq _=>Nat.ne_of_lt (Zf hq)))
       have hB2:=As.mk (hbel.out.trans (hK2.out.below (B:=w.heap.size) (fun k hk hk2=>by have:=hbel.out.size;omega) hbel.out.size))
       have y0:W2.cell? ⟨wr.heap.size,0,none⟩=some (.int .i64 x1):=Za hq2.out 0
       have y1:W2.cell? ⟨wr.heap.size,1,none⟩=some (.int .i64 x2):=Za hq2.out 1
       have s2:=hB2.out.size
       clear hq2 hK2 hW hq1 hp
       rcases nil_or_snoc out with rfl | ⟨pre,z,rfl⟩
       · obtain ⟨Ao,co,rfl,hco⟩:=Zk hown2.out
         have hpu:=As.mk (Ze8 (out:=[]) (x:=(x1,x2)) (by simp))
         go_wp2
         go_region
         obtain ⟨W3,hW3⟩:∃ W,W2.drew=W:=⟨_,rfl⟩
         have hown3:=(show OwnPrs W2.drew w.heap.size _ _ from hown2.out)
         rw [hW3] at hown3
         replace hown3:=As.mk hown3
         have hB3:=As.mk (show Below w.heap.size w W3 by rw [← hW3];exact hB2.out.drew)
         have y0:W3.cell? ⟨wr.heap.size,0,none⟩=some (.int .i64 x1):=by rw [← hW3];exact y0
         have y1:W3.cell? ⟨wr.heap.size,1,none⟩=some (.int .i64 x2):=by rw [← hW3];exact y1
         have s3:=hB3.out.size
         rw [hW3]
         clear hW3
         go_wp2_with (at_builtin
                      refine ZA _ rfl (.tmp 59) (.tmp 61) 64 rfl w.heap.size 67 _ 2 16 Tryz.underlying64 Xl rfl (by decide) _ 0 (Zr []) rfl hown3.out [.int .i64 x1,.int .i64 x2] rfl (by simp [Value.oneCell']) _ rfl (by simp) (by omega) (by decide) s3 ?_
                      intro v4 w4 ho4 hk4 _ hb4)
         go_roundg gp
         case rel=>exact hfin.out _ _ (by rw [hpu.out];exact ho4) (hB3.out.trans hb4)
         case measure=>omega
       · have hpl:(pre++[z]).length=pre.length+1:=by simp
         obtain ⟨bo,co,rfl,hco,z1,z2,_⟩:=prLast hown2.out
         obtain ⟨z1',z2'⟩:=z
         obtain ⟨pl,hpl2⟩:∃ k,pre.length=k:=⟨_,rfl⟩
         rw [hpl2] at hpl hco z1 z2 ⊢
         have hob:=hout.out
         rw [hpl] at hob
         have hpl3:=As.mk hpl2
         have hpl4:=As.mk hpl
         clear hpl hpl2
         by_cases hzx:z1'=x1∧z2'=x2
         · obtain ⟨e1,e2⟩:=hzx
           subst e1
           subst e2
           have hpu:=As.mk (push_old (out:=pre++[(z1',z2')]) (x:=(z1',z2')) (by simp))
           have hne0:(((pl:Int)+1) == 0)=false:=by simp;omega
           go_wp2
           go_region
           go_wp2
           go_roundg gp
           case rel=>exact hfin.out _ _ (by rw [hpu.out,← hpl3.out];exact hown2.out) hB2.out.drew
           case measure=>omega
         · have hne0:(((pl:Int)+1) == 0)=false:=by simp;omega
           have e1:(!(z1' == x1) || !(z2' == x2))=true:=by
            simp only [Bool.or_eq_true,Bool.not_eq_true',beq_eq_false_iff_ne];omega
           have hpu:=As.mk (Ze8 (out:=pre++[(z1',z2')]) (x:=(x1,x2)) (by simp;omega))
           clear hzx
           go_wp2
           go_region
           obtain ⟨W3,hW3⟩:∃ W,W2.drew=W:=⟨_,rfl⟩
           have hown3:=(show OwnPrs W2.drew w.heap.size _ _ from hown2.out)
           rw [hW3] at hown3
           replace hown3:=As.mk hown3
           have hB3:=As.mk (show Below w.heap.size w W3 by rw [← hW3];exact hB2.out.drew)
           have y0:W3.cell? ⟨wr.heap.size,0,none⟩=some (.int .i64 x1):=by rw [← hW3];exact y0
           have y1:W3.cell? ⟨wr.heap.size,1,none⟩=some (.int .i64 x2):=by rw [← hW3];exact y1
           have s3:=hB3.out.size
           rw [hW3]
           clear hW3
           have hown4:W3.ownsRow w.heap.size 67 2 (.slice (some ⟨bo,0,none⟩) (pl+1) co) (pl+1) (Zr (pre++[(z1',z2')])):=by have:=hown3.out;unfold OwnPrs at this;rwa [hpl4.out,hpl3.out] at this
           replace hown4:=As.mk hown4
           go_wp2_with (at_builtin
                        refine ZA _ rfl (.tmp 59) (.tmp 61) 64 rfl w.heap.size 67 _ 2 16 Tryz.underlying64 Xl rfl (by decide) _ (pl+1) (Zr (pre++[(z1',z2')])) rfl hown4.out [.int .i64 x1,.int .i64 x2] rfl (by simp [Value.oneCell']) _ rfl (by simp) (by omega) (by decide) s3 ?_
                        intro v4 w4 ho4 hk4 _ hb4)
           go_roundg gp
           case rel=>exact hfin.out _ _ (by rw [hpu.out];unfold OwnPrs;rw [List.length_append,List.length_append,List.length_singleton,hpl3.out,Xa];exact ho4) (hB3.out.trans hb4)
           case measure=>omega
end Go.Proofs.YtfdlaomnecjfeaaGreatDoor
end
section
namespace Go.Proofs.YtfdlaomnecjfeaaGreatDoor
open Go.RowKit Seine.Sort
theorem Zd0 {b:List Pr}:∀ u∈Zr b,u.oneCell'=true:=fun u hu=>by
 obtain ⟨x,_,hx⟩:=List.mem_flatMap.1 hu
 rcases List.mem_cons.1 hx with rfl | hx
 · rfl
 · rw [List.mem_singleton] at hx;subst hx;rfl
set_option maxRecDepth 100000 in
set_option maxHeartbeats 400000 in
theorem Zaz (A:Option Addr) (c:Nat) (l:List Pr) (w:World) (h:Prs w A l) (hl:l.length≤1000000) :
    Calls Tryz.prog 200 #[.slice A l.length c] w (RetPrs w l):=by
 obtain ⟨n,hn⟩:∃ n,l.length=n:=⟨_,rfl⟩
 rw [hn] at hl ⊢
 replace hn:=As.mk hn
 have H:=As.mk h
 clear h
 cases A with
 | none =>
   have hl0:l=[]:=by
    rcases H.out with h | ⟨ad,e,_⟩
    · have:=congrArg List.length h;rw [Qq] at this;exact List.eq_nil_of_length_eq_zero (by rw [List.length_nil] at this;omega)
    · cases e
   subst hl0
   have hnil:∀ (w:World) (n c:Nat),(binOp .eql 64 (.slice none n c) (.slice none 0 0)).run Tryz.prog w=.ok (.bool true) w:=fun w n c=>Lib.run_eql_slice_nil w _ _ none n c 0 0 Tryz.underlying64
   go_enter Tryz.func200,Tryz.ntmps200
   go_wp2
   go_ret
   exact ⟨_,rfl,World.ownsRow_nil _ _ _ _,Below.refl _ _⟩
 | some ad =>
   have hown:As ((w.alloc (.cells #[] 67)).ownsRow w.heap.size 67 2 (.slice (some ⟨w.heap.size,0,none⟩) 0 0) 0 []):=⟨⟨rfl,.inr ⟨_,0,#[],rfl,Nat.le_refl _,heap_alloc_new w _,Nat.le_refl _,Nat.zero_le _,rfl,rfl⟩⟩⟩
   have hrow:=As.mk (Row.alloc H.out (.cells #[] 67))
   have hnl:As ((Zr l).length=n * 2):=⟨by rw [Qq,hn.out]⟩
   have hnil:∀ (w:World) (a:Addr) (n c:Nat),(binOp .eql 64 (.slice (some a) n c) (.slice none 0 0)).run Tryz.prog w=.ok (.bool false) w:=fun w a n c=>Lib.run_eql_slice_nil w _ _ (some a) n c 0 0 Tryz.underlying64
   go_enter Tryz.func200,Tryz.ntmps200
   go_wp2_with (at_builtin
                refine Zb7 _ rfl (.tmp 5) (.tmp 6) 64 rfl w.heap.size 67 _ 2 16 Tryz.underlying64 Xl rfl (by decide) _ 0 [] rfl hown.out (some ad) n c (Zr l) hrow.out hnl.out Zd0 rfl (by omega) (by decide) (by simp) ?_
                intro v' w' h2 h3)
   go_ret
   exact ⟨v',rfl,by unfold OwnPrs;rw [hn.out];simpa using h2,((Below.refl _ _).alloc (Nat.le_refl _) _).trans h3⟩
theorem Prs.take_ {w:World} {A:Option Addr} {l:List Pr} (h:Prs w A l) (m:Nat):Prs w A (l.take m):=by
 rcases h with h | ⟨ad,e,hlt,hc⟩
 · have h0:l=[]:=by have:=congrArg List.length h;rw [Qq] at this;exact List.eq_nil_of_length_eq_zero (by rw [List.length_nil] at this;omega)
   subst h0
   exact .inl (by simp [Zr])
 · refine .inr ⟨ad,e,hlt,fun j u hu=>hc j u ?_⟩
   have:Zr l=Zr (l.take m)++Zr (l.drop m):=by unfold Zr;rw [← List.flatMap_append,List.take_append_drop]
   rw [this,List.getElem?_append_left (List.getElem?_eq_some_iff.1 hu).1];exact hu
theorem Prs.drop_ {w:World} {ad:Addr} {l:List Pr} (h:Prs w (some ad) l) (m:Nat) (hm:m≤l.length):Prs w (some (ad.add (m * 2))) (l.drop m):=by
 rcases h with h | ⟨ad',e,hlt,hc⟩
 · have h0:l=[]:=by have:=congrArg List.length h;rw [Qq] at this;exact List.eq_nil_of_length_eq_zero (by rw [List.length_nil] at this;omega)
   subst h0
   exact .inl (by simp [Zr])
 · injection e with e
   subst e
   refine .inr ⟨_,rfl,by rw [Addr.block_add];exact hlt,fun j u hu=>?_⟩
   rw [Addr.add_add']
   refine hc _ u ?_
   have:Zr l=Zr (l.take m)++Zr (l.drop m):=by unfold Zr;rw [← List.flatMap_append,List.take_append_drop]
   rw [this,List.getElem?_append_right (by rw [Qq,List.length_take];omega),Qq,List.length_take,Nat.min_eq_left hm,Nat.add_sub_cancel_left];exact hu
theorem RetPrs.out {w w':World} {xs:List Pr} {e:Ending} (h:RetPrs w xs e w'):∃ v,e=.returned v∧OwnPrs w' w.heap.size v xs∧Below w.heap.size w w':=h
theorem RetPrs.row2 {w w':World} {xs:List Pr} {e:Ending} (h:RetPrs w xs e w'):∃ A c,e=.returned (.slice A xs.length c)∧xs.length≤c∧c≤maxLen∧Prs w' A xs∧Below w.heap.size w w':=by
 obtain ⟨v,rfl,ho,hb⟩:=h
 obtain ⟨A,c,rfl,hc,hr⟩:=OwnPrs.row ho
 refine ⟨A,c,rfl,hc,?_,hr,hb⟩
 rcases ho.2 with ⟨hv,_⟩ | ⟨g,cap,cur,hv,_,_,_,hcm,_⟩
 · injection hv with _ _ h;omega
 · injection hv with _ _ h;omega
set_option maxRecDepth 100000 in
set_option maxHeartbeats 1600000 in
theorem YB (k:Nat):∀ (A:Option Addr) (c:Nat) (l:List Pr) (w:World),l.length≤k→Prs w A l→l.length≤c→c≤maxLen→l.length≤1000000 →
    Calls Tryz.prog 147 #[.slice A l.length c] w (RetPrs w (sortP l)):=by
 induction k with
 | zero =>
   intro A c l w hk h hc hcm hl
   obtain rfl:l=[]:=List.eq_nil_of_length_eq_zero (by omega)
   have cc:=As.mk (Zaz A c [] w h (by simp))
   rw [List.length_nil] at cc ⊢
   clear h
   go_enter Tryz.func147,Tryz.ntmps147
   go_wp2_with (go_at_call 200;refine Calls.mono cc.out ?_;rintro e w1 ⟨v,rfl,ho,hb⟩)
   go_ret
   exact ⟨v,rfl,ho,hb⟩
 | succ k ih =>
   intro A c l w hk h hc hcm hl
   unfold maxLen at hcm
   by_cases h2:l.length<2
   · have hs:=As.mk (sortP_short h2)
     have cc:=As.mk (Zaz A c l w h hl)
     obtain ⟨n,hn⟩:∃ n,l.length=n:=⟨_,rfl⟩
     rw [hn] at h2 cc ⊢
     rw [hs.out]
     clear h hn
     go_enter Tryz.func147,Tryz.ntmps147
     go_wp2_with (go_at_call 200;refine Calls.mono cc.out ?_;rintro e w1 ⟨v,rfl,ho,hb⟩)
     go_ret
     exact ⟨v,rfl,ho,hb⟩
   · obtain ⟨ad,rfl,_,_⟩:=Prs.at_ h (i:=0) (by omega)
     have HX:=As.mk h
     obtain ⟨n,hn⟩:∃ n,l.length=n:=⟨_,rfl⟩
     obtain ⟨m,hm⟩:∃ m,n / 2=m:=⟨_,rfl⟩
     have ct:=As.mk (fun v (hv:Below w.heap.size w v)=>(by have:=ih (some ad) c (l.take m) v (by rw [List.length_take];omega) ((Prs.take_ HX.out m).below hv) (by rw [List.length_take];omega) (by unfold maxLen;omega) (by rw [List.length_take];omega);rw [List.length_take,Nat.min_eq_left (by omega)] at this;exact this:Calls Tryz.prog 147 #[.slice (some ad) m c] v (RetPrs v (sortP (l.take m)))))
     have cd:=As.mk (fun v (hv:Below w.heap.size w v)=>(by have:=ih (some (ad.add (m * 2))) (c - m) (l.drop m) v (by rw [List.length_drop];omega) ((Prs.drop_ HX.out m (by omega)).below hv) (by rw [List.length_drop];omega) (by unfold maxLen;omega) (by rw [List.length_drop];omega);rw [List.length_drop,hn] at this;exact this:Calls Tryz.prog 147 #[.slice (some (ad.add (m * 2))) (n - m) (c - m)] v (RetPrs v (sortP (l.drop m)))))
     have hlt:=As.mk (show (sortP (l.take m)).length≤1000000 by have:=sortP_len (l.take m);rw [List.length_take] at this;omega)
     have hld:=As.mk (show (sortP (l.drop m)).length≤1000000 by have:=sortP_len (l.drop m);rw [List.length_drop] at this;omega)
     have hrt:=As.mk (rise_sortP (l.take m))
     have hrd:=As.mk (rise_sortP (l.drop m))
     rw [← sortP_split l m]
     rw [hn] at hk hc hl h2 ⊢
     replace hn:=As.mk hn
     generalize sortP (l.take m)=S1 at *
     generalize sortP (l.drop m)=S2 at *
     have hm1:m<n:=by omega
     have hm2:1≤m:=by omega
     have hmc:¬ c=m:=by omega
     have hmc1:m≤c:=by omega
     have hmn:m≤n:=by omega
     have hq:(n:Int) / 2=(m:Int):=by omega
     replace hm:=As.mk hm
     clear h ih
     go_enter Tryz.func147,Tryz.ntmps147
     go_wp2_with fail
     go_region_with (first
      | (go_at_call 147;with_reducible refine Calls.mono (ct.out _ ?hb) ?_;(case hb=>(repeat (first | (with_reducible assumption) | (with_reducible exact Below.refl _ _) | (with_reducible refine Below.drew ?_) | (with_reducible refine ZF ?_ _) | (with_reducible refine Below.alloc ?_ (by (first | omega | (simp only [World.size_alloc,World.size_drew];done) | (simp only [World.size_alloc,World.size_drew];omega))) _) | (refine Below.trans ?_ (Below.mono (by with_reducible assumption) (by (first | omega | (simp only [World.size_alloc,World.size_drew];done) | (simp only [World.size_alloc,World.size_drew];omega))))))));intro e w1 h1;obtain ⟨A1,c1,he,hc1,hm1',hr1,hb1⟩:=h1.row2;subst he;clear h1)
      | (go_at_call 147;with_reducible refine Calls.mono (cd.out _ ?hb) ?_;(case hb=>(repeat (first | (with_reducible assumption) | (with_reducible exact Below.refl _ _) | (with_reducible refine Below.drew ?_) | (with_reducible refine ZF ?_ _) | (with_reducible refine Below.alloc ?_ (by (first | omega | (simp only [World.size_alloc,World.size_drew];done) | (simp only [World.size_alloc,World.size_drew];omega))) _) | (refine Below.trans ?_ (Below.mono (by with_reducible assumption) (by (first | omega | (simp only [World.size_alloc,World.size_drew];done) | (simp only [World.size_alloc,World.size_drew];omega))))))));intro e w2 h2;obtain ⟨A2,c2,he,hc2,hm2',hr2,hb2⟩:=h2.row2;subst he;clear h2)
      | (go_at_call 201;with_reducible refine Calls.mono (Zbs A1 c1 S1 A2 c2 S2 _ ?p1 ?p2 hc1 hc2 hm1' hm2' hrt.out hrd.out ?p3) ?_;(case p1=>first | exact hr1 | exact Row.below hr1 hb2);(case p2=>first | exact hr2 | exact Row.below hr2 hb1);(case p3=>have:=hlt.out;have:=hld.out;omega);intro e w3 h3;obtain ⟨v3,he,ho3,hb3⟩:=h3.out;subst he))
     all_goals
      go_wp2_with fail
      go_ret
      have e1:=hb1.size
      have e2:=hb2.size
      simp only [World.size_drew] at e1 e2
      refine ⟨v3,rfl,ZB ho3 (by omega),?_⟩
      (repeat (first | (with_reducible assumption) | (with_reducible exact Below.refl _ _) | (with_reducible refine Below.drew ?_) | (with_reducible refine ZF ?_ _) | (with_reducible refine Below.alloc ?_ (by (first | omega | (simp only [World.size_alloc,World.size_drew];done) | (simp only [World.size_alloc,World.size_drew];omega))) _) | (refine Below.trans ?_ (Below.mono (by with_reducible assumption) (by (first | omega | (simp only [World.size_alloc,World.size_drew];done) | (simp only [World.size_alloc,World.size_drew];omega)))))))
end Go.Proofs.YtfdlaomnecjfeaaGreatDoor
end
