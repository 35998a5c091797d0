/- Joined texts: RunA, RunB, FgSum, RunC, RunD, FgRuns, FgRuns2. -/
import Derived.Test.YtfdlaomnecjfeaaGreatDoorM15
import Derived.Test.YtfdlaomnecjfeaaGreatDoorM14
import Derived.Test.YtfdlaomnecjfeaaGreatDoorM12
set_option linter.unusedVariables false
set_option linter.unusedSimpArgs false
section
namespace Go.Proofs.YtfdlaomnecjfeaaGreatDoor
open Go.RowKit Go.Shelf Seine.Trie Seine.Fg Seine.Eng
/-- append of a slice's elements, or of none, as a step of a region that draws. -/
theorem step_appR {P:Program} {ops:Array Oper} {o:Oper} {a:Act} {w:World} {K:Act→World→Prop} {Q:Exit→Act→World→Prop} {E:Prop} (hg:o.guard=none) (s x:Operand) (t:TypeId)
    (hop:o.op=Op.call { callee:=Callee.builtin Builtin.append,args:=#[s,x],argTypes:=#[t,t] })
    (base:Nat) (e:TypeId) (z:Value) (bytes:Nat) (ht:P.underlying t=some (.slice e)) (hi:(P.info? e).map (fun i=>(i.zero,i.size,i.bytes))=some (some z,1,bytes)) (hzs:z.cells.size=1)
    (v:Value) (n:Nat) (xs:List Value) (hs:a.eval s=v) (hown:w.ownsRow base e 1 v n xs)
    (A:Option Addr) (m c:Nat) (news:List Value) (hx:a.eval x=.slice A m c) (hn:news.length=m) (hrow:Row w A news) (h1c:∀ u∈news,u.oneCell'=true)
    (hlen:n+m≤1000000000000) (hby:bytes≤100) (hbase:base≤w.heap.size)
    (h:∀ v' w',w'.ownsRow base e 1 v' (n+m) (xs++news)→Keeps (fun k=>some k=v.ownBlock) w w'→Below base w w'→(v'.ownBlock=v.ownBlock∨∃ k,v'.ownBlock=some k∧w.heap.size≤k)→K (a.put o.dst v') w') :
    if Region.wanted o (yielded ops a.tmps)=true then Oper.wp P o a w K Q else E:=by
 rcases hrow with rfl | ⟨ad,rfl,hlt,hc⟩
 · have hw:Region.wanted o (yielded ops a.tmps)=true:=by simp [Region.wanted,hg]
   rw [if_pos hw]
   obtain rfl:m=0:=by simpa using hn.symm
   obtain ⟨i,hi,hz,hsize,hbytes⟩:=info_parts hi
   obtain ⟨A0,c0,rfl,hc0⟩:=Zk hown
   have hr:(Builtin.append_ #[t,t] o.type #[.slice A0 n c0,.slice A 0 c]).run P w=.ok (.slice A0 n c0) w:=by
    have hfc:(Builtin.firstCells i.size 0 (.slice A 0 c)).run P w=.ok #[] w:=by
     cases A with
     | none=>rfl
     | some b=>exact run_firstCells_some (P:=P) w i.size 0 b 0 c [] (by simp) (by simp)
    cases A0 <;> simp [Builtin.append_,run_underlying ht,sizeOf,typeInfo,hi,Builtin.lenOf,hc0,hfc,storeCells]
   unfold Oper.wp execOp
   simp only [hop,resolve,invoke,builtin,Sem.run_bind,Sem.run_pure,Result.andThen_ok,List.map_toArray,List.map_cons,List.map_nil,hs,hx,hr]
   exact h _ _ (by simpa using hown) (Keeps.refl _ _) (Below.refl _ _) (.inl rfl)
 · exact ZeH hg s x t hop base e z 1 bytes ht hi hzs (by decide) v n xs hs hown ad m c news hx (by omega) hc h1c hlen hby hbase h
theorem look_le (tag:Int) (l:List Txt) (L:Txt):YZ tag l L≤L.length∧QS tag l L≤2 * L.length:=by
 have hc:=Seine.Sparse.looksTo_cost (ZC (ZH l)) L L.length (Nat.le_refl _)
 unfold YZ QS
 constructor
 · split <;> omega
 · split
   · omega
   · split <;> omega
theorem ZbS (o:Opt) (off:Nat) (ho:off≤1000000) (t:Txt) (ht:t.length≤400) (may:List Pr) (hm:Ins t.length may):(Yg o (off:Int) t may).length≤600000:=by
 unfold Yg
 split
 · simp
 · split
   · have h1:=Y9 (off:Int) t o.b (Seine.Pick.longest may XU)
     have h2:=ZbQ hm
     have h3:(Seine.Pick.longest may XU).length * (t.length+23)≤401 * 423:=Nat.mul_le_mul (by omega) (by omega)
     omega
   · unfold Yi
     have:=Yu (ZbR ho) o.b
     rw [List.length_append,List.length_append]
     simp;omega
/-- Small enough for so many lines more. -/
structure AcOk (a:Ac) (k:Nat):Prop where
 out:a.out.length+k * 600000≤10000000000
 n:a.n+k≤10000000
 s:a.s+k * 1000≤10000000000
 k:a.k+k * 1000≤10000000000
theorem ZfF (o:Opt) (l:List Txt) (t:Txt):Ins t.length (JP o l t):=by
 have:=Zfo l (QZ o t)
 rw [Xu] at this
 exact ins_filter this
set_option maxRecDepth 100000 in
theorem AcOk.line {o:Opt} {tag:Int} {l:List Txt} {a:Ac} {k:Nat} {x:Ln} (h:AcOk a (k+1)) (hx:x.text.length≤400) (ho:x.off≤1000000):AcOk (QT o tag l a x) k:=by
 obtain ⟨h1,h2,h3,h4⟩:=h
 have hp:=ZbS o x.off ho x.text hx (JP o l x.text) (ZfF o l x.text)
 have hk:=look_le tag l (QZ o x.text)
 rw [Xu] at hk
 refine ⟨?_,?_,?_,?_⟩
 · unfold QT
   simp only [List.length_append]
   rw [Nat.succ_mul] at h1
   generalize k * 600000=K at h1 ⊢
   have h5:(if YT o l x.text=true then Yg o (x.off:Int) x.text (JP o l x.text) else []).length≤600000:=by
    by_cases hs:YT o l x.text=true
    · rw [if_pos hs];exact hp
    · rw [if_neg hs,List.length_nil];exact Nat.zero_le _
   omega
 · unfold QT
   simp only
   split <;> omega
 · unfold QT;simp only;omega
 · unfold QT;simp only;omega
/-- A run that is under way: what was printed and counted. -/
structure RunAt (w0 W:World) (rb ob mb eg:Nat) (o:Opt) (tag:Int) (l:List Txt) (v:Value) (a:Ac) (h m:Int):Prop where
 run:W.heap[rb]? = some (.cells (Zc7 o eg (ZbP o ob) mb v a.n) 124 (0,0))
 box:W.heap[ob]? = some (.cells (Q0 o) 24 (0,0))
 mt:MtAt W mb ⟨(a.s:Int),(a.k:Int),h,m⟩
 rbl:w0.heap.size≤rb
 obl:w0.heap.size≤ob
 mbl:w0.heap.size≤mb
 bel:Below w0.heap.size w0 W
 eng:EngAt w0 eg tag l
 tab:Tab w0
 out:OwnByt W w0.heap.size v a.out
variable {w0 W W':World} {rb ob mb eg:Nat} {o:Opt} {tag:Int} {l:List Txt} {v:Value} {a:Ac} {h m:Int}
theorem RunAt.engs (r:RunAt w0 W rb ob mb eg o tag l v a h m):EngAt W eg tag l:=r.eng.below r.bel
theorem RunAt.tabs (r:RunAt w0 W rb ob mb eg o tag l v a h m):Tab W:=r.tab.below r.bel
/-- What turns none of the run's blocks leaves it. -/
theorem RunAt.keep {S:Nat→Prop} (r:RunAt w0 W rb ob mb eg o tag l v a h m) (hk:Keeps S W W') (h1:¬ S rb) (h2:¬ S ob) (h3:¬ S mb) (h4:∀ k,some k=v.ownBlock→¬ S k) (h5:∀ k,S k→w0.heap.size≤k):RunAt w0 W' rb ob mb eg o tag l v a h m where
 run:=Zd r.run hk h1
 box:=Zd r.box hk h2
 mt:=Zd r.mt hk h3
 rbl:=r.rbl
 obl:=r.obl
 mbl:=r.mbl
 bel:=r.bel.trans (hk.below (fun k hk hS=>by have:=h5 k hS;omega) r.bel.size)
 eng:=r.eng
 tab:=r.tab
 out:=Zj r.out hk (fun b _ _ _ e=>h4 b e)
theorem RunAt.below (r:RunAt w0 W rb ob mb eg o tag l v a h m) (hb:Below W.heap.size W W'):RunAt w0 W' rb ob mb eg o tag l v a h m :=
 r.keep (Keeps.of_below hb (fun _=>False)) id id id (fun _ _=>id) (fun _ h=>h.elim)
/-- The meter counted. -/
theorem RunAt.scan {s k:Nat} (r:RunAt w0 W rb ob mb eg o tag l v a h m) (hk:Keeps (Zu (some mb)) W W') (hm:MtAt W' mb ⟨((a.s+s:Nat):Int),((a.k+k:Nat):Int),h,m⟩):RunAt w0 W' rb ob mb eg o tag l v { a with s:=a.s+s,k:=a.k+k } h m where
 run:=Zd r.run hk (fun e=>by unfold Zu at e;injection e with e;exact Zp r.run r.mt (by decide) e.symm)
 box:=Zd r.box hk (fun e=>by unfold Zu at e;injection e with e;exact Zp r.box r.mt (by decide) e.symm)
 mt:=hm
 rbl:=r.rbl
 obl:=r.obl
 mbl:=r.mbl
 bel:=r.bel.trans (hk.below (fun k hk hS=>by unfold Zu at hS;injection hS with hS;have:=r.mbl;omega) r.bel.size)
 eng:=r.eng
 tab:=r.tab
 out:=Zj r.out hk (fun b c _ hb e hS=>by unfold Zu at hS;injection hS with hS;exact Zp hb r.mt (by decide) hS.symm)
theorem runC_n (o:Opt) (eg:Nat) (pv:Value) (mb:Nat) (v:Value) (n k:Nat):(Zc7 o eg pv mb v n).setIfInBounds 11 (.int .i64 (k:Int))=Zc7 o eg pv mb v k:=rfl
theorem runC_out (o:Opt) (eg:Nat) (pv:Value) (mb:Nat) (v u:Value) (n:Nat):(Zc7 o eg pv mb v n).setIfInBounds 10 u=Zc7 o eg pv mb u n:=rfl
/-- One line more was selected. -/
theorem RunAt.more (r:RunAt w0 W rb ob mb eg o tag l v a h m) (k:Nat):RunAt w0 (W.setCell ⟨rb,11,none⟩ (.int .i64 (k:Int))) rb ob mb eg o tag l v { a with n:=k } h m:=by
 have hk:=Zm W ⟨rb,11,none⟩ (.int .i64 (k:Int))
 have q:=Zi r.run 11 (.int .i64 (k:Int))
 rw [runC_n] at q
 exact { run:=q,box:=Zd r.box hk (fun e=>Zp r.box r.run (by decide) e),mt:=Zd r.mt hk (fun e=>Zp r.mt r.run (by decide) e),rbl:=r.rbl,obl:=r.obl,mbl:=r.mbl,
         bel:=r.bel.trans (hk.below (fun k hk hS=>by have:=r.rbl;have e:k=rb:=hS;omega) r.bel.size),eng:=r.eng,tab:=r.tab,
         out:=Zj r.out hk (fun b c _ hb e hS=>Zp hb r.run (by decide) hS) }
/-- More was printed. -/
theorem RunAt.put {W1 W2:World} {u:Value} {x:Txt} (r:RunAt w0 W rb ob mb eg o tag l v a h m) (hb:Below W.heap.size W W1) (hk:Keeps (fun k=>some k=v.ownBlock) W1 W2) (ho:OwnByt W2 w0.heap.size u (a.out++x)):RunAt w0 (W2.setCell ⟨rb,10,none⟩ u) rb ob mb eg o tag l u { a with out:=a.out++x } h m:=by
 have r1:=r.below hb
 have hv:∀ {b t:Nat} {c:Array Value} {fr:Nat × Nat},W1.heap[b]? = some (.cells c t fr)→5≠t→¬ some b=v.ownBlock:=fun hb ht e=>Zy r1.out hb ht e
 have k2:=Zm W2 ⟨rb,10,none⟩ u
 have run2:=Zd r1.run hk (hv r1.run (by decide))
 have q:=Zi run2 10 u
 rw [runC_out] at q
 have b1:Below w0.heap.size w0 W2:=r1.bel.trans (hk.below (fun k hk hS=>by have:=(ZM r1.out hS).1;omega) r1.bel.size)
 exact { run:=q,box:=Zd (Zd r1.box hk (hv r1.box (by decide))) k2 (fun e=>Zp r1.box r1.run (by decide) e),mt:=Zd (Zd r1.mt hk (hv r1.mt (by decide))) k2 (fun e=>Zp r1.mt r1.run (by decide) e),rbl:=r.rbl,obl:=r.obl,mbl:=r.mbl,
         bel:=b1.trans (k2.below (fun k hk hS=>by have:=r.rbl;have e:k=rb:=hS;omega) b1.size),eng:=r.eng,tab:=r.tab,
         out:=Zj ho k2 (fun b c _ hb e hS=>Zp hb run2 (by decide) hS) }
end Go.Proofs.YtfdlaomnecjfeaaGreatDoor
end
section
namespace Go.Proofs.YtfdlaomnecjfeaaGreatDoor
open Go.RowKit Go.Shelf Seine.Trie Seine.Fg Seine.Eng
theorem OwnLns.keep3 {S:Nat→Prop} {base:Nat} {w w':World} {v x:Value} {ls:List Ln} (h:OwnLns base w v x ls) (hk:Keeps S w w') (hS:∀ b,base≤b→¬ S b):OwnLns base w' v x ls:=by
 obtain ⟨vs,h1,h2,h3⟩:=h
 refine ⟨vs,h1,Zj h2 hk (fun b c hb _ _=>hS b hb),fun i hi=>?_⟩
 obtain ⟨u,a,b,c⟩:=h3 i hi
 exact ⟨u,a,Zj b hk (fun q d hq _ _=>hS q hq),c⟩
/-- The blocks that a run turns. -/
def JR (rb mb:Nat) (v:Value) (k:Nat):Prop:=k=rb∨k=mb∨some k=v.ownBlock
theorem ZfG {ls:List Ln} {k:Nat} (h:k<ls.length):ls.getD k lnD=ls[k]:=by rw [List.getD_eq_getElem?_getD,List.getElem?_eq_getElem h];rfl
theorem AcOk.take {o:Opt} {tag:Int} {l:List Txt} {a:Ac} {ls:List Ln} (h:AcOk a ls.length) (hx:∀ y∈ls,y.text.length≤400∧y.off≤1000000):∀ k,k≤ls.length→AcOk (Zs o tag l a (ls.take k)) (ls.length - k)
 | 0,_=>by simpa [Zs] using h
 | k+1,hk=>by
   have h1:=AcOk.take (o:=o) (tag:=tag) (l:=l) h hx k (by omega)
   have e:ls.length - k=(ls.length - (k+1))+1:=by omega
   rw [e] at h1
   have hm:ls[k]∈ls:=List.getElem_mem _
   rw [ZcC o tag l a (by omega:k<ls.length)]
   exact h1.line (hx _ hm).1 (hx _ hm).2
theorem print_any (w:World) (ob:Nat) (o:Opt) (hob:w.heap[ob]? = some (.cells (Q0 o) 24 (0,0))) (x:Ln) (A:Option Addr) (c:Nat) (hx:Byt w A x.text) (hxc:x.text.length≤c) (hl:x.text.length≤400) (ho:x.off≤1000000)
    (B:Option Addr) (d:Nat) (may:List Pr) (hm:Prs w B may) (hml:may.length≤1000000) (hin:Ins x.text.length may) (ht:Tab w) :
    ∃ F cap,ZbP o ob=.func (.func F) #[] cap∧(∀ args v,(callFunc F args).run Tryz.prog v=.ok (.enter F args) v)∧Calls Tryz.prog F (#[lnV x A c,.slice B may.length d]++cap) w.drew (RetByt w.drew (Yg o (x.off:Int) x.text may)):=by
 unfold ZbP Yg
 by_cases hc:o.c=true
 · rw [if_pos hc,if_pos hc]
   exact ⟨_,_,rfl,fun _ _=>by kernel_rfl,pr1_calls w.drew _ _ ⟨_,rfl⟩⟩
 · rw [if_neg hc,if_neg hc]
   by_cases ho2:o.o=true
   · rw [if_pos ho2,if_pos ho2]
     exact ⟨_,_,rfl,fun _ _=>by kernel_rfl,pr2_calls w.drew ob o hob x A c hx hxc hl ho B d may hm hml hin ht⟩
   · rw [if_neg ho2,if_neg ho2]
     exact ⟨_,_,rfl,fun _ _=>by kernel_rfl,pr3_calls w.drew ob o hob x A c hx (by omega) ho _ ht⟩
theorem lineA_eq {o:Opt} {tag:Int} {l:List Txt} {a:Ac} {y:Ln} (hs:YT o l y.text=true):QT o tag l a y=⟨a.out++Yg o (y.off:Int) y.text (JP o l y.text),a.n+1,a.s+YZ tag l (QZ o y.text),a.k+QS tag l (QZ o y.text)⟩:=by
 unfold QT;rw [if_pos hs,if_pos hs]
theorem lineA_no {o:Opt} {tag:Int} {l:List Txt} {a:Ac} {y:Ln} (hs:YT o l y.text=false):QT o tag l a y={ a with s:=a.s+YZ tag l (QZ o y.text),k:=a.k+QS tag l (QZ o y.text) }:=by
 unfold QT;rw [if_neg (by simp [hs]),if_neg (by simp [hs])];simp
theorem ZeO {rb mb:Nat} {v u:Value} {w wr w2:World} (hk:Keeps (JR rb mb v) w wr) (hf:u.ownBlock=v.ownBlock∨∃ k,u.ownBlock=some k∧w.heap.size≤k) (h2:Keeps (JR rb mb u) wr w2):Keeps (JR rb mb v) w w2 :=
 hk.restrict h2 (fun b hb h=>by
  rcases h with h | h | h
  · exact .inl h
  · exact .inr (.inl h)
  · rcases hf with e | ⟨q,e,hq⟩
    · exact .inr (.inr (by rw [h,e]))
    · rw [e] at h;injection h with h;omega)
theorem scanM_more (a s:Nat) (b k:Nat) (h m:Int):Cn.more ⟨(a:Int),(b:Int),h,m⟩ s k=⟨((a+s:Nat):Int),((b+k:Nat):Int),h,m⟩:=by unfold Cn.more;simp
set_option maxRecDepth 100000 in
set_option maxHeartbeats 6400000 in
theorem ZcM (w0 w:World) (rb ob mb eg:Nat) (o:Opt) (tag:Int) (l:List Txt) (v:Value) (a:Ac) (h m:Int) (r:RunAt w0 w rb ob mb eg o tag l v a h m)
    (ht:tot l≤60000) (hs:∀ t∈l,t.length≤1100) (hll:l.length≤1000000) (hh0:0≤h) (hh1:h≤100000000) (hm0:0≤m) (hm1:m≤100000000)
    (B:Nat) (vl x:Value) (ls:List Ln) (hL:OwnLns B w vl x ls) (hB1:rb<B) (hB2:mb<B) (hB3:∀ k,some k=v.ownBlock→k<B) (hlen:ls.length≤10000) (htx:∀ y∈ls,y.text.length≤400∧y.off≤1000000) (hac:AcOk a ls.length) :
    Calls Tryz.prog 68 #[.pointer (some ⟨rb,0,none⟩),vl] w fun e w'=>e=.returned (.tuple #[])∧∃ v',RunAt w0 w' rb ob mb eg o tag l v' (Zs o tag l a ls) h m∧Keeps (JR rb mb v) w w'∧(v'.ownBlock=v.ownBlock∨∃ k,v'.ownBlock=some k∧w.heap.size≤k):=by
 have hAc:=As.mk (fun k hk=>AcOk.take (o:=o) (tag:=tag) (l:=l) hac htx k hk)
 have hLk:=As.mk (fun (wr:World) (hk:Keeps (JR rb mb v) w wr)=>(hL.keep3 hk (fun b hb h=>by
  rcases h with h | h | h
  · omega
  · omega
  · have:=hB3 b h;omega)).lns)
 have hstep:=As.mk (fun k (hk:k<ls.length)=>(by rw [ZcC o tag l a hk,ZfG hk]:Zs o tag l a (ls.take (k+1))=QT o tag l (Zs o tag l a (ls.take k)) (ls.getD k lnD)))
 have hmem:=As.mk (fun k (hk:k<ls.length)=>(by rw [ZfG hk];exact htx _ (List.getElem_mem _):(ls.getD k lnD).text.length≤400∧(ls.getD k lnD).off≤1000000))
 have hall:=As.mk (List.take_length (l:=ls))
 have cFd:=As.mk (fun (v:World) (hv:EngAt v eg tag l) (cn:Cn) (hm:Mo v (some mb) cn) (hok:cn.room) (A:Option Addr) (c:Nat) (L:Txt) (hx:Byt v A L) (hl:L.length≤900)=>efindT_calls v eg tag l hv ht hs hll (some mb) cn hm hok A c L hx hl)
 obtain ⟨Al,cl,rfl,hcl,hL0⟩:=hL.lns
 obtain ⟨n,hn⟩:∃ n,ls.length=n:=⟨_,rfl⟩
 rw [hn] at hAc hLk hstep hmem hall hcl hlen ⊢
 have hnA:=As.mk hn
 have hr:=As.mk r
 clear hac hL hB1 hB2 hB3 htx ht hs hll hL0 hn r
 go_enter Tryz.func68,Tryz.ntmps68
 go_wp2
 go_loopg [10] (n+1) (fun gk i wr=>∃ (k:Nat) (u:Value),As (n+1≤gk+k)∧k≤n∧i=.int .i64 k∧As (RunAt w0 wr rb ob mb eg o tag l u (Zs o tag l a (ls.take k)) h m)∧As (Keeps (JR rb mb v) w wr)∧As (u.ownBlock=v.ownBlock∨∃ k,u.ownBlock=some k∧w.heap.size≤k))
 case atStart=>exact ⟨0,v,⟨by omega⟩,Nat.zero_le _,rfl,⟨by simpa [Zs] using hr.out⟩,⟨Keeps.refl _ _⟩,⟨.inl rfl⟩⟩
 case round =>
  obtain ⟨k,u,hgk,hk,rfl,hR,hKp,hfr⟩:=hrel
  by_cases hlt:k<n
  · obtain ⟨gp,rfl⟩:∃ gp,gk=gp+1:=⟨gk - 1,by have:=hgk.out;omega⟩
    obtain ⟨Al',cl',hAl,hcl',hLr⟩:=hLk.out wr hKp.out
    injection hAl with hAl1 hAl2 hAl3
    subst hAl1 hAl3
    obtain ⟨ad,A',c',rfl,q0,q1,q2,hc',hby⟩:=hLr.at_ (i:=k) (by rw [hnA.out];exact hlt)
    have hst:=As.mk (hstep.out k hlt)
    have hme:=hmem.out k hlt
    have hao:=hAc.out k (by omega)
    obtain ⟨y,hy⟩:∃ y,ls.getD k lnD=y:=⟨_,rfl⟩
    rw [hy] at hst hme q0 q1 q2 hc' hby
    obtain ⟨b,hb⟩:∃ b,Zs o tag l a (ls.take k)=b:=⟨_,rfl⟩
    rw [hb] at hst hao hR
    obtain ⟨hme1,hme2⟩:=hme
    replace hao:=As.mk hao
    have hyl:=As.mk hme1
    obtain ⟨t,htt⟩:∃ t,y.text.length=t:=⟨_,rfl⟩
    rw [htt] at hme1 q2 hc'
    have htA:=As.mk htt
    have z0:wr.cell? ⟨rb,0,none⟩=some (.bool o.i):=Za hR.out.run 0
    have hbox:=heap_alloc_new wr (.cells #[.int .i64 (y.num:Int),.int .i64 (y.off:Int),.slice A' t c'] 206)
    have hB1:Below wr.heap.size wr (wr.alloc (.cells #[.int .i64 (y.num:Int),.int .i64 (y.off:Int),.slice A' t c'] 206)):=(Below.refl _ _).alloc (Nat.le_refl _) _
    have z1:(wr.alloc (.cells #[.int .i64 (y.num:Int),.int .i64 (y.off:Int),.slice A' t c'] 206)).cell? ⟨rb,0,none⟩=some (.bool o.i):=Za (Zn hR.out.run) 0
    obtain ⟨W1,hW1⟩:∃ W,wr.alloc (.cells #[.int .i64 (y.num:Int),.int .i64 (y.off:Int),.slice A' t c'] 206)=W:=⟨_,rfl⟩
    have hby1:Byt W1 A' y.text:=by rw [← hW1];exact Row.below hby hB1
    have cLow:=As.mk (ZbJ W1 A' c' y.text hby1 (by omega))
    rw [htt] at cLow
    have hW1':=As.mk hW1
    have hbA:=As.mk hB1
    have hbxA:=As.mk hbox
    have hwrp:IntKind.i64.wrap ((k:Int)+1)=(k:Int)+1:=by rw [IntKind.wrap_i64];omega
    have hbyA:=As.mk hby1
    obtain ⟨bx,hbx⟩:∃ b,wr.heap.size=b:=⟨_,rfl⟩
    have hbxe:=As.mk hbx
    clear hW1 hB1 hbox hby hb hy hr hbx hLr hcl' htt hby1
    go_upto_if 20 with (fail)
    go_cut [6] (fun tx wx=>∃ A2 c2,tx=.slice A2 t c2∧As (Byt wx A2 (QZ o y.text))∧As (Below W1.heap.size W1 wx))
    case first =>
     cases hi:o.i
     · have hx:=As.mk (show Byt W1 A' (QZ o y.text) by unfold QZ;rw [if_neg (by simp [hi])];exact hbyA.out)
       rw [hi] at z1
       go_wp2
       rw [hW1'.out]
       go_meet
       case rel=>exact ⟨_,_,rfl,hx,⟨Below.refl _ _⟩⟩
     · have hx:=As.mk (show QZ o y.text=low y.text by unfold QZ;rw [if_pos hi])
       rw [hi] at z1
       go_wp2_with (first | (rw [hW1'.out]))
       refine Calls.mono cLow.out ?_
       intro e w2 h2
       obtain ⟨v2,he,ho2,hb2⟩:=h2
       subst he
       obtain ⟨A2,c2,rfl,hc2,hr2⟩:=OwnByt.row ho2
       rw [XK,htA.out] at hc2 ⊢
       rw [← hx.out] at hr2
       replace hr2:=As.mk hr2
       replace hb2:=As.mk hb2
       clear ho2 hc2
       go_wp2
       go_meet
       case rel=>exact ⟨_,_,rfl,hr2,hb2⟩
    case rest =>
     obtain ⟨A2,c2,rfl,hby2,hb2⟩:=hcut
     have hbelW:=As.mk ((by rw [hW1'.out] at hbA;exact hbA.out):Below wr.heap.size wr W1)
     have hbel2:=As.mk (Ze hbelW.out hb2.out)
     have hR2:=As.mk (hR.out.below hbel2.out)
     have hbx2:wc.heap[bx]? = some (.cells #[.int .i64 (y.num:Int),.int .i64 (y.off:Int),.slice A' t c'] 206 (0,0)):=Zc hb2.out (by rw [← hW1'.out,← hbxe.out];exact hbxA.out)
     have hbt2:=As.mk (Row.below hbyA.out hb2.out)
     rw [hbxe.out]
     obtain ⟨Wc,hWc⟩:∃ W,wc=W:=⟨_,rfl⟩
     rw [hWc] at hby2 hb2 hbel2 hR2 hbx2 hbt2 ⊢
     clear hWc z0 z1 q0 q1 q2 cLow hbA hbxA hbelW
     have hrun:=hR2.out.run
     have hrm:¬ rb=mb:=Zp hrun hR2.out.mt (by decide)
     have hks:=As.mk (fun (v:World) (hk:Keeps (Zu (some mb)) Wc v)=>Zd hrun hk (fun e=>hrm (by injection e with e;exact e.symm)))
     have l1:∀ v,Keeps (Zu (some mb)) Wc v→v.cell? ⟨rb,1,none⟩=some (.bool o.w):=fun v hk=>Za (hks.out v hk) 1
     have l2:∀ v,Keeps (Zu (some mb)) Wc v→v.cell? ⟨rb,2,none⟩=some (.bool o.x):=fun v hk=>Za (hks.out v hk) 2
     have l7:∀ v,Keeps (Zu (some mb)) Wc v→v.cell? ⟨rb,7,none⟩=some (.func (.func 105) #[.pointer (some ⟨eg,0,none⟩)] #[]):=fun v hk=>Za (hks.out v hk) 7
     have l9:∀ v,Keeps (Zu (some mb)) Wc v→v.cell? ⟨rb,9,none⟩=some (.pointer (some ⟨mb,0,none⟩)):=fun v hk=>Za (hks.out v hk) 9
     have cFn:=As.mk (cFd.out Wc.drew (hR2.out.engs.below (Below.refl _ _).drew) _ (Mo.some_ hR2.out.mt) (by have:=hao.out.s;have:=hao.out.k;unfold Cn.room;simp only;omega) A2 c2 (QZ o y.text) hby2.out (by rw [Xu];have:=hyl.out;omega))
     rw [Xu,htA.out,scanM_more] at cFn
     have hinF:=Zfo l (QZ o y.text)
     have hGl:=findF_len l (QZ o y.text)
     rw [Xu,htA.out] at hinF hGl
     have hins:=As.mk (ZfF o l y.text)
     have hGl2:t * t≤400 * 400:=Nat.mul_le_mul hme1 hme1
     obtain ⟨G,hG⟩:∃ G,findF l (QZ o y.text)=G:=⟨_,rfl⟩
     have hmay:As (JP o l y.text=Q6 (QZ o y.text) G o.w o.x):=⟨by rw [← hG];rfl⟩
     rw [hG] at cFn hinF hGl
     clear hrun hrm hG
     go_wp2_with fail
     refine wp_region_held_drew (S:=fun v=>Keeps (Zu (some mb)) Wc v) (by kernel_rfl) (Keeps.refl _ _).drew (fun hHeld=>?_)
     refine Zg 0 (v:=?_) rfl (by kernel_rfl) (by kernel_rfl) (by kernel_rfl) (fun _ _ _ h=>h) (Or.inl ⟨by rfl,?_⟩) (by assumption) ?_
     rotate_left 1
     · (intro w hSw;(try dsimp only at hSw);first | (go_simp;done) | (go_simp;with_reducible rfl))
     (simp only [Act.put,List.setIfInBounds_toArray,List.set_cons_zero,List.set_cons_succ])
     refine Zg 1 (v:=?_) rfl (by kernel_rfl) (by kernel_rfl) (by kernel_rfl) (fun _ _ _ h=>h) (Or.inl ⟨by rfl,?_⟩) (by assumption) ?_
     rotate_left 1
     · (intro w hSw;(try dsimp only at hSw);first | (go_simp;done) | (go_simp;with_reducible rfl))
     (simp only [Act.put,List.setIfInBounds_toArray,List.set_cons_zero,List.set_cons_succ])
     refine Zg 2 (v:=?_) rfl (by kernel_rfl) (by kernel_rfl) (by kernel_rfl) (fun _ _ _ h=>h) (Or.inl ⟨by rfl,?_⟩) (by assumption) ?_
     rotate_left 1
     · (intro w hSw;(try dsimp only at hSw);first | (go_simp;done) | (go_simp;with_reducible rfl))
     (simp only [Act.put,List.setIfInBounds_toArray,List.set_cons_zero,List.set_cons_succ])
     refine Zg 3 (v:=?_) rfl (by kernel_rfl) (by kernel_rfl) (by kernel_rfl) (fun _ _ _ h=>h) (Or.inl ⟨by rfl,?_⟩) (by assumption) ?_
     rotate_left 1
     · (intro w hSw;(try dsimp only at hSw);first | (go_simp;done) | (go_simp;with_reducible rfl))
     (simp only [Act.put,List.setIfInBounds_toArray,List.set_cons_zero,List.set_cons_succ])
     refine Zg 4 (v:=?_) rfl (by kernel_rfl) (by kernel_rfl) (by kernel_rfl) (fun _ _ _ h=>h) (Or.inl ⟨by rfl,?_⟩) (by assumption) ?_
     rotate_left 1
     · (intro w hSw;(try dsimp only at hSw);first | (go_simp;done) | (go_simp;with_reducible rfl))
     (simp only [Act.put,List.setIfInBounds_toArray,List.set_cons_zero,List.set_cons_succ])
     refine Zg 5 (v:=?_) rfl (by kernel_rfl) (by kernel_rfl) (by kernel_rfl) (fun _ _ _ h=>h) (Or.inl ⟨by rfl,?_⟩) (by assumption) ?_
     rotate_left 1
     · (intro w hSw;(try dsimp only at hSw);first | (go_simp;done) | (go_simp;with_reducible rfl))
     (simp only [Act.put,List.setIfInBounds_toArray,List.set_cons_zero,List.set_cons_succ])
     refine Zg 6 (v:=?_) rfl (by kernel_rfl) (by kernel_rfl) (by kernel_rfl) (fun _ _ _ h=>h) (Or.inl ⟨by rfl,?_⟩) (by assumption) ?_
     rotate_left 1
     · (intro w hSw;(try dsimp only at hSw);first | (go_simp;done) | (go_simp;with_reducible rfl))
     (simp only [Act.put,List.setIfInBounds_toArray,List.set_cons_zero,List.set_cons_succ])
     refine Zg 7 (v:=?_) rfl (by kernel_rfl) (by kernel_rfl) (by kernel_rfl) (fun _ _ _ h=>h) (Or.inl ⟨by rfl,?_⟩) (by assumption) ?_
     rotate_left 1
     · (intro w hSw;(try dsimp only at hSw);first | (go_simp;done) | (go_simp;with_reducible rfl))
     (simp only [Act.put,List.setIfInBounds_toArray,List.set_cons_zero,List.set_cons_succ])
     refine Zg 8 (v:=?_) rfl (by kernel_rfl) (by kernel_rfl) (by kernel_rfl) (fun _ _ _ h=>h) (Or.inl ⟨by rfl,?_⟩) (by assumption) ?_
     rotate_left 1
     · (intro w hSw;(try dsimp only at hSw);first | (go_simp;done) | (go_simp;with_reducible rfl))
     (simp only [Act.put,List.setIfInBounds_toArray,List.set_cons_zero,List.set_cons_succ])
     refine Zg 9 (v:=?_) rfl (by kernel_rfl) (by kernel_rfl) (by kernel_rfl) (fun _ _ _ h=>h) (Or.inl ⟨by rfl,?_⟩) (by assumption) ?_
     rotate_left 1
     · (intro w hSw;(try dsimp only at hSw);first | (go_simp;done) | (go_simp;with_reducible rfl))
     (simp only [Act.put,List.setIfInBounds_toArray,List.set_cons_zero,List.set_cons_succ])
     refine Zg 11 (v:=?_) rfl (by kernel_rfl) (by kernel_rfl) (by kernel_rfl) (fun _ _ _ h=>h) (Or.inl ⟨by rfl,?_⟩) (by assumption) ?_
     rotate_left 1
     · (intro w hSw;(try dsimp only at hSw);first | (go_simp;done) | (go_simp;with_reducible rfl))
     (simp only [Act.put,List.setIfInBounds_toArray,List.set_cons_zero,List.set_cons_succ])
     refine Zg 12 (v:=?_) rfl (by kernel_rfl) (by kernel_rfl) (by kernel_rfl) (fun _ _ _ h=>h) (Or.inl ⟨by rfl,?_⟩) (by assumption) ?_
     rotate_left 1
     · (intro w hSw;(try dsimp only at hSw);first | (go_simp;done) | (go_simp;with_reducible rfl))
     (simp only [Act.put,List.setIfInBounds_toArray,List.set_cons_zero,List.set_cons_succ])
     refine Zg 13 (v:=?_) rfl (by kernel_rfl) (by kernel_rfl) (by kernel_rfl) (fun _ _ _ h=>h) (Or.inl ⟨by rfl,?_⟩) (by assumption) ?_
     rotate_left 1
     · (intro w hSw;(try dsimp only at hSw);first | (go_simp;done) | (go_simp;with_reducible rfl))
     (simp only [Act.put,List.setIfInBounds_toArray,List.set_cons_zero,List.set_cons_succ])
     refine Zg 14 (v:=?_) rfl (by kernel_rfl) (by kernel_rfl) (by kernel_rfl) (fun _ _ _ h=>h) (Or.inl ⟨by rfl,?_⟩) (by assumption) ?_
     rotate_left 1
     · (intro w hSw;(try dsimp only at hSw);first | (go_simp;done) | (go_simp;with_reducible rfl))
     (simp only [Act.put,List.setIfInBounds_toArray,List.set_cons_zero,List.set_cons_succ])
     refine Zg 15 (v:=?_) rfl (by kernel_rfl) (by kernel_rfl) (by kernel_rfl) (fun _ _ _ h=>h) (Or.inl ⟨by rfl,?_⟩) (by assumption) ?_
     rotate_left 1
     · (intro w hSw;(try dsimp only at hSw);first | (go_simp;done) | (go_simp;with_reducible rfl))
     (simp only [Act.put,List.setIfInBounds_toArray,List.set_cons_zero,List.set_cons_succ])
     refine Zg 16 (v:=?_) rfl (by kernel_rfl) (by kernel_rfl) (by kernel_rfl) (fun _ _ _ h=>h) (Or.inl ⟨by rfl,?_⟩) (by assumption) ?_
     rotate_left 1
     · (intro w hSw;(try dsimp only at hSw);first | (go_simp;done) | (go_simp;with_reducible rfl))
     (simp only [Act.put,List.setIfInBounds_toArray,List.set_cons_zero,List.set_cons_succ])
     refine Zg 17 (v:=?_) rfl (by kernel_rfl) (by kernel_rfl) (by kernel_rfl) (fun _ _ _ h=>h) (Or.inl ⟨by rfl,?_⟩) (by assumption) ?_
     rotate_left 1
     · (intro w hSw;(try dsimp only at hSw);first | (go_simp;done) | (go_simp;with_reducible rfl))
     (simp only [Act.put,List.setIfInBounds_toArray,List.set_cons_zero,List.set_cons_succ])
     refine Zg 18 (v:=?_) rfl (by kernel_rfl) (by kernel_rfl) (by kernel_rfl) (fun _ _ _ h=>h) (Or.inl ⟨by rfl,?_⟩) (by assumption) ?_
     rotate_left 1
     · (intro w hSw;(try dsimp only at hSw);first | (go_simp;done) | (go_simp;with_reducible rfl))
     (simp only [Act.put,List.setIfInBounds_toArray,List.set_cons_zero,List.set_cons_succ])
     refine Zg 19 (v:=?_) rfl (by kernel_rfl) (by kernel_rfl) (by kernel_rfl) (fun _ _ _ h=>h) (Or.inl ⟨by rfl,?_⟩) (by assumption) ?_
     rotate_left 1
     · (intro w hSw;(try dsimp only at hSw);first | (go_simp;done) | (go_simp;with_reducible rfl))
     (simp only [Act.put,List.setIfInBounds_toArray,List.set_cons_zero,List.set_cons_succ])
     refine Zg 20 (v:=?_) rfl (by kernel_rfl) (by kernel_rfl) (by kernel_rfl) (fun _ _ _ h=>h) (Or.inl ⟨by rfl,?_⟩) (by assumption) ?_
     rotate_left 1
     · (intro w hSw;(try dsimp only at hSw);first | (go_simp;done) | (go_simp;with_reducible rfl))
     (simp only [Act.put,List.setIfInBounds_toArray,List.set_cons_zero,List.set_cons_succ])
     refine wpAnyH_ready (rs:=[10]) (by kernel_rfl) (by simp) ?_
     refine AllReadyH.cons rfl (fun K hK=>?_) AllReadyH.nil
     go_simp
     refine Calls.mono cFn.out ?_
     rintro e w3 ⟨h3,hE3⟩
     obtain ⟨A3,c3,rfl,hc3,hcm3,hr3,hm3,hk3,ho3⟩:=h3.out
     have hk3w:Keeps (Zu (some mb)) Wc w3:=(Keeps.refl _ Wc).drew.trans hk3
     refine hK.out _ _ hk3w (fun hHeld=>?_)
     clear hK K
     have hR3:=As.mk (hR2.out.scan hk3w (hm3 mb rfl))
     have hby3:Byt w3 A2 (QZ o y.text):=Byt.keepNot hby2.out hk3w (fun hne ad e h=>Byt.farOf hby2.out hne hR2.out.mt (by intro y hy n e;subst e;simp [Qr] at hy) ad e (by injection h with h;exact h.symm))
     have cFi:=As.mk (afilter_calls w3 A2 c2 (QZ o y.text) hby3 (by rw [Xu];have:=hyl.out;omega) A3 c3 G hr3 (by omega) (fun p hp=>by have:=hinF p hp;omega) o.w o.x)
     rw [Xu,htA.out,← hmay.out] at cFi
     replace hk3w:=As.mk hk3w
     have hk3r:=hk3w.out
     clear h3 hE3 hm3 hk3 ho3 hr3 hcm3 cFn hby3
     refine wpAnyH_ready (rs:=[21]) (by kernel_rfl) (by simp) ?_
     refine AllReadyH.cons rfl (fun K hK=>?_) AllReadyH.nil
     go_simp
     refine Calls.mono cFi.out ?_
     intro e w4 h4
     obtain ⟨v4,he4,ho4,hb4⟩:=h4.out
     subst he4
     obtain ⟨A4,c4,rfl,hc4,hr4⟩:=OwnPrs.row ho4
     have hk4:Keeps (Zu (some mb)) Wc w4:=hk3w.out.trans (Keeps.of_below hb4 _)
     refine hK.out _ _ hk4 (fun hHeld=>?_)
     clear hK K
     refine Zg 22 (v:=?_) rfl (by kernel_rfl) (by kernel_rfl) (by kernel_rfl) (fun _ _ _ h=>h) (Or.inl ⟨by rfl,?_⟩) (by assumption) ?_
     rotate_left 1
     · (intro w hSw;(try dsimp only at hSw);first | (go_simp;done) | (go_simp;with_reducible rfl))
     (simp only [Act.put,List.setIfInBounds_toArray,List.set_cons_zero,List.set_cons_succ])
     have hR4:=As.mk (hR3.out.below hb4)
     have hr4A:=As.mk ho4
     have hrb3:=Zf hR3.out.run
     have hbx4:w4.heap[bx]? = some (.cells #[.int .i64 (y.num:Int),.int .i64 (y.off:Int),.slice A' t c'] 206 (0,0)):=Zd hbx2 hk4 (fun e=>Zp hbx2 hR2.out.mt (by decide) (by injection e with e;exact e.symm))
     have hbt4:=As.mk (Byt.keepNot hbt2.out hk4 (fun hne ad e h=>Byt.farOf hbt2.out hne hR2.out.mt (by intro y hy n e;subst e;simp [Qr] at hy) ad e (by injection h with h;exact h.symm)))
     have hml:(JP o l y.text).length≤1000000:=by rw [hmay.out];have:=ZcB (QZ o y.text) G o.w o.x;omega
     have hseq:As (YT o l y.text=(decide (0<(JP o l y.text).length) != o.v)):=⟨rfl⟩
     replace hk4:=As.mk hk4
     have hbx4A:=As.mk hbx4
     clear l1 l2 l7 l9 h4 hr4 ho4 hb4 hbx4 hHeld hks cFi hk3r
     refine wpAnyH_done (by kernel_rfl) ?_ _
     obtain ⟨M,hM⟩:∃ M,JP o l y.text=M:=⟨_,rfl⟩
     rw [hM] at hr4A hml hseq hins hc4 ⊢
     replace hM:=As.mk hM
     obtain ⟨nM,hnM⟩:∃ k,M.length=k:=⟨_,rfl⟩
     rw [hnM] at hml hseq hc4 ⊢
     replace hnM:=As.mk hnM
     have v5:w4.cell? ⟨rb,5,none⟩=some (.bool o.v):=Za hR4.out.run 5
     obtain ⟨q,hq⟩:∃ q,YT o l y.text=q:=⟨_,rfl⟩
     rw [hq] at hseq
     cases q
     · have ht1:(decide (0<nM) == o.v)=true:=by have:=hseq.out;cases hd:decide (0<nM) <;> cases hv:o.v <;> simp [hd,hv] at this ⊢
       go_wp2_with fail
       go_roundg gp
       case rel =>
        have hkr:Keeps (JR rb mb u) wr w4:=(Keeps.of_below hbel2.out _).trans (hk4.out.mono (fun _ _ e=>.inr (.inl (by injection e with e;exact e.symm))))
        exact ⟨k+1,u,⟨by have:=hgk.out;omega⟩,hlt,(by first | rfl | go_num | (congr 1;omega)),⟨by rw [hst.out,lineA_no hq];exact hR4.out⟩,⟨ZeO hKp.out hfr.out hkr⟩,hfr⟩
       case measure=>omega
     · have ht1:(decide (0<nM) == o.v)=false:=by have:=hseq.out;cases hd:decide (0<nM) <;> cases hv:o.v <;> simp [hd,hv] at this ⊢
       have c11:w4.cell? ⟨rb,11,none⟩=some (.int .i64 (b.n:Int)):=Za hR4.out.run 11
       have f11:w4.frozen? ⟨rb,11,none⟩=false:=Zb hR4.out.run 11
       have hbn:=hao.out.n
       have hw2:IntKind.i64.wrap ((b.n:Int)+1)=(b.n:Int)+1:=by rw [IntKind.wrap_i64];omega
       go_upto_region 9 with fail
       obtain ⟨W5,hW5⟩:∃ W,w4.setCell ⟨rb,11,none⟩ (.int .i64 ((b.n:Int)+1))=W:=⟨_,rfl⟩
       rw [hW5]
       have hR5:=hR4.out.more (b.n+1)
       have hk5:Keeps (fun k=>k=rb) w4 W5:=by rw [← hW5];exact Zm w4 ⟨rb,11,none⟩ _
       rw [show ((b.n+1:Nat):Int)=(b.n:Int)+1 from rfl,hW5] at hR5
       have hbx5:W5.heap[bx]? = some (.cells #[.int .i64 (y.num:Int),.int .i64 (y.off:Int),.slice A' t c'] 206 (0,0)):=Zd hbx4A.out hk5 (fun e=>Zp hbx4A.out hR4.out.run (by decide) e)
       have hbt5:Byt W5 A' y.text:=Byt.keepNot hbt4.out hk5 (fun hne ad e h=>Byt.farOf hbt4.out hne hR4.out.run (by intro y hy n e;subst e;unfold Zc7 at hy;obtain ⟨F,X,Y,hF⟩:=ZeJ o ob;rw [hF] at hy;simp at hy;obtain ⟨_,_,rfl,_⟩:=Zk hR4.out.out;simp at hy) ad e h)
       have hprs5:Prs W5 A4 M:=by
        have h:=hr4A.out
        exact Row.of_own (Zj h hk5 (fun q c hb _ _ e=>by have e:q=rb:=e;omega))
       have hpl:=ZbS o y.off hme2 y.text hyl.out M hins.out
       have hown5:=hR5.out
       have hownu:=As.mk hown5
       have hn5:b.out.length≤10000000000:=by have:=hao.out.out;omega
       obtain ⟨nO,hnO⟩:∃ k,b.out.length=k:=⟨_,rfl⟩
       obtain ⟨n6,hn6⟩:∃ k,(Yg o (y.off:Int) y.text M).length=k:=⟨_,rfl⟩
       have hsz5:=As.mk hR5.bel.size
       have tab5:=hR5.tabs
       have hbxo:=hR5.box
       have hrb5:=As.mk hR5.run
       have cpA:=print_any W5 ob o hbxo y A' c' hbt5 (by rw [htA.out];exact hc') hyl.out hme2 A4 c4 M hprs5 (by rw [hnM.out];exact hml) hins.out tab5
       unfold lnV at cpA
       rw [htA.out,hnM.out] at cpA
       have PXe:=As.mk (lineA_eq (tag:=tag) (a:=b) hq)
       rw [hM.out] at PXe
       obtain ⟨PX,hPX⟩:∃ P,Yg o (y.off:Int) y.text M=P:=⟨_,rfl⟩
       rw [hPX] at hn6 hpl cpA PXe
       rw [hn6] at hpl
       rw [hnO] at hn5
       replace hn6:=As.mk hn6
       replace hk5:=As.mk hk5
       replace hR5:=As.mk hR5
       have hown6u:As (W5.ownsRow w0.heap.size 5 1 u nO (Zh b.out)):=⟨by rw [← hnO];exact hownu.out⟩
       have hnO':=As.mk hnO
       have d10:W5.cell? ⟨rb,10,none⟩=some u:=Za hrb5.out 10
       have e10:W5.drew.cell? ⟨rb,10,none⟩=some u:=d10
       have b0:W5.cell? ⟨bx,0,none⟩=some (.int .i64 (y.num:Int)):=Za hbx5 0
       have b1:W5.cell? ⟨bx,1,none⟩=some (.int .i64 (y.off:Int)):=Za hbx5 1
       have b2:W5.cell? ⟨bx,2,none⟩=some (.slice A' t c'):=Za hbx5 2
       obtain ⟨F,cap,hpf,hcf,cP⟩:=cpA
       replace cP:=As.mk cP
       have d8:W5.cell? ⟨rb,8,none⟩=some (.func (.func F) #[] cap):=by rw [← hpf];exact Za hrb5.out 8
       clear hPX hnO hbx5 hbt5 hprs5 hown5 hbxo tab5 hW5 hpf
       go_wp2_with fail
       go_region_law (first
        | (refine step_appR (by rfl) (.tmp 65) (.tmp 72) 22 (by rfl) w0.heap.size 5 _ 1 Tryz.underlying22 X2 rfl u nO (Zh b.out) (by rfl) hown6.out A6 n6 c6 (Zh PX) (by rfl) (by rw [Zt];exact hn6.out) hby6.out ZcS (by omega) (by decide) hsz6 ?_
           intro v7 w7 ho7 hk7 hb7 hat7
           obtain ⟨A7,c7,rfl,hc7⟩:=Zk ho7
           have y8:=Za (Zd hrb6.out hk7 hrbn.out) 10
           have yf:=Zb (Zd hrb6.out hk7 hrbn.out) 10
           have y9:w7.cell? ⟨rb,10,none⟩=some u:=y8
           clear y8
           replace ho7:=As.mk ho7
           replace hk7:=As.mk hk7
           replace hb7:=As.mk hb7
           replace hat7:=As.mk hat7)
        | (refine Xq (by rfl) ?ho cP.out ?_
           case ho=>go_simp
           intro e w6 h6
           obtain ⟨v6,he6,ho6,hb6⟩:=h6
           obtain ⟨A6,c6,rfl,hc6,hby6'⟩:=OwnByt.row ho6
           rw [hn6.out] at he6 hc6
           refine ⟨_,he6,?_⟩
           have hb56:Below W5.heap.size W5 w6:=(Below.refl _ W5).drew.trans hb6
           have hown6:=As.mk (Zo hown6u.out hb56)
           have hby6:=As.mk hby6'
           have hrb6:=As.mk (Zc hb56 hrb5.out)
           have e10:w6.cell? ⟨rb,10,none⟩=some u:=Za hrb6.out 10
           have hrbn:=As.mk (Zy hown6.out hrb6.out (by decide))
           have hsz6:w0.heap.size≤w6.heap.size:=Nat.le_trans hsz5.out hb56.size
           replace hb56:=As.mk hb56
           replace ho6:=As.mk ho6
           replace hb6:=As.mk hb6
           clear hby6'))
       all_goals
        go_wp2_with fail
        go_roundg gp
        case rel =>
         have hoo:OwnByt w7 w0.heap.size (.slice A7 (nO+n6) c7) (b.out++PX):=by
          unfold OwnByt Zh
          rw [List.length_append,List.map_append,hnO'.out,hn6.out]
          exact ho7.out
         have hput:=hR5.out.put hb56.out hk7.out hoo
         have hkr:Keeps (JR rb mb u) wr (w7.setCell ⟨rb,10,none⟩ (.slice A7 (nO+n6) c7)) :=
          ((((Keeps.of_below hbel2.out (JR rb mb u)).trans (hk4.out.mono (fun _ _ e=>.inr (.inl (by injection e with e;exact e.symm))))).trans (hk5.out.mono (fun _ _ e=>.inl e))).trans (Keeps.of_below hb56.out _)).trans ((hk7.out.mono (fun _ _ e=>.inr (.inr e))).trans ((Zm w7 ⟨rb,10,none⟩ _).mono (fun _ _ e=>.inl e)))
         have hsw:w.heap.size≤w6.heap.size:=Nat.le_trans hKp.out.size (Nat.le_trans (Nat.le_trans hbel2.out.size hk4.out.size) (Nat.le_trans hk5.out.size hb56.out.size))
         have hfr2:(Value.slice A7 (nO+n6) c7).ownBlock=v.ownBlock∨∃ k,(Value.slice A7 (nO+n6) c7).ownBlock=some k∧w.heap.size≤k:=by
          rcases hat7.out with e | ⟨q,e,hq⟩
          · rw [e];exact hfr.out
          · exact .inr ⟨q,e,Nat.le_trans hsw hq⟩
         exact ⟨k+1,_,⟨by have:=hgk.out;omega⟩,hlt,(by first | rfl | go_num | (congr 1;omega)),⟨by rw [hst.out,PXe.out];exact hput⟩,⟨ZeO hKp.out hfr.out hkr⟩,⟨hfr2⟩⟩
        case measure=>omega
  · obtain rfl:k=n:=by omega
    rw [hall.out] at hR
    go_wp2
    go_end0
    exact ⟨rfl,u,hR.out,hKp.out,hfr.out⟩
end Go.Proofs.YtfdlaomnecjfeaaGreatDoor
end
section
namespace Seine.Fg
open Seine.Trie
/-- How many bytes are no newlines; how many are. -/
def Za2 (b:Txt):Nat:=(b.filter fun c=>decide (c≠10)).length
def nlN (b:Txt):Nat:=(b.filter fun c=>decide (c=10)).length
theorem ZdL (c:UInt8) (b:Txt):Za2 (c::b)=(if c=10 then 0 else 1)+Za2 b:=by
 unfold Za2
 by_cases h:c=10
 · simp [List.filter_cons,h]
 · simp [List.filter_cons,h];omega
theorem Zfu (c:UInt8) (b:Txt):nlN (c::b)=(if c=10 then 1 else 0)+nlN b:=by
 unfold nlN
 by_cases h:c=10
 · simp [List.filter_cons,h];omega
 · simp [List.filter_cons,h]
theorem Zd4:∀ b:Txt,Za2 b+nlN b=b.length
 | []=>rfl
 | c::b=>by
   rw [ZdL,Zfu,List.length_cons,← Zd4 b]
   split <;> omega
/-- How many bytes the lines have, and with their newlines. -/
def YV (ls:List Ln):Nat:=(ls.map fun x=>x.text.length).sum
def JS (ls:List Ln):Nat:=(ls.map fun x=>x.text.length+1).sum
theorem sumT_append (a b:List Ln):YV (a++b)=YV a+YV b:=by simp [YV]
theorem sumN_append (a b:List Ln):JS (a++b)=JS a+JS b:=by simp [JS]
theorem step_sum (s:St) (c:UInt8) (ho:s.over=false) :
    YV (ZL s c).2+(ZL s c).1.cur.length≤s.cur.length+(if c=10 then 0 else 1) ∧
    ((ZL s c).1.over=false→YV (ZL s c).2+(ZL s c).1.cur.length=s.cur.length+(if c=10 then 0 else 1)) ∧
    (ZL s c).1.off=s.off+JS (ZL s c).2∧(ZL s c).2.length≤(if c=10 then 1 else 0)∧((ZL s c).1.over=false→(ZL s c).2.length=(if c=10 then 1 else 0)):=by
 unfold ZL
 rw [if_neg (by simp [ho])]
 by_cases hc:c=10
 · rw [if_pos hc]
   simp [hc,YV,JS];omega
 · rw [if_neg hc]
   by_cases hl:400≤s.cur.length
   · rw [if_pos hl]
     simp [hc,YV,JS]
   · rw [if_neg hl]
     simp [hc,YV,JS]
theorem Zc8:∀ (b:Txt) (s:St),s.over=false →
    YV (Zq s b).2+(Zq s b).1.cur.length≤s.cur.length+Za2 b ∧
    ((Zq s b).1.over=false→YV (Zq s b).2+(Zq s b).1.cur.length=s.cur.length+Za2 b) ∧
    (Zq s b).1.off=s.off+JS (Zq s b).2∧(Zq s b).2.length≤nlN b∧((Zq s b).1.over=false→(Zq s b).2.length=nlN b)
 | [],s,ho=>by simp [Zq,YV,JS,Za2,nlN]
 | c::r,s,ho=>by
   have h1:=step_sum s c ho
   simp only [Zq]
   rw [sumT_append,sumN_append,List.length_append,ZdL,Zfu]
   by_cases h:(ZL s c).1.over=true
   · rw [Jr r _ h]
     obtain ⟨a1,a2,a3,a4,a5⟩:=h1
     simp only [h] at *
     refine ⟨?_,?_,?_,?_,?_⟩
     · simp [YV] at *;omega
     · intro h;cases h
     · simp [JS] at *;omega
     · simp at *;omega
     · intro h;cases h
   · have hf:(ZL s c).1.over=false:=by simpa using h
     have h2:=Zc8 r _ hf
     obtain ⟨a1,a2,a3,a4,a5⟩:=h1
     obtain ⟨b1,b2,b3,b4,b5⟩:=h2
     have a2:=a2 hf
     have a5:=a5 hf
     refine ⟨by omega,fun h=>?_,by omega,by omega,fun h=>?_⟩
     · have:=b2 h;omega
     · have:=b5 h;omega
end Seine.Fg
end
section
namespace Go.Proofs.YtfdlaomnecjfeaaGreatDoor
open Go.RowKit Go.Shelf Seine.Trie Seine.Fg Seine.Eng
section
variable {w w':World} {base gs gw g:Nat} {v:Value} {cs cl cs' cl':Int} {s:St} {wn:Wn}
theorem FdEnd.mt (h:FdEnd w base gs gw g v cs cl s wn):MtAt w g ⟨cs,cl,(s.hunt:Int),(wn.move:Int)⟩:=by
 cases ho:s.over
 · exact (h.2 ho).mt
 · exact (h.1 ho).2
theorem FdAt.keep {S:Nat→Prop} (h:FdAt w base gs gw g v cs cl s wn) (hk:Keeps S w w') (h1:¬ S gs) (h2:¬ S gw) (h3:∀ k,some k=v.ownBlock→¬ S k) (hm:MtAt w' g ⟨cs',cl',(s.hunt:Int),(wn.move:Int)⟩):FdAt w' base gs gw g v cs' cl' s wn :=
 ⟨Zd h.st hk h1,h.win.keep hk h2 h3,hm,h.held,h.mv,h.nov,h.cur,h.room,h.off,h.num⟩
theorem FdEnd.keep {S:Nat→Prop} (h:FdEnd w base gs gw g v cs cl s wn) (hk:Keeps S w w') (h1:¬ S gs) (h2:¬ S gw) (h3:∀ k,some k=v.ownBlock→¬ S k) (hm:MtAt w' g ⟨cs',cl',(s.hunt:Int),(wn.move:Int)⟩):FdEnd w' base gs gw g v cs' cl' s wn :=
 ⟨fun ho=>⟨Zd (h.1 ho).1 hk h1,hm⟩,fun ho=>(h.2 ho).keep hk h1 h2 h3 hm⟩
theorem FdEnd.below (h:FdEnd w base gs gw g v cs cl s wn) (hb:Below w.heap.size w w'):FdEnd w' base gs gw g v cs cl s wn :=
 h.keep (Keeps.of_below hb (fun _=>False)) id id (fun _ _=>id) (h.mt.below hb)
end
theorem feed_any (w:World) (base gs gw g:Nat) (v:Value) (cs cl:Int) (s:St) (wn:Wn) (h:FdEnd w base gs gw g v cs cl s wn) (hh:s.hunt≤1000000) (hbase:base≤w.heap.size)
    (A:Option Addr) (c:Nat) (b:Txt) (hb:Byt w A b) (hc:b.length≤c) (hl:b.length≤100000) (hav:b≠[]→∀ ad,A=some ad→some ad.block≠v.ownBlock) :
    Calls Tryz.prog 69 #[.pointer (some ⟨gs,0,none⟩),.slice A b.length c] w fun e w'=>∃ vo v',e=.returned vo∧OwnLns w.heap.size w' vo v' (Zq s b).2∧Keeps (fun k=>k=gs∨Qo gw g v k) w w' ∧
     (v'.ownBlock=v.ownBlock∨∃ k,v'.ownBlock=some k∧w.heap.size≤k) ∧
     FdEnd w' base gs gw g v' cs cl (Zq s b).1 (if s.over=true then wn else Q4 wn 0 b):=by
 cases ho:s.over
 · refine (sfeed_calls w base gs gw g v cs cl s wn (h.2 ho) hh hbase A c b hb hc hl hav).mono ?_
   rintro e w' ⟨vo,v',h1,h2,h3,h4,h5⟩
   exact ⟨vo,v',h1,h2,h3,h4,by simpa using h5⟩
 · refine (sfeed_over w gs gw g s.num s.off 15 (h.1 ho).1 _).mono ?_
   rintro e w' ⟨rfl,hb'⟩
   rw [Jr b s ho]
   exact ⟨_,v,rfl,OwnLns.nil _ _ _,Keeps.of_below hb' _,.inl rfl,by simpa using h.below hb'⟩
theorem end_any (w:World) (base gs gw g:Nat) (v:Value) (cs cl:Int) (s:St) (wn:Wn) (h:FdEnd w base gs gw g v cs cl s wn) (hh:s.hunt≤1000000) (hbase:base≤w.heap.size) :
    Calls Tryz.prog 70 #[.pointer (some ⟨gs,0,none⟩)] w fun e w'=>∃ vo x num off bad,e=.returned vo∧OwnLns w.heap.size w' vo x (YR s)∧Ql w' gs gw g num off true bad∧MtAt w' g ⟨cs,cl,(s.hunt:Int),(wn.move:Int)⟩∧Keeps (fun k=>k=gs∨Qo gw g v k) w w' ∧
     (s.over=true→bad=15∧num=s.num)∧(s.over=false→bad=0):=by
 cases ho:s.over
 · refine (send_calls w base gs gw g v cs cl s wn (h.2 ho) (by omega) hbase).mono ?_
   rintro e w' ⟨vo,v',num,off,h1,h2,h3,h4,h5⟩
   exact ⟨vo,v',num,off,0,h1,h2,h3,h4,h5,fun h=>by simp at h,fun _=>rfl⟩
 · refine (send_over w gs gw g s.num s.off 15 (h.1 ho).1).mono ?_
   rintro e w' ⟨rfl,rfl⟩
   have he:YR s=[]:=by unfold YR;rw [if_pos (.inl ho)]
   rw [he]
   exact ⟨_,v,s.num,s.off,15,rfl,OwnLns.nil _ _ _,(h.1 ho).1,(h.1 ho).2,Keeps.refl _ _,fun _=>⟨rfl,rfl⟩,fun h=>by simp at h⟩
/-- Where lines begin. -/
theorem ZeP:∀ (b:Txt) (s:St),s.off+s.cur.length≤s.hunt→∀ x∈(Zq s b).2,x.off≤s.hunt+b.length
 | [],s,h,x,hx=>by simp [Zq] at hx
 | c::r,s,h,x,hx=>by
   simp only [Zq,List.mem_append] at hx
   have h1:(ZL s c).1.off+(ZL s c).1.cur.length≤(ZL s c).1.hunt∧(ZL s c).1.hunt≤s.hunt+1∧∀ x∈(ZL s c).2,x.off≤s.hunt:=by
    unfold ZL
    split
    · exact ⟨h,by simp,by simp⟩
    · split
      · exact ⟨by simp;omega,by simp,by simp;omega⟩
      · split
        · exact ⟨by simp;omega,by simp,by simp⟩
        · exact ⟨by simp;omega,by simp,by simp⟩
   rw [List.length_cons]
   rcases hx with hx | hx
   · have:=h1.2.2 x hx;omega
   · have:=ZeP r _ h1.1 x hx
     have:=h1.2.1
     omega
/-- Lines of a short input: short, few, near. -/
structure LnOk (L:List Ln):Prop where
 all:∀ y∈L,y.text.length≤400∧y.off≤1000000
 len:L.length≤10000
theorem ZfH {b:Txt} (hl:b.length≤5000):LnOk (Zq St.zero b).2:=by
 obtain ⟨-,-,-,h4,-⟩:=Zc8 b St.zero rfl
 have h5:=Zd4 b
 refine ⟨fun y hy=>⟨(Zc4 b St.zero (by simp [St.zero])).2 y hy,?_⟩,by omega⟩
 have:=ZeP b St.zero (Nat.le_refl _) y hy
 have e:St.zero.hunt=0:=rfl
 omega
theorem ZdM {b:Txt} (hl:b.length≤5000):LnOk (Qu b):=by
 have h:=ZfH hl
 have hc:=(Zc4 b St.zero (by simp [St.zero])).1
 have ho:=Zfj b St.zero (Nat.le_refl _)
 have hh:=(Zc3 b St.zero).2
 have e:St.zero.hunt=0:=rfl
 obtain ⟨-,-,-,h4,-⟩:=Zc8 b St.zero rfl
 have h5:=Zd4 b
 refine ⟨fun y hy=>?_,?_⟩
 · unfold Qu at hy
   rw [List.mem_append] at hy
   rcases hy with hy | hy
   · exact h.all y hy
   · unfold YR at hy
     split at hy
     · cases hy
     · rw [List.mem_singleton] at hy
       subst hy
       exact ⟨hc,by simp only;omega⟩
 · have:(YR (Zq St.zero b).1).length≤1:=by unfold YR;split <;> simp
   unfold Qu
   rw [List.length_append]
   omega
theorem acOk_zero {k:Nat} (h:k≤10000):AcOk Ac.zero k:=⟨by simp [Ac.zero];omega,by simp [Ac.zero];omega,by simp [Ac.zero];omega,by simp [Ac.zero];omega⟩
theorem Zd5 {o:Opt} {tag:Int} {l:List Txt} {L ls:List Ln} (h:LnOk (L++ls)):AcOk (Zs o tag l Ac.zero L) ls.length:=by
 have h1:=AcOk.take (o:=o) (tag:=tag) (l:=l) (acOk_zero h.len) h.all L.length (by rw [List.length_append];omega)
 rw [List.take_left,List.length_append,Nat.add_sub_cancel_left] at h1
 exact h1
theorem LnOk.right {L ls:List Ln} (h:LnOk (L++ls)):LnOk ls:=⟨fun y hy=>h.all y (List.mem_append_right _ hy),by have:=h.len;rw [List.length_append] at this;omega⟩
theorem LnOk.left {L ls:List Ln} (h:LnOk (L++ls)):LnOk L:=⟨fun y hy=>h.all y (List.mem_append_left _ hy),by have:=h.len;rw [List.length_append] at this;omega⟩
/-- The blocks that a run and its stream turn, and the young ones. -/
def RunF (rb mb gs gw n k:Nat):Prop:=k=rb∨k=mb∨k=gs∨k=gw∨n≤k
/-- A run and its stream; wP: the world behind the cutting. -/
structure RunI (w0 wP W:World) (rb ob mb eg gs gw:Nat) (o:Opt) (tag:Int) (l:List Txt) (v vw:Value) (L:List Ln) (s:St) (wn:Wn):Prop where
 run:RunAt w0 W rb ob mb eg o tag l v (Zs o tag l Ac.zero L) (s.hunt:Int) (wn.move:Int)
 fd:FdEnd W wP.heap.size gs gw mb vw ((Zs o tag l Ac.zero L).s:Int) ((Zs o tag l Ac.zero L).k:Int) s wn
 kp:Keeps (RunF rb mb gs gw wP.heap.size) wP W
 lt:rb<wP.heap.size∧ob<wP.heap.size∧mb<wP.heap.size∧gs<wP.heap.size∧gw<wP.heap.size
 vf:∀ q,some q=v.ownBlock→wP.heap.size≤q
 wf:∀ q,some q=vw.ownBlock→wP.heap.size≤q
 wl:∀ q,some q=vw.ownBlock→q<W.heap.size
 ap:∀ q,some q=v.ownBlock→some q≠vw.ownBlock
 old:w0.heap.size≤gs∧w0.heap.size≤gw
 ne:rb≠gs∧rb≠gw∧ob≠gs∧ob≠gw∧rb≠mb∧ob≠mb∧mb≠gs∧mb≠gw
section
variable {w0 wP W W1:World} {rb ob mb eg gs gw:Nat} {o:Opt} {tag:Int} {l:List Txt} {v vw v' vw':Value} {L ls:List Ln} {s s':St} {wn wn':Wn}
/-- What a step of the stream leaves of the run. -/
theorem RunI.fedAt (r:RunI w0 wP W rb ob mb eg gs gw o tag l v vw L s wn) (hk:Keeps (fun k=>k=gs∨Qo gw mb vw k) W W1) {h m:Int} (hm:MtAt W1 mb ⟨((Zs o tag l Ac.zero L).s:Int),((Zs o tag l Ac.zero L).k:Int),h,m⟩) :
    RunAt w0 W1 rb ob mb eg o tag l v (Zs o tag l Ac.zero L) h m:=by
 obtain ⟨l1,l2,l3,l4,l5⟩:=r.lt
 obtain ⟨n1,n2,n3,n4,n5,n6,n7,n8⟩:=r.ne
 have hs0:w0.heap.size≤wP.heap.size:=by have:=r.run.rbl;omega
 exact {
  run:=Zd r.run.run hk (by
   rintro (e | e | e | e)
   · exact n1 e
   · exact n2 e
   · exact n5 e
   · have:=r.wf rb e;omega)
  box:=Zd r.run.box hk (by
   rintro (e | e | e | e)
   · exact n3 e
   · exact n4 e
   · exact n6 e
   · have:=r.wf ob e;omega)
  mt:=hm,rbl:=r.run.rbl,obl:=r.run.obl,mbl:=r.run.mbl
  bel:=r.run.bel.trans (hk.below (fun k hk hS=>by
   rcases hS with e | e | e | e
   · have:=r.old.1;omega
   · have:=r.old.2;omega
   · have:=r.run.mbl;omega
   · have:=r.wf k e;omega) r.run.bel.size)
  eng:=r.run.eng,tab:=r.run.tab
  out:=Zj r.run.out hk (fun b _ _ _ e=>by
   have hb:=r.vf b e
   rintro (e' | e' | e' | e')
   · omega
   · omega
   · omega
   · exact r.ap b e e') }
theorem RunI.fed0 (r:RunI w0 wP W rb ob mb eg gs gw o tag l v vw L s wn) (hk:Keeps (fun k=>k=gs∨Qo gw mb vw k) W W1) (hf:∀ q,some q=vw'.ownBlock→q<W1.heap.size∧(some q=vw.ownBlock∨W.heap.size≤q))
    (hfd:FdEnd W1 wP.heap.size gs gw mb vw' ((Zs o tag l Ac.zero L).s:Int) ((Zs o tag l Ac.zero L).k:Int) s' wn'):RunI w0 wP W1 rb ob mb eg gs gw o tag l v vw' L s' wn' where
 run:=r.fedAt hk hfd.mt
 fd:=hfd
 kp:=r.kp.restrict hk (fun b hb hS=>by
  rcases hS with e | e | e | e
  · exact .inr (.inr (.inl e))
  · exact .inr (.inr (.inr (.inl e)))
  · exact .inr (.inl e)
  · exact .inr (.inr (.inr (.inr (r.wf b e)))))
 lt:=r.lt
 vf:=r.vf
 wf:=fun q e=>by
  rcases (hf q e).2 with h | h
  · exact r.wf q h
  · have:=r.kp.size;omega
 wl:=fun q e=>(hf q e).1
 ap:=fun q e e'=>by
  rcases (hf q e').2 with h | h
  · exact r.ap q e h
  · have:=(ZM r.run.out e).2
    omega
 old:=r.old
 ne:=r.ne
theorem RunI.fed (r:RunI w0 wP W rb ob mb eg gs gw o tag l v vw L s wn) (hk:Keeps (fun k=>k=gs∨Qo gw mb vw k) W W1) (hf:vw'.ownBlock=vw.ownBlock∨∃ k,vw'.ownBlock=some k∧W.heap.size≤k)
    (hfd:FdEnd W1 wP.heap.size gs gw mb vw' ((Zs o tag l Ac.zero L).s:Int) ((Zs o tag l Ac.zero L).k:Int) s' wn'):∃ vz,RunI w0 wP W1 rb ob mb eg gs gw o tag l v vz L s' wn':=by
 cases ho:s'.over
 · exact ⟨vw',r.fed0 hk (fun q e=>⟨(hfd.2 ho).win.vlt q e,by
     rcases hf with h | ⟨k,h,hk'⟩
     · exact .inl (e.trans h)
     · rw [h] at e;injection e with e;exact .inr (by omega)⟩) hfd⟩
 · exact ⟨.slice none 0 0,r.fed0 hk (fun q e=>by simp [Value.ownBlock] at e) ⟨fun h=>hfd.1 h,fun h=>by rw [ho] at h;cases h⟩⟩
theorem RunI.lined (r:RunI w0 wP W rb ob mb eg gs gw o tag l v vw L s wn) (hr:RunAt w0 W1 rb ob mb eg o tag l v' (Zs o tag l (Zs o tag l Ac.zero L) ls) (s.hunt:Int) (wn.move:Int)) (hk:Keeps (JR rb mb v) W W1) (hf:v'.ownBlock=v.ownBlock∨∃ k,v'.ownBlock=some k∧W.heap.size≤k) :
    RunI w0 wP W1 rb ob mb eg gs gw o tag l v' vw (L++ls) s wn:=by
 obtain ⟨l1,l2,l3,l4,l5⟩:=r.lt
 obtain ⟨n1,n2,n3,n4,n5,n6,n7,n8⟩:=r.ne
 rw [← Jf] at hr
 have hfd:FdEnd W1 wP.heap.size gs gw mb vw ((Zs o tag l Ac.zero (L++ls)).s:Int) ((Zs o tag l Ac.zero (L++ls)).k:Int) s wn:=r.fd.keep hk (by
     rintro (e | e | e)
     · exact n1 e.symm
     · exact n7 e.symm
     · have:=r.vf gs e;omega) (by
     rintro (e | e | e)
     · exact n2 e.symm
     · exact n8 e.symm
     · have:=r.vf gw e;omega) (fun k e=>by
     have hw:=r.wf k e
     rintro (e' | e' | e')
     · omega
     · omega
     · exact r.ap k e' e) hr.mt
 refine ⟨hr,hfd,r.kp.restrict hk (fun b hb hS=>?_),r.lt,fun q e=>?_,r.wf,fun q e=>Nat.lt_of_lt_of_le (r.wl q e) hk.size,fun q e e'=>?_,r.old,r.ne⟩
 · rcases hS with e | e | e
   · exact .inl e
   · exact .inr (.inl e)
   · exact .inr (.inr (.inr (.inr (r.vf b e))))
 · rcases hf with h | ⟨k,h,hk'⟩
   · exact r.vf q (e.trans h)
   · rw [h] at e;injection e with e;have:=r.kp.size;omega
 · rcases hf with h | ⟨k,h,hk'⟩
   · exact r.ap q (e.trans h) e'
   · rw [h] at e;injection e with e
     have:=r.wl q e'
     omega
end
end Go.Proofs.YtfdlaomnecjfeaaGreatDoor
end
section
namespace Go.Proofs.YtfdlaomnecjfeaaGreatDoor
open Go.RowKit Go.Shelf Seine.Trie Seine.Fg Seine.Eng
/-- A result's cells. -/
def Ji (v:Value) (r:Rs):Array Value:=#[v,.int .i64 r.status,.int .i64 r.err,.int .i64 r.line,.int .i64 r.cn.s,.int .i64 r.cn.l,.int .i64 r.cn.h,.int .i64 r.cn.m]
def RunPost (w:World) (r:Rs) (e:Ending) (w':World):Prop:=∃ v,e=.returned (.agg (Ji v r))∧OwnByt w' w.heap.size v r.out∧Below w.heap.size w w'
theorem Zc9 {w:World} {rb t:Nat} {c0 c1 c2 c3 c4 c5 c6 c7:Value} (b0 b1 b2 b3 b4 b5 b6 b7:Value) (h:w.heap[rb]? = some (.cells #[c0,c1,c2,c3,c4,c5,c6,c7] t (0,0))):((((((((w.setCell ⟨rb,0,none⟩ (b0)).setCell ⟨rb,1,none⟩ (b1)).setCell ⟨rb,2,none⟩ (b2)).setCell ⟨rb,3,none⟩ (b3)).setCell ⟨rb,4,none⟩ (b4)).setCell ⟨rb,5,none⟩ (b5)).setCell ⟨rb,6,none⟩ (b6)).setCell ⟨rb,7,none⟩ (b7)).heap[rb]? = some (.cells #[b0,b1,b2,b3,b4,b5,b6,b7] t (0,0))∧Keeps (fun k=>k=rb) w ((((((((w.setCell ⟨rb,0,none⟩ (b0)).setCell ⟨rb,1,none⟩ (b1)).setCell ⟨rb,2,none⟩ (b2)).setCell ⟨rb,3,none⟩ (b3)).setCell ⟨rb,4,none⟩ (b4)).setCell ⟨rb,5,none⟩ (b5)).setCell ⟨rb,6,none⟩ (b6)).setCell ⟨rb,7,none⟩ (b7)):=by
 have h0:(w.setCell ⟨rb,0,none⟩ (b0)).heap[rb]? = some (.cells #[b0,c1,c2,c3,c4,c5,c6,c7] t (0,0)):=Zi h 0 b0
 have h1:((w.setCell ⟨rb,0,none⟩ (b0)).setCell ⟨rb,1,none⟩ (b1)).heap[rb]? = some (.cells #[b0,b1,c2,c3,c4,c5,c6,c7] t (0,0)):=Zi h0 1 b1
 have h2:(((w.setCell ⟨rb,0,none⟩ (b0)).setCell ⟨rb,1,none⟩ (b1)).setCell ⟨rb,2,none⟩ (b2)).heap[rb]? = some (.cells #[b0,b1,b2,c3,c4,c5,c6,c7] t (0,0)):=Zi h1 2 b2
 have h3:((((w.setCell ⟨rb,0,none⟩ (b0)).setCell ⟨rb,1,none⟩ (b1)).setCell ⟨rb,2,none⟩ (b2)).setCell ⟨rb,3,none⟩ (b3)).heap[rb]? = some (.cells #[b0,b1,b2,b3,c4,c5,c6,c7] t (0,0)):=Zi h2 3 b3
 have h4:(((((w.setCell ⟨rb,0,none⟩ (b0)).setCell ⟨rb,1,none⟩ (b1)).setCell ⟨rb,2,none⟩ (b2)).setCell ⟨rb,3,none⟩ (b3)).setCell ⟨rb,4,none⟩ (b4)).heap[rb]? = some (.cells #[b0,b1,b2,b3,b4,c5,c6,c7] t (0,0)):=Zi h3 4 b4
 have h5:((((((w.setCell ⟨rb,0,none⟩ (b0)).setCell ⟨rb,1,none⟩ (b1)).setCell ⟨rb,2,none⟩ (b2)).setCell ⟨rb,3,none⟩ (b3)).setCell ⟨rb,4,none⟩ (b4)).setCell ⟨rb,5,none⟩ (b5)).heap[rb]? = some (.cells #[b0,b1,b2,b3,b4,b5,c6,c7] t (0,0)):=Zi h4 5 b5
 have h6:(((((((w.setCell ⟨rb,0,none⟩ (b0)).setCell ⟨rb,1,none⟩ (b1)).setCell ⟨rb,2,none⟩ (b2)).setCell ⟨rb,3,none⟩ (b3)).setCell ⟨rb,4,none⟩ (b4)).setCell ⟨rb,5,none⟩ (b5)).setCell ⟨rb,6,none⟩ (b6)).heap[rb]? = some (.cells #[b0,b1,b2,b3,b4,b5,b6,c7] t (0,0)):=Zi h5 6 b6
 have h7:((((((((w.setCell ⟨rb,0,none⟩ (b0)).setCell ⟨rb,1,none⟩ (b1)).setCell ⟨rb,2,none⟩ (b2)).setCell ⟨rb,3,none⟩ (b3)).setCell ⟨rb,4,none⟩ (b4)).setCell ⟨rb,5,none⟩ (b5)).setCell ⟨rb,6,none⟩ (b6)).setCell ⟨rb,7,none⟩ (b7)).heap[rb]? = some (.cells #[b0,b1,b2,b3,b4,b5,b6,b7] t (0,0)):=Zi h6 7 b7
 exact ⟨h7,(Keeps.trans (Keeps.trans (Keeps.trans (Keeps.trans (Keeps.trans (Keeps.trans (Keeps.trans (Zm w ⟨rb,0,none⟩ b0) (Zm _ ⟨rb,1,none⟩ b1)) (Zm _ ⟨rb,2,none⟩ b2)) (Zm _ ⟨rb,3,none⟩ b3)) (Zm _ ⟨rb,4,none⟩ b4)) (Zm _ ⟨rb,5,none⟩ b5)) (Zm _ ⟨rb,6,none⟩ b6)) (Zm _ ⟨rb,7,none⟩ b7))⟩
set_option maxRecDepth 100000 in
theorem run_wrong (w:World) (A:Option Addr) (n c:Nat) (o:Opt) (tag:Int) (B:Option Addr) (i d:Nat) (E:Option Addr) (m e:Nat) (x:Int) (hx:¬ x=0)
    (hBg:∀ v,Below w.heap.size w v→Calls Tryz.prog 65 #[.agg (Xv (.slice A n c) o tag (.slice B i d) (.slice E m e))] v fun e w'=>e=.returned (.tuple #[.pointer none,.int .i64 x])∧Below v.heap.size v w') :
    Calls Tryz.prog 32 #[.agg (Xv (.slice A n c) o tag (.slice B i d) (.slice E m e))] w (RunPost w ⟨[],2,x,0,Cn.zero⟩):=by
 have hbx:=heap_alloc_new w (.cells #[.slice A n c,.bool o.i,.bool o.w,.bool o.x,.bool o.o,.bool o.b,.bool o.v,.bool o.c,.int .i64 tag,.slice B i d,.slice E m e] 49)
 have hB1:=(Below.refl w.heap.size w).alloc (Nat.le_refl _) (.cells #[.slice A n c,.bool o.i,.bool o.w,.bool o.x,.bool o.o,.bool o.b,.bool o.v,.bool o.c,.int .i64 tag,.slice B i d,.slice E m e] 49)
 have hrs:=heap_alloc_new (w.alloc (.cells #[.slice A n c,.bool o.i,.bool o.w,.bool o.x,.bool o.o,.bool o.b,.bool o.v,.bool o.c,.int .i64 tag,.slice B i d,.slice E m e] 49)) (.cells #[.slice none 0 0,.int .i64 0,.int .i64 0,.int .i64 0,.int .i64 0,.int .i64 0,.int .i64 0,.int .i64 0] 31)
 have hB2:=hB1.alloc hB1.size (.cells #[.slice none 0 0,.int .i64 0,.int .i64 0,.int .i64 0,.int .i64 0,.int .i64 0,.int .i64 0,.int .i64 0] 31)
 replace hbx:=Zn (o':=.cells #[.slice none 0 0,.int .i64 0,.int .i64 0,.int .i64 0,.int .i64 0,.int .i64 0,.int .i64 0,.int .i64 0] 31) hbx
 rw [World.size_alloc] at hrs
 obtain ⟨W1,hW1⟩:∃ W,(w.alloc (.cells #[.slice A n c,.bool o.i,.bool o.w,.bool o.x,.bool o.o,.bool o.b,.bool o.v,.bool o.c,.int .i64 tag,.slice B i d,.slice E m e] 49)).alloc (.cells #[.slice none 0 0,.int .i64 0,.int .i64 0,.int .i64 0,.int .i64 0,.int .i64 0,.int .i64 0,.int .i64 0] 31)=W:=⟨_,rfl⟩
 rw [hW1] at hbx hrs hB2
 have cB:=As.mk (hBg W1 hB2)
 unfold Xv
 simp only [Xv] at cB
 have k0:W1.cell? ⟨w.heap.size,0,none⟩=some (.slice A n c):=Za hbx 0
 have k1:W1.cell? ⟨w.heap.size,1,none⟩=some (.bool o.i):=Za hbx 1
 have k2:W1.cell? ⟨w.heap.size,2,none⟩=some (.bool o.w):=Za hbx 2
 have k3:W1.cell? ⟨w.heap.size,3,none⟩=some (.bool o.x):=Za hbx 3
 have k4:W1.cell? ⟨w.heap.size,4,none⟩=some (.bool o.o):=Za hbx 4
 have k5:W1.cell? ⟨w.heap.size,5,none⟩=some (.bool o.b):=Za hbx 5
 have k6:W1.cell? ⟨w.heap.size,6,none⟩=some (.bool o.v):=Za hbx 6
 have k7:W1.cell? ⟨w.heap.size,7,none⟩=some (.bool o.c):=Za hbx 7
 have k8:W1.cell? ⟨w.heap.size,8,none⟩=some (.int .i64 tag):=Za hbx 8
 have k9:W1.cell? ⟨w.heap.size,9,none⟩=some (.slice B i d):=Za hbx 9
 have k10:W1.cell? ⟨w.heap.size,10,none⟩=some (.slice E m e):=Za hbx 10
 replace hW1:=As.mk hW1
 replace hB2:=As.mk hB2
 replace hrs:=As.mk hrs
 replace hbx:=As.mk hbx
 clear hB1 hBg
 have hx2:(x != 0)=true:=by simpa using hx
 go_enter Tryz.func32,Tryz.ntmps32
 go_wp2_with (first | (rw [hW1.out]))
 go_wp2_with (go_at_call 65;refine Calls.mono cB.out ?_;rintro e2 w2 ⟨rfl,hb2⟩;have hrs2:=Zc hb2 hrs.out;obtain ⟨rb2,hrb2⟩:∃ b,w.heap.size+1=b:=⟨_,rfl⟩;rw [hrb2] at hrs2 ⊢;have r0:w2.cell? ⟨rb2,0,none⟩=some (.slice none 0 0):=Za hrs2 0;have f0:w2.frozen? ⟨rb2,0,none⟩=false:=Zb hrs2 0;have r1:w2.cell? ⟨rb2,1,none⟩=some (.int .i64 0):=Za hrs2 1;have f1:w2.frozen? ⟨rb2,1,none⟩=false:=Zb hrs2 1;have r2:w2.cell? ⟨rb2,2,none⟩=some (.int .i64 0):=Za hrs2 2;have f2:w2.frozen? ⟨rb2,2,none⟩=false:=Zb hrs2 2;have r3:w2.cell? ⟨rb2,3,none⟩=some (.int .i64 0):=Za hrs2 3;have f3:w2.frozen? ⟨rb2,3,none⟩=false:=Zb hrs2 3;have r4:w2.cell? ⟨rb2,4,none⟩=some (.int .i64 0):=Za hrs2 4;have f4:w2.frozen? ⟨rb2,4,none⟩=false:=Zb hrs2 4;have r5:w2.cell? ⟨rb2,5,none⟩=some (.int .i64 0):=Za hrs2 5;have f5:w2.frozen? ⟨rb2,5,none⟩=false:=Zb hrs2 5;have r6:w2.cell? ⟨rb2,6,none⟩=some (.int .i64 0):=Za hrs2 6;have f6:w2.frozen? ⟨rb2,6,none⟩=false:=Zb hrs2 6;have r7:w2.cell? ⟨rb2,7,none⟩=some (.int .i64 0):=Za hrs2 7;have f7:w2.frozen? ⟨rb2,7,none⟩=false:=Zb hrs2 7;replace hb2:=As.mk hb2;replace hrs2:=As.mk hrs2;replace hrb2:=As.mk hrb2)
 obtain ⟨W9,hW9⟩:∃ W,((((((((w2.setCell ⟨rb2,0,none⟩ (.slice none 0 0)).setCell ⟨rb2,1,none⟩ (.int .i64 2)).setCell ⟨rb2,2,none⟩ (.int .i64 x)).setCell ⟨rb2,3,none⟩ (.int .i64 0)).setCell ⟨rb2,4,none⟩ (.int .i64 0)).setCell ⟨rb2,5,none⟩ (.int .i64 0)).setCell ⟨rb2,6,none⟩ (.int .i64 0)).setCell ⟨rb2,7,none⟩ (.int .i64 0))=W:=⟨_,rfl⟩
 obtain ⟨q1,q2⟩:=Zc9 (.slice none 0 0) (.int .i64 2) (.int .i64 x) (.int .i64 0) (.int .i64 0) (.int .i64 0) (.int .i64 0) (.int .i64 0) hrs2.out
 rw [hW9] at q1 q2 ⊢
 clear hW9
 have hbe:Below w.heap.size w W9:=by
  have h1:Below w.heap.size w w2:=Ze hB2.out hb2.out
  exact h1.trans (q2.below (fun k hk e=>by have:=hrb2.out;have e:k=rb2:=e;omega) h1.size)
 have z0:=Za q1 0
 have z1:=Za q1 1
 have z2:=Za q1 2
 have z3:=Za q1 3
 have z4:=Za q1 4
 have z5:=Za q1 5
 have z6:=Za q1 6
 have z7:=Za q1 7
 exact bodyPost_ret (v:=.agg #[.slice none 0 0,.int .i64 2,.int .i64 x,.int .i64 0,.int .i64 0,.int .i64 0,.int .i64 0,.int .i64 0]) (by simp [results,Tryz.results32,go_sem,z0,z1,z2,z3,z4,z5,z6,z7]) rfl ⟨.slice none 0 0,rfl,World.ownsRow_nil _ _ _ _,hbe⟩
def okR (o:Opt) (tag:Int) (l:List Txt) (input:Txt) (cuts:List Int):Rs :=
 if (Zq St.zero input).1.over=true then
  ⟨(Zs o tag l Ac.zero (Qu input)).out,2,15,((Zq St.zero input).1.num:Int),
   ⟨(Zs o tag l Ac.zero (Qu input)).s,(Zs o tag l Ac.zero (Qu input)).k,(Zq St.zero input).1.hunt,(QI St.zero Wn.zero (Zv input cuts)).move⟩⟩
 else
  ⟨if o.c=true then dig ((Zs o tag l Ac.zero (Qu input)).n:Int)++[10] else (Zs o tag l Ac.zero (Qu input)).out,
   if (Zs o tag l Ac.zero (Qu input)).n=0 then 1 else 0,0,0,
   ⟨(Zs o tag l Ac.zero (Qu input)).s,(Zs o tag l Ac.zero (Qu input)).k,(Zq St.zero input).1.hunt,(QI St.zero Wn.zero (Zv input cuts)).move⟩⟩
theorem runF_ok' (o:Opt) (tag:Int) (file input:Txt) (cuts:List Int) (h:Qn o tag file=0):QG o tag file input cuts=okR o tag (Z6 o.i file) input cuts:=by
 unfold QG okR;rw [if_neg (by simp [h])]
theorem runF_bad (o:Opt) (tag:Int) (file input:Txt) (cuts:List Int) (h:¬ Qn o tag file=0):QG o tag file input cuts=⟨[],2,Qn o tag file,0,Cn.zero⟩:=by
 unfold QG;rw [if_pos h]
/-- The stream and the run at the start. -/
theorem RunI.start {w0 W3 wP:World} {rb ob mb eg gs gw:Nat} {o:Opt} {tag:Int} {l:List Txt} (hT:Tab w0) (hb:BegAt w0 W3 rb ob mb eg o tag l) {w4:World} (h4:Below W3.heap.size W3 w4) (hS:Ql w4 gs gw mb 0 0 false 0) (hW:WinAt w4 W3.heap.size gw mb (.slice none 0 0) [] 0)
    (hgs:W3.heap.size≤gs) (hgw:W3.heap.size≤gw) (h5:Below w4.heap.size w4 wP):RunI w0 wP wP rb ob mb eg gs gw o tag l (.slice none 0 0) (.slice none 0 0) [] St.zero Wn.zero:=by
 have hm:=(hb.mt.below h4).below h5
 have hr:=Zc h5 (Zc h4 hb.run)
 have ho:=Zc h5 (Zc h4 hb.box)
 have hs:=Zc h5 hS
 have hw:=Zc h5 hW.1
 refine ⟨⟨hr,ho,?_,hb.rbl,hb.obl,hb.mbl,hb.bel.trans ((h4.trans (h5.mono h4.size)).mono hb.bel.size),hb.eng,hT,World.ownsRow_nil _ _ _ _⟩,⟨(fun h=>by cases h),fun _=>⟨hs,⟨hw,[],.inl ⟨rfl,rfl⟩,rfl,rfl⟩,?_,rfl,MvOk.zero,rfl,by simp [St.zero],by simp [Wn.zero],by simp [St.zero],by simp [St.zero]⟩⟩,Keeps.refl _ _,
  ⟨Zf hr,Zf ho,Zf hm,Zf hs,Zf hw⟩,(fun q e=>by simp [Value.ownBlock] at e),(fun q e=>by simp [Value.ownBlock] at e),(fun q e=>by simp [Value.ownBlock] at e),(fun q e=>by simp [Value.ownBlock] at e),⟨by have:=hb.bel.size;omega,by have:=hb.bel.size;omega⟩,
  ⟨Zp hr hs (by decide),Zp hr hw (by decide),Zp ho hs (by decide),Zp ho hw (by decide),Zp hr hm (by decide),Zp ho hm (by decide),Zp hm hs (by decide),Zp hm hw (by decide)⟩⟩
 · exact hm
 · exact hm
/-- What a run needs of its pieces. -/
theorem ZdN {input:Txt} {cuts:List Int} (k:Nat):(QI St.zero Wn.zero ((Zv input cuts).take k)).move≤3 * input.length:=by
 have h1:=moves_le St.zero ((Zv input cuts).take k)
 have h2:((Zv input cuts).take k).flatten.length≤(Zv input cuts).flatten.length:=by
  conv=>rhs;rw [← List.take_append_drop k (Zv input cuts),List.flatten_append,List.length_append]
  omega
 rw [Ye] at h2
 omega
theorem Za3 {input:Txt} {cuts:List Int} (k:Nat):(Qm St.zero ((Zv input cuts).take k)).1.hunt≤input.length:=by
 rw [Js]
 have h1:=(Zc3 ((Zv input cuts).take k).flatten St.zero).2
 have h2:((Zv input cuts).take k).flatten.length≤(Zv input cuts).flatten.length:=by
  conv=>rhs;rw [← List.take_append_drop k (Zv input cuts),List.flatten_append,List.length_append]
  omega
 rw [Ye] at h2
 have e:St.zero.hunt=0:=rfl
 omega
theorem feedP_ok {input:Txt} (hl:input.length≤5000) {cuts:List Int} (k:Nat):LnOk (Qm St.zero ((Zv input cuts).take k)).2:=by
 rw [Js]
 refine ZfH ?_
 have h2:((Zv input cuts).take k).flatten.length≤(Zv input cuts).flatten.length:=by
  conv=>rhs;rw [← List.take_append_drop k (Zv input cuts),List.flatten_append,List.length_append]
  omega
 rw [Ye] at h2
 omega
theorem piece_le {input:Txt} {cuts:List Int} {k:Nat} (hk:k<(Zv input cuts).length):((Zv input cuts).getD k []).length≤input.length:=by
 have h:(Zv input cuts).flatten.length=input.length:=by rw [Ye]
 rw [List.getD_eq_getElem?_getD,List.getElem?_eq_getElem hk]
 have h2:∀ (ps:List Txt) (k:Nat) (hk:k<ps.length),ps[k].length≤ps.flatten.length:=fun ps k hk=>by
  conv=>rhs;rw [← List.take_append_drop k ps,List.flatten_append,List.drop_eq_getElem_cons hk,List.flatten_cons]
  simp;omega
 have:=h2 _ k hk
 simp only [Option.getD_some]
 omega
end Go.Proofs.YtfdlaomnecjfeaaGreatDoor
end
section
namespace Go.Proofs.YtfdlaomnecjfeaaGreatDoor
open Go.RowKit Seine.Trie Seine.Eng Seine.Fg
theorem lineA_tag {o:Opt} {s t:Int} {l:List Txt} {a b:Ac} (x:Ln) (h1:a.out=b.out) (h2:a.n=b.n):(QT o s l a x).out=(QT o t l b x).out∧(QT o s l a x).n=(QT o t l b x).n:=by
 constructor <;> simp only [QT,h1,h2]
theorem ZdO {o:Opt} {s t:Int} {l:List Txt}:∀ (ls:List Ln) {a b:Ac},a.out=b.out→a.n=b.n→(Zs o s l a ls).out=(Zs o t l b ls).out∧(Zs o s l a ls).n=(Zs o t l b ls).n
 | [],a,b,h1,h2=>⟨h1,h2⟩
 | x::r,a,b,h1,h2=>by
   have h:=lineA_tag (o:=o) (s:=s) (t:=t) (l:=l) x h1 h2
   exact ZdO r h.1 h.2
theorem wrongF_in (t:Int) (l:List Txt):Qe t l=0∨Qe t l=11∨Qe t l=13∨Qe t l=14:=by
 unfold Qe
 split
 · exact .inr (.inl rfl)
 · split
   · exact .inr (.inr (.inl rfl))
   · split
     · exact .inr (.inr (.inr rfl))
     · exact .inl rfl
theorem errF_in (o:Opt) (t:Int) (f:Txt):Qn o t f=0∨(10≤Qn o t f∧Qn o t f≤14):=by
 have:=wrongF_in t (Z6 o.i f)
 unfold Qn
 split
 · omega
 · split
   · omega
   · split <;> omega
/-- Two results are the same, but for what was counted. -/
def Zb3 (x y:Rs):Prop:=x.out=y.out∧x.status=y.status∧x.err=y.err∧x.line=y.line
theorem runF_cuts (o:Opt) (t:Int) (f i:Txt) (c d:List Int):Zb3 (QG o t f i c) (QG o t f i d)∧(QG o t f i c).cn.s=(QG o t f i d).cn.s∧(QG o t f i c).cn.l=(QG o t f i d).cn.l:=by
 unfold QG Zb3
 split
 · exact ⟨⟨rfl,rfl,rfl,rfl⟩,rfl,rfl⟩
 · split <;> exact ⟨⟨rfl,rfl,rfl,rfl⟩,rfl,rfl⟩
theorem runF_tags {o:Opt} {s t:Int} {f i:Txt} {c:List Int} (hs:Qn o s f=0) (ht:Qn o t f=0):Zb3 (QG o s f i c) (QG o t f i c):=by
 obtain ⟨h1,h2⟩:=ZdO (o:=o) (s:=s) (t:=t) (l:=Z6 o.i f) (Qu i) (a:=Ac.zero) (b:=Ac.zero) rfl rfl
 unfold QG Zb3
 rw [if_neg (show ¬ Qn o s f≠0 by simp [hs]),if_neg (show ¬ Qn o t f≠0 by simp [ht])]
 split <;> simp [h1,h2]
theorem runF_err (o:Opt) (t:Int) (f i:Txt) (c:List Int):(QG o t f i c).err=if Qn o t f≠0 then Qn o t f else if (Zq St.zero i).1.over=true then 15 else 0:=by
 unfold QG
 split
 · rfl
 · split <;> rfl
theorem ZeQ {o:Opt} {t:Int} {f i:Txt} {c:List Int} (h:¬ ((QG o t f i c).err≠0∧(QG o t f i c).err≠15)):Qn o t f=0:=by
 by_cases he:Qn o t f=0
 · exact he
 · rw [runF_err,if_pos he] at h
   have:=errF_in o t f
   omega
end Go.Proofs.YtfdlaomnecjfeaaGreatDoor
end
section
namespace Go.Proofs.YtfdlaomnecjfeaaGreatDoor
open Go.RowKit Seine.Trie Seine.Eng Seine.Fg
/-- What a line prints, if it is selected. -/
def ZfT (o:Opt) (l:List Txt) (x:Ln):Txt:=if YT o l x.text=true then Yg o (x.off:Int) x.text (JP o l x.text) else []
theorem ZdP (o:Opt) (t:Int) (l:List Txt):∀ (ls:List Ln) (a:Ac),(Zs o t l a ls).out=a.out++(ls.map (ZfT o l)).flatten∧(Zs o t l a ls).n=a.n+(ls.filter fun x=>YT o l x.text).length
 | [],a=>by simp [Zs]
 | x::r,a=>by
   have h:=ZdP o t l r (QT o t l a x)
   have e:Zs o t l a (x::r)=Zs o t l (QT o t l a x) r:=rfl
   rw [e,h.1,h.2]
   constructor
   · simp only [QT,ZfT,List.map_cons,List.flatten_cons,List.append_assoc]
   · simp only [QT,List.filter_cons]
     split <;> simp <;> omega
theorem ZcN (o:Opt) (t:Int) (l:List Txt) (ls:List Ln):(Zs o t l Ac.zero ls).out=(ls.map (ZfT o l)).flatten∧(Zs o t l Ac.zero ls).n=(ls.filter fun x=>YT o l x.text).length:=by
 obtain ⟨h1,h2⟩:=ZdP o t l ls Ac.zero
 rw [h1,h2]
 exact ⟨rfl,Nat.zero_add _⟩
end Go.Proofs.YtfdlaomnecjfeaaGreatDoor
end
