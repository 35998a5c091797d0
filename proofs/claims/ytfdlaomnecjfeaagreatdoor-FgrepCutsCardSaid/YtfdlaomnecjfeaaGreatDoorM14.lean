/- Joined texts: Stream4, Stream5, Admit2, Admit3, Opts, Args4, Range, LinesAll. -/
import Derived.Test.YtfdlaomnecjfeaaGreatDoorM13
import Derived.Test.YtfdlaomnecjfeaaGreatDoorM12
import Derived.Test.YtfdlaomnecjfeaaGreatDoorM1
import Derived.RangeFuncNested
import Derived.RangeFuncBound
import Derived.RangeFuncCalls
import Derived.RangeFuncLeaves
import Derived.Shelf.Abstract
import Derived.WalkKit
import Derived.OwnWalkIn
import Derived.TacticsInMore
import Derived.LoopNIn
import Derived.LoopIn
import Derived.Test.YtfdlaomnecjfeaaGreatDoorM2
set_option linter.unusedVariables false
set_option linter.unusedSimpArgs false
section
namespace Go.Proofs.YtfdlaomnecjfeaaGreatDoor
open Go.RowKit Seine.Trie Seine.Fg
theorem FdAt.start {w W0:World} {base gs gw g ob sb:Nat} {v:Value} {cs cl:Int} {s:St} {wn:Wn} (h:FdAt w base gs gw g v cs cl s wn) (hb:Below w.heap.size w W0) (b:Txt)
    (h1:W0.heap[ob]? = some (.cells #[.slice none 0 0] 127 (0,0))) (h2:W0.heap[sb]? = some (.cells #[.pointer (some ⟨gs,0,none⟩)] 118 (0,0))) :
    FdIn w W0 base gs gw g ob sb v cs cl s wn b 0 0 s wn s.cur v (.slice none 0 0) [] :=
 { le:=Nat.le_refl _,ps:=by simp,pl:=by simp,pw:=by simp,cur:=by rw [ZbN];simp,nov:=h.nov,held:=h.held,mvo:=h.mv,len:=h.cur,room:=h.room,off:=h.off,num:=h.num,hunt:=rfl,ll:=Nat.le_refl _,
   st:=Zc hb h.st,win:=h.win.below hb,mt:=h.mt.below hb,box:=h1,sbx:=h2,own:=OwnLns.nil _ _ _,kp:=Keeps.of_below hb _,fr:=.inl rfl }
/-- What Feed leaves: a line was too long, or more may come. -/
def FdEnd (w:World) (base gs gw g:Nat) (v:Value) (cs cl:Int) (s:St) (wn:Wn):Prop :=
 (s.over=true→Ql w gs gw g s.num s.off true 15∧MtAt w g ⟨cs,cl,(s.hunt:Int),(wn.move:Int)⟩)∧(s.over=false→FdAt w base gs gw g v cs cl s wn)
theorem ZcG {w w1:World} {a b c:Value} (h:b.ownBlock=a.ownBlock∨∃ k,b.ownBlock=some k∧w.heap.size≤k) (hs:w.heap.size≤w1.heap.size) (k:c.ownBlock=b.ownBlock∨∃ k,c.ownBlock=some k∧w1.heap.size≤k):c.ownBlock=a.ownBlock∨∃ k,c.ownBlock=some k∧w.heap.size≤k:=by
 rcases k with k | ⟨q,e,hq⟩
 · rw [k];exact h
 · exact .inr ⟨q,e,by omega⟩
/-- The line was told. -/
theorem FdIn.told {w wr w2 w3:World} {base gs gw g ob sb:Nat} {v0 v v3:Value} {cs cl:Int} {s0 s:St} {wn0 wn:Wn} {b B:Txt} {k f:Nat} {vo vo3:Value} {L:List Ln} (h:FdIn w wr base gs gw g ob sb v0 cs cl s0 wn0 b k f s wn B v vo L) (hk:k<b.length) (hc:b.getD k 0=10)
    (hob:w.heap.size≤ob) (hsb:w.heap.size≤sb) (hne:sb≠ob) (hk2:Keeps (fun k=>k=g) wr w2)
    (h1:w3.heap[ob]? = some (.cells #[vo3] 127 (0,0))) (h2:OwnLns w.heap.size w3 vo3 v3 (L++[⟨s.num,s.off,B++QB b f k⟩])) (h3:Ql w3 gs gw g (s.num+1) (s.off+(B++QB b f k).length+1) false 0)
    (h4:WinAt w3 base gw g v3 [] (ZW ⟨B.length,wn.room,0⟩ (QB b f k).length).room) (h5:MtAt w3 g ⟨cs,cl,(s.hunt:Int)+1,(wn.move:Int)+((ZW ⟨B.length,wn.room,0⟩ (QB b f k).length).move:Int)⟩)
    (h6:Keeps (fun k=>k=ob∨k=gs∨Qo gw g v k∨some k=vo.ownBlock) w2 w3) (h7:v3.ownBlock=v.ownBlock∨∃ k,v3.ownBlock=some k∧w2.heap.size≤k) :
    ∃ s' wn',FdIn w w3 base gs gw g ob sb v0 cs cl s0 wn0 b (k+1) (k+1) s' wn' [] v3 vo3 (L++[⟨s.num,s.off,B++QB b f k⟩]):=by
 have hpl:=QV h.le (Nat.le_of_lt hk)
 rw [hpl] at h4 h5
 have hw:wn=⟨B.length,wn.room,wn.move⟩:=by have:=h.held;cases wn;simp only at this;rw [this]
 have hz:=lineW_zero B.length wn.room wn.move (k - f)
 rw [← hw] at hz
 have hs2:wr.heap.size≤w2.heap.size:=hk2.size
 have hs1:w.heap.size≤wr.heap.size:=h.kp.size
 have hvo:∀ q,some q=vo.ownBlock→w.heap.size≤q∧∃ c,w2.heap[q]? = some (.cells c 206 (0,0)):=fun q hq=>by
  obtain ⟨vs,_,ho,_⟩:=h.own
  obtain ⟨c,hcc⟩:=QE ho hq
  exact ⟨(ZM ho hq).1,c,Zd hcc hk2 (Zp hcc h.mt (by decide))⟩
 have hb2:w2.heap[sb]? = some (.cells #[.pointer (some ⟨gs,0,none⟩)] 118 (0,0)):=Zd h.sbx hk2 (Zp h.sbx h.mt (by decide))
 have hS2:=Zd h.st hk2 (Zp h.st h.mt (by decide))
 have hW2:=h.win.keep hk2 (Zp h.win.1 h.mt (by decide)) (h.win.vne h.mt (by decide))
 refine ⟨_,_,h.nl hk hc hob h1 h2 h3 (by rw [hz.2];exact h4) ?_ ?_ (ZcG h.fr (by omega) h7) ?_⟩
 · have e:(((ZW wn (k - f)).move:Nat):Int)=(wn.move:Int)+((ZW ⟨B.length,wn.room,0⟩ (k - f)).move:Int):=by rw [hz.1];push_cast;rfl
   rw [e];exact h5
 · refine (h.kp.restrict hk2 (fun q _ hq=>.inr (.inr (.inl hq)))).restrict h6 (fun q hq e=>?_)
   rcases e with e | e | (e | e | e) | e
   · omega
   · exact .inl e
   · exact .inr (.inl e)
   · exact .inr (.inr (.inl e))
   · rcases h.fr with e' | ⟨r,e',hr⟩
     · exact .inr (.inr (.inr (by rw [← e'];exact e)))
     · rw [e'] at e;injection e with e;omega
   · have:=(hvo q e).1;omega
 · refine Zd hb2 h6 ?_
   rintro (e | e | (e | e | e) | e)
   · exact hne e
   · exact Zp hb2 hS2 (by decide) e
   · exact Zp hb2 hW2.1 (by decide) e
   · exact Zp h.sbx h.mt (by decide) e
   · exact hW2.vne hb2 (by decide) _ e rfl
   · obtain ⟨_,c,hcc⟩:=hvo _ e
     exact Zp hb2 hcc (by decide) rfl
/-- The line is too long. -/
theorem FdIn.full {w wr:World} {base gs gw g ob sb:Nat} {v0 v:Value} {cs cl:Int} {s0 s:St} {wn0 wn:Wn} {b B:Txt} {k f:Nat} {vo:Value} {L:List Ln} (h:FdIn w wr base gs gw g ob sb v0 cs cl s0 wn0 b k f s wn B v vo L) (hk:k<b.length) (hc:b.getD k 0≠10) (hl:¬ B.length+(k - f)<400) :
    (Zq s0 b).1=⟨s.cur,s.num,s.off,s.hunt+1,true⟩∧(Zq s0 b).2=L∧Q4 wn0 0 b=wn:=by
 have e:=ZbO hk
 have hcl:s.cur.length=B.length+(k - f):=by rw [h.cur,List.length_append,QV h.le (by omega)]
 have es:ZL s (b.getD k 0)=(⟨s.cur,s.num,s.off,s.hunt+1,true⟩,[]):=by
  unfold ZL;rw [if_neg (show ¬ s.over=true by simp [h.nov]),if_neg hc,if_pos (by omega)]
 have hps:=h.ps
 have hpl:=h.pl
 have hpw:=h.pw
 rw [e] at hps hpl hpw
 simp only [Zq] at hps hpl
 rw [es,Jr (b.drop (k+1)) ⟨s.cur,s.num,s.off,s.hunt+1,true⟩ rfl] at hps hpl
 rw [show Q4 wn (k - f) (b.getD k 0::b.drop (k+1))=wn from (by show (if b.getD k 0=10 then _ else if 400≤wn.held+(k - f) then _ else _)=_;rw [if_neg hc,if_pos (by rw [h.held];omega)])] at hpw
 exact ⟨hps,by rw [hpl];simp,hpw⟩
/-- The piece's end. -/
theorem FdIn.fin {w wr:World} {base gs gw g ob sb:Nat} {v0 v:Value} {cs cl:Int} {s0 s:St} {wn0 wn:Wn} {b B:Txt} {f:Nat} {vo:Value} {L:List Ln} (h:FdIn w wr base gs gw g ob sb v0 cs cl s0 wn0 b b.length f s wn B v vo L) :
    (Zq s0 b).1=s∧(Zq s0 b).2=L∧Q4 wn0 0 b=Z8 wn (b.length - f):=by
 have hps:=h.ps
 have hpl:=h.pl
 have hpw:=h.pw
 rw [List.drop_length] at hps hpl hpw
 exact ⟨hps,by rw [hpl];simp [Zq],hpw⟩
/-- What is left of the piece is held. -/
theorem FdIn.done {w wr w3:World} {base gs gw g ob sb:Nat} {v0 v v3:Value} {cs cl:Int} {s0 s:St} {wn0 wn:Wn} {b B:Txt} {f n:Nat} {vo:Value} {L:List Ln} (hn:b.length=n) (h:FdIn w wr base gs gw g ob sb v0 cs cl s0 wn0 b n f s wn B v vo L) (hob:w.heap.size≤ob)
    (h4:WinAt w3 base gw g v3 (B++QB b f n) (Z8 ⟨B.length,wn.room,0⟩ (n - f)).room) (h5:MtAt w3 g ⟨cs,cl,(s.hunt:Int),(wn.move:Int)+((Z8 ⟨B.length,wn.room,0⟩ (n - f)).move:Int)⟩)
    (h6:Keeps (Qo gw g v) wr w3) (h7:v3.ownBlock=v.ownBlock∨∃ k,v3.ownBlock=some k∧wr.heap.size≤k) :
    w3.heap[ob]? = some (.cells #[vo] 127 (0,0))∧OwnLns w.heap.size w3 vo v3 (Zq s0 b).2∧Keeps (fun k=>k=gs∨Qo gw g v0 k) w w3∧(v3.ownBlock=v0.ownBlock∨∃ k,v3.ownBlock=some k∧w.heap.size≤k)∧FdEnd w3 base gs gw g v3 cs cl (Zq s0 b).1 (Q4 wn0 0 b):=by
 subst hn
 obtain ⟨f1,f2,f3⟩:=h.fin
 have hs1:w.heap.size≤wr.heap.size:=h.kp.size
 have hw:wn=⟨B.length,wn.room,wn.move⟩:=by have:=h.held;cases wn;simp only at this;rw [this]
 have hz:=ZeG B.length wn.room wn.move (b.length - f)
 rw [← hw] at hz
 have hpl:=QV h.le (Nat.le_refl _)
 have hcl:s.cur.length=B.length+(b.length - f):=by rw [h.cur,List.length_append,hpl]
 have hx:∀ {q t:Nat} {c:Array Value} {fr:Nat × Nat},wr.heap[q]? = some (.cells c t fr)→t≠268→t≠213→t≠5→¬ Qo gw g v q:=fun hq t1 t2 t3 e=>by
  rcases e with e | e | e
  · exact Zp hq h.win.1 t1 e
  · exact Zp hq h.mt t2 e
  · exact h.win.vne hq t3 _ e rfl
 have hO:=h.own
 obtain ⟨vs,a1,a2,a3⟩:=hO
 have hO3:OwnLns w.heap.size w3 vo v3 L:=by
  refine ⟨vs,a1,Zj a2 h6 (fun q c _ hq _=>hx hq (by decide) (by decide) (by decide)),fun i hi=>?_⟩
  obtain ⟨u,b1,b2,b3⟩:=a3 i hi
  refine ⟨u,b1,Zj b2 h6 (fun q c _ hq e=>?_),fun k hk e=>?_⟩
  · rintro (e' | e' | e')
    · exact Zp hq h.win.1 (by decide) e'
    · exact Zp hq h.mt (by decide) e'
    · exact b3 q e e'
  · rcases h7 with h7 | ⟨r,h7,hr⟩
    · exact b3 k hk (e.trans h7)
    · rw [h7] at e
      injection e with e
      have:=(ZM b2 hk).2
      omega
 refine ⟨Zd h.box h6 (hx h.box (by decide) (by decide) (by decide)),by rw [f2];exact hO3,h.kp.restrict h6 (fun q hq e=>?_),ZcG h.fr hs1 h7,?_⟩
 · rcases e with e | e | e
   · exact .inr (.inl e)
   · exact .inr (.inr (.inl e))
   · rcases h.fr with e' | ⟨r,e',hr⟩
     · exact .inr (.inr (.inr (by rw [← e'];exact e)))
     · rw [e'] at e;injection e with e;omega
 · rw [f1,f3]
   refine ⟨fun e=>(by rw [h.nov] at e;cases e),fun _=>?_⟩
   refine { st:=Zd h.st h6 (hx h.st (by decide) (by decide) (by decide)),win:=by rw [hz.2,h.cur];exact h4,mt:=?_,held:=by rw [ZeE,h.held,hcl],mv:=h.mvo.add,nov:=h.nov,cur:=h.len,room:=addW_room8 h.room (by rw [h.held,← hcl];exact h.len),off:=h.off,num:=h.num }
   have e:(((Z8 wn (b.length - f)).move:Nat):Int)=(wn.move:Int)+((Z8 ⟨B.length,wn.room,0⟩ (b.length - f)).move:Int):=by rw [hz.1];push_cast;rfl
   rw [e];exact h5
set_option maxRecDepth 100000 in
set_option maxHeartbeats 6400000 in
theorem sfeed_calls (w:World) (base gs gw g:Nat) (v:Value) (cs cl:Int) (s:St) (wn:Wn) (h:FdAt w base gs gw g v cs cl s wn) (hh:s.hunt≤1000000) (hbase:base≤w.heap.size)
    (A:Option Addr) (c:Nat) (b:Txt) (hb:Byt w A b) (hc:b.length≤c) (hl:b.length≤100000) (hav:b≠[]→∀ ad,A=some ad→some ad.block≠v.ownBlock) :
    Calls Tryz.prog 69 #[.pointer (some ⟨gs,0,none⟩),.slice A b.length c] w fun e w'=>∃ vo v',e=.returned vo∧OwnLns w.heap.size w' vo v' (Zq s b).2∧Keeps (fun k=>k=gs∨Qo gw g v k) w w' ∧
     (v'.ownBlock=v.ownBlock∨∃ k,v'.ownBlock=some k∧w.heap.size≤k) ∧
     FdEnd w' base gs gw g v' cs cl (Zq s b).1 (Q4 wn 0 b):=by
 have hA:=As.mk h
 have hs5:w.cell? ⟨gs,5,none⟩=some (.bool false):=Za h.st 5
 have hgsl:=Zf h.st
 have hbK:=As.mk (fun (wr:World) (hk:Keeps (fun k=>k=gs∨Qo gw g v k) w wr)=>(Byt.keepNot hb hk (fun hne ad e=>by
  rintro (q | q | q | q)
  · exact Byt.farOf hb hne h.st (by intro y hy n e;subst e;simp at hy) ad e q
  · exact Byt.farOf hb hne h.win.1 (by
      intro y hy n e
      subst e
      obtain ⟨full,hr,_⟩:=h.win.2
      obtain ⟨Av,hv,_⟩:=hr.byt
      rw [hv] at hy
      simp at hy) ad e q
  · exact Byt.farOf hb hne h.mt (by intro y hy n e;subst e;simp [Qr] at hy) ad e q
  · exact hav hne ad e q):Byt wr A b))
 obtain ⟨n,hn⟩:∃ n,b.length=n:=⟨_,rfl⟩
 rw [hn] at hc hl ⊢
 replace hn:=As.mk hn
 obtain ⟨z,hz⟩:∃ z,w.heap.size=z:=⟨_,rfl⟩
 rw [hz] at hgsl
 have hB0:Below w.heap.size w ((w.alloc (.cells #[.pointer (some ⟨gs,0,none⟩)] 118)).alloc (.cells #[.slice none 0 0] 127)):=((Below.refl _ _).alloc (Nat.le_refl _) _).alloc (by simp) _
 have hsb0:=Zn (o':=.cells #[.slice none 0 0] 127) (heap_alloc_new w (.cells #[.pointer (some ⟨gs,0,none⟩)] 118))
 have hob0:=Q8 w (.cells #[.pointer (some ⟨gs,0,none⟩)] 118) (.cells #[.slice none 0 0] 127)
 have hst:=As.mk (h.start hB0 b hob0 hsb0)
 rw [hz] at hst
 have hmf:∀ (fn:Fn) (first cap:Array Value) (w:World),(Instr.makeFunc fn first cap).run Tryz.prog w=.ok (.func fn first cap) w:=fun _ _ _ _=>rfl
 have hmA:=h.mt
 have g0:(w.alloc (.cells #[.pointer (some ⟨gs,0,none⟩)] 118)).cell? ⟨gs,5,none⟩=some (.bool false):=Za (Zn h.st) 5
 have g1:((w.alloc (.cells #[.pointer (some ⟨gs,0,none⟩)] 118)).alloc (.cells #[.slice none 0 0] 127)).cell? ⟨gs,0,none⟩=some (.pointer (some ⟨g,0,none⟩)):=Za (Zn (Zn h.st)) 0
 obtain ⟨W0,hW0⟩:∃ W,(w.alloc (.cells #[.pointer (some ⟨gs,0,none⟩)] 118)).alloc (.cells #[.slice none 0 0] 127)=W:=⟨_,rfl⟩
 rw [hW0] at hst
 replace hW0:=As.mk hW0
 replace hz:=As.mk hz
 clear h hb hB0 hsb0 hob0 hav
 go_enter Tryz.func69,Tryz.ntmps69
 go_wp2
 rw [show (w.alloc (.cells #[.pointer (some ⟨gs,0,none⟩)] 118)).alloc (.cells #[.slice none 0 0] 127)=W0 from hW0.out]
 rw [hz.out]
 clear hW0 g0 g1
 go_loopw [8,28] (fun vf i wr=>∃ (k f:Nat) (s2:St) (wn2:Wn) (B:Txt) (v2 vo:Value) (L:List Ln),k≤n∧i=.int .i64 k∧vf=.int .i64 f∧As (FdIn w wr base gs gw g (z+1) z v cs cl s wn b k f s2 wn2 B v2 vo L)) (fun _ i _=>n - (intOf i).toNat)
 case atStart=>exact ⟨0,0,s,wn,s.cur,v,_,[],Nat.zero_le _,rfl,rfl,hst⟩
 case round =>
  obtain ⟨k,f,s2,wn2,B,v2,vo,L,hk,rfl,rfl,hI⟩:=hrel
  have hsw:w.heap.size≤wr.heap.size:=hI.out.kp.size
  have hzo:=hz.out
  have x0:wr.cell? ⟨z,0,none⟩=some (.pointer (some ⟨gs,0,none⟩)):=Za hI.out.sbx 0
  have x1:wr.cell? ⟨z+1,0,none⟩=some vo:=Za hI.out.box 0
  by_cases hlt:k<n
  · have hkl:k<b.length:=by rw [hn.out];exact hlt
    have hbr:=hbK.out wr hI.out.kp
    have hhk:=hI.out.hunt
    have hmv:=MvOk.move_le hI.out.mvo
    have hle:=hI.out.le
    have hhl:=hI.out.len
    have cR:=As.mk (mread_calls wr g ⟨cs,cl,(s2.hunt:Int),(wn2.move:Int)⟩ hI.out.mt (by simp only;omega) (by simp only;omega) A c b hbr k hkl)
    rw [hn.out] at cR
    obtain ⟨ad,rfl,_⟩:=Byt.at_ hbr hkl
    by_cases hc10:b.getD k 0=10
    · rw [hc10] at cR
      have hbp:=As.mk (fun (w2:World) (hk2:Keeps (fun k=>k=g) wr w2)=>(Byt.piece2 (hbK.out w2 (hI.out.kp.restrict hk2 (fun q _ hq=>.inr (.inr (.inl hq))))) f (k - f):Byt w2 (some (ad.add f)) (QB b f k)))
      have hcut:=QV hle (Nat.le_of_lt hkl)
      have hcur:=congrArg List.length hI.out.cur
      rw [List.length_append,hcut] at hcur
      have cT:=As.mk (fun (w2:World) (hk2:Keeps (fun k=>k=g) wr w2) (hm2:MtAt w2 g ⟨cs,cl,(s2.hunt:Int)+1,(wn2.move:Int)⟩)=>(by
       have hs2:wr.heap.size≤w2.heap.size:=hk2.size
       have:=tell_calls w2 base gs gw g v2 B wn2.room s2.num s2.off false 0 ⟨cs,cl,(s2.hunt:Int)+1,(wn2.move:Int)⟩ (Zd hI.out.st hk2 (Zp hI.out.st hI.out.mt (by decide))) (hI.out.win.keep hk2 (Zp hI.out.win.1 hI.out.mt (by decide)) (hI.out.win.vne hI.out.mt (by decide))) hm2
        (by simp only;omega) (by simp only;omega) (by have:=hI.out.room;omega) (some (ad.add f)) (c - f) (QB b f k) (hbp.out w2 hk2) (by omega) (by omega) (by have:=hI.out.num;omega) (by have:=hI.out.off;omega) (z+1) z w.heap.size vo L
        (Zd hI.out.box hk2 (Zp hI.out.box hI.out.mt (by decide))) (Zd hI.out.sbx hk2 (Zp hI.out.sbx hI.out.mt (by decide))) (hI.out.own.keep hk2 (fun q c hq _=>Zp hq hI.out.mt (by decide)) (fun q c hq _=>Zp hq hI.out.mt (by decide))) (by have:=hI.out.ll;omega) (by omega)
       rw [hcut] at this
       exact this))
      have hcf:¬ c=f:=by omega
      have hff:(f:Int)≤(k:Int):=by omega
      have hkc:(k:Int)≤(c:Int):=by omega
      have hw1:IntKind.i64.wrap ((k:Int)+1)=(k:Int)+1:=by rw [IntKind.wrap_i64];omega
      have htold:=As.mk (fun w2 w3 v3 vo3 hk2 h1 h2 h3 h4 h5 h6 h7=>hI.out.told (w2:=w2) (w3:=w3) (v3:=v3) (vo3:=vo3) hkl hc10 (by omega) (by omega) (by omega) hk2 h1 h2 h3 h4 h5 h6 h7)
      rw [hcut] at htold
      have hIA:=hI
      clear hI hbr hbp hcut hcur hhl hmv hhk hle hbK hst hA
      go_wp2_with (first
       | (go_at_call 114;refine Calls.mono cR.out ?_;rintro e w2 ⟨rfl,hm2,hk2⟩;have cT2:=As.mk (cT.out w2 hk2 hm2);replace hm2:=As.mk hm2;replace hk2:=As.mk hk2)
       | (go_at_call 112;refine Calls.mono cT2.out ?_;rintro e w3 ⟨rfl,vo3,v3,h1,h2,h3,h4,h5,h6,h7,h8⟩;obtain ⟨s9,wn9,h9⟩:=htold.out w2 w3 v3 vo3 hk2.out h1 h2 h3 h4 h5 h6 h7;replace h9:=As.mk h9;clear h1 h2 h3 h4 h5 h6 h7 h8))
      go_roundw
      case rel=>exact ⟨k+1,k+1,s9,wn9,[],v3,vo3,_,hlt,(by first | rfl | go_num | (congr 1;omega)),(by first | rfl | go_num | (congr 1;omega)),h9⟩
      case measure=>simp [intOf];omega
    · obtain ⟨x,hx⟩:∃ x,b.getD k 0=x:=⟨_,rfl⟩
      have hxn:¬ x.toNat=10:=fun e=>hc10 (by rw [hx];exact UInt8.toNat_inj.1 e)
      have hxi:((x.toNat:Int) == 10)=false:=by rw [beq_eq_false_iff_ne];omega
      rw [hx] at cR
      have hcut:=QV hle (Nat.le_of_lt hkl)
      have hcur:=congrArg List.length hI.out.cur
      rw [List.length_append,hcut] at hcur
      have hw1:IntKind.i64.wrap ((k:Int)+1)=(k:Int)+1:=by rw [IntKind.wrap_i64];omega
      have hw2:IntKind.i64.wrap ((B.length:Int)+(k:Int))=(B.length:Int)+(k:Int):=by rw [IntKind.wrap_i64];omega
      have hw3:IntKind.i64.wrap ((B.length:Int)+(k:Int) - (f:Int))=(B.length:Int)+(k:Int) - (f:Int):=by rw [IntKind.wrap_i64];omega
      have cW:=As.mk (fun (w2:World) (hk2:Keeps (fun k=>k=g) wr w2)=>Za1 w2.drew base gw g v2 B wn2.room (hI.out.win.keep hk2.drew (Zp hI.out.win.1 hI.out.mt (by decide)) (hI.out.win.vne hI.out.mt (by decide))))
      have hSt:=As.mk (fun (w2:World) (hk2:Keeps (fun k=>k=g) wr w2)=>Zd hI.out.st hk2 (Zp hI.out.st hI.out.mt (by decide)))
      have hSb:=As.mk (fun (w2:World) (hk2:Keeps (fun k=>k=g) wr w2)=>Zd hI.out.sbx hk2 (Zp hI.out.sbx hI.out.mt (by decide)))
      have hOb:=As.mk (fun (w2:World) (hk2:Keeps (fun k=>k=g) wr w2)=>Zd hI.out.box hk2 (Zp hI.out.box hI.out.mt (by decide)))
      by_cases hful:B.length+(k - f)<400
      · have hd1:decide ((400:Int)≤(B.length:Int)+(k:Int) - (f:Int))=false:=decide_eq_false (by omega)
        have hd2:¬ (400:Int)≤(B.length:Int)+(k:Int) - (f:Int):=by omega
        have hmo:=As.mk (fun w2 hkp h5=>hI.out.more (w2:=w2) hkl hc10 hful hkp h5)
        rw [hx] at hmo
        clear hI hbr hcut hcur hhl hmv hhk hle hbK hst hA hx
        go_wp2_with (first
         | (go_at_call 114;refine Calls.mono cR.out ?_;rintro e w2 ⟨rfl,hm2,hk2⟩;have cW2:=As.mk (cW.out w2 hk2);have a0:w2.drew.cell? ⟨z,0,none⟩=some (.pointer (some ⟨gs,0,none⟩)):=Za (hSb.out w2 hk2) 0;have a1:w2.drew.cell? ⟨gs,1,none⟩=some (.pointer (some ⟨gw,0,none⟩)):=Za (hSt.out w2 hk2) 1;have a2:w2.drew.cell? ⟨gs,2,none⟩=some (.int .i64 400):=Za (hSt.out w2 hk2) 2;have h9:=As.mk (hmo.out w2.drew hk2.drew hm2);replace hm2:=As.mk hm2;replace hk2:=As.mk hk2))
        refine wp_region_still_lit (by kernel_rfl) (by kernel_rfl) ?_
        iterate 4 still_step
        refine wpStill_step (fun K hK=>?_)
        go_simp
        refine ⟨_,cW2.out.mono (fun e w' h=>⟨h.1,h.2.symm⟩),hK _ ?_⟩
        clear hK K
        repeat still_step
        refine wpStill_nil ?_
        change Exit.then _ _ _ _ w2.drew
        go_wp2
        go_roundw
        case rel=>exact ⟨k+1,f,_,wn2,B,v2,vo,L,hlt,(by first | rfl | go_num | (congr 1;omega)),rfl,h9⟩
        case measure=>simp [intOf];omega
      · have hd1:decide ((400:Int)≤(B.length:Int)+(k:Int) - (f:Int))=true:=decide_eq_true (by omega)
        have hd2:(400:Int)≤(B.length:Int)+(k:Int) - (f:Int):=by omega
        have hfu:=As.mk (hI.out.full hkl hc10 hful)
        have hIA:=hI
        have hkw:=As.mk (fun (w4:World) (hk:Keeps (fun k=>k=g∨k=gs) wr w4)=>(hI.out.kp.restrict hk (fun q _ hq=>hq.elim (fun e=>.inr (.inr (.inl e))) .inl):Keeps (fun k=>k=gs∨Qo gw g v k) w w4))
        have hon:=As.mk (fun (w4:World) (hk:Keeps (fun k=>k=g∨k=gs) wr w4)=>(hI.out.own.keep hk (fun q c hq _ h=>h.elim (Zp hq hI.out.mt (by decide)) (Zp hq hI.out.st (by decide))) (fun q c hq _ h=>h.elim (Zp hq hI.out.mt (by decide)) (Zp hq hI.out.st (by decide))):OwnLns w.heap.size w4 vo v2 L))
        have hgn:¬ g=gs:=Zp hI.out.mt hI.out.st (by decide)
        have hfr:=As.mk hI.out.fr
        have nz:¬ z=gs:=Zp hI.out.sbx hI.out.st (by decide)
        have nz1:¬ z+1=gs:=Zp hI.out.box hI.out.st (by decide)
        clear hI hbr hcut hcur hhl hmv hhk hle hbK hst hA hx hsw hzo
        go_wp2_with (first
         | (go_at_call 114;refine Calls.mono cR.out ?_;rintro e w2 ⟨rfl,hm2,hk2⟩;have cW2:=As.mk (cW.out w2 hk2);have a0:w2.drew.cell? ⟨z,0,none⟩=some (.pointer (some ⟨gs,0,none⟩)):=Za (hSb.out w2 hk2) 0;have a1:w2.drew.cell? ⟨gs,1,none⟩=some (.pointer (some ⟨gw,0,none⟩)):=Za (hSt.out w2 hk2) 1;have a2:w2.drew.cell? ⟨gs,2,none⟩=some (.int .i64 400):=Za (hSt.out w2 hk2) 2;have h9:=As.mk (hSt.out w2 hk2);have h8:=As.mk (hOb.out w2 hk2);replace hm2:=As.mk hm2;replace hk2:=As.mk hk2))
        refine wp_region_still_lit (by kernel_rfl) (by kernel_rfl) ?_
        iterate 4 still_step
        refine wpStill_step (fun K hK=>?_)
        go_simp
        refine ⟨_,cW2.out.mono (fun e w' h=>⟨h.1,h.2.symm⟩),hK _ ?_⟩
        clear hK K
        repeat still_step
        refine wpStill_nil ?_
        change Exit.then _ _ _ _ w2.drew
        obtain ⟨W2,hW2⟩:∃ W,w2.drew=W:=⟨_,rfl⟩
        have h9':W2.heap[gs]? = some (.cells #[.pointer (some ⟨g,0,none⟩),.pointer (some ⟨gw,0,none⟩),.int .i64 400,.int .i64 (s2.num:Int),.int .i64 (s2.off:Int),.bool false,.int .i64 0] 202 (0,0)):=by rw [← hW2];exact h9.out
        have h8':W2.heap[z+1]? = some (.cells #[vo] 127 (0,0)):=by rw [← hW2];exact h8.out
        have hm3:MtAt W2 g ⟨cs,cl,(s2.hunt:Int)+1,(wn2.move:Int)⟩:=by rw [← hW2];exact hm2.out
        have hk3:Keeps (fun k=>k=g) wr W2:=by rw [← hW2];exact hk2.out.drew
        rw [hW2] at a0 a1 a2 ⊢
        have b0:W2.drew.cell? ⟨z,0,none⟩=some (.pointer (some ⟨gs,0,none⟩)):=a0
        have b5:W2.drew.cell? ⟨gs,5,none⟩=some (.bool false):=Za h9' 5
        have b6:W2.drew.cell? ⟨gs,6,none⟩=some (.int .i64 0):=Za h9' 6
        have bf5:W2.drew.frozen? ⟨gs,5,none⟩=false:=Zb h9' 5
        have bf6:W2.drew.frozen? ⟨gs,6,none⟩=false:=Zb h9' 6
        have b7:W2.drew.cell? ⟨z+1,0,none⟩=some vo:=Za h8' 0
        have c5:W2.cell? ⟨gs,5,none⟩=some (.bool false):=b5
        have c6:W2.cell? ⟨gs,6,none⟩=some (.int .i64 0):=b6
        have cf5:W2.frozen? ⟨gs,5,none⟩=false:=bf5
        have cf6:W2.frozen? ⟨gs,6,none⟩=false:=bf6
        have c7:W2.cell? ⟨z+1,0,none⟩=some vo:=b7
        have hst4:=Zi (Zi h9' 5 (.bool true)) 6 (.int .i64 15)
        have hk4:Keeps (fun k=>k=gs) W2 ((W2.setCell ⟨gs,5,none⟩ (.bool true)).setCell ⟨gs,6,none⟩ (.int .i64 15)):=(Zm W2 ⟨gs,5,none⟩ _).trans (Zm _ ⟨gs,6,none⟩ _)
        have hk5:Keeps (fun k=>k=g∨k=gs) wr ((W2.setCell ⟨gs,5,none⟩ (.bool true)).setCell ⟨gs,6,none⟩ (.int .i64 15)):=(hk3.mono fun _ _ h=>.inl h).trans (hk4.mono fun _ _ h=>.inr h)
        have hm5:=Zd hm3 hk4 hgn
        have hfin:=As.mk (show OwnLns w.heap.size ((W2.setCell ⟨gs,5,none⟩ (.bool true)).setCell ⟨gs,6,none⟩ (.int .i64 15)) vo v2 L∧Keeps (fun k=>k=gs∨Qo gw g v k) w ((W2.setCell ⟨gs,5,none⟩ (.bool true)).setCell ⟨gs,6,none⟩ (.int .i64 15))∧Ql ((W2.setCell ⟨gs,5,none⟩ (.bool true)).setCell ⟨gs,6,none⟩ (.int .i64 15)) gs gw g s2.num s2.off true 15∧MtAt ((W2.setCell ⟨gs,5,none⟩ (.bool true)).setCell ⟨gs,6,none⟩ (.int .i64 15)) g ⟨cs,cl,(s2.hunt:Int)+1,(wn2.move:Int)⟩ from ⟨hon.out _ hk5,hkw.out _ hk5,by unfold Ql;rw [hst4];simp,hm5⟩)
        clear hW2 h9' h8' hm3 hk3 hst4 hk4 hk5 hm5
        go_wp2
        go_region
        all_goals
         go_wp2
         go_ret
         obtain ⟨q1,q2,q3,q4⟩:=hfin.out
         obtain ⟨f1,f2,f3⟩:=hfu.out
         refine ⟨vo,v2,rfl,by rw [f2];exact q1,q2.drew,hfr.out,?_⟩
         rw [f1,f3]
         exact ⟨fun _=>⟨q3,by have h:MtAt ((W2.setCell ⟨gs,5,none⟩ (.bool true)).setCell ⟨gs,6,none⟩ (.int .i64 15)).drew g ⟨cs,cl,(s2.hunt:Int)+1,(wn2.move:Int)⟩:=q4;simpa using h⟩,fun h=>by cases h⟩
  · obtain rfl:k=n:=by omega
    have hle:=hI.out.le
    have hbr:=As.mk (hbK.out wr hI.out.kp)
    have hhk:=hI.out.hunt
    have hmv:=MvOk.move_le hI.out.mvo
    have hcut:=QV hle (Nat.le_of_eq hn.out.symm)
    have hcur:=congrArg List.length hI.out.cur
    rw [List.length_append,hcut] at hcur
    have hhl:=hI.out.len
    have cA:=As.mk (fun (A2:Option Addr) (c2:Nat) (hb2:Byt wr.drew A2 (QB b f k))=>(by
     have:=ZdH wr.drew base gw g v2 B wn2.room hI.out.win ⟨cs,cl,(s2.hunt:Int),(wn2.move:Int)⟩ hI.out.mt (by simp only;omega) (by simp only;omega) (by have:=hI.out.room;omega) A2 c2 (QB b f k) hb2 (by omega) (by show base≤wr.heap.size;omega)
     rw [hcut] at this
     exact this))
    have hdn:=As.mk (fun w3 v3 h4 h5 h6 h7=>hI.out.done (w3:=w3) (v3:=v3) hn.out (by omega) h4 h5 h6 h7)
    have y0:wr.cell? ⟨gs,1,none⟩=some (.pointer (some ⟨gw,0,none⟩)):=Za hI.out.st 1
    have y1:wr.drew.cell? ⟨gs,1,none⟩=some (.pointer (some ⟨gw,0,none⟩)):=y0
    have y2:wr.drew.cell? ⟨z,0,none⟩=some (.pointer (some ⟨gs,0,none⟩)):=x0
    have hff:(f:Int)≤(k:Int):=by omega
    have hkc:(k:Int)≤(c:Int):=by omega
    clear hcur hhl hmv hhk hbK hst hA hsw hzo
    cases A with
    | none =>
      have hb0:k=0:=by
       rcases hbr.out with h | ⟨ad,e,_⟩
       · have:=congrArg List.length h;rw [Zt] at this;simp only [List.length_nil] at this;rw [← hn.out];exact this
       · cases e
      have hf0:f=0:=by omega
      subst hb0
      subst hf0
      have cA1:=As.mk (cA.out none c (.inl (by simp [QB,Zh])))
      rw [Nat.sub_self] at cA1 hdn
      clear hcut hle hI
      go_wp2
      go_still_tail 7,(by kernel_rfl)
      change wpList _ _ _ _ _ wr.drew
      go_wp2_with (go_at_call 116;refine Calls.mono cA1.out ?_;rintro e w3 ⟨rfl,v3,h4,h5,h6,h7⟩;obtain ⟨d1,d2,d3,d4,d5⟩:=hdn.out w3 v3 h4 h5 h6.undrew h7;have q0:w3.cell? ⟨z+1,0,none⟩=some vo:=Za d1 0;replace d2:=As.mk d2;replace d3:=As.mk d3;replace d4:=As.mk d4;replace d5:=As.mk d5;clear h4 h5 h6 h7 d1)
      go_ret
      exact ⟨vo,v3,rfl,d2.out,d3.out,d4.out,d5.out⟩
    | some ad =>
      by_cases hcf:c=f
      · have hkf:k=f:=by omega
        have hb1:Byt wr.drew (some ad) (QB b f k):=.inl (by rw [hkf,ZbN];rfl)
        have cA1:=As.mk (cA.out (some ad) 0 hb1)
        subst hcf
        subst hkf
        rw [Nat.sub_self] at cA1 hdn
        clear hI cA hcut hb1
        go_wp2
        go_still_tail 7,(by kernel_rfl)
        change wpList _ _ _ _ _ wr.drew
        go_wp2_with (go_at_call 116;refine Calls.mono cA1.out ?_;rintro e w3 ⟨rfl,v3,h4,h5,h6,h7⟩;obtain ⟨d1,d2,d3,d4,d5⟩:=hdn.out w3 v3 h4 h5 h6.undrew h7;have q0:w3.cell? ⟨z+1,0,none⟩=some vo:=Za d1 0;replace d2:=As.mk d2;replace d3:=As.mk d3;replace d4:=As.mk d4;replace d5:=As.mk d5;clear h4 h5 h6 h7 d1)
        go_ret
        exact ⟨vo,v3,rfl,d2.out,d3.out,d4.out,d5.out⟩
      · have cA1:=As.mk (cA.out (some (ad.add f)) (c - f) (Byt.piece2 hbr.out.drew f (k - f)))
        clear hI
        go_wp2
        go_still_tail 7,(by kernel_rfl)
        change wpList _ _ _ _ _ wr.drew
        go_wp2_with (go_at_call 116;refine Calls.mono cA1.out ?_;rintro e w3 ⟨rfl,v3,h4,h5,h6,h7⟩;obtain ⟨d1,d2,d3,d4,d5⟩:=hdn.out w3 v3 h4 h5 h6.undrew h7;have q0:w3.cell? ⟨z+1,0,none⟩=some vo:=Za d1 0;replace d2:=As.mk d2;replace d3:=As.mk d3;replace d4:=As.mk d4;replace d5:=As.mk d5;clear h4 h5 h6 h7 d1)
        go_ret
        exact ⟨vo,v3,rfl,d2.out,d3.out,d4.out,d5.out⟩
end Go.Proofs.YtfdlaomnecjfeaaGreatDoor
end
section
namespace Go.Proofs.YtfdlaomnecjfeaaGreatDoor
open Go.RowKit Seine.Trie Seine.Fg
theorem serr_none (w:World) (gs gw g num off:Nat) (over:Bool) (h:Ql w gs gw g num off over 0):Calls Tryz.prog 72 #[.pointer (some ⟨gs,0,none⟩)] w fun e w'=>e=.returned (.tuple #[.int .i64 0,.int .i64 0])∧w=w':=by
 have c6:w.cell? ⟨gs,6,none⟩=some (.int .i64 0):=Za h 6
 clear h
 go_enter Tryz.func72,Tryz.ntmps72
 go_wp2
 go_ret2
 exact ⟨rfl,rfl⟩
theorem serr_some (w:World) (gs gw g num off:Nat) (over:Bool) (h:Ql w gs gw g num off over 15):Calls Tryz.prog 72 #[.pointer (some ⟨gs,0,none⟩)] w fun e w'=>e=.returned (.tuple #[.int .i64 15,.int .i64 (num:Int)])∧∃ n,w'=w.drewN n:=by
 have c6:w.cell? ⟨gs,6,none⟩=some (.int .i64 15):=Za h 6
 have c3:w.cell? ⟨gs,3,none⟩=some (.int .i64 (num:Int)):=Za h 3
 have d6:w.drew.cell? ⟨gs,6,none⟩=some (.int .i64 15):=c6
 have d3:w.drew.cell? ⟨gs,3,none⟩=some (.int .i64 (num:Int)):=c3
 clear h
 go_enter Tryz.func72,Tryz.ntmps72
 go_wp2
 go_region
 all_goals
  go_wp2
  go_ret2
  exact ⟨rfl,1,rfl⟩
theorem send_over (w:World) (gs gw g num off:Nat) (bad:Int) (h:Ql w gs gw g num off true bad):Calls Tryz.prog 70 #[.pointer (some ⟨gs,0,none⟩)] w fun e w'=>e=.returned (.slice none 0 0)∧w=w':=by
 have c5:w.cell? ⟨gs,5,none⟩=some (.bool true):=Za h 5
 clear h
 go_enter Tryz.func70,Tryz.ntmps70
 go_wp2
 go_ret
 exact ⟨rfl,rfl⟩
theorem sfeed_over (w:World) (gs gw g num off:Nat) (bad:Int) (h:Ql w gs gw g num off true bad) (V:Value):Calls Tryz.prog 69 #[.pointer (some ⟨gs,0,none⟩),V] w fun e w'=>e=.returned (.slice none 0 0)∧Below w.heap.size w w':=by
 have c5:(w.alloc (.cells #[.pointer (some ⟨gs,0,none⟩)] 118)).cell? ⟨gs,5,none⟩=some (.bool true):=Za (Zn h) 5
 clear h
 go_enter Tryz.func69,Tryz.ntmps69
 go_wp2
 go_ret
 exact ⟨rfl,(Below.refl _ _).alloc (Nat.le_refl _) _⟩
theorem Zb2 {w:World} {base e size:Nat} {cs:List Value} (hl:cs.length=size) (hb:base≤w.heap.size):(w.alloc (.cells cs.toArray e)).ownsRow base e size (.slice (some ⟨w.heap.size,0,none⟩) 1 1) 1 cs :=
 ⟨by rw [hl,Nat.one_mul],.inr ⟨_,1,cs.toArray,rfl,hb,heap_alloc_new w _,Nat.le_refl _,by unfold maxLen;omega,by simp [hl],by simp [← hl]⟩⟩
set_option maxRecDepth 100000 in
set_option maxHeartbeats 1600000 in
theorem send_calls (w:World) (base gs gw g:Nat) (v:Value) (cs cl:Int) (s:St) (wn:Wn) (h:FdAt w base gs gw g v cs cl s wn) (hh:s.hunt≤10000000) (hbase:base≤w.heap.size) :
    Calls Tryz.prog 70 #[.pointer (some ⟨gs,0,none⟩)] w fun e w'=>∃ vo v' num off,e=.returned vo∧OwnLns w.heap.size w' vo v' (YR s)∧Ql w' gs gw g num off true 0∧MtAt w' g ⟨cs,cl,(s.hunt:Int),(wn.move:Int)⟩∧Keeps (fun k=>k=gs∨Qo gw g v k) w w':=by
 have c5:w.cell? ⟨gs,5,none⟩=some (.bool false):=Za h.st 5
 have f5:w.frozen? ⟨gs,5,none⟩=false:=Zb h.st 5
 have hS1:=Zi h.st 5 (.bool true)
 have hk1:=Zm w ⟨gs,5,none⟩ (.bool true)
 have hW1:=h.win.keep hk1 (Zp h.win.1 h.st (by decide)) (h.win.vne h.st (by decide))
 have hM1:=Zd h.mt hk1 (Zp h.mt h.st (by decide))
 have hhe:=h.held
 have hmv:=MvOk.move_le h.mv
 have hcu:=h.cur
 have hro:=h.room
 have hof:=h.off
 have hnu:=h.num
 have hnov:=h.nov
 obtain ⟨W1,hW1e⟩:∃ W,w.setCell ⟨gs,5,none⟩ (.bool true)=W:=⟨_,rfl⟩
 have hsz:W1.heap.size=w.heap.size:=by rw [← hW1e];simp [World.setCell]
 rw [hW1e] at hS1 hk1 hW1 hM1
 have hS1':Ql W1 gs gw g s.num s.off true 0:=by unfold Ql;rw [hS1];simp
 have c1:W1.cell? ⟨gs,1,none⟩=some (.pointer (some ⟨gw,0,none⟩)):=Za hS1' 1
 have cL:=As.mk (Za1 W1 base gw g v s.cur wn.room hW1)
 replace hW1e:=As.mk hW1e
 by_cases h0:s.cur.length=0
 · have hc0:s.cur=[]:=List.eq_nil_of_length_eq_zero h0
   have he:YR s=[]:=by unfold YR;rw [if_pos (.inr hc0)]
   rw [he]
   rw [h0] at cL
   have hS1A:=As.mk hS1'
   have hM1A:=As.mk hM1
   have hk1A:=As.mk hk1
   clear h hS1 hS1' hM1 hk1 hW1
   go_enter Tryz.func70,Tryz.ntmps70
   go_wp2_with (first | (rw [hW1e.out]) | (go_at_call 115;refine Calls.mono cL.out ?_;rintro e w' ⟨rfl,rfl⟩))
   go_ret
   exact ⟨_,v,s.num,s.off,rfl,OwnLns.nil _ _ _,hS1A.out,hM1A.out,hk1A.out.mono fun _ _ e=>.inl e⟩
 · have he:YR s=[⟨s.num,s.off,s.cur⟩]:=by unfold YR;rw [if_neg (by rintro (e | e);rw [hnov] at e;cases e;exact h0 (by rw [e];rfl))]
   rw [he]
   have hzi:((s.cur.length:Int) == 0)=false:=by rw [beq_eq_false_iff_ne];omega
   have cln:=As.mk (ZcF W1 base gs gw g v s.cur wn.room s.num s.off true 0 ⟨cs,cl,(s.hunt:Int),(wn.move:Int)⟩ hS1' hW1 hM1 (by simp only;omega) (by simp only;omega) (by omega) none 0 [] (.inl rfl) (by simp) (by omega) (by omega) (by omega))
   have hmz:(ZW ⟨s.cur.length,wn.room,0⟩ ([]:Txt).length).move=0:=by unfold ZW JN Z8;simp;split <;> rfl
   rw [hmz] at cln
   simp only [List.append_nil,List.length_nil] at cln
   have hk1A:=As.mk hk1
   clear h hS1 hS1' hM1 hk1 hW1 hmz
   go_enter Tryz.func70,Tryz.ntmps70
   go_wp2_with (first
    | (rw [hW1e.out])
    | (go_at_call 115;refine Calls.mono cL.out ?_;rintro e w' ⟨rfl,rfl⟩)
    | (go_at_call 113;refine Calls.mono cln.out ?_;rintro e w3 ⟨u,v3,rfl,q1,q2,q3,q4,q5,q6,q7⟩;obtain ⟨A3,c3,rfl,hc3⟩:=Zk q1;replace q1:=As.mk q1;replace q2:=As.mk q2;replace q3:=As.mk q3;replace q4:=As.mk q4;replace q5:=As.mk q5;replace q6:=As.mk q6;replace q7:=As.mk q7))
   go_ret
   have hs3:=q5.out.size
   refine ⟨_,v3,s.num+1,_,rfl,⟨[.slice A3 s.cur.length c3],rfl,Zb2 rfl (by omega),fun i hi=>?_⟩,Zn q2.out,?_,?_⟩
   · obtain rfl:i=0:=by simp at hi;omega
     exact ⟨_,rfl,(ZB q1.out (by omega)).alloc _,q7.out⟩
   · have:=q4.out
     simp only [Int.natCast_zero,Int.add_zero] at this
     exact Zn this
   · exact ((hk1A.out.mono fun _ _ e=>.inl e).restrict q5.out (fun _ _ e=>e)).alloc _
end Go.Proofs.YtfdlaomnecjfeaaGreatDoor
end
section
namespace Go.Proofs.YtfdlaomnecjfeaaGreatDoor
open Go.RowKit Seine.Trie Seine.Fg
section
variable (w:World) (lb:Nat) (A:Option Addr) (c:Nat) (L:Txt) (hl:w.heap[lb]? = some (.cells #[.slice A L.length c] 22 (0,0))) (hL:Byt w A L) (hLl:L.length≤1000000) (s e:Int) (hs:-1000000≤s) (hs2:s≤1000000)
include hl in
theorem must1_calls:Calls Tryz.prog 223 #[.agg #[.int .i64 s,.int .i64 e],.pointer (some ⟨lb,0,none⟩)] w fun r w'=>r=.returned (.bool (pieceB L (s,e)))∧Below w.heap.size w w':=by
 have l0:(w.alloc (.cells #[.int .i64 s,.int .i64 e] 67)).cell? ⟨lb,0,none⟩=some (.slice A L.length c):=Za (Zn hl) 0
 have cp:=As.mk (fun v=>ZbK v A c L s e)
 have hB:Below w.heap.size w (w.alloc (.cells #[.int .i64 s,.int .i64 e] 67)):=(Below.refl _ _).alloc (Nat.le_refl _) _
 go_enter Tryz.func223,Tryz.ntmps223
 go_wp2_with (go_at_call 224;refine Calls.mono (cp.out _) ?_;rintro e w2 ⟨rfl,hb2⟩)
 go_ret
 exact ⟨rfl,Ze hB hb2⟩
include hl hL hLl hs hs2 in
theorem must2_calls:Calls Tryz.prog 225 #[.agg #[.int .i64 s,.int .i64 e],.pointer (some ⟨lb,0,none⟩)] w fun r w'=>r=.returned (.bool (freeB L (s,e)))∧Below w.heap.size w w':=by
 have l0:(w.alloc (.cells #[.int .i64 s,.int .i64 e] 67)).cell? ⟨lb,0,none⟩=some (.slice A L.length c):=Za (Zn hl) 0
 have hB:Below w.heap.size w (w.alloc (.cells #[.int .i64 s,.int .i64 e] 67)):=(Below.refl _ _).alloc (Nat.le_refl _) _
 have cp:=As.mk (afree_calls _ A c L (Row.below hL hB) hLl s e hs hs2)
 clear hL hl
 go_enter Tryz.func225,Tryz.ntmps225
 go_wp2_with (go_at_call 226;refine Calls.mono cp.out ?_;rintro e w2 ⟨rfl,hb2⟩)
 go_ret
 exact ⟨rfl,Ze hB hb2⟩
include hl in
theorem must3_calls:Calls Tryz.prog 227 #[.agg #[.int .i64 s,.int .i64 e],.pointer (some ⟨lb,0,none⟩)] w fun r w'=>r=.returned (.bool (wholeB L (s,e)))∧Below w.heap.size w w':=by
 have l0:(w.alloc (.cells #[.int .i64 s,.int .i64 e] 67)).cell? ⟨lb,0,none⟩=some (.slice A L.length c):=Za (Zn hl) 0
 have hB:Below w.heap.size w (w.alloc (.cells #[.int .i64 s,.int .i64 e] 67)):=(Below.refl _ _).alloc (Nat.le_refl _) _
 unfold wholeB
 simp only
 clear hl
 by_cases h0:s=0
 · have d0:(s == 0)=true:=beq_iff_eq.2 h0
   rw [d0,Bool.true_and]
   clear h0
   go_enter Tryz.func227,Tryz.ntmps227
   go_wp2
   go_ret
   exact ⟨rfl,hB⟩
 · have d0:(s == 0)=false:=beq_eq_false_iff_ne.2 h0
   rw [d0,Bool.false_and]
   go_enter Tryz.func227,Tryz.ntmps227
   go_wp2
   go_ret
   exact ⟨rfl,hB⟩
end
theorem J6:(Tryz.prog.info? 315).map (fun i=>(i.zero,i.size,i.bytes))=some (some (.agg #[.nilFunc]),1,8):=by kernel_rfl
abbrev ZG (f lb:Nat):Value:=.func (.func f) #[] #[.pointer (some ⟨lb,0,none⟩)]
def QK (lb:Nat) (w x:Bool):List Value:=[ZG 223 lb]++(if w=true then [ZG 225 lb] else [])++(if x=true then [ZG 227 lb] else [])
set_option maxRecDepth 100000 in
theorem musts_calls (w:World) (A:Option Addr) (c:Nat) (n:Nat) (bw bx:Bool) :
    Calls Tryz.prog 205 #[.slice A n c,.bool bw,.bool bx] w fun r w'=>∃ A' c',r=.returned (.slice A' (QK w.heap.size bw bx).length c')∧w'.heap[w.heap.size]? = some (.cells #[.slice A n c] 22 (0,0))∧Row w' A' (QK w.heap.size bw bx)∧Below w.heap.size w w':=by
 have hmf:∀ (fn:Fn) (first cap:Array Value) (w:World),(Instr.makeFunc fn first cap).run Tryz.prog w=.ok (.func fn first cap) w:=fun _ _ _ _=>rfl
 cases bw <;> cases bx
 · go_enter Tryz.func205,Tryz.ntmps205
   go_wp2
   go_ret
   exact ⟨_,_,rfl,Zn (heap_alloc_new _ _),Row.new' _ _ _ (by simp),((Below.refl _ _).alloc (Nat.le_refl _) _).alloc (by simp) _⟩
 · have hB1:Below w.heap.size w ((w.alloc (.cells #[.slice A n c] 22)).alloc (.cells #[ZG 223 w.heap.size] 315)):=((Below.refl _ _).alloc (Nat.le_refl _) _).alloc (by simp) _
   have hbx:=Zn (o':=.cells #[ZG 223 w.heap.size] 315) (heap_alloc_new w (.cells #[.slice A n c] 22))
   have ho1:=Zb2 (w:=w.alloc (.cells #[.slice A n c] 22)) (base:=w.heap.size+1) (e:=315) (size:=1) (cs:=[ZG 223 w.heap.size]) rfl (by simp)
   rw [show (w.alloc (.cells #[.slice A n c] 22)).heap.size=w.heap.size+1 by simp,show [ZG 223 w.heap.size].toArray=#[ZG 223 w.heap.size] from rfl] at ho1
   have hB1A:=As.mk hB1
   have hbxA:=As.mk hbx
   have ho1A:=As.mk ho1
   clear hB1 hbx ho1
   go_enter Tryz.func205,Tryz.ntmps205
   go_wp2_with (at_builtin
                refine ZA ((w.alloc (.cells #[.slice A n c] 22)).alloc (.cells #[ZG 223 w.heap.size] 315)) rfl (.tmp 18) (.tmp 21) 311 rfl (w.heap.size+1) 315 _ 1 8 Tryz.underlying311 J6 rfl (by decide) (.slice (some ⟨w.heap.size+1,0,none⟩) 1 1) 1 [ZG 223 w.heap.size] rfl ho1A.out [ZG 227 w.heap.size] rfl (by simp [ZG,Value.oneCell']) _ rfl (by simp) (by omega) (by decide) (by simp) ?_
                intro v6 w6 ho6 hk6 _ hb6
                obtain ⟨A6,c6,rfl,hc6⟩:=Zk ho6
                replace ho6:=As.mk ho6
                replace hk6:=As.mk hk6
                replace hb6:=As.mk hb6)
   go_ret
   exact ⟨A6,c6,rfl,Zd hbxA.out hk6.out (by simp [Value.ownBlock]),Row.of_own ho6.out,hB1A.out.trans (hb6.out.mono (by simp))⟩
 · have hB1:Below w.heap.size w ((w.alloc (.cells #[.slice A n c] 22)).alloc (.cells #[ZG 223 w.heap.size] 315)):=((Below.refl _ _).alloc (Nat.le_refl _) _).alloc (by simp) _
   have hbx:=Zn (o':=.cells #[ZG 223 w.heap.size] 315) (heap_alloc_new w (.cells #[.slice A n c] 22))
   have ho1:=Zb2 (w:=w.alloc (.cells #[.slice A n c] 22)) (base:=w.heap.size+1) (e:=315) (size:=1) (cs:=[ZG 223 w.heap.size]) rfl (by simp)
   rw [show (w.alloc (.cells #[.slice A n c] 22)).heap.size=w.heap.size+1 by simp,show [ZG 223 w.heap.size].toArray=#[ZG 223 w.heap.size] from rfl] at ho1
   have hB1A:=As.mk hB1
   have hbxA:=As.mk hbx
   have ho1A:=As.mk ho1
   clear hB1 hbx ho1
   go_enter Tryz.func205,Tryz.ntmps205
   go_wp2_with (at_builtin
                refine ZA ((w.alloc (.cells #[.slice A n c] 22)).alloc (.cells #[ZG 223 w.heap.size] 315)) rfl (.tmp 12) (.tmp 15) 311 rfl (w.heap.size+1) 315 _ 1 8 Tryz.underlying311 J6 rfl (by decide) (.slice (some ⟨w.heap.size+1,0,none⟩) 1 1) 1 [ZG 223 w.heap.size] rfl ho1A.out [ZG 225 w.heap.size] rfl (by simp [ZG,Value.oneCell']) _ rfl (by simp) (by omega) (by decide) (by simp) ?_
                intro v6 w6 ho6 hk6 _ hb6
                obtain ⟨A6,c6,rfl,hc6⟩:=Zk ho6
                replace ho6:=As.mk ho6
                replace hk6:=As.mk hk6
                replace hb6:=As.mk hb6)
   go_ret
   exact ⟨A6,c6,rfl,Zd hbxA.out hk6.out (by simp [Value.ownBlock]),Row.of_own ho6.out,hB1A.out.trans (hb6.out.mono (by simp))⟩
 · have hB1:Below w.heap.size w ((w.alloc (.cells #[.slice A n c] 22)).alloc (.cells #[ZG 223 w.heap.size] 315)):=((Below.refl _ _).alloc (Nat.le_refl _) _).alloc (by simp) _
   have hbx:=Zn (o':=.cells #[ZG 223 w.heap.size] 315) (heap_alloc_new w (.cells #[.slice A n c] 22))
   have ho1:=Zb2 (w:=w.alloc (.cells #[.slice A n c] 22)) (base:=w.heap.size+1) (e:=315) (size:=1) (cs:=[ZG 223 w.heap.size]) rfl (by simp)
   rw [show (w.alloc (.cells #[.slice A n c] 22)).heap.size=w.heap.size+1 by simp,show [ZG 223 w.heap.size].toArray=#[ZG 223 w.heap.size] from rfl] at ho1
   have hB1A:=As.mk hB1
   have hbxA:=As.mk hbx
   have ho1A:=As.mk ho1
   clear hB1 hbx ho1
   go_enter Tryz.func205,Tryz.ntmps205
   go_wp2_with (first
    | (at_builtin
       refine ZA ((w.alloc (.cells #[.slice A n c] 22)).alloc (.cells #[ZG 223 w.heap.size] 315)) rfl (.tmp 12) (.tmp 15) 311 rfl (w.heap.size+1) 315 _ 1 8 Tryz.underlying311 J6 rfl (by decide) (.slice (some ⟨w.heap.size+1,0,none⟩) 1 1) 1 [ZG 223 w.heap.size] rfl ho1A.out [ZG 225 w.heap.size] rfl (by simp [ZG,Value.oneCell']) _ rfl (by simp) (by omega) (by decide) (by simp) ?_
       intro v6 w6 ho6 hk6 _ hb6
       obtain ⟨A6,c6,rfl,hc6⟩:=Zk ho6
       have hs6:w.heap.size+1≤w6.heap.size:=(by have:=hb6.size;simp at this;omega)
       have hbx6:=As.mk (Zd hbxA.out hk6 (by simp [Value.ownBlock]))
       have hB6:=As.mk (hB1A.out.trans (hb6.mono (by simp)))
       have ho6:w6.ownsRow (w.heap.size+1) 315 1 (.slice A6 2 c6) 2 [ZG 223 w.heap.size,ZG 225 w.heap.size]:=ho6
       have hfr6:=As.mk (fun q (hq:some q=(Value.slice A6 2 c6).ownBlock)=>(ZM ho6 hq).1)
       replace ho6:=As.mk ho6)
    | (at_builtin
       refine ZA w6 rfl (.tmp 18) (.tmp 21) 311 rfl (w.heap.size+1) 315 _ 1 8 Tryz.underlying311 J6 rfl (by decide) (.slice A6 2 c6) 2 [ZG 223 w.heap.size,ZG 225 w.heap.size] rfl ho6.out [ZG 227 w.heap.size] rfl (by simp [ZG,Value.oneCell']) _ rfl rfl (by omega) (by decide) hs6 ?_
       intro v7 w7 ho7 hk7 _ hb7
       obtain ⟨A7,c7,rfl,hc7⟩:=Zk ho7
       replace ho7:=As.mk ho7
       replace hk7:=As.mk hk7
       replace hb7:=As.mk hb7))
   go_ret
   exact ⟨A7,c7,rfl,Zd hbx6.out hk7.out (fun h=>by have:=hfr6.out _ h;omega),Row.of_own ho7.out,hB6.out.trans (hb7.out.mono (by omega))⟩
end Go.Proofs.YtfdlaomnecjfeaaGreatDoor
end
section
namespace Go.Proofs.YtfdlaomnecjfeaaGreatDoor
open Go.RowKit Seine.Trie Seine.Fg
def Xh (p q r:Bool) (w x:Bool):List Bool:=[p]++(if w=true then [q] else [])++(if x=true then [r] else [])
theorem must_len (z:Nat) (p q r w x:Bool):(QK z w x).length=(Xh p q r w x).length:=by cases w <;> cases x <;> rfl
theorem must_at (z:Nat) (p q r w x:Bool) (k:Nat) (hk:k<(QK z w x).length) :
    ((QK z w x)[k]? = some (ZG 223 z)∧(Xh p q r w x)[k]? = some p)∨((QK z w x)[k]? = some (ZG 225 z)∧(Xh p q r w x)[k]? = some q)∨((QK z w x)[k]? = some (ZG 227 z)∧(Xh p q r w x)[k]? = some r):=by
 have h3:(QK z w x).length≤3:=by cases w <;> cases x <;> simp [QK]
 obtain rfl | rfl | rfl:k=0∨k=1∨k=2:=by omega
 · cases w <;> cases x <;> exact .inl ⟨rfl,rfl⟩
 · cases w <;> cases x
   · simp [QK] at hk
   · exact .inr (.inr ⟨rfl,rfl⟩)
   · exact .inr (.inl ⟨rfl,rfl⟩)
   · exact .inr (.inl ⟨rfl,rfl⟩)
 · cases w <;> cases x
   · simp [QK] at hk
   · simp [QK] at hk
   · simp [QK] at hk
   · exact .inr (.inr ⟨rfl,rfl⟩)
theorem must_all {L:Txt} {w x:Bool} {p:Pr} {n:Nat} (hn:(Xh (pieceB L p) (freeB L p) (wholeB L p) w x).length≤n) (h:∀ j,j<n→∀ b,(Xh (pieceB L p) (freeB L p) (wholeB L p) w x)[j]? = some b→b=true):Zam L w x p=true:=by
 have ha:∀ b∈Xh (pieceB L p) (freeB L p) (wholeB L p) w x,b=true:=fun b hb=>by
  obtain ⟨j,hj,e⟩:=List.mem_iff_getElem.1 hb
  exact h j (by omega) b (by rw [List.getElem?_eq_getElem hj,e])
 unfold Zam
 cases w <;> cases x <;> simp [Xh] at ha ⊢ <;> simp [ha]
theorem Zd3 {L:Txt} {w x:Bool} {p:Pr} {k:Nat} (h:(Xh (pieceB L p) (freeB L p) (wholeB L p) w x)[k]? = some false):Zam L w x p=false:=by
 have hm:false∈Xh (pieceB L p) (freeB L p) (wholeB L p) w x:=List.mem_of_getElem? h
 unfold Zam
 clear h
 generalize pieceB L p=P at *
 generalize freeB L p=Q at *
 generalize wholeB L p=R at *
 cases w <;> cases x <;> cases P <;> cases Q <;> cases R <;> simp_all [Xh]
set_option maxRecDepth 100000 in
set_option maxHeartbeats 1600000 in
theorem amay_calls (w:World) (A:Option Addr) (c:Nat) (L:Txt) (hL:Byt w A L) (hLl:L.length≤1000000) (s e:Int) (hs:-1000000≤s) (hs2:s≤1000000) (bw bx:Bool) :
    Calls Tryz.prog 162 #[.slice A L.length c,.agg #[.int .i64 s,.int .i64 e],.bool bw,.bool bx] w fun r w'=>r=.returned (.bool (Zam L bw bx (s,e)))∧Below w.heap.size w w':=by
 have hB1:Below w.heap.size w (w.alloc (.cells #[.int .i64 s,.int .i64 e] 67)):=(Below.refl _ _).alloc (Nat.le_refl _) _
 have hp1:=heap_alloc_new w (.cells #[.int .i64 s,.int .i64 e] 67)
 have cm:=As.mk (musts_calls (w.alloc (.cells #[.int .i64 s,.int .i64 e] 67)) A c L.length bw bx)
 have hLA:=As.mk hL
 have hB1A:=As.mk hB1
 have hp1A:=As.mk hp1
 clear hL hB1 hp1
 go_enter Tryz.func162,Tryz.ntmps162
 go_wp2_with (go_at_call 205;refine Calls.mono cm.out ?_;rintro r w2 ⟨A2,c2,rfl,hl2,hr2,hb2⟩;rw [World.size_alloc] at hl2 hr2;have hW2:=As.mk (Ze hB1A.out hb2);have hp2:=As.mk (Zc hb2 hp1A.out);replace hl2:=As.mk hl2;replace hr2:=As.mk hr2;clear hb2)
 obtain ⟨pb,hpb⟩:∃ q,w.heap.size=q:=⟨_,rfl⟩
 obtain ⟨lb,hlb⟩:∃ q,w.heap.size+1=q:=⟨_,rfl⟩
 rw [hlb] at hl2 hr2 ⊢
 rw [hpb] at hp2 ⊢
 obtain ⟨m,hm⟩:∃ m,(QK lb bw bx).length=m:=⟨_,rfl⟩
 rw [hm]
 have hm3:m≤3:=by rw [← hm];cases bw <;> cases bx <;> simp [QK]
 replace hm:=As.mk hm
 replace hlb:=As.mk hlb
 replace hpb:=As.mk hpb
 go_loopw [16] (fun i wr=>∃ k:Nat,k≤m∧i=.int .i64 k∧As (∀ j,j<k→∀ b,(Xh (pieceB L (s,e)) (freeB L (s,e)) (wholeB L (s,e)) bw bx)[j]? = some b→b=true)∧As (Below w2.heap.size w2 wr)) (fun i _=>m - (intOf i).toNat)
 case atStart=>exact ⟨0,Nat.zero_le _,rfl,⟨fun j hj=>absurd hj (Nat.not_lt_zero _)⟩,⟨Below.refl _ _⟩⟩
 case round =>
  obtain ⟨k,hk,rfl,hp,hBw⟩:=hrel
  by_cases hlt:k<m
  · obtain ⟨ad,rfl,hcell⟩:=Row.at_ (Row.below hr2.out hBw.out) (j:=k) (by rw [hm.out];exact hlt)
    have hkm:k<(QK lb bw bx).length:=by rw [hm.out];exact hlt
    have hmat:=must_at lb (pieceB L (s,e)) (freeB L (s,e)) (wholeB L (s,e)) bw bx k hkm
    have hgk:(QK lb bw bx)[k]? = some (QK lb bw bx)[k]:=List.getElem?_eq_getElem hkm
    rw [hgk] at hmat
    have hpw:=Zc hBw.out hp2.out
    have hlw:=Zc hBw.out hl2.out
    rcases hmat with ⟨he,hbk⟩ | ⟨he,hbk⟩ | ⟨he,hbk⟩
    all_goals
     injection he with he
     rw [he] at hcell
     clear he hgk
    · have p0:(wr.alloc (.cells #[ZG 223 lb] 315)).cell? ⟨pb,0,none⟩=some (.int .i64 s):=Za (Zn hpw) 0
      have p1:(wr.alloc (.cells #[ZG 223 lb] 315)).cell? ⟨pb,1,none⟩=some (.int .i64 e):=Za (Zn hpw) 1
      have hBc:As (Below wr.heap.size wr (wr.alloc (.cells #[ZG 223 lb] 315))):=⟨(Below.refl _ _).alloc (Nat.le_refl _) _⟩
      have cF:=As.mk (must1_calls _ lb A c L (Zc hBc.out hlw) s e)
      clear hpw hlw
      obtain ⟨bv,hbv⟩:∃ q,pieceB L (s,e)=q:=⟨_,rfl⟩
      have hval:=hbk.trans (congrArg some hbv)
      rw [hbv] at cF
      clear hbk hbv
      cases bv with
      | true =>
        have hnx:As (∀ j,j<k+1→∀ b,(Xh (pieceB L (s,e)) (freeB L (s,e)) (wholeB L (s,e)) bw bx)[j]? = some b→b=true):=⟨fun j hj b h=>by
         rcases Nat.lt_or_ge j k with hlt | hge
         · exact hp.out j hlt b h
         · obtain rfl:j=k:=by omega
           rw [hval] at h;injection h with h;exact h.symm⟩
        clear hval
        go_wp2_with (go_at_call 223;refine Calls.mono cF.out ?_;rintro r w3 ⟨rfl,hb3⟩;have hB3:=As.mk (Ze hBw.out (Ze hBc.out hb3));clear hb3)
        go_roundw
        case rel=>exact ⟨k+1,by omega,(by first | rfl | go_num | (congr 1;omega)),hnx,hB3⟩
        case measure=>simp [intOf];omega
      | false =>
        have hno:=As.mk (Zd3 hval)
        clear hval
        go_wp2_with (go_at_call 223;refine Calls.mono cF.out ?_;rintro r w3 ⟨rfl,hb3⟩;have hB3:=As.mk (Ze hBw.out (Ze hBc.out hb3));clear hb3)
        go_ret
        exact ⟨by rw [hno.out];rfl,Ze hW2.out hB3.out⟩
    · have p0:(wr.alloc (.cells #[ZG 225 lb] 315)).cell? ⟨pb,0,none⟩=some (.int .i64 s):=Za (Zn hpw) 0
      have p1:(wr.alloc (.cells #[ZG 225 lb] 315)).cell? ⟨pb,1,none⟩=some (.int .i64 e):=Za (Zn hpw) 1
      have hBc:As (Below wr.heap.size wr (wr.alloc (.cells #[ZG 225 lb] 315))):=⟨(Below.refl _ _).alloc (Nat.le_refl _) _⟩
      have cF:=As.mk (must2_calls _ lb A c L (Zc hBc.out hlw) (Row.below hLA.out (Ze hW2.out (Ze hBw.out hBc.out))) hLl s e hs hs2)
      clear hpw hlw
      obtain ⟨bv,hbv⟩:∃ q,freeB L (s,e)=q:=⟨_,rfl⟩
      have hval:=hbk.trans (congrArg some hbv)
      rw [hbv] at cF
      clear hbk hbv
      cases bv with
      | true =>
        have hnx:As (∀ j,j<k+1→∀ b,(Xh (pieceB L (s,e)) (freeB L (s,e)) (wholeB L (s,e)) bw bx)[j]? = some b→b=true):=⟨fun j hj b h=>by
         rcases Nat.lt_or_ge j k with hlt | hge
         · exact hp.out j hlt b h
         · obtain rfl:j=k:=by omega
           rw [hval] at h;injection h with h;exact h.symm⟩
        clear hval
        go_wp2_with (go_at_call 225;refine Calls.mono cF.out ?_;rintro r w3 ⟨rfl,hb3⟩;have hB3:=As.mk (Ze hBw.out (Ze hBc.out hb3));clear hb3)
        go_roundw
        case rel=>exact ⟨k+1,by omega,(by first | rfl | go_num | (congr 1;omega)),hnx,hB3⟩
        case measure=>simp [intOf];omega
      | false =>
        have hno:=As.mk (Zd3 hval)
        clear hval
        go_wp2_with (go_at_call 225;refine Calls.mono cF.out ?_;rintro r w3 ⟨rfl,hb3⟩;have hB3:=As.mk (Ze hBw.out (Ze hBc.out hb3));clear hb3)
        go_ret
        exact ⟨by rw [hno.out];rfl,Ze hW2.out hB3.out⟩
    · have p0:(wr.alloc (.cells #[ZG 227 lb] 315)).cell? ⟨pb,0,none⟩=some (.int .i64 s):=Za (Zn hpw) 0
      have p1:(wr.alloc (.cells #[ZG 227 lb] 315)).cell? ⟨pb,1,none⟩=some (.int .i64 e):=Za (Zn hpw) 1
      have hBc:As (Below wr.heap.size wr (wr.alloc (.cells #[ZG 227 lb] 315))):=⟨(Below.refl _ _).alloc (Nat.le_refl _) _⟩
      have cF:=As.mk (must3_calls _ lb A c L (Zc hBc.out hlw) s e)
      clear hpw hlw
      obtain ⟨bv,hbv⟩:∃ q,wholeB L (s,e)=q:=⟨_,rfl⟩
      have hval:=hbk.trans (congrArg some hbv)
      rw [hbv] at cF
      clear hbk hbv
      cases bv with
      | true =>
        have hnx:As (∀ j,j<k+1→∀ b,(Xh (pieceB L (s,e)) (freeB L (s,e)) (wholeB L (s,e)) bw bx)[j]? = some b→b=true):=⟨fun j hj b h=>by
         rcases Nat.lt_or_ge j k with hlt | hge
         · exact hp.out j hlt b h
         · obtain rfl:j=k:=by omega
           rw [hval] at h;injection h with h;exact h.symm⟩
        clear hval
        go_wp2_with (go_at_call 227;refine Calls.mono cF.out ?_;rintro r w3 ⟨rfl,hb3⟩;have hB3:=As.mk (Ze hBw.out (Ze hBc.out hb3));clear hb3)
        go_roundw
        case rel=>exact ⟨k+1,by omega,(by first | rfl | go_num | (congr 1;omega)),hnx,hB3⟩
        case measure=>simp [intOf];omega
      | false =>
        have hno:=As.mk (Zd3 hval)
        clear hval
        go_wp2_with (go_at_call 227;refine Calls.mono cF.out ?_;rintro r w3 ⟨rfl,hb3⟩;have hB3:=As.mk (Ze hBw.out (Ze hBc.out hb3));clear hb3)
        go_ret
        exact ⟨by rw [hno.out];rfl,Ze hW2.out hB3.out⟩
  · obtain rfl:k=m:=by omega
    have hall:As (Zam L bw bx (s,e)=true):=⟨must_all (n:=k) (by rw [← must_len lb,hm.out];exact Nat.le_refl _) hp.out⟩
    go_wp2
    go_ret
    exact ⟨by rw [hall.out];rfl,Ze hW2.out hBw.out⟩
set_option maxRecDepth 100000 in
set_option maxHeartbeats 1600000 in
theorem afilter_calls (w:World) (A:Option Addr) (c:Nat) (L:Txt) (hL:Byt w A L) (hLl:L.length≤1000000) (B:Option Addr) (d:Nat) (xs:List Pr) (hx:Prs w B xs) (hxl:xs.length≤1000000) (hxs:∀ p∈xs,-1000000≤p.1∧p.1≤1000000) (bw bx:Bool) :
    Calls Tryz.prog 111 #[.slice A L.length c,.slice B xs.length d,.bool bw,.bool bx] w (RetPrs w (Q6 L xs bw bx)):=by
 have hu25:=Tryz.underlying67
 have HL:=As.mk hL
 have HX:=As.mk hx
 have hpx:=As.mk hxs
 have hall:As (Q6 L (xs.take xs.length) bw bx=Q6 L xs bw bx):=⟨by rw [List.take_length]⟩
 obtain ⟨R,hR⟩:∃ R,Q6 L xs bw bx=R:=⟨_,rfl⟩
 rw [hR] at hall ⊢
 replace hR:=As.mk hR
 obtain ⟨n,hn⟩:∃ n,xs.length=n:=⟨_,rfl⟩
 rw [hn] at hxl hall ⊢
 replace hn:=As.mk hn
 clear hL hx hxs
 go_enter Tryz.func111,Tryz.ntmps111
 go_wp2
 go_loopg [9,14] (n+1) (fun gk v i wr=>∃ (k:Nat) (u:Value),u=v∧As (n+1≤gk+k)∧k≤n∧i=.int .i64 k∧As (OwnPrs wr w.heap.size u (Q6 L (xs.take k) bw bx))∧As (Below w.heap.size w wr))
 case atStart=>exact ⟨0,_,rfl,⟨by omega⟩,Nat.zero_le _,rfl,⟨World.ownsRow_nil _ _ _ _⟩,⟨Below.refl _ _⟩⟩
 case round =>
  obtain ⟨k,u,rfl,hgk,hk,rfl,ho,hb⟩:=hrel
  by_cases hlt:k<n
  · obtain ⟨gp,rfl⟩:∃ gp,gk=gp+1:=⟨gk - 1,by have:=hgk.out;omega⟩
    have hkx:k<xs.length:=by rw [hn.out];exact hlt
    obtain ⟨ad,rfl,a1,a2⟩:=Prs.at_ (Row.below HX.out hb.out) hkx
    have hgd:xs.getD k (0,0)=xs[k]:=by simp [hkx]
    have hbd:=hpx.out _ (List.getElem_mem hkx)
    rw [← hgd] at hbd
    have hnx:=filter_take (Zam L bw bx) hkx
    rw [← hgd] at hnx
    have hsz:=hb.out.size
    have hfl:(Q6 L (xs.take k) bw bx).length≤k:=Nat.le_trans (ZcB _ _ _ _) (by rw [List.length_take];omega)
    have hnx:Q6 L (xs.take (k+1)) bw bx=Q6 L (xs.take k) bw bx++(if Zam L bw bx (xs.getD k (0,0))=true then [xs.getD k (0,0)] else []):=hnx
    obtain ⟨p,hp⟩:∃ p,xs.getD k (0,0)=p:=⟨_,rfl⟩
    rw [hp] at a1 a2 hbd hnx
    obtain ⟨E,hE⟩:∃ E,Q6 L (xs.take k) bw bx=E:=⟨_,rfl⟩
    rw [hE] at ho hfl hnx
    clear hp hE hgd
    obtain ⟨s,e⟩:=p
    simp only at a1 a2 hbd
    have cm:=As.mk (fun (v:World) (hv:Below w.heap.size w v)=>amay_calls v A c L (Row.below HL.out hv) hLl s e hbd.1 hbd.2 bw bx)
    have hBp:Below w.heap.size w (wr.alloc (.cells #[.int .i64 s,.int .i64 e] 67)):=hb.out.alloc hsz _
    have hbx:=heap_alloc_new wr (.cells #[.int .i64 s,.int .i64 e] 67)
    replace hnx:=As.mk hnx
    cases hm:Zam L bw bx (s,e) with
    | true =>
      rw [hm] at cm hnx
      replace hm:=As.mk hm
      have ho3:=As.mk (fun (v:World) (hv:Below (wr.alloc (.cells #[.int .i64 s,.int .i64 e] 67)).heap.size (wr.alloc (.cells #[.int .i64 s,.int .i64 e] 67)) v)=>Zo (ho.out.alloc (.cells #[.int .i64 s,.int .i64 e] 67)) hv)
      unfold OwnPrs at ho
      go_wp2_with (first
       | (go_at_call 162;refine Calls.mono (cm.out _ hBp) ?_;rintro r w3 ⟨rfl,hb3⟩
          have hB3:=Ze hBp hb3
          have hsz3:=hB3.size
          have g0:w3.cell? ⟨wr.heap.size,0,none⟩=some (.int .i64 s):=Za (Zc hb3 hbx) 0
          have g1:w3.cell? ⟨wr.heap.size,1,none⟩=some (.int .i64 e):=Za (Zc hb3 hbx) 1
          have ho4:=ho3.out _ hb3
          replace hB3:=As.mk hB3)
       | (at_builtin
          (refine ZA w3 rfl (.tmp 23) (.tmp 25) 64 rfl w.heap.size 67 _ 2 16 Tryz.underlying64 Xl rfl (by decide) u E.length (Zr E) rfl ho4 [.int .i64 s,.int .i64 e] rfl (by simp [Value.oneCell']) _ rfl (by simp) (by omega) (by decide) hsz3 ?_)
          intro v6 w6 ho6 hk6 _ hb6))
      go_roundg gp
      case rel =>
       refine ⟨k+1,_,rfl,⟨by have:=hgk.out;omega⟩,hlt,(by first | rfl | go_num | (congr 1;omega)),⟨?_⟩,⟨hB3.out.trans hb6⟩⟩
       rw [hnx.out]
       simp only [if_true]
       unfold OwnPrs
       rw [List.length_append,List.length_singleton,Xa]
       exact ho6
      case measure=>omega
    | false =>
      rw [hm] at cm hnx
      replace hm:=As.mk hm
      go_wp2_with (go_at_call 162;refine Calls.mono (cm.out _ hBp) ?_;rintro r w3 ⟨rfl,hb3⟩;have hB3:=As.mk (Ze hBp hb3);have ho4:=As.mk (Zo (ho.out.alloc (.cells #[.int .i64 s,.int .i64 e] 67)) hb3))
      go_roundg gp
      case rel =>
       refine ⟨k+1,_,rfl,⟨by have:=hgk.out;omega⟩,hlt,(by first | rfl | go_num | (congr 1;omega)),⟨?_⟩,hB3⟩
       rw [hnx.out]
       simp only [Bool.false_eq_true,if_false,List.append_nil]
       exact ho4.out
      case measure=>omega
  · obtain rfl:k=n:=by omega
    have ho2:=ho.out
    rw [hall.out] at ho2
    replace ho2:=As.mk ho2
    clear ho
    go_wp2
    go_ret
    exact ⟨_,rfl,ho2.out,hb.out⟩
end Go.Proofs.YtfdlaomnecjfeaaGreatDoor
end
section
namespace Go.Proofs.YtfdlaomnecjfeaaGreatDoor
open Go.RowKit Go.Shelf Seine.Trie Seine.Fg
def Q0 (o:Opt):Array Value:=#[.bool o.i,.bool o.w,.bool o.x,.bool o.o,.bool o.b,.bool o.v,.bool o.c]
theorem Yh (w:World) (o:Opt):Calls Tryz.prog 42 #[.agg (Q0 o)] w fun e w'=>e=.returned (.int .i64 (if ZaY o=true then 10 else 0))∧Below w.heap.size w w':=by
 obtain ⟨i,ww,x,oo,b,v,c⟩:=o
 have hB:Below w.heap.size w (w.alloc (.cells #[.bool i,.bool ww,.bool x,.bool oo,.bool b,.bool v,.bool c] 24)):=(Below.refl _ _).alloc (Nat.le_refl _) _
 unfold Q0 ZaY
 simp only
 cases oo <;> cases v <;> cases b <;> cases c <;> simp only [Bool.or_true,Bool.or_false,Bool.and_true,Bool.and_false,Bool.true_and,Bool.false_and,Bool.true_or,Bool.false_or,if_true,if_false,Bool.false_eq_true]
 all_goals
  go_enter Tryz.func42,Tryz.ntmps42
  go_wp2
  go_ret
  exact ⟨rfl,hB⟩
theorem YG (w:World) (tag:Int):Calls Tryz.prog 43 #[.int .i64 tag] w fun e w'=>e=.returned (.bool (decide (0≤tag∧tag≤3)))∧w=w':=by
 by_cases h0:0≤tag
 · have e0:decide (0≤tag)=true:=decide_eq_true h0
   by_cases h1:tag<4
   · have e1:decide (tag<4)=true:=decide_eq_true h1
     rw [decide_eq_true (by omega:0≤tag∧tag≤3)]
     go_enter Tryz.func43,Tryz.ntmps43
     go_wp2
     go_ret
     exact ⟨rfl,rfl⟩
   · have e1:decide (tag<4)=false:=decide_eq_false h1
     rw [decide_eq_false (by omega:¬ (0≤tag∧tag≤3))]
     go_enter Tryz.func43,Tryz.ntmps43
     go_wp2
     go_ret
     exact ⟨rfl,rfl⟩
 · have e0:decide (0≤tag)=false:=decide_eq_false h0
   rw [decide_eq_false (by omega:¬ (0≤tag∧tag≤3))]
   go_enter Tryz.func43,Tryz.ntmps43
   go_wp2
   go_ret
   exact ⟨rfl,rfl⟩
/-- What printer makes; ob is the box of the options. -/
def ZbP (o:Opt) (ob:Nat):Value:=if o.c=true then .func (.func 157) #[] #[] else if o.o=true then .func (.func 158) #[] #[.pointer (some ⟨ob,0,none⟩)] else .func (.func 160) #[] #[.pointer (some ⟨ob,0,none⟩)]
theorem printer_calls (w:World) (o:Opt):Calls Tryz.prog 106 #[.agg (Q0 o)] w fun e w'=>e=.returned (ZbP o w.heap.size)∧w'=w.alloc (.cells (Q0 o) 24):=by
 obtain ⟨i,ww,x,oo,b,v,c⟩:=o
 have hmf:∀ (fn:Fn) (first cap:Array Value) (w:World),(Instr.makeFunc fn first cap).run Tryz.prog w=.ok (.func fn first cap) w:=fun _ _ _ _=>rfl
 unfold Q0 ZbP
 simp only
 cases c <;> cases oo <;> simp only [if_true,if_false,Bool.false_eq_true]
 all_goals
  go_enter Tryz.func106,Tryz.ntmps106
  go_wp2
  go_ret
  exact ⟨rfl,rfl⟩
/-- Pieces of a line of some bytes. -/
def Ins (n:Nat) (l:List Pr):Prop:=∀ p∈l,0≤p.1∧p.1≤p.2∧p.2≤(n:Int)
theorem ZcH {n:Nat} {l:List Pr} (h:Ins n l):∀ (k:Nat) (f:Int),(n:Int) - f≤k→(Seine.Pick.longest l f).length≤k
 | k,f,hk=>by
   rcases hb:Seine.Pick.first l f with _ | p
   · rw [Seine.Pick.longest_none hb];simp
   · have hf:=Seine.Pick.first_eq_some.1 hb
     obtain ⟨h1,h2,h3,_⟩:=hf
     have h4:=h p h1
     rw [Seine.Pick.longest_some hb,List.length_cons]
     cases k with
     | zero=>omega
     | succ k =>
       have:=ZcH h k p.2 (by omega)
       omega
theorem ZbQ {n:Nat} {l:List Pr} (h:Ins n l):(Seine.Pick.longest l XU).length≤n+1:=by
 rcases hb:Seine.Pick.first l XU with _ | p
 · rw [Seine.Pick.longest_none hb];simp
 · have hf:=Seine.Pick.first_eq_some.1 hb
   obtain ⟨h1,h2,h3,_⟩:=hf
   have h4:=h p h1
   rw [Seine.Pick.longest_some hb,List.length_cons]
   have:=ZcH h n p.2 (by omega)
   omega
theorem Zfo (l:List Txt) (L:Txt):Ins L.length (Seine.Eng.findF l L):=by
 have hocc:∀ p∈Seine.Sort.occ l L,0≤p.1∧p.1≤p.2∧p.2≤(L.length:Int):=by
  intro p hp
  obtain ⟨i,j,rfl,h1,h2,_⟩:=Seine.Sort.mem_occ.1 hp
  exact ⟨by simp,by simp;omega,by simp;omega⟩
 intro p hp
 unfold Seine.Eng.findF at hp
 split at hp
 · rw [Seine.Sort.mem_sortP,List.mem_append] at hp
   rcases hp with hp | hp
   · exact hocc p hp
   · obtain ⟨i,hi,rfl⟩:=Seine.Eng.mem_empties.1 hp
     exact ⟨by simp,by simp,by simp;omega⟩
 · exact hocc p hp
theorem ins_filter {L:Txt} {l:List Pr} {w x:Bool} {n:Nat} (h:Ins n l):Ins n (Q6 L l w x):=fun p hp=>h p (List.mem_filter.1 hp).1
abbrev lnV (x:Ln) (A:Option Addr) (c:Nat):Value:=.agg #[.int .i64 (x.num:Int),.int .i64 (x.off:Int),.slice A x.text.length c]
theorem pr1_calls (w:World) (lv mv:Value) (hl:∃ a,lv=.agg a):Calls Tryz.prog 157 #[lv,mv] w (RetByt w []):=by
 obtain ⟨a,rfl⟩:=hl
 go_enter Tryz.func157,Tryz.ntmps157
 go_wp2
 go_ret
 exact ⟨_,rfl,World.ownsRow_nil _ _ _ _,(Below.refl _ _).alloc (Nat.le_refl _) _⟩
theorem ZbR {n:Nat} (h:n≤1000000):(Lit.int .i64 (n:Int)).wf=true:=by
 have h1:IntKind.i64.min = -9223372036854775808:=rfl
 have h2:IntKind.i64.max=9223372036854775807:=rfl
 simp [Lit.wf,h1,h2];omega
theorem pr3_calls (w:World) (ob:Nat) (o:Opt) (hob:w.heap[ob]? = some (.cells (Q0 o) 24 (0,0))) (x:Ln) (A:Option Addr) (c:Nat) (hx:Byt w A x.text) (hl:x.text.length≤1000) (ho:x.off≤1000000) (mv:Value) (ht:Tab w) :
    Calls Tryz.prog 160 #[lnV x A c,mv,.pointer (some ⟨ob,0,none⟩)] w (RetByt w (Yi (x.off:Int) x.text o.b)):=by
 unfold lnV
 have hB:Below w.heap.size w (w.alloc (.cells #[.int .i64 (x.num:Int),.int .i64 (x.off:Int),.slice A x.text.length c] 206)):=(Below.refl _ _).alloc (Nat.le_refl _) _
 have c4:(w.alloc (.cells #[.int .i64 (x.num:Int),.int .i64 (x.off:Int),.slice A x.text.length c] 206)).cell? ⟨ob,4,none⟩=some (.bool o.b):=Za (Zn hob) 4
 have cl:=As.mk (Zdd (x.off:Int) (ZbR ho) A c x.text o.b _ (Row.below hx hB) (by omega) (ht.below hB))
 generalize hn:x.text.length=n at *
 clear hx ht
 go_enter Tryz.func160,Tryz.ntmps160
 go_wp2_with fail
 refine Calls.mono cl.out ?_
 rintro e w1 ⟨v,rfl,ho1,hb1⟩
 go_wp2
 go_ret
 exact ⟨_,rfl,ZB ho1 hB.size,Ze hB hb1⟩
set_option maxRecDepth 100000 in
set_option maxHeartbeats 1600000 in
theorem pr2_calls (w:World) (ob:Nat) (o:Opt) (hob:w.heap[ob]? = some (.cells (Q0 o) 24 (0,0))) (x:Ln) (A:Option Addr) (c:Nat) (hx:Byt w A x.text) (hxc:x.text.length≤c) (hl:x.text.length≤400) (ho:x.off≤1000000)
    (B:Option Addr) (d:Nat) (may:List Pr) (hm:Prs w B may) (hml:may.length≤1000000) (hin:Ins x.text.length may) (ht:Tab w) :
    Calls Tryz.prog 158 #[lnV x A c,.slice B may.length d,.pointer (some ⟨ob,0,none⟩)] w (RetByt w (Xm (x.off:Int) x.text (Seine.Pick.longest may XU) o.b)):=by
 unfold lnV
 have hB:Below w.heap.size w (w.alloc (.cells #[.int .i64 (x.num:Int),.int .i64 (x.off:Int),.slice A x.text.length c] 206)):=(Below.refl _ _).alloc (Nat.le_refl _) _
 obtain ⟨W1,hW1⟩:∃ W,w.alloc (.cells #[.int .i64 (x.num:Int),.int .i64 (x.off:Int),.slice A x.text.length c] 206)=W:=⟨_,rfl⟩
 have hn:=heap_alloc_new w (.cells #[.int .i64 (x.num:Int),.int .i64 (x.off:Int),.slice A x.text.length c] 206)
 have hoW:W1.heap[ob]? = some (.cells (Q0 o) 24 (0,0)):=by rw [← hW1];exact Zn hob
 rw [hW1] at hB hn
 have cl:=As.mk (longest_calls B d may W1.drew ((Row.below hm hB).drew) (by omega))
 obtain ⟨P,hP⟩:∃ P,Seine.Pick.longest may XU=P:=⟨_,rfl⟩
 have hPl:P.length≤500:=by have:=ZbQ hin;rw [hP] at this;omega
 have cp:=As.mk (fun (v:World) (hv:Below w.heap.size w v) (D:Option Addr) (dd:Nat) (hq:Prs v D P)=>pieces_calls (x.off:Int) (ZbR ho) A c x.text D dd P o.b v (Row.below hx hv) (by omega) hxc hq hPl (ht.below hv))
 rw [hP] at cl ⊢
 generalize hxn:x.text.length=n at *
 generalize hmn:may.length=m at *
 have q1:W1.cell? ⟨w.heap.size,1,none⟩=some (.int .i64 (x.off:Int)):=Za hn 1
 have q2:W1.cell? ⟨w.heap.size,2,none⟩=some (.slice A n c):=Za hn 2
 have q4:W1.cell? ⟨ob,4,none⟩=some (.bool o.b):=Za hoW 4
 have hfz:=As.mk (fun (v:World) (hv:Below W1.heap.size W1 v)=>(⟨Za (Zc hv hn) 1,Za (Zc hv hn) 2,Za (Zc hv hoW) 4⟩:v.cell? ⟨w.heap.size,1,none⟩=some (.int .i64 (x.off:Int))∧v.cell? ⟨w.heap.size,2,none⟩=some (.slice A n c)∧v.cell? ⟨ob,4,none⟩=some (.bool o.b)))
 replace hW1:=As.mk hW1
 replace hB:=As.mk hB
 clear hx hm ht hn hoW hob hin hP hxn hmn
 go_enter Tryz.func158,Tryz.ntmps158
 go_wp2_with fail
 rw [hW1.out]
 go_region_law (first
  | (refine Xq (by rfl) ?ho cl.out ?_;(case ho=>go_simp);intro e w2 hp;obtain ⟨A2,c2,rfl,hc2,hcm2,hr2,hb2⟩:=hp.row2;replace hb2:Below W1.heap.size W1 w2:=(Below.refl _ _).drew.trans hb2;obtain ⟨z1,z2,z4⟩:=hfz.out w2 hb2;have cp2:=As.mk (cp.out w2 (hB.out.trans (hb2.mono hB.out.size)) A2 c2 hr2);replace hb2:=As.mk hb2;clear hr2;refine ⟨_,rfl,?_⟩)
  | (refine Xq (by rfl) ?ho cp2.out ?_;(case ho=>go_simp);rintro e w3 ⟨v3,rfl,ho3,hb3⟩;refine ⟨_,rfl,?_⟩))
 all_goals
  go_wp2
  go_ret
  exact ⟨_,rfl,ZB ho3 (Nat.le_trans hB.out.size hb2.out.size),(hB.out.trans (hb2.out.mono hB.out.size)).trans (hb3.mono (Nat.le_trans hB.out.size hb2.out.size))⟩
end Go.Proofs.YtfdlaomnecjfeaaGreatDoor
end
section
set_option maxRecDepth 100000
namespace Go.Proofs.YtfdlaomnecjfeaaGreatDoor
open Go.ChangeShapes Go.WideShapes Go.Deep Go.RowKit Seine.Trie Seine.Fg
section
variable {H:Type} {enc:TypeId × Value→H} {w:World} {base:Nat}
/-- Options, cell by cell. -/
theorem opts_of {n:Nat} {cs:List Value} {x:DataW H × List MemPlace} (hsz:cs.length=7) (h:DataW.trod enc Tryz.prog w 0 (fun _=>true) true n 24 cs=some x):∃ o:Opt,cs=(Q0 o).toList:=by
 match cs,hsz with
 | [c0,c1,c2,c3,c4,c5,c6],_ =>
   obtain ⟨xs,m,_,_,_,hlen,hg⟩:=DataW.trod_struct Tryz.underlying24 h
   match xs,hlen with
   | [y0,y1,y2,y3,y4,y5,y6],_ =>
     obtain ⟨b0,e0,_⟩:=DataW.trod_bool Tryz.underlying4 (hg 0 _ rfl)
     obtain ⟨b1,e1,_⟩:=DataW.trod_bool Tryz.underlying4 (hg 1 _ rfl)
     obtain ⟨b2,e2,_⟩:=DataW.trod_bool Tryz.underlying4 (hg 2 _ rfl)
     obtain ⟨b3,e3,_⟩:=DataW.trod_bool Tryz.underlying4 (hg 3 _ rfl)
     obtain ⟨b4,e4,_⟩:=DataW.trod_bool Tryz.underlying4 (hg 4 _ rfl)
     obtain ⟨b5,e5,_⟩:=DataW.trod_bool Tryz.underlying4 (hg 5 _ rfl)
     obtain ⟨b6,e6,_⟩:=DataW.trod_bool Tryz.underlying4 (hg 6 _ rfl)
     have hc:Tryz.prog.cellsOf 4=1:=by kernel_rfl
     simp [hc] at e0 e1 e2 e3 e4 e5 e6
     subst e0 e1 e2 e3 e4 e5 e6
     exact ⟨⟨b0,b1,b2,b3,b4,b5,b6⟩,rfl⟩
theorem arg_options {v:Value} {d:DataW H} {p:List MemPlace} (hv:Value.okWide Tryz.prog w .any base 24 v) (h:DataW.Trod enc Tryz.prog w 0 (fun _=>true) true 24 v d p):∃ o:Opt,v=.agg (Q0 o):=by
 obtain ⟨cs,rfl,hsz⟩:=okWide_struct Tryz.underlying24 hv
 obtain ⟨fuel,hf⟩:=h
 have hc:Tryz.prog.cellsOf 24=7:=by kernel_rfl
 rw [hc] at hsz
 obtain ⟨o,ho⟩:=opts_of (cs:=cs.toList) (by simpa using hsz) (by simpa [Value.cells] using hf)
 refine ⟨o,?_⟩
 congr 1
 apply Array.toList_inj.1
 exact ho
end
end Go.Proofs.YtfdlaomnecjfeaaGreatDoor
end
section
namespace Go.Proofs.YtfdlaomnecjfeaaGreatDoor
open Go.RowKit Go.Shelf
/-- The box bl, and all from B on. -/
def XY (bl B:Nat) (k:Nat):Prop:=k=bl∨B≤k
/-- What new memory leaves. -/
def Steady {β:Type} (J:β→World→Prop):Prop:=∀ s A B,J s A→Below A.heap.size A B→J s B
/-- An iterator hands over elements of which G holds, and reads only what a round keeps. -/
def ZfZ {α:Type} (P:Program) (n:Nat) (g:Nat) (lb:Array Value) (encs:α→Array Value) (G:α→World→Prop) (S:Nat→Prop) (R:List α→Prop) (N:Nat) (w:World):Prop :=
 ∀ (l:Nat) (J:List α→World→Prop) (W:World),Below w.heap.size w W→w.heap.size+2≤W.heap.size→Steady J →
   (∀ pre x W1,J pre W1→G x W1→pre.length<N→YieldAt Fence.wide (n - 1) P l (encs x) W1 fun e W'=>e=.returned (.bool true)∧J (pre++[x]) W'∧Keeps S W1 W') →
   J [] W→CallsIn Fence.wide n P g (#[.func (.yield l) #[] #[]]++lb) W fun e W'=>(∃ v,e=.returned v)∧∃ xs,R xs∧J xs W'
theorem XZ (W:World) (l:Nat) (o:Obj):Keeps (fun k=>k=l) W (W.putObj l o) :=
 ⟨rfl,rfl,rfl,by simp,fun k hk hn=>World.putObj_heap_other hn⟩
theorem ZeI {α:Type} {P:Program} {n:Nat} {g:Operand} {ps:Array Tmp} {assign body:Code} {Q:Exit→Act→World→Prop} {a:Act} {w:World}
    {gf:Nat} {lb:Array Value} (hg:a.eval g=.func (.func gf) #[] lb) (eg:∀ args w,(callFunc gf args).run P w=.ok (.enter gf args) w)
    {encs:α→Array Value} {G:α→World→Prop} {R:List α→Prop} {N bl:Nat} (hbl:bl<w.heap.size) (hseq:ZfZ P (n - 1) gf lb encs G (XY bl (w.heap.size+1)) R N w) (hps:∀ x,(encs x).size=ps.size)
    (hG:∀ x A B,G x A→Keeps (fun k=>k=w.heap.size+1∨A.heap.size≤k) A B→G x B)
    (I:List α→World→Prop) (hI:∀ s A B,I s A→Keeps (fun k=>k=w.heap.size∨k=w.heap.size+1∨A.heap.size≤k) A B→I s B) (h0:I [] w)
    (Ax:α→Act→World→Prop) (hAx:∀ x a A B,Ax x a A→Keeps (fun k=>k=w.heap.size+1) A B→Ax x a B)
    (hassign:∀ (l:Nat) (pre:List α) (x:α) (W:World) (K:Act→World→Prop),I pre W→G x W→w.heap.size+2≤W.heap.size→(∀ a₁ W1,Ax x a₁ W1→Below W.heap.size W W1→K a₁ W1) →
     assign.wpIn (Fence.wide.inRound l) (n - 1 - 1) P (Exit.then K (fun _ _ _=>False)) { tmps:=(ps.zip (encs x)).foldl (fun t (p,v)=>t.setIfInBounds p v) a.tmps,defers:=[] } W)
    (hbody:∀ (l:Nat) (pre:List α) (x:α) (a₁:Act) (W:World),I pre W→G x W→Ax x a₁ W→pre.length<N→w.heap.size+2≤W.heap.size →
     body.wpIn (Fence.wide.inRound l) (n - 1 - 1) P (fun e _ W'=>e=.normal∧Keeps (XY bl (w.heap.size+2)) W W'∧I (pre++[x]) W') a₁ W)
    (hdone:∀ (D:Nat) (xs:List α) (W:World),D=w.heap.size→R xs→I xs W→W.heap[D]? = some (.deferred (some []))→Q .normal { a with defers:={ target:=.collected D,args:=#[] }::a.defers } W) :
    (Code.rangeFunc g ps assign body).wpIn Fence.wide n P Q a w:=by
 refine wpIn_rangeFunc ?_
 intro fn hfn
 rw [show Fence.wide.round=none from rfl]
 obtain ⟨rc,hrec⟩:∃ rc:LoopState→Option Code→Loop,rc=fun st pe=>{ state:=st,pending:=pe,fn,tmps:=a.tmps,params:=ps,assign,body,defers:=w.heap.size }:=⟨_,rfl⟩
 obtain ⟨W1,hW1⟩:∃ W1,(w.alloc (.deferred (some []))).alloc (.loop (rc .ready none))=W1:=⟨_,rfl⟩
 have hB1:Below w.heap.size w W1:=by rw [← hW1];exact ((Below.refl _ w).alloc (Nat.le_refl _) _).alloc (by simp) _
 have hs1:W1.heap.size=w.heap.size+2:=by rw [← hW1];simp
 have hL1:W1.heap[w.heap.size+1]? = some (.loop (rc .ready none)):=by
  rw [← hW1];have:=World.alloc_heap_new (w.alloc (.deferred (some []))) (.loop (rc .ready none));rwa [World.size_alloc] at this
 have hK1:W1.heap[w.heap.size]? = some (.deferred (some [])):=by
  rw [← hW1];exact (Below.heap_alloc _ _ _ (by simp)).trans (World.alloc_heap_new w _)
 have hI1:I [] W1:=hI _ _ _ h0 ((Keeps.of_below hB1 _).mono fun _ _ h=>h)
 refine ⟨w.heap.size+1,[{ target:=.collected w.heap.size,args:=#[] }],W1,{ target:=.fn (.func gf) lb,args:=#[.func (.yield (w.heap.size+1)) #[] #[]] },W1,gf,
  #[.func (.yield (w.heap.size+1)) #[] #[]]++lb,W1,?_,?_,fun _ _=>trivial,?_,fun h=>by simp [Fence.wide] at h,?_⟩
 · rw [← hW1,hrec];exact run_enterLoop_outer _ _ _ _ _
 · simp only [resolve,hg]
   simp [go_sem]
 · simp [invoke,go_sem,eg]
 · refine (hseq (w.heap.size+1)
     (fun pre W=>I pre W∧W.heap[w.heap.size+1]? = some (.loop (rc .ready none))∧W.heap[w.heap.size]? = some (.deferred (some []))) W1 hB1 (by omega) ?_ ?_ ⟨hI1,hL1,hK1⟩).mono ?_
   · rintro s A B ⟨h1,h2,h3⟩ hb
     exact ⟨hI _ _ _ h1 ((Keeps.of_below hb (fun _=>False)).mono fun _ _ h=>h.elim),Zc hb h2,Zc hb h3⟩
   · rintro pre x W ⟨hi,hl,hk⟩ hx hlen
     have hlt:=Zf hl
     have hy:=run_yield (P:=P) (args:=encs x) hl (by rw [hrec];exact hps x)
     rw [hrec] at hy
     refine ⟨fn,_,assign,body,hy,roundIn_of_wpIn hfn (hassign _ pre x W _ hi hx (by omega) fun a₁ Wb hab hbb=>?_)⟩
     have hlb:=Zc hbb hl
     have hkb:=Zc hbb hk
     have hib:I pre Wb:=hI _ _ _ hi ((Keeps.of_below hbb (fun _=>False)).mono fun _ _ h=>h.elim)
     have hxb:G x Wb:=hG _ _ _ hx ((Keeps.of_below hbb (fun _=>False)).mono fun _ _ h=>h.elim)
     refine ⟨_,run_beginRound hlb (by rw [hrec]),?_⟩
     obtain ⟨W2,hW2⟩:∃ W2,Wb.putObj (w.heap.size+1) (.loop { rc .ready none with state:=.busy })=W2:=⟨_,rfl⟩
     have hkp:=XZ Wb (w.heap.size+1) (.loop { rc .ready none with state:=.busy })
     have hl2:W2.heap[w.heap.size+1]? = some (.loop { rc .ready none with state:=.busy }):=by rw [← hW2];exact World.putObj_heap_same (Zf hlb)
     rw [hW2] at hkp ⊢
     have hk2:W2.heap[w.heap.size]? = some (.deferred (some [])):=Zd hkb hkp (by omega)
     have hi2:I pre W2:=hI _ _ _ hib (hkp.mono fun _ _ h=>.inr (.inl h))
     have hz2:=Zf hl2
     refine wpIn_mono (hbody _ pre x a₁ W2 hi2 (hG _ _ _ hxb (hkp.mono fun _ _ h=>.inl h)) (hAx _ _ _ _ hab hkp) hlen (by omega)) ?_
     rintro e a3 W3 ⟨rfl,hk3,hi3⟩
     have hl3:W3.heap[w.heap.size+1]? = some (.loop { rc .ready none with state:=.busy }):=Zd hl2 hk3 (by unfold XY;omega)
     have hd3:W3.heap[w.heap.size]? = some (.deferred (some [])):=Zd hk2 hk3 (by unfold XY;omega)
     have hend:=run_endRound (P:=P) none hl3
     have hkp3:=XZ W3 (w.heap.size+1) (.loop { { rc .ready none with state:=.busy } with state:=.ready,pending:=none })
     refine ⟨_,_,hend,rfl,⟨?_,?_,?_⟩,?_⟩
     · exact hI _ _ _ hi3 (hkp3.mono fun _ _ h=>.inr (.inl h))
     · rw [show (.loop (rc .ready none):Obj)=.loop { { rc .ready none with state:=.busy } with state:=.ready,pending:=none } by rw [hrec]]
       exact World.putObj_heap_same (Zf hl3)
     · exact Zd hd3 hkp3 (by omega)
     · refine ((Keeps.of_below hbb _).trans ((hkp.mono fun _ _ h=>?_).trans (hk3.mono fun _ _ h=>?_))).trans (hkp3.mono fun _ _ h=>?_)
       · exact .inr (by omega)
       · exact h.elim .inl fun h=>.inr (by omega)
       · exact .inr (by omega)
   · rintro e W2 ⟨⟨v,rfl⟩,xs,hR,hi,hl,hk⟩
     have he:=run_endLoop (P:=P) hl (by rw [hrec];simp)
     have hkp:=XZ W2 (w.heap.size+1) (.loop { rc .ready none with state:=.exhausted })
     exact ⟨none,_,he.trans (by rw [hrec]),hdone _ xs _ rfl hR (hI _ _ _ hi (hkp.mono fun _ _ h=>.inr (.inl h))) (Zd hk hkp (by omega))⟩
end Go.Proofs.YtfdlaomnecjfeaaGreatDoor
end
section
namespace Go.Proofs.YtfdlaomnecjfeaaGreatDoor
open Go.RowKit Seine.Trie Seine.Fg
/-- Where the first newline stands; -1: nowhere. -/
def nlI (b:Txt):Int:=match XP b with
 | some n=>(n:Int)
 | none=>-1
theorem Zfp {b:Txt} {n:Nat} (h:XP b=some n):nlI b=(n:Int):=by unfold nlI;rw [h]
theorem Zfq {b:Txt} (h:XP b=none):nlI b = -1:=by unfold nlI;rw [h]
theorem index_calls (w:World) (A:Option Addr) (c:Nat) (b:Txt) (hb:Byt w A b) (hl:b.length≤1000000) :
    Calls Tryz.prog 103 #[.slice A b.length c,.int .u8 10] w fun e w'=>e=.returned (.int .i64 (nlI b))∧w=w':=by
 have HB:=As.mk hb
 obtain ⟨n,hn⟩:∃ n,b.length=n:=⟨_,rfl⟩
 rw [hn] at hl ⊢
 replace hn:=As.mk hn
 clear hb
 go_enter Tryz.func103,Tryz.ntmps103
 go_wp2
 go_loopw [8] (fun i wr=>∃ k:Nat,k≤n∧i=.int .i64 k∧As (∀ j,j<k→b.getD j 0≠10)∧As (wr=w)) (fun i _=>n - (intOf i).toNat)
 case atStart=>exact ⟨0,Nat.zero_le _,rfl,⟨fun j hj=>absurd hj (Nat.not_lt_zero _)⟩,⟨rfl⟩⟩
 case round =>
  obtain ⟨k,hk,rfl,hp,hw⟩:=hrel
  obtain ⟨hw⟩:=hw
  subst hw
  by_cases hlt:k<n
  · obtain ⟨ad,rfl,ca⟩:=Byt.at_ HB.out (i:=k) (by rw [hn.out];exact hlt)
    by_cases h10:b.getD k 0=10
    · have hr:=As.mk (Zfp (ZfD (by rw [hn.out];exact hlt) h10 hp.out))
      rw [h10] at ca
      go_wp2
      go_ret
      exact ⟨QL hr.out.symm,rfl⟩
    · obtain ⟨x,hx⟩:∃ x,b.getD k 0=x:=⟨_,rfl⟩
      have hxn:¬ x.toNat=10:=fun e=>h10 (by rw [hx];exact UInt8.toNat_inj.1 e)
      have hxi:((10:Int) == (x.toNat:Int))=false:=by rw [beq_eq_false_iff_ne];omega
      have hnx:As (∀ j,j<k+1→b.getD j 0≠10):=⟨fun j hj=>by
       rcases Nat.lt_or_ge j k with h | h
       · exact hp.out j h
       · obtain rfl:j=k:=by omega
         exact h10⟩
      rw [hx] at ca
      clear hx h10
      go_wp2
      go_roundw
      case rel=>exact ⟨k+1,hlt,(by first | rfl | go_num | (congr 1;omega)),hnx,⟨by trivial⟩⟩
      case measure=>simp [intOf];omega
  · obtain rfl:k=n:=by omega
    have hr:=As.mk (Zfq (Zfm (fun j hj=>hp.out j (by rw [hn.out] at hj;exact hj))))
    go_wp2
    go_ret
    exact ⟨QL hr.out.symm,rfl⟩
/-- lines.All hands over a function that holds the text. -/
theorem ZdJ (w:World) (V:Value) (h1:V.oneCell'=true) (A:Option Addr) (n c:Nat) (hV:V=.slice A n c):Calls Tryz.prog 63 #[V] w fun e w'=>e=.returned (.func (.func 102) #[] #[.pointer (some ⟨w.heap.size,0,none⟩)])∧w'=w.alloc (.cells #[V] 22):=by
 subst hV
 have hmf:∀ (fn:Fn) (first cap:Array Value) (w:World),(Instr.makeFunc fn first cap).run Tryz.prog w=.ok (.func fn first cap) w:=fun _ _ _ _=>rfl
 go_enter Tryz.func63,Tryz.ntmps63
 go_wp2
 go_ret
 exact ⟨rfl,rfl⟩
end Go.Proofs.YtfdlaomnecjfeaaGreatDoor
end
