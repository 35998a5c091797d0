/- Joined texts: Window3, Lns, Stream, Stream2, Stream3. -/
import Derived.Test.YtfdlaomnecjfeaaGreatDoorM12
import Derived.Test.YtfdlaomnecjfeaaGreatDoorM5
import Derived.Deep.DeepCutAuto
import Derived.Test.YtfdlaomnecjfeaaGreatDoorM7
import Derived.Test.YtfdlaomnecjfeaaGreatDoorM9
import Derived.Test.YtfdlaomnecjfeaaGreatDoorM1
set_option linter.unusedVariables false
set_option linter.unusedSimpArgs false
section
namespace Go.Proofs.YtfdlaomnecjfeaaGreatDoor
open Go.RowKit Seine.Trie Seine.Fg
theorem Keeps.undrew {S:Nat→Prop} {w w':World} (h:Keeps S w.drew w'):Keeps S w w':=⟨h.os,h.tape,h.output,h.size,h.block⟩
/-- What a window's operations turn. -/
def Qo (gw g:Nat) (v:Value) (k:Nat):Prop:=k=gw∨k=g∨some k=v.ownBlock
theorem ZeG (h r m n:Nat):(Z8 ⟨h,r,m⟩ n).move=m+(Z8 ⟨h,r,0⟩ n).move∧(Z8 ⟨h,r,m⟩ n).room=(Z8 ⟨h,r,0⟩ n).room:=by
 unfold Z8
 split
 · exact ⟨rfl,rfl⟩
 · split
   · exact ⟨by simp only;omega,rfl⟩
   · exact ⟨by simp only;omega,rfl⟩
theorem addW_parts (h r n:Nat) (hz:¬ n=0):(Z8 ⟨h,r,0⟩ n).move=(if r<h+n then h else 0)+n∧(Z8 ⟨h,r,0⟩ n).room=(if r<h+n then max (max (2 * r) (h+n)) 16 else r):=by
 unfold Z8
 rw [if_neg hz]
 by_cases hg:r<h+n <;> simp [hg]
/-- Behind the bytes' copy and the store of their number. -/
theorem WinAt.added {W W2:World} {base gw g:Nat} {B b:Txt} {R gd:Nat} {cn:Cn} {full:Txt} (ha:W.heap[gw]? = some (.cells #[.pointer (some ⟨g,0,none⟩),.slice (some ⟨gd,0,none⟩) R R,.int .i64 (B.length:Int)] 268 (0,0)))
    (hgd:W.heap[gd]? = some (.cells (Zh full).toArray 5 (0,0))) (hb:base≤gd) (hR:full.length=R) (ht:full.take B.length=B) (hfit:B.length+b.length≤R) (hg:gw≠g∧gd≠gw∧gd≠g)
    (e1:W2.heap[gd]? = some (.cells (splice (Zh full) B.length (Zh b)).toArray 5 (0,0))) (e2:MtAt W2 g cn) (e3:Keeps (fun k=>k=g∨k=gd) W W2) :
    WinAt (W2.setCell ⟨gw,2,none⟩ (.int .i64 ((B.length:Int)+(b.length:Int)))) base gw g (.slice (some ⟨gd,0,none⟩) R R) (B++b) R∧MtAt (W2.setCell ⟨gw,2,none⟩ (.int .i64 ((B.length:Int)+(b.length:Int)))) g cn ∧
     Keeps (Qo gw g (.slice (some ⟨gd,0,none⟩) R R)) W (W2.setCell ⟨gw,2,none⟩ (.int .i64 ((B.length:Int)+(b.length:Int)))):=by
 have h2:=Zd ha e3 (by omega)
 have h3:=Zi h2 2 (.int .i64 ((B.length:Int)+(b.length:Int)))
 have h4:=Z2 (p:=⟨gw,2,none⟩) e1 hg.2.1 (.int .i64 ((B.length:Int)+(b.length:Int)))
 rw [ZdF] at h4
 have hol:(Y0 full B.length b).length=R:=by rw [ZbL (by omega),hR]
 refine ⟨⟨by rw [h3];simp,Y0 full B.length b,.inr ⟨gd,hb,by rw [hol],h4⟩,hol,?_⟩,Z2 (p:=⟨gw,2,none⟩) e2 (fun e=>hg.1 e.symm) _,?_⟩
 · rw [List.length_append,ZdG (by omega),ht]
 · refine (e3.mono fun k _ h=>?_).trans ((Zm W2 ⟨gw,2,none⟩ _).mono fun _ _ h=>.inl h)
   rcases h with h | h
   · exact .inr (.inl h)
   · exact .inr (.inr (by rw [h];rfl))
set_option maxRecDepth 100000 in
set_option maxHeartbeats 3200000 in
theorem ZdH (w:World) (base gw g:Nat) (v:Value) (B:Txt) (R:Nat) (h:WinAt w base gw g v B R) (cn:Cn) (hm:MtAt w g cn) (h0:0≤cn.m) (h1:cn.m≤100000000000) (hR:R≤100000) (A:Option Addr) (c:Nat) (b:Txt) (hb:Byt w A b) (hbl:b.length≤100000) (hbase:base≤w.heap.size) :
    Calls Tryz.prog 116 #[.pointer (some ⟨gw,0,none⟩),.slice A b.length c] w fun e w'=>e=.returned (.tuple #[]) ∧
     ∃ v',WinAt w' base gw g v' (B++b) (Z8 ⟨B.length,R,0⟩ b.length).room∧MtAt w' g { cn with m:=cn.m+((Z8 ⟨B.length,R,0⟩ b.length).move:Int) }∧Keeps (Qo gw g v) w w'∧(v'.ownBlock=v.ownBlock∨∃ k,v'.ownBlock=some k∧w.heap.size≤k):=by
 have hf:=h.fit
 have hap:=h.apart hm
 have c0:w.cell? ⟨gw,2,none⟩=some (.int .i64 (B.length:Int)):=Za h.1 2
 have c1:w.cell? ⟨gw,1,none⟩=some v:=Za h.1 1
 by_cases hz:b.length=0
 · have hb0:b=[]:=List.eq_nil_of_length_eq_zero hz
   subst hb0
   have hW:=As.mk h
   have hM:=As.mk hm
   clear h hm hb hap
   simp only [List.length_nil]
   go_enter Tryz.func116,Tryz.ntmps116
   go_wp2
   refine bodyPost_ret (results_none rfl _ _ _) rfl ?_
   refine ⟨rfl,v,?_,?_,Keeps.refl _ _,.inl rfl⟩
   · unfold Z8;simpa using hW.out
   · unfold Z8;simpa using hM.out
 · have hzi:((b.length:Int) == 0)=false:=by rw [beq_eq_false_iff_ne];omega
   have hwn2:IntKind.i64.wrap ((B.length:Int)+(b.length:Int))=(B.length:Int)+(b.length:Int):=by rw [IntKind.wrap_i64];omega
   obtain ⟨hwb,full,hroom,hfl,htk⟩:=h
   obtain ⟨hgwg,hapv⟩:=hap
   have hrm:=addW_room ⟨B.length,R,0⟩ b.length hf
   have hmv:=addW_parts B.length R b.length hz
   have hR2:(Z8 ⟨B.length,R,0⟩ b.length).room≤1000000:=by rw [hmv.2];split <;> omega
   rw [ZeE] at hrm
   obtain ⟨hmv,hroomv⟩:=hmv
   simp only at hrm
   obtain ⟨R2,hR2e⟩:∃ k,(Z8 ⟨B.length,R,0⟩ b.length).room=k:=⟨_,rfl⟩
   rw [hR2e] at hrm hroomv hR2 ⊢
   rw [hmv]
   obtain ⟨x,hx⟩:∃ k,(if R<B.length+b.length then B.length else 0)=k:=⟨_,rfl⟩
   rw [hx]
   have hxl:x≤B.length:=by rw [← hx];split <;> omega
   have hWA:As (WinAt w base gw g v B R):=⟨⟨hwb,full,hroom,hfl,htk⟩⟩
   have hMA:=As.mk hm
   have hbA:=As.mk hb
   have hgrow:=As.mk (fun hg:R<B.length+b.length=>(by have:=wgrow_calls w base gw g v B R hWA.out cn hm h0 (by omega) (by omega) (B.length+b.length) (by omega) hbase;rw [if_pos hg] at hroomv hx;rw [← hroomv] at this;exact this:Calls Tryz.prog 166 #[.pointer (some ⟨gw,0,none⟩),.int .i64 ((B.length+b.length:Nat):Int)] w fun e w'=>e=.returned (.tuple #[])∧(∃ v',WinAt w' base gw g v' B R2∧∃ k,v'.ownBlock=some k∧w.heap.size≤k)∧MtAt w' g { cn with m:=cn.m+(B.length:Int) }∧Keeps (fun k=>k=gw∨k=g) w w'))
   have hRx:=As.mk hroomv
   have hxA:=As.mk hx
   have hvb:=hroom.byt
   obtain ⟨Av,hveq,_⟩:=hvb
   rw [hfl] at hveq
   have hve0:=As.mk hveq
   have hgwgA:=As.mk hgwg
   have hapA:=As.mk hapv
   have hbn:=As.mk (fun (hne:b≠[])=>Byt.farOf hb hne hwb (by intro y hy n e;subst e;simp [hveq] at hy))
   have hbg:=As.mk (fun (hne:b≠[])=>Byt.farOf hb hne hm (by intro y hy n e;subst e;simp [Qr] at hy))
   rw [hveq] at c1
   clear hwb hroom hfl htk hm hb hroomv hx hmv hapv hgwg
   go_enter Tryz.func116,Tryz.ntmps116
   go_upto_if 25 with (fail)
   go_cut [] (fun wx=>∃ v',As (WinAt wx base gw g v' B R2)∧As (MtAt wx g { cn with m:=cn.m+(x:Int) })∧As (Keeps (fun k=>k=gw∨k=g) w wx)∧As (v'=v∨∃ k,v'.ownBlock=some k∧w.heap.size≤k))
   case first =>
    by_cases hg:R<B.length+b.length
    · have hcg:=hgrow.out hg
      have hgi:(R:Int)<(B.length:Int)+(b.length:Int):=by omega
      have hgi2:decide ((R:Int)<(B.length:Int)+(b.length:Int))=true:=decide_eq_true hgi
      have hx2:=hxA.out
      rw [if_pos hg] at hx2
      replace hx2:=As.mk hx2
      push_cast at hcg
      replace hcg:=As.mk hcg
      go_wp2_with (go_at_call 166;with_reducible refine Calls.mono hcg.out ?_;rintro e w1 ⟨rfl,⟨v1,q1,q2⟩,q3,q4⟩)
      go_meet
      case rel=>exact ⟨v1,⟨q1⟩,⟨by rw [← hx2.out];exact q3⟩,⟨q4⟩,⟨.inr q2⟩⟩
    · have hgi:¬ (R:Int)<(B.length:Int)+(b.length:Int):=by omega
      have hx2:=hxA.out
      rw [if_neg hg] at hx2
      replace hx2:=As.mk hx2
      have hr2:=hRx.out
      rw [if_neg hg] at hr2
      replace hr2:=As.mk hr2
      go_wp2
      go_meet
      case rel=>exact ⟨v,⟨by rw [hr2.out];exact hWA.out⟩,⟨by rw [← hx2.out];simpa using hMA.out⟩,⟨Keeps.refl _ _⟩,⟨.inl rfl⟩⟩
   case rest =>
    obtain ⟨v1,hW1,hM1,hK1,hf1⟩:=hcut
    obtain ⟨W1,hW1e⟩:∃ W,wc=W:=⟨_,rfl⟩
    rw [hW1e] at hW1 hM1 hK1 ⊢
    clear hW1e hgrow hWA
    obtain ⟨hgwg,hapv⟩:=hW1.out.apart hM1.out
    obtain ⟨hwb,full,hroom,hfl,htk⟩:=hW1.out
    have hbW:Byt W1.drew A b:=Byt.keepNot hbA.out hK1.out.drew (fun hne ad e h=>h.elim (hbn.out hne ad e) (hbg.out hne ad e))
    have hmt:MtAt W1.drew g { cn with m:=cn.m+(x:Int) }:=hM1.out
    have hfin:As (∀ W3:World,Keeps (Qo gw g v1) W1 W3→Keeps (Qo gw g v) w W3):=⟨fun W3 h3=>⟨h3.os.trans hK1.out.os,h3.tape.trans hK1.out.tape,h3.output.trans hK1.out.output,Nat.le_trans hK1.out.size h3.size,fun k hk hn=>by
     have hn2:¬ Qo gw g v1 k:=fun h=>by
      rcases h with h | h | h
      · exact hn (.inl h)
      · exact hn (.inr (.inl h))
      · rcases hf1.out with e | ⟨q,e,hq⟩
        · exact hn (.inr (.inr (by rw [h,e])))
        · rw [e] at h;injection h with h;omega
     exact (h3.block k (Nat.lt_of_lt_of_le hk hK1.out.size) hn2).trans (hK1.out.block k hk (fun h=>hn (h.elim .inl (fun h=>.inr (.inl h)))))⟩⟩
    obtain ⟨gd,hgdb,hve,hgd⟩:∃ gd,base≤gd∧v1=.slice (some ⟨gd,0,none⟩) R2 R2∧W1.heap[gd]? = some (.cells (Zh full).toArray 5 (0,0)):=by
     rcases hroom with ⟨hz,_⟩ | ⟨gd,h1,h2,h3⟩
     · rw [hz] at hfl;simp only [List.length_nil] at hfl;omega
     · exact ⟨gd,h1,by rw [h2,hfl],h3⟩
    rw [hve] at hwb hapv
    have hapg:=hapv gd rfl
    have hCp:=As.mk (ZcE W1.drew g { cn with m:=cn.m+(x:Int) } hmt (by simp only;omega) (by simp only;omega) gd B.length (R2 - B.length) (R2 - B.length) (Zh full) hgd (some ⟨gd,B.length,none⟩) rfl A c b hbW (by omega) (by rw [Zt];omega) (by omega))
    have hend:=As.mk (fun (W2:World) e1 e2 e3=>WinAt.added (W:=W1.drew) (W2:=W2) (b:=b) (cn:={ cn with m:=cn.m+(x:Int)+(b.length:Int) }) hwb hgd hgdb hfl htk (by omega) ⟨hgwg,hapg.1,hapg.2⟩ e1 e2 e3)
    have fz:As (∀ W2:World,Keeps (fun k=>k=g∨k=gd) W1.drew W2→W2.cell? ⟨gw,2,none⟩=some (.int .i64 (B.length:Int))∧W2.frozen? ⟨gw,2,none⟩=false∧W2.cell? ⟨gw,1,none⟩=some (.slice (some ⟨gd,0,none⟩) R2 R2)∧W2.cell? ⟨gw,0,none⟩=some (.pointer (some ⟨g,0,none⟩))):=⟨fun W2 e3=>by
     have h2:=Zd (w:=W1.drew) hwb e3 (by show ¬ (gw=g∨gw=gd);omega)
     exact ⟨Za h2 2,Zb h2 2,Za h2 1,Za h2 0⟩⟩
    have r0:W1.drew.cell? ⟨gw,0,none⟩=some (.pointer (some ⟨g,0,none⟩)):=Za hwb 0
    have r1:W1.drew.cell? ⟨gw,1,none⟩=some (.slice (some ⟨gd,0,none⟩) R2 R2):=Za hwb 1
    have r2:W1.drew.cell? ⟨gw,2,none⟩=some (.int .i64 (B.length:Int)):=Za hwb 2
    have rf:W1.drew.frozen? ⟨gw,2,none⟩=false:=Zb hwb 2
    have hwr:IntKind.i64.wrap ((B.length:Int)+(b.length:Int))=(B.length:Int)+(b.length:Int):=by rw [IntKind.wrap_i64];omega
    have hlt:¬ (R2:Int)<(B.length:Int):=by omega
    have hltn:B.length<R2:=by omega
    have hne:¬ R2=B.length:=by omega
    have hneA:As (B.length+b.length≤R2∧((cn.m+(x:Int)+(b.length:Int)=cn.m+((x+b.length:Nat):Int)))):=⟨⟨by omega,by push_cast;omega⟩⟩
    have hveA:=As.mk hve
    have hfA:=As.mk hf1.out
    clear hwb hroom hfl htk hgd hbW hmt hbn hbg hxA hRx hMA hbA hgwgA hapA hve0 hve hveq hapv hf1 hW1 hM1 hK1 c0 c1 hxl hrm
    go_wp2_with fail
    go_region_law (first
     | (refine Xq (by rfl) ?ho hCp.out ?_;(case ho=>go_simp);rintro e W2 ⟨rfl,e1,e2,e3⟩;obtain ⟨z2,zf,z1,z0⟩:=fz.out _ e3;replace e1:=As.mk e1;replace e2:=As.mk e2;replace e3:=As.mk e3;refine ⟨_,rfl,?_⟩))
    all_goals
     go_wp2
     go_end0
     have hfi:=hend.out _ e1.out e2.out e3.out
     refine ⟨rfl,.slice (some ⟨gd,0,none⟩) R2 R2,hfi.1,by rw [← hneA.out.2];exact hfi.2.1,hfin.out _ (by rw [hveA.out];exact Keeps.undrew hfi.2.2),?_⟩
     rcases hfA.out with e | ⟨k,e,hk⟩
     · exact .inl (by rw [← hveA.out,e])
     · exact .inr ⟨k,by rw [← hveA.out];exact e,hk⟩
end Go.Proofs.YtfdlaomnecjfeaaGreatDoor
end
section
namespace Go.Proofs.YtfdlaomnecjfeaaGreatDoor
open Go.RowKit Seine.Trie Seine.Fg
theorem info_ln:(Tryz.prog.info? 206).map (fun i=>(i.zero,i.size,i.bytes))=some (some (.agg #[.int .i64 0,.int .i64 0,.slice none 0 0]),3,40):=by kernel_rfl
def QY:List Ln→List Value→List Value
 | x::ls,u::vs=>.int .i64 (x.num:Int)::.int .i64 (x.off:Int)::u::QY ls vs
 | _,_=>[]
theorem ZbM:∀ (ls:List Ln) (vs:List Value) (x:Ln) (u:Value),vs.length=ls.length→QY (ls++[x]) (vs++[u])=QY ls vs++[.int .i64 (x.num:Int),.int .i64 (x.off:Int),u]
 | [],[],x,u,_=>rfl
 | y::ls,v::vs,x,u,h=>by
   have:=ZbM ls vs x u (by simpa using h)
   simp only [List.cons_append,QY,this]
def lnD:Ln:=⟨0,0,[]⟩
theorem ZdI:∀ (ls:List Ln) (vs:List Value) (i:Nat),vs.length=ls.length→i<ls.length →
    (QY ls vs)[i * 3]? = some (.int .i64 ((ls.getD i lnD).num:Int))∧(QY ls vs)[i * 3+1]? = some (.int .i64 ((ls.getD i lnD).off:Int))∧(QY ls vs)[i * 3+2]? = vs[i]?
 | [],_,i,_,h=>absurd h (Nat.not_lt_zero _)
 | x::ls,[],i,h,_=>by simp at h
 | x::ls,u::vs,0,h,_=>by simp [QY]
 | x::ls,u::vs,i+1,h,hi=>by
   have:=ZdI ls vs i (by simpa using h) (by simpa using hi)
   have e:(i+1) * 3=i * 3+3:=by omega
   rw [e]
   simpa [QY] using this
/-- Lines that may be read. -/
def Lns (w:World) (A:Option Addr) (ls:List Ln):Prop:=∃ vs:List Value,vs.length=ls.length∧Row w A (QY ls vs) ∧
 ∀ i,i<ls.length→∃ A' c',vs[i]? = some (.slice A' (ls.getD i lnD).text.length c')∧(ls.getD i lnD).text.length≤c'∧Byt w A' (ls.getD i lnD).text
theorem Lns.below {w w':World} {A:Option Addr} {ls:List Ln} (h:Lns w A ls) (hb:Below w.heap.size w w'):Lns w' A ls:=by
 obtain ⟨vs,h1,h2,h3⟩:=h
 exact ⟨vs,h1,Row.below h2 hb,fun i hi=>by obtain ⟨A',c',a,b,c⟩:=h3 i hi;exact ⟨A',c',a,b,Row.below c hb⟩⟩
/-- Lines of one's own, in a slice of one's own; no text stands in x's block. -/
def OwnLns (base:Nat) (w:World) (v x:Value) (ls:List Ln):Prop:=∃ vs:List Value,vs.length=ls.length∧w.ownsRow base 206 3 v ls.length (QY ls vs)∧∀ i,i<ls.length→∃ u,vs[i]? = some u∧OwnByt w base u (ls.getD i lnD).text∧∀ k,some k=u.ownBlock→some k≠x.ownBlock
theorem OwnLns.nil (base:Nat) (w:World) (x:Value):OwnLns base w (.slice none 0 0) x []:=⟨[],rfl,World.ownsRow_nil _ _ _ _,fun i hi=>absurd hi (Nat.not_lt_zero _)⟩
theorem OwnLns.below {base:Nat} {w w':World} {v x:Value} {ls:List Ln} (h:OwnLns base w v x ls) (hb:Below w.heap.size w w'):OwnLns base w' v x ls:=by
 obtain ⟨vs,h1,h2,h3⟩:=h
 exact ⟨vs,h1,Zo h2 hb,fun i hi=>by obtain ⟨u,a,b,c⟩:=h3 i hi;exact ⟨u,a,Zo b hb,c⟩⟩
/-- What turns neither the row nor a block of bytes other than x's leaves them. -/
theorem OwnLns.keep {S:Nat→Prop} {base:Nat} {w w':World} {v x:Value} {ls:List Ln} (h:OwnLns base w v x ls) (hk:Keeps S w w') (h1:∀ b c,w.heap[b]? = some (.cells c 206 (0,0))→some b=v.ownBlock→¬ S b) (h2:∀ b c,w.heap[b]? = some (.cells c 5 (0,0))→some b≠x.ownBlock→¬ S b):OwnLns base w' v x ls:=by
 obtain ⟨vs,a1,a2,a3⟩:=h
 exact ⟨vs,a1,Zj a2 hk (fun b c _ hh e=>h1 b c hh e),fun i hi=>by obtain ⟨u,a,b,c⟩:=a3 i hi;exact ⟨u,a,Zj b hk (fun q d _ hh e=>h2 q d hh (c q e)),c⟩⟩
theorem OwnLns.lns {base:Nat} {w:World} {v x:Value} {ls:List Ln} (h:OwnLns base w v x ls):∃ A c,v=.slice A ls.length c∧ls.length≤c∧Lns w A ls:=by
 obtain ⟨vs,hl,ho,hbv⟩:=h
 obtain ⟨A,c,rfl,hc⟩:=Zk ho
 refine ⟨A,c,rfl,hc,vs,hl,Row.of_own ho,fun i hi=>?_⟩
 obtain ⟨u,a,b,_⟩:=hbv i hi
 obtain ⟨A',c',rfl,hc'⟩:=Zk b
 exact ⟨A',c',a,hc',Row.of_own b⟩
theorem lnD_snoc_lt {ls:List Ln} {t:Ln} {i:Nat} (h:i<ls.length):(ls++[t]).getD i lnD=ls.getD i lnD:=by rw [List.getD_eq_getElem?_getD,List.getElem?_append_left h,← List.getD_eq_getElem?_getD]
theorem lnD_snoc_eq {ls:List Ln} {t:Ln}:(ls++[t]).getD ls.length lnD=t:=by rw [List.getD_eq_getElem?_getD,List.getElem?_append_right (Nat.le_refl _)];simp
/-- Behind an append of one line. -/
theorem OwnLns.snoc {base:Nat} {w w':World} {v v' u y:Value} {ls:List Ln} {x:Ln} {vs:List Value} (hl:vs.length=ls.length) (hb:∀ i,i<ls.length→∃ u,vs[i]? = some u∧OwnByt w base u (ls.getD i lnD).text∧∀ k,some k=u.ownBlock→some k≠y.ownBlock)
    (hu:OwnByt w base u x.text) (huy:∀ k,some k=u.ownBlock→some k≠y.ownBlock) (hv:w.ownsRow base 206 3 v ls.length (QY ls vs)) (hk:Keeps (fun k=>some k=v.ownBlock) w w')
    (ho:w'.ownsRow base 206 3 v' (ls.length+1) (QY ls vs++[.int .i64 (x.num:Int),.int .i64 (x.off:Int),u])):OwnLns base w' v' y (ls++[x]):=by
 have hfar:∀ b c,w.heap[b]? = some (.cells c 5 (0,0))→¬ some b=v.ownBlock:=fun b c hh hs=>by
  obtain ⟨c',h⟩:=QE hv hs
  rw [hh] at h
  injection h with h
  injection h with _ h
  exact absurd h (by decide)
 refine ⟨vs++[u],by simp [hl],by rw [List.length_append,ZbM _ _ _ _ hl];exact ho,fun i hi=>?_⟩
 rw [List.length_append,List.length_singleton] at hi
 by_cases h:i<ls.length
 · obtain ⟨z,a,b,d⟩:=hb i h
   rw [lnD_snoc_lt h]
   exact ⟨z,by rw [List.getElem?_append_left (by omega)];exact a,Zj b hk (fun b c _ hh _=>hfar b c hh),d⟩
 · obtain rfl:i=ls.length:=by omega
   rw [lnD_snoc_eq]
   exact ⟨u,by rw [← hl,List.getElem?_append_right (Nat.le_refl _)];simp,Zj hu hk (fun b c _ hh _=>hfar b c hh),huy⟩
/-- A line's cells. -/
theorem Lns.at_ {w:World} {A:Option Addr} {ls:List Ln} (h:Lns w A ls) {i:Nat} (hi:i<ls.length):∃ ad A' c',A=some ad ∧
    w.cell? (ad.add (i * 3))=some (.int .i64 ((ls.getD i lnD).num:Int))∧w.cell? ⟨(ad.add (i * 3)).block,(ad.add (i * 3)).off+1,none⟩=some (.int .i64 ((ls.getD i lnD).off:Int)) ∧
    w.cell? ⟨(ad.add (i * 3)).block,(ad.add (i * 3)).off+2,none⟩=some (.slice A' (ls.getD i lnD).text.length c')∧(ls.getD i lnD).text.length≤c'∧Byt w A' (ls.getD i lnD).text:=by
 obtain ⟨vs,h1,h2,h3⟩:=h
 obtain ⟨a,b,c⟩:=ZdI ls vs i h1 hi
 obtain ⟨A',c',h4,h5,h6⟩:=h3 i hi
 rcases h2 with h2 | ⟨ad,hA,_,hc⟩
 · rw [h2] at a;simp at a
 · refine ⟨ad,A',c',hA,hc _ _ a,?_,?_,h5,h6⟩
   · rw [← Addr.add_field _ _ _ (by omega)];exact hc _ _ b
   · rw [← Addr.add_field _ _ _ (by omega)];exact hc _ _ (c.trans h4)
end Go.Proofs.YtfdlaomnecjfeaaGreatDoor
end
section
namespace Go.Proofs.YtfdlaomnecjfeaaGreatDoor
open Go.RowKit Seine.Trie Seine.Fg
/-- Blocks of unlike makes are two. -/
theorem Zp {w:World} {a b t u:Nat} {c d:Array Value} {fr fs:Nat × Nat} (h:w.heap[a]? = some (.cells c t fr)) (k:w.heap[b]? = some (.cells d u fs)) (ht:t≠u):¬ a=b:=fun e=>by
 rw [e,k] at h
 injection h with h
 injection h with _ h
 exact ht h.symm
theorem WinAt.vne {w:World} {base gw g:Nat} {v:Value} {B:Txt} {R:Nat} (h:WinAt w base gw g v B R) {a t:Nat} {cs:Array Value} {fr:Nat × Nat} (ha:w.heap[a]? = some (.cells cs t fr)) (ht:t≠5):∀ k,some k=v.ownBlock→¬ k=a:=fun k hk=>by
 obtain ⟨_,full,hr,_⟩:=h
 rcases hr with ⟨_,rfl⟩ | ⟨gd,_,rfl,hr⟩
 · simp [Value.ownBlock] at hk
 · simp [Value.ownBlock] at hk
   subst hk
   exact Zp hr ha (fun e=>ht e.symm)
theorem WinAt.vlt {w:World} {base gw g:Nat} {v:Value} {B:Txt} {R:Nat} (h:WinAt w base gw g v B R):∀ k,some k=v.ownBlock→k<w.heap.size:=fun k hk=>by
 obtain ⟨_,full,hr,_⟩:=h
 rcases hr with ⟨_,rfl⟩ | ⟨gd,_,rfl,hr⟩
 · simp [Value.ownBlock] at hk
 · simp [Value.ownBlock] at hk
   subst hk
   exact Zf hr
/-- A stream's block. -/
def Ql (w:World) (gs gw g num off:Nat) (over:Bool) (bad:Int):Prop :=
 w.heap[gs]? = some (.cells #[.pointer (some ⟨g,0,none⟩),.pointer (some ⟨gw,0,none⟩),.int .i64 400,.int .i64 (num:Int),.int .i64 (off:Int),.bool over,.int .i64 bad] 202 (0,0))
theorem lineW_zero (h r m n:Nat):(ZW ⟨h,r,m⟩ n).move=m+(ZW ⟨h,r,0⟩ n).move∧(ZW ⟨h,r,m⟩ n).room=(ZW ⟨h,r,0⟩ n).room:=by
 unfold ZW JN
 simp only
 split
 · exact ZeG h r m n
 · exact ⟨rfl,rfl⟩
theorem Keeps.restrict {S T:Nat→Prop} {w w1 w2:World} (h:Keeps S w w1) (k:Keeps T w1 w2) (hT:∀ b,b<w.heap.size→T b→S b):Keeps S w w2 :=
 ⟨k.os.trans h.os,k.tape.trans h.tape,k.output.trans h.output,Nat.le_trans h.size k.size,fun b hb hn=>(k.block b (Nat.lt_of_lt_of_le hb h.size) (fun ht=>hn (hT b hb ht))).trans (h.block b hb hn)⟩
theorem addW_room_le (h r n:Nat):(Z8 ⟨h,r,0⟩ n).room≤2 * r+h+n+16:=by
 unfold Z8
 split
 · simp only;omega
 · split
   · simp only;omega
   · simp only;omega
set_option maxRecDepth 100000 in
set_option maxHeartbeats 3200000 in
theorem ZcF (w:World) (base gs gw g:Nat) (v:Value) (B:Txt) (R num off:Nat) (over:Bool) (bad:Int) (cn:Cn) (hS:Ql w gs gw g num off over bad) (hW:WinAt w base gw g v B R) (hm:MtAt w g cn) (h0:0≤cn.m) (h1:cn.m≤100000000000) (hR:R≤100000)
    (A:Option Addr) (c:Nat) (b:Txt) (hb:Byt w A b) (hbl:b.length≤100000) (hbase:base≤w.heap.size) (hnum:num≤100000000000) (hoff:off≤100000000000) :
    Calls Tryz.prog 113 #[.pointer (some ⟨gs,0,none⟩),.slice A b.length c] w fun e w'=>∃ u v',e=.returned (.agg #[.int .i64 (num:Int),.int .i64 (off:Int),u])∧OwnByt w' w.heap.size u (B++b) ∧
     Ql w' gs gw g (num+1) (off+(B++b).length+1) over bad∧WinAt w' base gw g v' [] (ZW ⟨B.length,R,0⟩ b.length).room∧MtAt w' g { cn with m:=cn.m+((ZW ⟨B.length,R,0⟩ b.length).move:Int) } ∧
     Keeps (fun k=>k=gs∨Qo gw g v k) w w'∧(v'.ownBlock=v.ownBlock∨∃ k,v'.ownBlock=some k∧w.heap.size≤k)∧(∀ k,some k=u.ownBlock→some k≠v'.ownBlock):=by
 have hSA:=As.mk hS
 have hWA:=As.mk hW
 have hMA:=As.mk hm
 have hbA:=As.mk hb
 have hgs:=Zf hS
 obtain ⟨z,hz⟩:∃ z,w.heap.size=z:=⟨_,rfl⟩
 rw [hz] at hgs hbase
 have hB0:Below w.heap.size w (w.alloc (.cells #[.int .i64 0,.int .i64 0,.slice none 0 0] 206)):=(Below.refl _ _).alloc (Nat.le_refl _) _
 have hz0:=heap_alloc_new w (.cells #[.int .i64 0,.int .i64 0,.slice none 0 0] 206)
 obtain ⟨W0,hW0⟩:∃ W,w.alloc (.cells #[.int .i64 0,.int .i64 0,.slice none 0 0] 206)=W:=⟨_,rfl⟩
 rw [hW0] at hB0 hz0
 rw [hz] at hz0
 have cc:=As.mk (fun (v:World) (hv:Below W0.heap.size W0 v)=>ZR v A c b (Row.below (Row.below hb hB0) hv) (by omega))
 have hS0:=Zc hB0 hS
 have hg3:∀ v,Below W0.heap.size W0 v→v.cell? ⟨gs,3,none⟩=some (.int .i64 (num:Int))∧v.cell? ⟨gs,4,none⟩=some (.int .i64 (off:Int)):=fun v hv=>⟨Za (Zc hv hS0) 3,Za (Zc hv hS0) 4⟩
 have hg3A:=As.mk hg3
 have hB0A:=As.mk hB0
 have hz0A:=As.mk hz0
 have hzA:=As.mk hz
 have hsz0:W0.heap.size=z+1:=by rw [← hW0,World.size_alloc,hz]
 have hszA:=As.mk hsz0
 have hW0A:=As.mk hW0
 clear hS hW hm hb hB0 hz0 hS0 hsz0
 go_enter Tryz.func113,Tryz.ntmps113
 go_upto_region 1 with fail
 go_cut [4,5] (fun v4 v5 wx=>v4=.pointer (some ⟨z,0,none⟩)∧∃ gl u,v5=.pointer (some ⟨gl,0,none⟩)∧As (z<gl)∧As (wx.heap[gl]? = some (.cells #[.int .i64 (num:Int),.int .i64 (off:Int),u] 206 (0,0)))∧As (OwnByt wx z u b)∧As (Below W0.heap.size W0 wx))
 case first =>
  refine wp_region_held_drew (S:=fun v=>v.cell? ⟨gs,3,none⟩=some (.int .i64 (num:Int))∧v.cell? ⟨gs,4,none⟩=some (.int .i64 (off:Int))) (by kernel_rfl) (hg3A.out _ (Below.refl _ _).drew) (fun hHeld=>?_)
  refine Zg 0 (v:=?_) rfl (by kernel_rfl) (by kernel_rfl) (by kernel_rfl) (fun _ _ _ h=>h) (Or.inl ⟨by rfl,?_⟩) (by assumption) ?_
  rotate_left 1
  · (intro w hSw;(try dsimp only at hSw);first | (go_simp;done) | (go_simp;with_reducible rfl))
  (simp only [Act.put,List.setIfInBounds_toArray,List.set_cons_zero,List.set_cons_succ])
  refine Zg 1 (v:=?_) rfl (by kernel_rfl) (by kernel_rfl) (by kernel_rfl) (fun _ _ _ h=>h) (Or.inl ⟨by rfl,?_⟩) (by assumption) ?_
  rotate_left 1
  · (intro w hSw;(try dsimp only at hSw);first | (go_simp;done) | (go_simp;with_reducible rfl))
  (simp only [Act.put,List.setIfInBounds_toArray,List.set_cons_zero,List.set_cons_succ])
  refine Zg 2 (v:=?_) rfl (by kernel_rfl) (by kernel_rfl) (by kernel_rfl) (fun _ _ _ h=>h) (Or.inl ⟨by rfl,?_⟩) (by assumption) ?_
  rotate_left 1
  · (intro w hSw;(try dsimp only at hSw);first | (go_simp;done) | (go_simp;with_reducible rfl))
  (simp only [Act.put,List.setIfInBounds_toArray,List.set_cons_zero,List.set_cons_succ])
  refine Zg 3 (v:=?_) rfl (by kernel_rfl) (by kernel_rfl) (by kernel_rfl) (fun _ _ _ h=>h) (Or.inl ⟨by rfl,?_⟩) (by assumption) ?_
  rotate_left 1
  · (intro w hSw;(try dsimp only at hSw);first | (go_simp;done) | (go_simp;with_reducible rfl))
  (simp only [Act.put,List.setIfInBounds_toArray,List.set_cons_zero,List.set_cons_succ])
  refine Zg 4 (v:=?_) rfl (by kernel_rfl) (by kernel_rfl) (by kernel_rfl) (fun _ _ _ h=>h) (Or.inl ⟨by rfl,?_⟩) (by assumption) ?_
  rotate_left 1
  · (intro w hSw;(try dsimp only at hSw);first | (go_simp;done) | (go_simp;with_reducible rfl))
  (simp only [Act.put,List.setIfInBounds_toArray,List.set_cons_zero,List.set_cons_succ])
  refine Zg 5 (v:=?_) rfl (by kernel_rfl) (by kernel_rfl) (by kernel_rfl) (fun _ _ _ h=>h) (Or.inl ⟨by rfl,?_⟩) (by assumption) ?_
  rotate_left 1
  · (intro w hSw;(try dsimp only at hSw);first | (go_simp;done) | (go_simp;with_reducible rfl))
  (simp only [Act.put,List.setIfInBounds_toArray,List.set_cons_zero,List.set_cons_succ])
  refine Zg 6 (v:=?_) rfl (by kernel_rfl) (by kernel_rfl) (by kernel_rfl) (fun _ _ _ h=>h) (Or.inl ⟨by rfl,?_⟩) (by assumption) ?_
  rotate_left 1
  · (intro w hSw;(try dsimp only at hSw);first | (go_simp;done) | (go_simp;with_reducible rfl))
  (simp only [Act.put,List.setIfInBounds_toArray,List.set_cons_zero,List.set_cons_succ])
  refine Zg 7 (v:=?_) rfl (by kernel_rfl) (by kernel_rfl) (by kernel_rfl) (fun _ _ _ h=>h) (Or.inl ⟨by rfl,?_⟩) (by assumption) ?_
  rotate_left 1
  · (intro w hSw;(try dsimp only at hSw);first | (go_simp;done) | (go_simp;with_reducible rfl))
  (simp only [Act.put,List.setIfInBounds_toArray,List.set_cons_zero,List.set_cons_succ])
  refine Zg 8 (v:=?_) rfl (by kernel_rfl) (by kernel_rfl) (by kernel_rfl) (fun _ _ _ h=>h) (Or.inl ⟨by rfl,?_⟩) (by assumption) ?_
  rotate_left 1
  · (intro w hSw;(try dsimp only at hSw);first | (go_simp;done) | (go_simp;with_reducible rfl))
  (simp only [Act.put,List.setIfInBounds_toArray,List.set_cons_zero,List.set_cons_succ])
  refine wpAnyH_ready (rs:=[9,11]) (by kernel_rfl) (by simp) ?_
  refine AllReadyH.cons rfl (fun K hK=>?_) (AllReadyH.cons rfl (fun K hK=>?_) AllReadyH.nil)
  · go_simp
    go_wp2_with (go_at_call 104;refine Calls.mono (cc.out _ (Below.refl _ _).drew) ?_;intro e w1 h1;obtain ⟨u,he,ho1,hb1⟩:=h1;subst he;obtain ⟨Au,cu,rfl,hcu⟩:=Zk ho1;replace ho1:=As.mk ho1)
    have hb01:Below W0.heap.size W0 w1:=(Below.refl _ _).drew.trans hb1
    refine hK.out _ _ (hg3A.out _ hb01) (fun hHeld=>?_)
    clear hK K
    refine Zg 10 (v:=?_) rfl (by kernel_rfl) (by kernel_rfl) (by kernel_rfl) (fun _ _ _ h=>h) (Or.inl ⟨by rfl,?_⟩) (by assumption) ?_
    rotate_left 1
    · (intro w hSw;(try dsimp only at hSw);first | (go_simp;done) | (go_simp;with_reducible rfl))
    (simp only [Act.put,List.setIfInBounds_toArray,List.set_cons_zero,List.set_cons_succ])
    refine wpAnyH_ready (rs:=[11]) (by kernel_rfl) (by simp) ?_
    refine AllReadyH.cons rfl (fun K hK=>?_) AllReadyH.nil
    go_simp
    refine hK.out _ _ (hg3A.out _ (hb01.alloc hb01.size _)) (fun hHeld=>?_)
    clear hK K
    refine wpAnyH_ready (rs:=[12]) (by kernel_rfl) (by simp) ?_
    refine AllReadyH.cons rfl (fun K hK=>?_) AllReadyH.nil
    go_simp
    refine hK.out _ _ (hg3A.out _ (hb01.alloc hb01.size _)) (fun hHeld=>?_)
    clear hK K
    refine wpAnyH_done (by kernel_rfl) ?_ _
    go_wp2_with fail
    go_meet
    case rel =>
     have hs1:=hb01.size
     have hsz:=hszA.out
     exact ⟨rfl,_,_,rfl,⟨by omega⟩,⟨heap_alloc_new _ _⟩,⟨ZB (ho1.out.alloc _) (by show z≤W0.heap.size;omega)⟩,⟨hb01.alloc hs1 _⟩⟩
  · go_simp
    have hba:Below W0.heap.size W0 ((W0.alloc (.cells #[.int .i64 0,.int .i64 0,.slice none 0 0] 206)).drew):=((Below.refl _ _).alloc (Nat.le_refl _) _).drew
    have hn0:((W0.alloc (.cells #[.int .i64 0,.int .i64 0,.slice none 0 0] 206)).drew).heap[W0.heap.size]? = some (.cells #[.int .i64 0,.int .i64 0,.slice none 0 0] 206 (0,0)):=heap_alloc_new W0 _
    refine hK.out _ _ (hg3A.out _ hba) (fun hHeld=>?_)
    clear hK K
    obtain ⟨Wb,hWb⟩:∃ W,(W0.alloc (.cells #[.int .i64 0,.int .i64 0,.slice none 0 0] 206)).drew=W:=⟨_,rfl⟩
    rw [hWb] at hba hn0 ⊢
    clear hWb
    rw [hszA.out] at hn0 ⊢
    refine wpAnyH_ready (rs:=[9]) (by kernel_rfl) (by simp) ?_
    refine AllReadyH.cons rfl (fun K hK=>?_) AllReadyH.nil
    go_simp
    go_wp2_with (go_at_call 104;refine Calls.mono (cc.out _ hba) ?_;intro e w1 h1;obtain ⟨u,he,ho1,hb1⟩:=h1;subst he;obtain ⟨Au,cu,rfl,hcu⟩:=Zk ho1;replace ho1:=As.mk ho1)
    have hb01:Below W0.heap.size W0 w1:=Ze hba hb1
    have hn1:=Zc hb1 hn0
    refine hK.out _ _ (hg3A.out _ hb01) (fun hHeld=>?_)
    clear hK K
    refine Zg 10 (v:=?_) rfl (by kernel_rfl) (by kernel_rfl) (by kernel_rfl) (fun _ _ _ h=>h) (Or.inl ⟨by rfl,?_⟩) (by assumption) ?_
    rotate_left 1
    · (intro w hSw;(try dsimp only at hSw);first | (go_simp;done) | (go_simp;with_reducible rfl))
    (simp only [Act.put,List.setIfInBounds_toArray,List.set_cons_zero,List.set_cons_succ])
    have y0:w1.cell? ⟨z+1,0,none⟩=some (.int .i64 0):=Za hn1 0
    have y1:w1.cell? ⟨z+1,1,none⟩=some (.int .i64 0):=Za hn1 1
    have y2:w1.cell? ⟨z+1,2,none⟩=some (.slice none 0 0):=Za hn1 2
    have x0:=Zb hn1 0
    have x1:=Zb hn1 1
    have x2:=Zb hn1 2
    refine wpAnyH_ready (rs:=[12]) (by kernel_rfl) (by simp) ?_
    refine AllReadyH.cons rfl (fun K hK=>?_) AllReadyH.nil
    go_simp
    have hbs:=Zf hn0
    have hz2:=hszA.out
    have hK3:Keeps (fun k=>k=z+1) w1 (((w1.setCell ⟨z+1,0,none⟩ (.int .i64 (num:Int))).setCell ⟨z+1,1,none⟩ (.int .i64 (off:Int))).setCell ⟨z+1,2,none⟩ (.slice Au b.length cu)):=((Zm _ ⟨z+1,0,none⟩ _).trans (Zm _ ⟨z+1,1,none⟩ _)).trans (Zm _ ⟨z+1,2,none⟩ _)
    have hb3:Below W0.heap.size W0 (((w1.setCell ⟨z+1,0,none⟩ (.int .i64 (num:Int))).setCell ⟨z+1,1,none⟩ (.int .i64 (off:Int))).setCell ⟨z+1,2,none⟩ (.slice Au b.length cu)):=((hb01.setCell (p:=⟨z+1,0,none⟩) (by show W0.heap.size≤z+1;omega) _).setCell (p:=⟨z+1,1,none⟩) (by show W0.heap.size≤z+1;omega) _).setCell (p:=⟨z+1,2,none⟩) (by show W0.heap.size≤z+1;omega) _
    have hl3:(((w1.setCell ⟨z+1,0,none⟩ (.int .i64 (num:Int))).setCell ⟨z+1,1,none⟩ (.int .i64 (off:Int))).setCell ⟨z+1,2,none⟩ (.slice Au b.length cu)).heap[z+1]? = some (.cells #[.int .i64 (num:Int),.int .i64 (off:Int),.slice Au b.length cu] 206 (0,0)):=by
     rw [Zi (Zi (Zi hn1 0 _) 1 _) 2 _];simp
    have ho3:=Zj ho1.out hK3 (fun q _ hq _ _=>by show ¬ q=z+1;omega)
    refine hK.out _ _ (hg3A.out _ hb3) (fun hHeld=>?_)
    clear hK K
    refine wpAnyH_done (by kernel_rfl) ?_ _
    go_wp2_with fail
    go_meet
    case rel=>exact ⟨rfl,_,_,rfl,⟨by omega⟩,⟨hl3⟩,⟨ZB ho3 (by omega)⟩,⟨hb3⟩⟩
 case rest =>
  obtain ⟨rfl,gl,u,rfl,hzl,hln,hou,hbel⟩:=hcut
  obtain ⟨W1,hW1e⟩:∃ W,wc=W:=⟨_,rfl⟩
  rw [hW1e] at hln hou hbel ⊢
  have hbw:Below w.heap.size w W1:=Ze hB0A.out hbel.out
  have hS1:Ql W1 gs gw g num off over bad:=Zc hbw hSA.out
  have hW1:=hWA.out.below hbw
  have hm1:=hMA.out.below hbw
  have hzb:=Zc hbel.out hz0A.out
  have hs1:=hbw.size
  have s1:W1.cell? ⟨gs,1,none⟩=some (.pointer (some ⟨gw,0,none⟩)):=Za hS1 1
  have hbwA:=As.mk hbw
  have hS1A:=As.mk hS1
  have hW1A:=As.mk hW1
  have hm1A:=As.mk hm1
  have hzbA:=As.mk hzb
  have hgwl:=Zf hW1.1
  have hgl:=Zf hln.out
  have hlold:gw<z∧g<z:=by
   have a:=Zf hWA.out.1
   have b:=Zf hMA.out
   rw [hzA.out] at a b
   exact ⟨a,b⟩
  have cL:=As.mk (Za1 W1 base gw g v B R hW1)
  have hap:=As.mk (hW1.apart hm1)
  have hvold:As (∀ k,some k=v.ownBlock→k<z):=⟨fun k hk=>by
   obtain ⟨_,full,hr,_⟩:=hWA.out
   rcases hr with ⟨_,rfl⟩ | ⟨gd,_,rfl,hr⟩
   · simp [Value.ownBlock] at hk
   · simp [Value.ownBlock] at hk
     subst hk
     have:=Zf hr
     rw [hzA.out] at this
     exact this⟩
  have hstz:gs≠gw∧gs≠g:=by
   refine ⟨fun e=>?_,fun e=>?_⟩
   · have h2:=hW1.1
     unfold Ql at hS1
     rw [← e,hS1] at h2
     injection h2 with h2
     injection h2 with _ h2
     exact absurd h2 (by decide)
   · have h2:=hm1
     unfold Ql at hS1
     unfold MtAt at h2
     rw [← e,hS1] at h2
     injection h2 with h2
     injection h2 with _ h2
     exact absurd h2 (by decide)
  have hsv:As (∀ k,some k=v.ownBlock→k≠gs):=⟨fun k hk e=>by
   obtain ⟨_,full,hr,_⟩:=hWA.out
   rcases hr with ⟨_,rfl⟩ | ⟨gd,_,rfl,hr⟩
   · simp [Value.ownBlock] at hk
   · simp [Value.ownBlock] at hk
     subst hk
     have h2:=hSA.out
     unfold Ql at h2
     rw [← e,hr] at h2
     injection h2 with h2
     injection h2 with _ h2
     exact absurd h2 (by decide)⟩
  clear hW1e hbw hS1 hW1 hm1 hzb cc hg3 hg3A
  go_upto_if 22 with (go_at_call 115;refine Calls.mono cL.out ?_;rintro e w' ⟨rfl,rfl⟩)
  go_cut [] (fun wx=>∃ u' v',As (wx.heap[gl]? = some (.cells #[.int .i64 (num:Int),.int .i64 (off:Int),u'] 206 (0,0)))∧As (OwnByt wx z u' (B++b))∧As (Ql wx gs gw g num off over bad)∧As (WinAt wx base gw g v' [] (ZW ⟨B.length,R,0⟩ b.length).room) ∧
   As (MtAt wx g { cn with m:=cn.m+((ZW ⟨B.length,R,0⟩ b.length).move:Int) })∧As (Keeps (fun k=>Qo gw g v k) w wx)∧As (v'.ownBlock=v.ownBlock∨∃ k,v'.ownBlock=some k∧z≤k)∧As (wx.heap[z]? = some (.cells #[.int .i64 0,.int .i64 0,.slice none 0 0] 206 (0,0)))∧As (∀ k,some k=u'.ownBlock→some k≠v'.ownBlock))
  case first =>
   by_cases hB:B.length=0
   · have hB1:B=[]:=List.eq_nil_of_length_eq_zero hB
     subst hB1
     have hlw:ZW ⟨([]:Txt).length,R,0⟩ b.length=⟨0,R,0⟩:=by unfold ZW;simp
     go_wp2
     go_meet
     case rel =>
      rw [hlw]
      refine ⟨u,v,hln,by simpa using hou,hS1A,hW1A,⟨by simpa using hm1A.out⟩,⟨(Keeps.of_below hbwA.out _)⟩,⟨.inl rfl⟩,hzbA,⟨fun k h1 h2=>by have:=(ZM hou.out h1).1;have:=hvold.out k h2;omega⟩⟩
   · have hBi:(0:Int)<(B.length:Int):=by omega
     have hB0':0<B.length:=by omega
     have hfit:=hW1A.out.fit
     have hlw:ZW ⟨B.length,R,0⟩ b.length=JN (Z8 ⟨B.length,R,0⟩ b.length):=by unfold ZW;rw [if_pos hB0']
     have hrl:=addW_room_le B.length R b.length
     have cA:=As.mk (ZdH W1 base gw g v B R hW1A.out cn hm1A.out h0 h1 hR A c b (Row.below hbA.out hbwA.out) hbl (by omega))
     obtain ⟨aW,haW⟩:∃ a,Z8 ⟨B.length,R,0⟩ b.length=a:=⟨_,rfl⟩
     rw [haW] at cA hrl hlw
     have hK1:As (Keeps (Qo gw g v) w W1):=⟨Keeps.of_below hbwA.out _⟩
     obtain ⟨hgwg,hvap⟩:=hap.out
     have hglA:∀ k,Qo gw g v k→k<z:=fun k hk=>by
      rcases hk with rfl | rfl | hk
      · exact hlold.1
      · exact hlold.2
      · exact hvold.out k hk
     have hglA:=As.mk hglA
     replace hfit:=As.mk hfit
     replace haW:=As.mk haW
     replace hlw:=As.mk hlw
     have hs1':=As.mk hs1
     clear hs1
     go_wp2_with fail
     refine Calls.mono cA.out ?_
     rintro e w2 ⟨rfl,v2,q1,q2,q3,q4⟩
     have hln2:=Zd hln.out q3 (fun h=>by have:=hglA.out _ h;have:=hzl.out;omega)
     have cB:=As.mk (wbytes_calls w2 base gw g v2 (B++b) _ q1 (by have:=hfit.out;omega))
     have hS2:Ql w2 gs gw g num off over bad:=Zd hS1A.out q3 (by rintro (h | h | h);exact hstz.1 h;exact hstz.2 h;exact hsv.out _ h rfl)
     have t1:w2.cell? ⟨gs,1,none⟩=some (.pointer (some ⟨gw,0,none⟩)):=Za hS2 1
     replace q1:=As.mk q1
     replace q2:=As.mk q2
     replace q3:=As.mk q3
     replace q4:=As.mk q4
     replace hln2:=As.mk hln2
     replace hS2:=As.mk hS2
     go_wp2_with fail
     refine Calls.mono cB.out ?_
     intro e w3 h3
     obtain ⟨u3,he3,ho3,hb3⟩:=h3
     subst he3
     obtain ⟨A3,c3,rfl,hc3⟩:=Zk ho3
     rw [List.length_append] at ho3 hc3 ⊢
     have hln3:=Zc hb3 hln2.out
     have t2:w3.cell? ⟨gl,2,none⟩=some u:=Za hln3 2
     have t2f:w3.frozen? ⟨gl,2,none⟩=false:=Zb hln3 2
     have hl4:=Zi hln3 2 (.slice A3 (B.length+b.length) c3)
     have hS3:Ql w3 gs gw g num off over bad:=Zc hb3 hS2.out
     have hk4:=Zm w3 ⟨gl,2,none⟩ (.slice A3 (B.length+b.length) c3)
     have hS4:Ql (w3.setCell ⟨gl,2,none⟩ (.slice A3 (B.length+b.length) c3)) gs gw g num off over bad:=Zd hS3 hk4 (by show ¬ gs=gl;have:=hzl.out;omega)
     have t4:(w3.setCell ⟨gl,2,none⟩ (.slice A3 (B.length+b.length) c3)).cell? ⟨gs,1,none⟩=some (.pointer (some ⟨gw,0,none⟩)):=Za hS4 1
     have hW4:WinAt (w3.setCell ⟨gl,2,none⟩ (.slice A3 (B.length+b.length) c3)) base gw g v2 (B++b) aW.room:=(q1.out.below hb3).keep hk4 (by show ¬ gw=gl;have:=hzl.out;have:=hlold.1;omega) (fun k hk=>by
      show ¬ k=gl
      rcases q4.out with e | ⟨q,e,hq⟩
      · have:=hvold.out k (by rw [hk,e]);have:=hzl.out;omega
      · rw [e] at hk;injection hk with hk;omega)
     have ho4:=Zj ho3 hk4 (fun q _ hq _ _=>by show ¬ q=gl;have:=Zf hln2.out;omega)
     have cC:=As.mk (wclear_calls _ base gw g v2 (B++b) aW.room hW4)
     replace hb3:=As.mk hb3
     replace hl4:=As.mk hl4
     replace hS4:=As.mk hS4
     replace hk4:=As.mk hk4
     replace ho4:=As.mk ho4
     clear ho3 hln3 hS3 hW4
     go_wp2_with fail
     refine Calls.mono cC.out ?_
     rintro e w5 ⟨rfl,p1,p2⟩
     replace p1:=As.mk p1
     replace p2:=As.mk p2
     go_wp2_with fail
     go_meet
     case rel =>
      rw [hlw.out]
      have hg2:=Zf hln2.out
      have hz1:=hzl.out
      have hzz:=hzA.out
      refine ⟨_,v2,⟨Zd hl4.out p2.out (by show ¬ gl=gw;have:=hlold.1;omega)⟩,⟨ZB (Zj ho4.out p2.out (fun q _ hq _ _=>by show ¬ q=gw;have:=hlold.1;omega)) (by omega)⟩,⟨Zd hS4.out p2.out (fun h=>hstz.1 h)⟩,p1,⟨?_⟩,⟨?_⟩,⟨?_⟩,⟨?_⟩,⟨fun k h1 h2=>by have:=(ZM ho4.out h1).1;have:=q1.out.vlt k h2;omega⟩⟩
      · exact Zd (Zd ((q2.out).below hb3.out) hk4.out (by show ¬ g=gl;have:=hlold.2;omega)) p2.out (fun h=>hgwg h.symm)
      · refine Keeps.restrict (Keeps.restrict (Keeps.restrict (Keeps.restrict hK1.out q3.out (fun _ _ h=>h)) (Keeps.of_below hb3.out (fun _=>False)) (fun _ _ h=>h.elim)) hk4.out (fun k hk h=>?_)) p2.out (fun k hk h=>.inl h)
        have h:k=gl:=h
        omega
      · rcases q4.out with e | ⟨q,e,hq⟩
        · exact .inl e
        · exact .inr ⟨q,e,by omega⟩
      · have hn:∀ k,Qo gw g v k→k≠z:=fun k hk e=>by have:=hglA.out k hk;omega
        exact Zd (Zd (Zc hb3.out (Zd hzbA.out q3.out (fun h=>hn _ h rfl))) hk4.out (by show ¬ z=gl;omega)) p2.out (by show ¬ z=gw;have:=hlold.1;omega)
  case rest =>
   obtain ⟨u2,v2,k1,k2,k3,k4,k5,k6,k7,k8,k9⟩:=hcut
   obtain ⟨W2,hW2e⟩:∃ W,wc=W:=⟨_,rfl⟩
   rw [hW2e] at k1 k2 k3 k4 k5 k6 k8 ⊢
   obtain ⟨A2,c2,rfl,hc2⟩:=Zk k2.out
   obtain ⟨nB,hnB⟩:∃ k,(B++b).length=k:=⟨_,rfl⟩
   have hnl:nB≤200000:=by have:=hW1A.out.fit;rw [← hnB,List.length_append];omega
   rw [hnB] at k1 k2 hc2 k9
   replace hnB:=As.mk hnB
   have g3:W2.cell? ⟨gs,3,none⟩=some (.int .i64 (num:Int)):=Za k3.out 3
   have g4:W2.cell? ⟨gs,4,none⟩=some (.int .i64 (off:Int)):=Za k3.out 4
   have f3:W2.frozen? ⟨gs,3,none⟩=false:=Zb k3.out 3
   have f4:W2.frozen? ⟨gs,4,none⟩=false:=Zb k3.out 4
   have l0:W2.cell? ⟨gl,0,none⟩=some (.int .i64 (num:Int)):=Za k1.out 0
   have l1:W2.cell? ⟨gl,1,none⟩=some (.int .i64 (off:Int)):=Za k1.out 1
   have l2:W2.cell? ⟨gl,2,none⟩=some (.slice A2 nB c2):=Za k1.out 2
   have z0:W2.cell? ⟨z,0,none⟩=some (.int .i64 0):=Za k8.out 0
   have z1:W2.cell? ⟨z,1,none⟩=some (.int .i64 0):=Za k8.out 1
   have z2:W2.cell? ⟨z,2,none⟩=some (.slice none 0 0):=Za k8.out 2
   have zf0:=Zb k8.out 0
   have zf1:=Zb k8.out 1
   have zf2:=Zb k8.out 2
   have n1:¬ gs=gl:=by have:=hzl.out;omega
   have n2:¬ gs=z:=by omega
   have n3:¬ gl=z:=by have:=hzl.out;omega
   have n4:¬ z=gl:=by have:=hzl.out;omega
   have n5:¬ gl=gs:=fun e=>n1 e.symm
   have n6:¬ z=gs:=fun e=>n2 e.symm
   have hw1:IntKind.i64.wrap ((num:Int)+1)=(num:Int)+1:=by rw [IntKind.wrap_i64];omega
   have hw2:IntKind.i64.wrap ((nB:Int)+1)=(nB:Int)+1:=by rw [IntKind.wrap_i64];omega
   have hw3:IntKind.i64.wrap ((off:Int)+((nB:Int)+1))=(off:Int)+((nB:Int)+1):=by rw [IntKind.wrap_i64];omega
   clear s1 hap cL hln hou hbel hbwA hS1A hW1A hm1A hzbA hzl hvold hstz hsv hW2e hSA hWA hMA hbA hB0A hz0A hW0A hszA hlold hgwl hgl hs1
   go_wp2
   have hS3:Ql ((W2.setCell ⟨gs,3,none⟩ (.int .i64 ((num:Int)+1))).setCell ⟨gs,4,none⟩ (.int .i64 ((off:Int)+((nB:Int)+1)))).drew gs gw g (num+1) (off+nB+1) over bad:=by
    have h:=Zi (Zi k3.out 3 (.int .i64 ((num:Int)+1))) 4 (.int .i64 ((off:Int)+((nB:Int)+1)))
    unfold Ql
    rw [show ((W2.setCell ⟨gs,3,none⟩ (.int .i64 ((num:Int)+1))).setCell ⟨gs,4,none⟩ (.int .i64 ((off:Int)+((nB:Int)+1)))).drew.heap[gs]? = ((W2.setCell ⟨gs,3,none⟩ (.int .i64 ((num:Int)+1))).setCell ⟨gs,4,none⟩ (.int .i64 ((off:Int)+((nB:Int)+1)))).heap[gs]? from rfl,h]
    simp
    omega
   have hK3:Keeps (fun k=>k=gs) W2 ((W2.setCell ⟨gs,3,none⟩ (.int .i64 ((num:Int)+1))).setCell ⟨gs,4,none⟩ (.int .i64 ((off:Int)+((nB:Int)+1)))).drew:=((Zm W2 ⟨gs,3,none⟩ _).trans (Zm _ ⟨gs,4,none⟩ _)).drew
   go_region
   all_goals
    obtain ⟨W3,hW3⟩:∃ W,((W2.setCell ⟨gs,3,none⟩ (.int .i64 ((num:Int)+1))).setCell ⟨gs,4,none⟩ (.int .i64 ((off:Int)+((nB:Int)+1)))).drew=W:=⟨_,rfl⟩
    rw [hW3] at hS3 hK3 ⊢
    have k13:=Zd k1.out hK3 n5
    have k83:=Zd k8.out hK3 n6
    have m0:W3.cell? ⟨gl,0,none⟩=some (.int .i64 (num:Int)):=Za k13 0
    have m1:W3.cell? ⟨gl,1,none⟩=some (.int .i64 (off:Int)):=Za k13 1
    have m2:W3.cell? ⟨gl,2,none⟩=some (.slice A2 nB c2):=Za k13 2
    have y0:W3.cell? ⟨z,0,none⟩=some (.int .i64 0):=Za k83 0
    have y1:W3.cell? ⟨z,1,none⟩=some (.int .i64 0):=Za k83 1
    have y2:W3.cell? ⟨z,2,none⟩=some (.slice none 0 0):=Za k83 2
    have yf0:=Zb k83 0
    have yf1:=Zb k83 1
    have yf2:=Zb k83 2
    clear hW3
    go_wp2
    have hk9:Keeps (fun k=>k=z) W3 (((W3.setCell ⟨z,0,none⟩ (.int .i64 (num:Int))).setCell ⟨z,1,none⟩ (.int .i64 (off:Int))).setCell ⟨z,2,none⟩ (.slice A2 nB c2)):=((Zm _ ⟨z,0,none⟩ _).trans (Zm _ ⟨z,1,none⟩ _)).trans (Zm _ ⟨z,2,none⟩ _)
    have hz9:=Zi (Zi (Zi k83 0 (.int .i64 (num:Int))) 1 (.int .i64 (off:Int))) 2 (.slice A2 nB c2)
    have r0:=Za hz9 0
    have r1:=Za hz9 1
    have r2:=Za hz9 2
    simp at r0 r1 r2
    refine bodyPost_ret (v:=.agg #[.int .i64 (num:Int),.int .i64 (off:Int),.slice A2 nB c2]) (by simp [results,Tryz.results113,go_sem,r0,r1,r2]) rfl ?_
    have k43:=k4.out.keep hK3 (Zp k4.out.1 k3.out (by decide)) (k4.out.vne k3.out (by decide))
    have k49:=k43.keep hk9 (Zp k43.1 k83 (by decide)) (k43.vne k83 (by decide))
    have k53:MtAt W3 g { cn with m:=cn.m+((ZW ⟨B.length,R,0⟩ b.length).move:Int) }:=Zd k5.out hK3 (Zp k5.out k3.out (by decide))
    refine ⟨_,v2,rfl,?_,?_,k49,Zd k53 hk9 (Zp k53 k83 (by decide)),?_,?_,k9.out⟩
    · rw [hz]
      exact Zj (Zj k2.out hK3 (fun q c _ hq _=>Zp hq k3.out (by decide))) hk9 (fun q c _ hq _=>Zp hq k83 (by decide))
    · rw [hnB.out]
      exact Zd hS3 hk9 n2
    · exact Keeps.restrict (Keeps.restrict (k6.out.mono fun _ _ h=>.inr h) hK3 (fun _ _ h=>.inl h)) hk9 (fun q hq h=>by have h:q=z:=h;omega)
    · rcases k7.out with e | ⟨q,e,hq⟩
      · exact .inl e
      · exact .inr ⟨q,e,by omega⟩
end Go.Proofs.YtfdlaomnecjfeaaGreatDoor
end
section
namespace Go.Proofs.YtfdlaomnecjfeaaGreatDoor
open Go.RowKit Seine.Trie Seine.Fg
attribute [local go_sem high] Xn QM
/-- append to an own row, as a step of a region that draws; where the row lies then. -/
theorem ZeH {P:Program} {ops:Array Oper} {o:Oper} {a:Act} {w:World} {K:Act→World→Prop} {Q:Exit→Act→World→Prop} {E:Prop} (hg:o.guard=none) (s x:Operand) (t:TypeId)
    (hop:o.op=Op.call { callee:=Callee.builtin Builtin.append,args:=#[s,x],argTypes:=#[t,t] })
    (base:Nat) (e:TypeId) (z:Value) (size bytes:Nat) (ht:P.underlying t=some (.slice e)) (hi:(P.info? e).map (fun i=>(i.zero,i.size,i.bytes))=some (some z,size,bytes)) (hzs:z.cells.size=size) (hsz:0<size)
    (v:Value) (n:Nat) (xs:List Value) (hs:a.eval s=v) (hown:w.ownsRow base e size v n xs)
    (ad:Addr) (m c:Nat) (news:List Value) (hx:a.eval x=.slice (some ad) m c) (hn:news.length=m * size) (hc:∀ j u,news[j]? = some u→w.cell? (ad.add j)=some u) (h1c:∀ u∈news,u.oneCell'=true)
    (hlen:n+m≤1000000000000) (hby:bytes≤100) (hbase:base≤w.heap.size)
    (h:∀ v' w',w'.ownsRow base e size v' (n+m) (xs++news)→Keeps (fun k=>some k=v.ownBlock) w w'→Below base w w'→(v'.ownBlock=v.ownBlock∨∃ k,v'.ownBlock=some k∧w.heap.size≤k)→K (a.put o.dst v') w') :
    if Region.wanted o (yielded ops a.tmps)=true then Oper.wp P o a w K Q else E:=by
 have hw:Region.wanted o (yielded ops a.tmps)=true:=by simp [Region.wanted,hg]
 rw [if_pos hw]
 obtain ⟨i,hi,hz,hsize,hbytes⟩:=info_parts hi
 obtain ⟨v',w',hrun,r1,r2,_,r3⟩:=run_append_own_at (P:=P) w base t o.type e i z size bytes ht hi hz hsize hbytes hzs hsz v n xs hown ad m c news hn hc h1c (by simp only [maxLen];omega) (by
  have:(n+m) * bytes≤(n+m) * 100:=Nat.mul_le_mul_left _ hby
  omega) hbase
 unfold Oper.wp
 simp [execOp,hop,resolve,invoke,builtin,hs,hx,hrun,Result.andThen]
 refine h v' w' r1 ((Keeps.of_grown r2).mono fun _ _ h=>h) ((Below.refl base w).grown r2 hbase (fun k hk=>?_)) (r3.elim .inl fun e=>.inr ⟨_,e,Nat.le_refl _⟩)
 rcases hown.2 with ⟨rfl,_⟩ | ⟨g,cap,cur,rfl,hg,_⟩
 · simp [Value.ownBlock] at hk
 · simp [Value.ownBlock] at hk;omega
theorem strnew_calls (w:World) (g:Nat):Calls Tryz.prog 66 #[.pointer (some ⟨g,0,none⟩),.int .i64 400] w fun e w'=>∃ gs gw,e=.returned (.pointer (some ⟨gs,0,none⟩))∧Ql w' gs gw g 0 0 false 0∧WinAt w' w.heap.size gw g (.slice none 0 0) [] 0∧w.heap.size≤gs∧w.heap.size≤gw∧Below w.heap.size w w':=by
 have cn:=As.mk (wnew_calls w g)
 go_enter Tryz.func66,Tryz.ntmps66
 go_wp2_with (go_at_call 108;refine Calls.mono cn.out ?_;rintro e w1 ⟨rfl,q1,q2⟩)
 go_ret
 exact ⟨w1.heap.size,w.heap.size,rfl,heap_alloc_new _ _,q1.below ((Below.refl _ _).alloc (Nat.le_refl _) _),q2.size,Nat.le_refl _,q2.alloc q2.size _⟩
set_option maxRecDepth 100000 in
set_option maxHeartbeats 3200000 in
theorem tell_calls (w:World) (base gs gw g:Nat) (v:Value) (B:Txt) (R num off:Nat) (over:Bool) (bad:Int) (cn:Cn) (hS:Ql w gs gw g num off over bad) (hW:WinAt w base gw g v B R) (hm:MtAt w g cn) (h0:0≤cn.m) (h1:cn.m≤100000000000) (hR:R≤100000)
    (A:Option Addr) (c:Nat) (b:Txt) (hb:Byt w A b) (hbl:b.length≤100000) (hbase:base≤w.heap.size) (hnum:num≤100000000000) (hoff:off≤100000000000)
    (ob sb base2:Nat) (vo:Value) (L:List Ln) (hob:w.heap[ob]? = some (.cells #[vo] 127 (0,0))) (hsb:w.heap[sb]? = some (.cells #[.pointer (some ⟨gs,0,none⟩)] 118 (0,0))) (hL:OwnLns base2 w vo v L) (hLl:L.length≤1000000)  (hb2:base2≤w.heap.size) :
    Calls Tryz.prog 112 #[.slice A b.length c,.pointer (some ⟨ob,0,none⟩),.pointer (some ⟨sb,0,none⟩)] w fun e w'=>e=.returned (.tuple #[])∧∃ vo' v',w'.heap[ob]? = some (.cells #[vo'] 127 (0,0))∧OwnLns base2 w' vo' v' (L++[⟨num,off,B++b⟩]) ∧
     Ql w' gs gw g (num+1) (off+(B++b).length+1) over bad∧WinAt w' base gw g v' [] (ZW ⟨B.length,R,0⟩ b.length).room∧MtAt w' g { cn with m:=cn.m+((ZW ⟨B.length,R,0⟩ b.length).move:Int) } ∧
     Keeps (fun k=>k=ob∨k=gs∨Qo gw g v k∨some k=vo.ownBlock) w w'∧(v'.ownBlock=v.ownBlock∨∃ k,v'.ownBlock=some k∧w.heap.size≤k)∧(vo'.ownBlock=vo.ownBlock∨∃ k,vo'.ownBlock=some k∧w.heap.size≤k):=by
 have cl:=As.mk (ZcF w.drew base gs gw g v B R num off over bad cn hS hW hm h0 h1 hR A c b hb hbl hbase hnum hoff)
 obtain ⟨vs,hvl,hvo,hvb⟩:=hL
 obtain ⟨Ao,co,rfl,hco⟩:=Zk hvo
 have o0:w.cell? ⟨ob,0,none⟩=some (.slice Ao L.length co):=Za hob 0
 have s0:w.cell? ⟨sb,0,none⟩=some (.pointer (some ⟨gs,0,none⟩)):=Za hsb 0
 have o0d:w.drew.cell? ⟨ob,0,none⟩=some (.slice Ao L.length co):=o0
 have s0d:w.drew.cell? ⟨sb,0,none⟩=some (.pointer (some ⟨gs,0,none⟩)):=s0
 have e1:¬ ob=gs:=Zp hob hS (by decide)
 have e2:¬ ob=gw:=Zp hob hW.1 (by decide)
 have e3:¬ ob=g:=Zp hob hm (by decide)
 have e4:¬ some ob=v.ownBlock:=fun h=>hW.vne hob (by decide) ob h rfl
 have e5:¬ sb=gs:=Zp hsb hS (by decide)
 have e6:¬ sb=gw:=Zp hsb hW.1 (by decide)
 have e7:¬ sb=g:=Zp hsb hm (by decide)
 have e8:¬ some sb=v.ownBlock:=fun h=>hW.vne hsb (by decide) sb h rfl
 have hkO:∀ k,some k=(Value.slice Ao L.length co).ownBlock→¬ k=gs∧¬ Qo gw g v k:=fun k hk=>by
  obtain ⟨c',h⟩:=QE hvo hk
  refine ⟨Zp h hS (by decide),?_⟩
  rintro (e | e | e)
  · exact Zp h hW.1 (by decide) e
  · exact Zp h hm (by decide) e
  · exact hW.vne h (by decide) k e rfl
 have hkO:=As.mk hkO
 have hvo':=As.mk hvo
 have hvb':=As.mk hvb
 have hvl':=As.mk hvl
 have hSA:=As.mk hS
 have hWA:=As.mk hW
 have hMA:=As.mk hm
 have hobA:=As.mk hob
 have hsbA:=As.mk hsb
 have hgl:=Zf hob
 have hgb:=Zf hsb
 have hob5:=As.mk (fun (w5:World) (hK:Keeps (fun k=>k=gs∨Qo gw g v k) w.drew w5)=>(Zd (w:=w.drew) hob hK (by rintro (e | e | e | e);exact e1 e;exact e2 e;exact e3 e;exact e4 e)))
 have hsb5:=As.mk (fun (w5:World) (hK:Keeps (fun k=>k=gs∨Qo gw g v k) w.drew w5)=>(Zd (w:=w.drew) hsb hK (by rintro (e | e | e | e);exact e5 e;exact e6 e;exact e7 e;exact e8 e)))
 have hrow5:=As.mk (fun (w5:World) (hK:Keeps (fun k=>k=gs∨Qo gw g v k) w.drew w5)=>Zj (w:=w.drew) hvo hK (fun q _ _ _ hq=>fun h=>h.elim (hkO.out q hq).1 (hkO.out q hq).2))
 clear hS hW hm hvo hvb hvl hob hsb hb e1 e2 e3 e4 e5 e6 e7 e8
 obtain ⟨nL,hnL⟩:∃ k,L.length=k:=⟨_,rfl⟩
 rw [hnL] at hLl hvl' hvo' o0 o0d hrow5 hob5 hobA hkO hco ⊢
 replace hnL:=As.mk hnL
 go_enter Tryz.func112,Tryz.ntmps112
 go_wp2_with fail
 go_region_law (first
  | (refine ZeH (by rfl) (.tmp 4) (.tmp 8) 127 (by rfl) base2 206 _ 3 40 Tryz.underlying127 info_ln rfl (by decide) (.slice Ao nL co) nL (QY L vs) (by rfl) hown5.out ⟨w5.heap.size,0,none⟩ 1 1 [.int .i64 (num:Int),.int .i64 (off:Int),.slice A5 (B.length+b.length) c5] (by rfl) (by rfl) hnews.out (by simp [Value.oneCell']) (by omega) (by decide) hsz5 ?_
     intro v6 w6 ho6 hk6 hb6 hat6'
     obtain ⟨A6,c6,rfl,hc6⟩:=Zk ho6
     have pb6:=Zd pa5.out hk6 hfar5.out
     have x0:w6.cell? ⟨ob,0,none⟩=some (.slice Ao nL co):=Za pb6 0
     have xf:w6.frozen? ⟨ob,0,none⟩=false:=Zb pb6 0
     have hat6:=As.mk hat6'
     replace ho6:=As.mk ho6
     replace hk6:=As.mk hk6
     replace pb6:=As.mk pb6
     replace hb6:=As.mk hb6)
  | (refine Xq (by rfl) ?ho cl.out ?_
     case ho=>go_simp
     intro e w5 h5
     obtain ⟨u5,v5,he5,ho5,hS5,hW5,hM5,hK5,hf5,hap5⟩:=h5
     obtain ⟨A5,c5,hv5,hc5⟩:=Zk ho5
     subst hv5
     rw [List.length_append] at he5 ho5 hc5
     refine ⟨_,he5,?_⟩
     have pb5:=hob5.out _ hK5
     have ps5:=hsb5.out _ hK5
     have pa5:=As.mk (Zn (o':=.cells #[.int .i64 (num:Int),.int .i64 (off:Int),.slice A5 (B.length+b.length) c5] 206) pb5)
     have c50:w5.cell? ⟨ob,0,none⟩=some (.slice Ao nL co):=Za pb5 0
     have s50:w5.cell? ⟨sb,0,none⟩=some (.pointer (some ⟨gs,0,none⟩)):=Za ps5 0
     have a50:(w5.alloc (.cells #[.int .i64 (num:Int),.int .i64 (off:Int),.slice A5 (B.length+b.length) c5] 206)).cell? ⟨ob,0,none⟩=some (.slice Ao nL co):=Za pa5.out 0
     have hown5:=As.mk ((hrow5.out _ hK5).alloc (.cells #[.int .i64 (num:Int),.int .i64 (off:Int),.slice A5 (B.length+b.length) c5] 206))
     have hnews:=As.mk (World.news_of_block (cs:=#[.int .i64 (num:Int),.int .i64 (off:Int),.slice A5 (B.length+b.length) c5]) (t:=206) (fr:=(0,0)) (heap_alloc_new w5 _))
     have hfar5:=As.mk (Zy hown5.out pa5.out (by decide))
     have hsz5:base2≤(w5.alloc (.cells #[.int .i64 (num:Int),.int .i64 (off:Int),.slice A5 (B.length+b.length) c5] 206)).heap.size:=by have h:w.heap.size≤w5.heap.size:=hK5.size;rw [World.size_alloc];omega
     replace ho5:=As.mk ho5
     replace hS5:=As.mk hS5
     replace hW5:=As.mk hW5
     replace hM5:=As.mk hM5
     replace hK5:=As.mk hK5
     replace hf5:=As.mk hf5
     replace hap5:=As.mk hap5
     replace pb5:=As.mk pb5
     clear ps5))
 all_goals
  go_wp2_with fail
  go_end0
  obtain ⟨hnL⟩:=hnL
  subst hnL
  have hob5':w5.heap[ob]? = some (.cells #[.slice Ao L.length co] 127 (0,0)):=pb5.out
  have hvoT:∀ k,some k=(Value.slice Ao L.length co).ownBlock→∃ c,w5.heap[k]? = some (.cells c 206 (0,0)):=fun k hk=>QE (hrow5.out _ hK5.out) hk
  have hka:Keeps (fun k=>k=ob∨some k=(Value.slice Ao L.length co).ownBlock) w5 (w6.setCell ⟨ob,0,none⟩ (.slice A6 (L.length+1) c6)) :=
   (((Keeps.of_below ((Below.refl _ w5).alloc (Nat.le_refl _) _) _).restrict hk6.out (fun _ _ h=>.inr h))).trans ((Zm w6 ⟨ob,0,none⟩ _).mono fun _ _ h=>.inl h)
  have hvb5:∀ i,i<L.length→∃ u,vs[i]? = some u∧OwnByt (w5.alloc (.cells #[.int .i64 (num:Int),.int .i64 (off:Int),.slice A5 (B.length+b.length) c5] 206)) base2 u (L.getD i lnD).text∧∀ k,some k=u.ownBlock→some k≠v5.ownBlock:=fun i hi=>by
   obtain ⟨u,a,bb,cc⟩:=hvb'.out i hi
   refine ⟨u,a,(Zj (w:=w.drew) bb hK5.out (fun q d _ hh hq=>?_)).alloc _,fun k hk e=>?_⟩
   · rintro (e | e | e | e)
     · exact Zp (w:=w.drew) hh hSA.out (by decide) e
     · exact Zp (w:=w.drew) hh hWA.out.1 (by decide) e
     · exact Zp (w:=w.drew) hh hMA.out (by decide) e
     · exact cc q hq e
   · rcases hf5.out with e' | ⟨q,e',hq⟩
     · exact cc k hk (e.trans e')
     · rw [e'] at e
       injection e with e
       have h1:=(ZM bb hk).2
       have hq:w.heap.size≤q:=hq
       omega
  have hap5':=hap5.out
  rw [List.length_append] at hap5'
  have hS5':=hS5.out
  rw [List.length_append] at hS5'
  have hss:w.heap.size≤w5.heap.size:=hK5.out.size
  have hL6:=OwnLns.snoc (x:=⟨num,off,B++b⟩) (y:=v5) hvl'.out hvb5 ((ZB ho5.out (show base2≤w.drew.heap.size from hb2)).alloc _) hap5' hown5.out hk6.out ho6.out
  have hL7:=hL6.keep (Zm w6 ⟨ob,0,none⟩ (.slice A6 (L.length+1) c6)) (fun q c hq _=>Zp hq pb6.out (by decide)) (fun q c hq _=>Zp hq pb6.out (by decide))
  refine ⟨rfl,.slice A6 (L.length+1) c6,?_,v5,hL7,Zd hS5' hka ?_,hW5.out.keep hka ?_ ?_,Zd hM5.out hka ?_,?_,hf5.out,?_⟩
  · rw [Zi pb6.out 0];simp
  · rintro (e | e)
    · exact Zp hS5.out hob5' (by decide) e
    · obtain ⟨c',h⟩:=hvoT _ e
      exact Zp hS5.out h (by decide) rfl
  · rintro (e | e)
    · exact Zp hW5.out.1 hob5' (by decide) e
    · obtain ⟨c',h⟩:=hvoT _ e
      exact Zp hW5.out.1 h (by decide) rfl
  · intro k hk
    rintro (e | e)
    · exact hW5.out.vne hob5' (by decide) k hk e
    · obtain ⟨c',h⟩:=hvoT _ e
      exact hW5.out.vne h (by decide) k hk rfl
  · rintro (e | e)
    · exact Zp hM5.out hob5' (by decide) e
    · obtain ⟨c',h⟩:=hvoT _ e
      exact Zp hM5.out h (by decide) rfl
  · refine Keeps.restrict ((Keeps.undrew hK5.out).mono fun k _ h=>?_) hka (fun k _ h=>?_)
    · exact h.elim (fun h=>.inr (.inl h)) (fun h=>.inr (.inr (.inl h)))
    · exact h.elim .inl (fun h=>.inr (.inr (.inr h)))
  · rcases hat6.out with h | ⟨q,h,hq⟩
    · exact .inl h
    · rw [World.size_alloc] at hq;exact .inr ⟨q,h,by omega⟩
end Go.Proofs.YtfdlaomnecjfeaaGreatDoor
end
section
namespace Go.Proofs.YtfdlaomnecjfeaaGreatDoor
open Go.RowKit Seine.Trie Seine.Fg
/-- A stream that isn't over. -/
structure FdAt (w:World) (base gs gw g:Nat) (v:Value) (cs cl:Int) (s:St) (wn:Wn):Prop where
 st:Ql w gs gw g s.num s.off false 0
 win:WinAt w base gw g v s.cur wn.room
 mt:MtAt w g ⟨cs,cl,(s.hunt:Int),(wn.move:Int)⟩
 held:wn.held=s.cur.length
 mv:MvOk wn 0 s.hunt
 nov:s.over=false
 cur:s.cur.length≤400
 room:wn.room≤800
 off:s.off+s.cur.length≤s.hunt
 num:s.num≤s.hunt
theorem MvOk.move_le {w:Wn} {n T:Nat} (h:MvOk w n T):w.move≤3 * T:=by
 obtain ⟨_,_,A,C,h3,h4,h5,_⟩:=h
 omega
theorem lineW_room {w:Wn} {n:Nat} (h:w.room≤800) (hn:w.held+n≤400):(ZW w n).room≤800:=by
 unfold ZW JN Z8
 split
 · simp only
   split
   · exact h
   · split
     · simp only;omega
     · exact h
 · exact h
theorem addW_room8 {w:Wn} {n:Nat} (h:w.room≤800) (hn:w.held+n≤400):(Z8 w n).room≤800:=by
 unfold Z8
 split
 · exact h
 · split
   · simp only;omega
   · exact h
/-- What stands of a line in the piece. -/
def QB (b:Txt) (f k:Nat):Txt:=(b.drop f).take (k - f)
theorem QV {b:Txt} {f k:Nat} (h:f≤k) (hk:k≤b.length):(QB b f k).length=k - f:=by unfold QB;rw [List.length_take,List.length_drop];omega
theorem partT_succ {b:Txt} {f k:Nat} (h:f≤k) (hk:k<b.length):QB b f (k+1)=QB b f k++[b.getD k 0]:=by
 unfold QB
 have e:k+1 - f=(k - f)+1:=by omega
 have hl:k - f<(b.drop f).length:=by rw [List.length_drop];omega
 rw [e,List.take_succ_eq_append_getElem hl]
 congr 1
 simp [List.getElem_drop,hk,show f+(k - f)=k by omega]
theorem ZbN (b:Txt) (k:Nat):QB b k k=[]:=by simp [QB]
/-- What Feed's loop holds on to: k bytes were read, the line that is being read begins at f. -/
structure FdIn (w wr:World) (base gs gw g ob sb:Nat) (v0:Value) (cs cl:Int) (s0:St) (wn0:Wn) (b:Txt) (k f:Nat) (s:St) (wn:Wn) (B:Txt) (v vo:Value) (L:List Ln):Prop where
 le:f≤k
 ps:(Zq s0 b).1=(Zq s (b.drop k)).1
 pl:(Zq s0 b).2=L++(Zq s (b.drop k)).2
 pw:Q4 wn0 0 b=Q4 wn (k - f) (b.drop k)
 cur:s.cur=B++QB b f k
 nov:s.over=false
 held:wn.held=B.length
 mvo:MvOk wn (k - f) s.hunt
 len:s.cur.length≤400
 room:wn.room≤800
 off:s.off+s.cur.length≤s.hunt
 num:s.num≤s.hunt
 hunt:s.hunt=s0.hunt+k
 ll:L.length≤k
 st:Ql wr gs gw g s.num s.off false 0
 win:WinAt wr base gw g v B wn.room
 mt:MtAt wr g ⟨cs,cl,(s.hunt:Int),(wn.move:Int)⟩
 box:wr.heap[ob]? = some (.cells #[vo] 127 (0,0))
 sbx:wr.heap[sb]? = some (.cells #[.pointer (some ⟨gs,0,none⟩)] 118 (0,0))
 own:OwnLns w.heap.size wr vo v L
 kp:Keeps (fun k=>k=gs∨Qo gw g v0 k) w wr
 fr:v.ownBlock=v0.ownBlock∨∃ k,v.ownBlock=some k∧w.heap.size≤k
theorem ZbO {b:Txt} {k:Nat} (h:k<b.length):b.drop k=b.getD k 0::b.drop (k+1):=by
 rw [List.drop_eq_getElem_cons h]
 simp [h]
/-- A newline: what the line that ended leaves. -/
theorem FdIn.nl {w wr w2:World} {base gs gw g ob sb:Nat} {v0 v v2:Value} {cs cl:Int} {s0 s:St} {wn0 wn:Wn} {b B:Txt} {k f:Nat} {vo vo2:Value} {L:List Ln} (h:FdIn w wr base gs gw g ob sb v0 cs cl s0 wn0 b k f s wn B v vo L) (hk:k<b.length) (hc:b.getD k 0=10)
    (hob:w.heap.size≤ob) (h1:w2.heap[ob]? = some (.cells #[vo2] 127 (0,0))) (h2:OwnLns w.heap.size w2 vo2 v2 (L++[⟨s.num,s.off,B++QB b f k⟩])) (h3:Ql w2 gs gw g (s.num+1) (s.off+(B++QB b f k).length+1) false 0)
    (h4:WinAt w2 base gw g v2 [] (ZW wn (k - f)).room) (h5:MtAt w2 g ⟨cs,cl,(s.hunt:Int)+1,((ZW wn (k - f)).move:Int)⟩) (h6:Keeps (fun k=>k=gs∨Qo gw g v0 k) w w2) (h7:v2.ownBlock=v0.ownBlock∨∃ k,v2.ownBlock=some k∧w.heap.size≤k)
    (h8:w2.heap[sb]? = some (.cells #[.pointer (some ⟨gs,0,none⟩)] 118 (0,0))) :
    FdIn w w2 base gs gw g ob sb v0 cs cl s0 wn0 b (k+1) (k+1) ⟨[],s.num+1,s.off+s.cur.length+1,s.hunt+1,false⟩ (ZW wn (k - f)) [] v2 vo2 (L++[⟨s.num,s.off,B++QB b f k⟩]):=by
 have e:=ZbO hk
 rw [hc] at e
 have es:ZL s 10=(⟨[],s.num+1,s.off+s.cur.length+1,s.hunt+1,false⟩,[⟨s.num,s.off,s.cur⟩]):=by
  unfold ZL;rw [if_neg (show ¬ s.over=true by simp [h.nov]),if_pos rfl]
 have hps:=h.ps
 have hpl:=h.pl
 have hpw:=h.pw
 rw [e] at hps hpl hpw
 simp only [Zq] at hps hpl
 rw [es] at hps hpl
 rw [show Q4 wn (k - f) (10::b.drop (k+1))=Q4 (ZW wn (k - f)) 0 (b.drop (k+1)) from (by show (if (10:UInt8)=10 then _ else _)=_;rw [if_pos rfl])] at hpw
 have hhl:=h.len
 have hcl:B.length+(k - f)≤400:=by rw [h.cur,List.length_append,QV h.le (by omega)] at hhl;exact hhl
 exact { le:=Nat.le_refl _,ps:=hps,pl:=by rw [hpl,← h.cur];simp,pw:=by rw [hpw,Nat.sub_self],cur:=by rw [ZbN];rfl,nov:=rfl,held:=by rw [lineW_held];rfl,
         mvo:=by rw [Nat.sub_self];exact h.mvo.endl.mono (Nat.le_refl _) (Nat.le_succ _),len:=Nat.zero_le _,room:=lineW_room h.room (by rw [h.held];exact hcl),off:=by have:=h.off;simp only [List.length_nil];omega,num:=by have:=h.num;simp only;omega,
         hunt:=by have:=h.hunt;simp only;omega,ll:=by have:=h.ll;rw [List.length_append,List.length_singleton];omega,st:=by rw [← h.cur] at h3;exact h3,win:=h4,mt:=by simpa using h5,box:=h1,sbx:=h8,own:=h2,kp:=h6,fr:=h7 }
/-- No newline, and room for it. -/
theorem FdIn.more {w wr w2:World} {base gs gw g ob sb:Nat} {v0 v:Value} {cs cl:Int} {s0 s:St} {wn0 wn:Wn} {b B:Txt} {k f:Nat} {vo:Value} {L:List Ln} (h:FdIn w wr base gs gw g ob sb v0 cs cl s0 wn0 b k f s wn B v vo L) (hk:k<b.length) (hc:b.getD k 0≠10) (hl:B.length+(k - f)<400)
    (hkp:Keeps (fun k=>k=g) wr w2) (h5:MtAt w2 g ⟨cs,cl,(s.hunt:Int)+1,(wn.move:Int)⟩) :
    FdIn w w2 base gs gw g ob sb v0 cs cl s0 wn0 b (k+1) f ⟨s.cur++[b.getD k 0],s.num,s.off,s.hunt+1,false⟩ wn B v vo L:=by
 have e:=ZbO hk
 have hcl:s.cur.length=B.length+(k - f):=by rw [h.cur,List.length_append,QV h.le (by omega)]
 have es:ZL s (b.getD k 0)=(⟨s.cur++[b.getD k 0],s.num,s.off,s.hunt+1,false⟩,[]):=by
  unfold ZL;rw [if_neg (show ¬ s.over=true by simp [h.nov]),if_neg hc,if_neg (by omega)]
 have hps:=h.ps
 have hpl:=h.pl
 have hpw:=h.pw
 rw [e] at hps hpl hpw
 simp only [Zq] at hps hpl
 rw [es] at hps hpl
 rw [show Q4 wn (k - f) (b.getD k 0::b.drop (k+1))=Q4 wn (k - f+1) (b.drop (k+1)) from (by show (if b.getD k 0=10 then _ else if 400≤wn.held+(k - f) then _ else _)=_;rw [if_neg hc,if_neg (by rw [h.held];omega)])] at hpw
 have e1:k+1 - f=k - f+1:=by have:=h.le;omega
 exact { le:=by have:=h.le;omega,ps:=hps,pl:=by rw [hpl];simp,pw:=by rw [hpw,e1],cur:=by rw [partT_succ h.le hk,← List.append_assoc,← h.cur],nov:=rfl,held:=h.held,
         mvo:=by rw [e1];exact h.mvo.step,len:=by rw [List.length_append,List.length_singleton];omega,room:=h.room,off:=by have:=h.off;rw [List.length_append,List.length_singleton];simp only;omega,num:=by have:=h.num;simp only;omega,
         hunt:=by have:=h.hunt;simp only;omega,ll:=by have:=h.ll;omega,st:=Zd h.st hkp (Zp h.st h.mt (by decide)),win:=h.win.keep hkp (Zp h.win.1 h.mt (by decide)) (h.win.vne h.mt (by decide)),mt:=by simpa using h5,
         box:=Zd h.box hkp (Zp h.box h.mt (by decide)),sbx:=Zd h.sbx hkp (Zp h.sbx h.mt (by decide)),own:=h.own.keep hkp (fun q c hq _=>Zp hq h.mt (by decide)) (fun q c hq _=>Zp hq h.mt (by decide)),
         kp:=h.kp.restrict hkp (fun q _ hq=>.inr (.inr (.inl hq))),fr:=h.fr }
end Go.Proofs.YtfdlaomnecjfeaaGreatDoor
end
