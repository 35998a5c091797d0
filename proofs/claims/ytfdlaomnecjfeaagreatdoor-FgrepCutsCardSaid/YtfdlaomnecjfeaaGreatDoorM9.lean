/- Joined texts: Shifts, Shifts2, Shifts3, Cwalter. -/
import Derived.Test.YtfdlaomnecjfeaaGreatDoorM8
import Derived.Deep.RegionLaw
import Derived.Deep.AppendLies
import Derived.Deep.QuietTactic
import Derived.BigQuiet
import Derived.ChangeKeysEq
import Derived.Still
import Derived.Test.YtfdlaomnecjfeaaGreatDoorM5
import Derived.Test.YtfdlaomnecjfeaaGreatDoorM4
import Derived.ScopeJumps
set_option linter.unusedVariables false
set_option linter.unusedSimpArgs false
section
namespace Go.Proofs.YtfdlaomnecjfeaaGreatDoor
open Go.RowKit Seine.Trie Seine.Cw
attribute [local go_sem high] Xn XT QM Q9
theorem Xe (w:World) (g:Nat) (T:List Txt) (h:BackAt w g T):Calls Tryz.prog 197 #[.pointer (some ⟨g,0,none⟩)] w fun e w'=>e=.returned (.int .i64 (least T:Int))∧w=w':=by
 obtain ⟨tb,tg,h1,h2⟩:=h
 have c1:w.cell? ⟨g,1,none⟩=some (.int .i64 (least T:Int)):=Za h1 1
 generalize least T=L at *
 clear h1 h2
 go_enter Tryz.func197,Tryz.ntmps197
 go_wp2
 go_ret
 exact ⟨rfl,rfl⟩
theorem Zcs (w:World) (g:Nat) (T:List Txt) (h:BackAt w g T) (c:UInt8):Calls Tryz.prog 236 #[.pointer (some ⟨g,0,none⟩),.int .u8 (c.toNat:Int)] w fun e w'=>e=.returned (.int .i64 (near T c:Int))∧w=w':=by
 obtain ⟨tb,tg,h1,h2⟩:=h
 have c1:=Za h1 (2+c.toNat)
 rw [Zdu] at c1
 generalize near T c=L at *
 have hc:=c.toNat_lt
 generalize c.toNat=x at *
 clear h1 h2
 go_enter Tryz.func236,Tryz.ntmps236
 go_wp2
 go_ret
 exact ⟨rfl,rfl⟩
/-- Is a node a whole text? -/
def Zdw (T:List Txt) (n:Int):Bool:=decide (0≤askF (Zl T) (place T) (-1) n)
theorem JM (w:World) (g:Nat) (T:List Txt) (h:BackAt w g T) (n:Int):Calls Tryz.prog 219 #[.pointer (some ⟨g,0,none⟩),.int .i64 n] w fun e w'=>e=.returned (.bool (Zdw T n))∧w=w':=by
 obtain ⟨tb,tg,h1,h2⟩:=h
 have c0:w.cell? ⟨g,0,none⟩=some (.pointer (some ⟨tg,0,none⟩)):=Za h1 0
 have cw:=As.mk (Zde w tb tg (Zl T) (place T) h2 n)
 unfold Zdw
 generalize askF (Zl T) (place T) (-1) n=r at *
 clear h1 h2
 go_enter Tryz.func219,Tryz.ntmps219
 go_wp2_with (go_at_call 211;refine Calls.mono cw.out ?_;rintro e w' ⟨rfl,rfl⟩)
 go_ret
 exact ⟨rfl,rfl⟩
theorem ZeB {T:List Txt} {a:Nat} {p:Txt} (h:(Zl T)[a]? = some p):Zdw T (a:Int)=decide (p∈T):=by
 unfold Zdw askF
 have ha:=(List.getElem?_eq_some_iff.1 h).1
 rw [if_pos (by omega),Int.toNat_natCast,List.getD_eq_getElem?_getD,h,Option.getD_some]
 by_cases hp:p∈T
 · rw [decide_eq_true hp,decide_eq_true (place_mem.2 hp)]
 · rw [decide_eq_false hp,decide_eq_false (by have:=place_neg.2 hp;omega)]
theorem YE (w:World) (p:Addr) (x n:Nat) (hc:w.cell? p=some (.int .i64 (x:Int))) (hf:w.frozen? p=false) (y:Nat) (hy:min x n=y) (N:Int) (hN:N=(n:Int)):Calls Tryz.prog 217 #[.pointer (some p),.int .i64 N] w fun e w'=>e=.returned (.tuple #[])∧w'=w.setCell p (.int .i64 (y:Int)):=by
 subst hN
 have h2:As (min (x:Int) (n:Int)=(y:Int)):=⟨by omega⟩
 rw [← h2.out]
 clear hy
 go_enter Tryz.func217,Tryz.ntmps217
 go_wp2
 go_end0
 exact ⟨rfl,rfl⟩
def Zx (P:List Txt) (F S:Txt→Nat):List Value:=P.flatMap fun p=>[.int .i64 (F p:Int),.int .i64 (S p:Int)]
theorem farCells_snoc (P:List Txt) (F S:Txt→Nat) (p:Txt):Zx (P++[p]) F S=Zx P F S++[.int .i64 (F p:Int),.int .i64 (S p:Int)]:=by unfold Zx;rw [List.flatMap_append];simp
theorem Zct:∀ {P:List Txt} {F S:Txt→Nat} {a:Nat} {s:Txt},P[a]? = some s→(Zx P F S)[a * 2]? = some (.int .i64 (F s:Int))∧(Zx P F S)[a * 2+1]? = some (.int .i64 (S s:Int))
 | [],_,_,a,s,h=>by simp at h
 | x::P,F,S,0,s,h=>by simp at h;subst h;exact ⟨rfl,rfl⟩
 | x::P,F,S,a+1,s,h=>by
   have:=Zct (P:=P) (F:=F) (S:=S) (a:=a) (s:=s) (by simpa using h)
   rw [show (a+1) * 2=a * 2+2 by omega,show a * 2+2+1=(a * 2+1)+2 by omega]
   exact this
theorem XA {P:List Txt} {F S F' S':Txt→Nat} (hF:∀ s∈P,F s=F' s) (hS:∀ s∈P,S s=S' s):Zx P F S=Zx P F' S':=ZaK (fun x hx=>by rw [hF x hx,hS x hx])
theorem Jd:∀ {P:List Txt} {F F' S:Txt→Nat} {a:Nat} {s:Txt},P.Nodup→P[a]? = some s→(∀ p∈P,p≠s→F' p=F p)→(Zx P F S).set (a * 2) (.int .i64 (F' s:Int))=Zx P F' S
 | [],_,_,_,a,s,_,h,_=>by simp at h
 | x::P,F,F',S,0,s,hn,h,ho=>by
   simp at h;subst h
   have:Zx P F S=Zx P F' S:=XA (fun y hy=>(ho y (List.mem_cons_of_mem _ hy) (fun e=>by subst e;exact (List.nodup_cons.1 hn).1 hy)).symm) (fun _ _=>rfl)
   show (.int .i64 (F' x:Int))::.int .i64 (S x:Int)::Zx P F S=_
   rw [this];rfl
 | x::P,F,F',S,a+1,s,hn,h,ho=>by
   have hm:s∈P:=List.mem_of_getElem? (by simpa using h:P[a]? = some s)
   have:=Jd (P:=P) (F:=F) (F':=F') (S:=S) (a:=a) (s:=s) (List.nodup_cons.1 hn).2 (by simpa using h) (fun p hp=>ho p (List.mem_cons_of_mem _ hp))
   rw [show (a+1) * 2=a * 2+2 by omega]
   show (.int .i64 (F x:Int))::.int .i64 (S x:Int)::(Zx P F S).set (a * 2) _=.int .i64 (F' x:Int)::.int .i64 (S x:Int)::Zx P F' S
   rw [this,ho x (by simp) (fun e=>by subst e;exact (List.nodup_cons.1 hn).1 hm)]
theorem Yj:∀ {P:List Txt} {F S S':Txt→Nat} {a:Nat} {s:Txt},P.Nodup→P[a]? = some s→(∀ p∈P,p≠s→S' p=S p)→(Zx P F S).set (a * 2+1) (.int .i64 (S' s:Int))=Zx P F S'
 | [],_,_,_,a,s,_,h,_=>by simp at h
 | x::P,F,S,S',0,s,hn,h,ho=>by
   simp at h;subst h
   have:Zx P F S=Zx P F S':=XA (fun _ _=>rfl) (fun y hy=>(ho y (List.mem_cons_of_mem _ hy) (fun e=>by subst e;exact (List.nodup_cons.1 hn).1 hy)).symm)
   show (.int .i64 (F x:Int))::.int .i64 (S' x:Int)::Zx P F S=_
   rw [this];rfl
 | x::P,F,S,S',a+1,s,hn,h,ho=>by
   have hm:s∈P:=List.mem_of_getElem? (by simpa using h:P[a]? = some s)
   have:=Yj (P:=P) (F:=F) (S:=S) (S':=S') (a:=a) (s:=s) (List.nodup_cons.1 hn).2 (by simpa using h) (fun p hp=>ho p (List.mem_cons_of_mem _ hp))
   rw [show (a+1) * 2+1=a * 2+1+2 by omega]
   show (.int .i64 (F x:Int))::.int .i64 (S x:Int)::(Zx P F S).set (a * 2+1) _=.int .i64 (F x:Int)::.int .i64 (S' x:Int)::Zx P F S'
   rw [this,ho x (by simp) (fun e=>by subst e;exact (List.nodup_cons.1 hn).1 hm)]
theorem info_two:(Tryz.prog.info? 306).map (fun i=>(i.zero,i.size,i.bytes))=some (some (.agg #[(.int .i64 0),(.int .i64 0)]),2,16):=by kernel_rfl
/-- The numbers of k nodes lie there. -/
def ShIn (w:World) (base g gb:Nat) (T:List Txt) (v:Value) (Q:List Txt) (F S:Txt→Nat):Prop :=
 w.heap[g]? = some (.cells #[.pointer (some ⟨gb,0,none⟩),v] 305 (0,0))∧BackAt w gb T∧w.ownsRow base 306 2 v Q.length (Zx Q F S)
theorem BackAt.keepOf {S:Nat→Prop} {w w':World} {g:Nat} {T:List Txt} (h:BackAt w g T) (hk:Keeps S w w') (hS:∀ b,S b→∃ cs t fr,w.heap[b]? = some (.cells cs t fr)∧t≠283∧t≠279∧t≠301):BackAt w' g T:=by
 obtain ⟨tb,tg,h1,h2⟩:=h
 refine ⟨tb,tg,Zd h1 hk (fun hs=>?_),h2.keepOf hk (fun b hb=>by obtain ⟨cs,t,fr,h3,h4,h5,_⟩:=hS b hb;exact ⟨cs,t,fr,h3,h4,h5⟩)⟩
 obtain ⟨cs,t,fr,h3,_,_,h4⟩:=hS g hs
 rw [h1] at h3;injection h3 with h3;injection h3 with _ h3;exact h4 h3.symm
theorem ShIn.below {w w':World} {base g gb:Nat} {T:List Txt} {v:Value} {Q:List Txt} {F S:Txt→Nat} (h:ShIn w base g gb T v Q F S) (hb:Below w.heap.size w w'):ShIn w' base g gb T v Q F S:=⟨Zc hb h.1,h.2.1.below hb,Zo h.2.2 hb⟩
/-- A number of the nodes' is another one. -/
theorem ShIn.store {w:World} {base g gb:Nat} {T:List Txt} {v:Value} {Q:List Txt} {F S F' S':Txt→Nat} (h:ShIn w base g gb T v Q F S) {b c:Nat} (hv:v=.slice (some ⟨b,0,none⟩) Q.length c) (i:Nat) (u:Value)
    (hu:(Zx Q F S).set i u=Zx Q F' S'):ShIn (w.setCell ⟨b,i,none⟩ u) base g gb T v Q F' S'∧base≤b∧Keeps (fun k=>k=b) w (w.setCell ⟨b,i,none⟩ u):=by
 subst hv
 obtain ⟨h1,h2,h3⟩:=h
 have s1:=World.ownsRow.stored h3 i u
 rw [hu] at s1
 have hb:=ZM h3 (k:=b) rfl
 obtain ⟨cs,hcs⟩:=QE h3 (b:=b) rfl
 refine ⟨⟨?_,h2.keepOf (Zm w ⟨b,i,none⟩ u) (fun k e=>?_),s1.1⟩,hb.1,Zm w ⟨b,i,none⟩ u⟩
 · refine Zd h1 (Zm w ⟨b,i,none⟩ u) (fun e=>?_)
   have e:g=b:=e
   subst e;rw [hcs] at h1;injection h1 with h1;injection h1 with _ h1;exact absurd h1 (by decide)
 · have e:k=b:=e
   subst e;exact ⟨_,_,_,hcs,by decide,by decide,by decide⟩
theorem ShIn.cells {w:World} {base g gb:Nat} {T:List Txt} {v:Value} {Q:List Txt} {F S:Txt→Nat} (h:ShIn w base g gb T v Q F S) {b c:Nat} (hv:v=.slice (some ⟨b,0,none⟩) Q.length c) {a:Nat} {s:Txt} (ha:Q[a]? = some s) :
    w.cell? ⟨b,a * 2,none⟩=some (.int .i64 (F s:Int))∧w.frozen? ⟨b,a * 2,none⟩=false∧w.cell? ⟨b,a * 2+1,none⟩=some (.int .i64 (S s:Int))∧w.frozen? ⟨b,a * 2+1,none⟩=false:=by
 subst hv
 have hal:=(List.getElem?_eq_some_iff.1 ha).1
 obtain ⟨p0,p1⟩:=Zct (F:=F) (S:=S) ha
 refine ⟨?_,World.ownsRow.frozenAt h.2.2 _,?_,World.ownsRow.frozenAt h.2.2 _⟩
 · rw [World.ownsRow.cellAt h.2.2 (a * 2) (by omega),p0]
 · rw [World.ownsRow.cellAt h.2.2 (a * 2+1) (by omega),p1]
theorem Byt.drop {w:World} {ad:Addr} {p:Txt} (h:Byt w (some ad) p) (m:Nat):Byt w (some (ad.add m)) (p.drop m):=by
 rcases h with h | ⟨ad',e,hlt,hc⟩
 · have h0:p=[]:=by have:=congrArg List.length h;rw [Zt] at this;exact List.eq_nil_of_length_eq_zero this
   subst h0
   exact .inl (by simp [Zh])
 · injection e with e
   subst e
   refine .inr ⟨_,rfl,by rw [Addr.block_add];exact hlt,fun j u hu=>?_⟩
   rw [Addr.add_add']
   refine hc _ u ?_
   unfold Zh at hu ⊢
   rw [List.map_drop,List.getElem?_drop] at hu
   exact hu
theorem BackAt.open_ {w:World} {g:Nat} {T P:List Txt} (h:BackAt w g T) (hP:As (Zl T=P)):∃ tb tg,w.cell? ⟨g,0,none⟩=some (.pointer (some ⟨tg,0,none⟩))∧TrieAt w tb tg P (place T):=by
 obtain ⟨tb,tg,h1,h2⟩:=h
 rw [hP.out] at h2
 exact ⟨tb,tg,Za h1 0,h2⟩
set_option maxRecDepth 100000 in
set_option maxHeartbeats 6400000 in
theorem goes_calls (w:World) (base g gb:Nat) (T P:List Txt) (hP:As (Zl T=P)) (L n:Nat) (hn:P.length=n) (hb0:0<L) (b c k:Nat) (p:Txt) (hk:P[k]? = some p)
    (h:ShIn w base g gb T (.slice (some ⟨b,0,none⟩) n c) P (Zz (P.take k) L [] 0) (Zw T (P.take k) L [] 0)) (hl:n≤1000000) (hd:∀ p∈P,p.length≤100000) :
    Calls Tryz.prog 198 #[.pointer (some ⟨g,0,none⟩),.int .i64 (k:Int)] w fun e w'=>e=.returned (.tuple #[]) ∧
     ShIn w' base g gb T (.slice (some ⟨b,0,none⟩) n c) P (Zz (P.take (k+1)) L [] 0) (Zw T (P.take (k+1)) L [] 0)∧Keeps (fun q=>q=b) w w':=by
 have hT:As (Tree P):=⟨by rw [← hP.out];exact ZC T⟩
 have hkl:=(List.getElem?_eq_some_iff.1 hk).1
 have htk:P.take (k+1)=P.take k++[p]:=by rw [List.take_succ_eq_append_getElem hkl];congr 2;exact (List.getElem?_eq_some_iff.1 hk).2
 obtain ⟨Pk,hPk⟩:∃ Q,P.take k=Q:=⟨_,rfl⟩
 obtain ⟨Pn,hPn⟩:∃ Q,P.take (k+1)=Q:=⟨_,rfl⟩
 rw [hPn,hPk] at htk
 rw [hPk] at h
 rw [hPn]
 have hF0:=As.mk (fun s=>firstTo_start Pk L [] p s)
 have hS0:=As.mk (fun s=>wholeTo_start T Pk L [] p s)
 have hFn:=As.mk (fun s=>Zbx Pk L p [] s)
 have hSn:=As.mk (fun s=>Zby T Pk L p [] s)
 have hF:=As.mk (fun m (hm:m<p.length) s=>firstTo_step Pk hb0 p m hm s)
 have hS:=As.mk (fun m (hm:m<p.length) (hp:p∈T) s=>wholeTo_step T Pk hb0 p m hm hp s)
 have hSN:=As.mk (fun (hp:p ∉ T) m s=>wholeTo_none T Pk L p m (m+1) hp s)
 rw [← htk] at hFn hSn
 have hwn:=As.mk (ZeB (T:=T) (a:=k) (p:=p) (by rw [hP.out];exact hk))
 have hpl:=hd p (List.mem_of_getElem? hk)
 have hpa:YW P (k:Int)=p:=by unfold YW;rw [if_pos (by omega),Int.toNat_natCast,List.getD_eq_getElem?_getD,hk];rfl
 have h1:As (ShIn w base g gb T (.slice (some ⟨b,0,none⟩) n c) P (Zz Pk L p 0) (Zw T Pk L p 0)):=⟨by rw [← funext hF0.out,← funext hS0.out];exact h⟩
 obtain ⟨g1,g2,g3⟩:=h
 obtain ⟨tb,tg,c1,g5⟩:=g2.open_ hP
 have c0:w.cell? ⟨g,0,none⟩=some (.pointer (some ⟨gb,0,none⟩)):=Za g1 0
 have cp:=As.mk (ZaL w tb tg P (place T) g5 (k:Int) hd)
 rw [hpa] at cp
 obtain ⟨pl,hpl2⟩:∃ n,p.length=n:=⟨_,rfl⟩
 rw [hpl2] at hpl hF hS hFn hSn
 replace hn:=As.mk hn
 replace hpl2:=As.mk hpl2
 replace hPk:=As.mk hPk
 replace hPn:=As.mk hPn
 have hbase:=ZM g3 (k:=b) rfl
 clear g1 g2 g3 g5 hk hkl htk hF0 hS0 hd hpa
 go_enter Tryz.func198,Tryz.ntmps198
 go_wp2_with (go_at_call 136;refine Calls.mono cp.out ?_;intro e w1 h9;obtain ⟨vp,he,ho1,hb1⟩:=h9.open_;subst he;obtain ⟨Ap,cpp,rfl,hcpp,_⟩:=ho1.row;rw [hpl2.out] at hcpp ⊢)
 have hs1:=hb1.size
 have hw1:As (ShIn w1 base g gb T (.slice (some ⟨b,0,none⟩) n c) P (Zz Pk L p 0) (Zw T Pk L p 0)):=⟨h1.out.below hb1⟩
 have ho1':As (OwnByt w1 w.heap.size (.slice Ap pl cpp) p):=⟨by rw [← hpl2.out];exact ho1⟩
 have hk1:As (Keeps (fun q=>q=b) w w1):=⟨Keeps.of_below hb1 _⟩
 have hbw:=hbase.2
 clear ho1 hb1 h1 cp c0 c1
 go_loopg [6] (pl+1) (fun gk i wr=>∃ m:Nat,As (pl+1≤gk+m)∧m≤pl∧i=.int .i64 ((m+1:Nat):Int)∧As (ShIn wr base g gb T (.slice (some ⟨b,0,none⟩) n c) P (Zz Pk L p m) (Zw T Pk L p m))∧As (OwnByt wr w.heap.size (.slice Ap pl cpp) p)∧As (Keeps (fun q=>q=b) w wr))
 case atStart=>exact ⟨0,⟨by omega⟩,Nat.zero_le _,(by first | rfl | go_num | (congr 1;omega)),hw1,ho1',hk1⟩
 case round =>
  obtain ⟨m,hgk,hm,rfl,hsh,hop,hkp⟩:=hrel
  by_cases hlt:m<pl
  · obtain ⟨gp,rfl⟩:∃ gp,gk=gp+1:=⟨gk - 1,by have:=hgk.out;omega⟩
    obtain ⟨A2,c2,e2,_,hby⟩:=OwnByt.row hop.out
    injection e2 with e2 e3 e4
    clear e3 e4
    subst e2
    obtain ⟨ad,rfl,_⟩:=Byt.at_ hby (i:=0) (by have:=hpl2.out;omega)
    obtain ⟨s,hs⟩:∃ s,p.drop (m+1)=s:=⟨_,rfl⟩
    have hsl:s.length=pl - (m+1):=by rw [← hs,List.length_drop,hpl2.out]
    have hFs:=As.mk (hF.out m hlt)
    have hSs:=As.mk (hS.out m hlt)
    rw [hs] at hFs hSs
    obtain ⟨g1,g2,g3⟩:=hsh.out
    obtain ⟨tb,tg,c1,g5⟩:=g2.open_ hP
    have c0:wr.cell? ⟨g,0,none⟩=some (.pointer (some ⟨gb,0,none⟩)):=Za g1 0
    have c2:wr.cell? ⟨g,1,none⟩=some (.slice (some ⟨b,0,none⟩) n c):=Za g1 1
    have hbd:=hby.drop (m+1)
    rw [hs] at hbd
    have hmi:((m+1:Nat):Int)≤(pl:Int):=by omega
    have hcf:∀ A' d,Byt wr A' s→Calls Tryz.prog 218 #[.pointer (some ⟨tg,0,none⟩),.slice A' (pl - (m+1)) d] wr.drew fun e w'=>e=.returned (.int .i64 (place P s))∧wr.drew=w':=fun A' d hA=>by
     have:=find_calls wr.drew tb tg P (place T) (g5.below (Below.refl _ _).drew) (by have:=hn.out;omega) A' d s (Row.drew hA) (by omega)
     rw [hsl] at this;exact this
    have hsd:ShIn wr.drew base g gb T (.slice (some ⟨b,0,none⟩) n c) P (Zz Pk L p m) (Zw T Pk L p m):=hsh.out.below (Below.refl _ _).drew
    obtain ⟨csb,hcsb⟩:=QE g3 (b:=b) rfl
    have hkd:=hkp.out.drew
    have hod:OwnByt wr.drew w.heap.size (.slice (some ad) pl cpp) p:=Zo hop.out (Below.refl _ _).drew
    have hcsd:wr.drew.heap[b]? = some (.cells csb 306 (0,0)):=hcsb
    have hnd:=hT.out.nodup
    by_cases hcc:cpp=m+1
    · obtain rfl:pl=m+1:=by omega
      subst hcc
      have cf0:=hcf (some ad) 0 (by
       have:s=[]:=List.eq_nil_of_length_eq_zero (by omega)
       rw [this];exact .inl rfl)
      rw [Nat.sub_self] at cf0
      have hmm:m+1≤m+1:=Nat.le_refl _
      by_cases hq:s∈P
      · obtain ⟨a,ea,ha⟩:=Qs hq
        rw [ea] at cf0
        have cf:=As.mk cf0
        have hal:=(List.getElem?_eq_some_iff.1 ha).1
        obtain ⟨d0,d1,d2,d3⟩:=hsd.cells (b:=b) (c:=c) (by rw [hn.out]) ha
        obtain ⟨y0,hy0⟩:∃ y,min (Zz Pk L p m s) (m+1)=y:=⟨_,rfl⟩
        have e0:Zz Pk L p (m+1) s=y0:=by rw [hFs.out,if_pos rfl];exact hy0
        have hset0:(Zx P (Zz Pk L p m) (Zw T Pk L p m)).set (a * 2) (.int .i64 (y0:Int))=Zx P (Zz Pk L p (m+1)) (Zw T Pk L p m):=by
         rw [← e0]
         exact Jd hnd ha (fun q _ hqs=>by rw [hFs.out,if_neg hqs])
        have hst1:=hsd.store (b:=b) (c:=c) (by rw [hn.out]) (a * 2) (.int .i64 (y0:Int)) hset0
        have cl0:=YE wr.drew ⟨b,a * 2,none⟩ _ (m+1) d0 d1 y0 hy0 ((m:Int)+1) (by omega)
        obtain ⟨W5,hW5⟩:∃ W,wr.drew.setCell ⟨b,a * 2,none⟩ (.int .i64 (y0:Int))=W:=⟨_,rfl⟩
        rw [hW5] at hst1 cl0
        replace cl0:=As.mk cl0
        clear hW5
        have cw:=As.mk (JM _ gb T hst1.1.2.1 (k:Int))
        rw [hwn.out] at cw
        have c20:W5.cell? ⟨g,0,none⟩=some (.pointer (some ⟨gb,0,none⟩)):=Za hst1.1.1 0
        have c22:W5.cell? ⟨g,1,none⟩=some (.slice (some ⟨b,0,none⟩) n c):=Za hst1.1.1 1
        have hkk1:Keeps (fun q=>q=b) wr.drew W5:=hst1.2.2
        have hho1:OwnByt W5 w.heap.size (.slice (some ad) (m+1) (m+1)) p:=Zj hod hkk1 (fun b' c' _ hb' _ hS=>by
         have hS:b'=b:=hS
         subst hS;rw [hcsd] at hb';injection hb' with hb';injection hb' with _ hb';exact absurd hb' (by decide))
        obtain ⟨csb2,hcsb2⟩:=QE hst1.1.2.2 (b:=b) rfl
        by_cases hp:p∈T
        · rw [decide_eq_true hp] at cw
          obtain ⟨_,_,d6,d7⟩:=hst1.1.cells (b:=b) (c:=c) (by rw [hn.out]) ha
          obtain ⟨y1,hy1⟩:∃ y,min (Zw T Pk L p m s) (m+1)=y:=⟨_,rfl⟩
          have e1:Zw T Pk L p (m+1) s=y1:=by rw [hSs.out hp,if_pos rfl];exact hy1
          have hset1:(Zx P (Zz Pk L p (m+1)) (Zw T Pk L p m)).set (a * 2+1) (.int .i64 (y1:Int))=Zx P (Zz Pk L p (m+1)) (Zw T Pk L p (m+1)):=by
           rw [← e1]
           exact Yj hnd ha (fun q _ hqs=>by rw [hSs.out hp,if_neg hqs])
          have hst2:=hst1.1.store (b:=b) (c:=c) (by rw [hn.out]) (a * 2+1) (.int .i64 (y1:Int)) hset1
          have cl1:=YE _ ⟨b,a * 2+1,none⟩ _ (m+1) d6 d7 y1 hy1 ((m:Int)+1) (by omega)
          obtain ⟨W6,hW6⟩:∃ W,W5.setCell ⟨b,a * 2+1,none⟩ (.int .i64 (y1:Int))=W:=⟨_,rfl⟩
          rw [hW6] at hst2 cl1
          replace cl1:=As.mk cl1
          clear hW6
          have hfin:=As.mk hst2.1
          have hkf:=As.mk (hkd.trans ((hkk1.trans hst2.2.2).mono (fun _ _ h=>h)))
          have hof:=As.mk (Zj hho1 hst2.2.2 (fun b' c' _ hb' _ hS=>by
           have hS:b'=b:=hS
           subst hS;rw [hcsb2] at hb';injection hb' with hb';injection hb' with _ hb';exact absurd hb' (by decide)))
          replace ha:=As.mk ha
          clear hst1 hst2 hset0 hset1 e0 e1 hy0 hy1 hcf cf0 hsd hod hkd hkk1 hho1 hcsb hcsd hcsb2 g1 g2 g3 g5 hop hkp hsh hbd hby hnd d0 d1 d2 d3 d6 d7
          have han:a<n:=by have:=hn.out;omega
          clear hal
          go_wp2_with fail
          go_region_with (go_at_call 218;refine Calls.mono cf.out ?_;rintro e w' ⟨rfl,rfl⟩)
          all_goals
           go_wp2_with (first
            | (go_at_call 219;refine Calls.mono cw.out ?_;rintro e w' ⟨rfl,rfl⟩)
            | (go_at_call 217;(first | with_reducible refine Calls.mono cl0.out ?_ | with_reducible refine Calls.mono cl1.out ?_);rintro e w' ⟨rfl,rfl⟩))
           go_roundg gp
           case rel=>exact ⟨m+1,⟨by have:=hgk.out;omega⟩,by omega,(by first | rfl | go_num | (congr 1;omega)),hfin,hof,hkf⟩
           case measure=>omega
        · rw [decide_eq_false hp] at cw
          have hfin:=As.mk hst1.1
          rw [funext (hSN.out hp m)] at hfin
          have hkf:=As.mk (hkd.trans hkk1)
          have hof:=As.mk hho1
          clear hst1 hset0 e0 hy0 hcf cf0 hsd hod hkd hkk1 hho1 hcsb hcsd hcsb2 g1 g2 g3 g5 hop hkp hsh hbd hby hnd d0 d1 d2 d3
          have han:a<n:=by have:=hn.out;omega
          clear hal
          go_wp2_with fail
          go_region_with (go_at_call 218;refine Calls.mono cf.out ?_;rintro e w' ⟨rfl,rfl⟩)
          all_goals
           go_wp2_with (first
            | (go_at_call 219;refine Calls.mono cw.out ?_;rintro e w' ⟨rfl,rfl⟩)
            | (go_at_call 217;refine Calls.mono cl0.out ?_;rintro e w' ⟨rfl,rfl⟩))
           go_roundg gp
           case rel=>exact ⟨m+1,⟨by have:=hgk.out;omega⟩,by omega,(by first | rfl | go_num | (congr 1;omega)),hfin,hof,hkf⟩
           case measure=>omega
      · have hpn:=ZQ hq
        rw [hpn] at cf0
        have cf:=As.mk cf0
        have hFe:Zx P (Zz Pk L p m) (Zw T Pk L p m)=Zx P (Zz Pk L p (m+1)) (Zw T Pk L p (m+1)):=XA (fun x hx=>by
            rw [hFs.out,if_neg (fun e:x=s=>hq (by rw [← e];exact hx))]) (fun x hx=>by
            by_cases hp:p∈T
            · rw [hSs.out hp,if_neg (fun e:x=s=>hq (by rw [← e];exact hx))]
            · exact hSN.out hp m x)
        have hfin:=hsd
        unfold ShIn at hfin
        rw [hFe] at hfin
        replace hfin:=As.mk (show ShIn wr.drew base g gb T (.slice (some ⟨b,0,none⟩) n c) P (Zz Pk L p (m+1)) (Zw T Pk L p (m+1)) from hfin)
        have hkf:=As.mk hkd
        have hof:=As.mk hod
        clear hcf cf0 hsd hod hkd hcsb hcsd g1 g2 g3 g5 hop hkp hsh hbd hby hnd hFe
        go_wp2_with fail
        go_region_with (go_at_call 218;refine Calls.mono cf.out ?_;rintro e w' ⟨rfl,rfl⟩)
        all_goals
         go_wp2
         go_roundg gp
         case rel=>exact ⟨m+1,⟨by have:=hgk.out;omega⟩,by omega,(by first | rfl | go_num | (congr 1;omega)),hfin,hof,hkf⟩
         case measure=>omega
    · have hcc':¬ (m+1=cpp):=fun e=>hcc e.symm
      have cf0:=hcf (some ⟨ad.block,ad.off+(m+1),none⟩) (cpp - (m+1)) hbd
      by_cases hq:s∈P
      · obtain ⟨a,ea,ha⟩:=Qs hq
        rw [ea] at cf0
        have cf:=As.mk cf0
        have hal:=(List.getElem?_eq_some_iff.1 ha).1
        obtain ⟨d0,d1,d2,d3⟩:=hsd.cells (b:=b) (c:=c) (by rw [hn.out]) ha
        obtain ⟨y0,hy0⟩:∃ y,min (Zz Pk L p m s) (m+1)=y:=⟨_,rfl⟩
        have e0:Zz Pk L p (m+1) s=y0:=by rw [hFs.out,if_pos rfl];exact hy0
        have hset0:(Zx P (Zz Pk L p m) (Zw T Pk L p m)).set (a * 2) (.int .i64 (y0:Int))=Zx P (Zz Pk L p (m+1)) (Zw T Pk L p m):=by
         rw [← e0]
         exact Jd hnd ha (fun q _ hqs=>by rw [hFs.out,if_neg hqs])
        have hst1:=hsd.store (b:=b) (c:=c) (by rw [hn.out]) (a * 2) (.int .i64 (y0:Int)) hset0
        have cl0:=YE wr.drew ⟨b,a * 2,none⟩ _ (m+1) d0 d1 y0 hy0 ((m:Int)+1) (by omega)
        obtain ⟨W5,hW5⟩:∃ W,wr.drew.setCell ⟨b,a * 2,none⟩ (.int .i64 (y0:Int))=W:=⟨_,rfl⟩
        rw [hW5] at hst1 cl0
        replace cl0:=As.mk cl0
        clear hW5
        have cw:=As.mk (JM _ gb T hst1.1.2.1 (k:Int))
        rw [hwn.out] at cw
        have c20:W5.cell? ⟨g,0,none⟩=some (.pointer (some ⟨gb,0,none⟩)):=Za hst1.1.1 0
        have c22:W5.cell? ⟨g,1,none⟩=some (.slice (some ⟨b,0,none⟩) n c):=Za hst1.1.1 1
        have hkk1:Keeps (fun q=>q=b) wr.drew W5:=hst1.2.2
        have hho1:OwnByt W5 w.heap.size (.slice (some ad) pl cpp) p:=Zj hod hkk1 (fun b' c' _ hb' _ hS=>by
         have hS:b'=b:=hS
         subst hS;rw [hcsd] at hb';injection hb' with hb';injection hb' with _ hb';exact absurd hb' (by decide))
        obtain ⟨csb2,hcsb2⟩:=QE hst1.1.2.2 (b:=b) rfl
        by_cases hp:p∈T
        · rw [decide_eq_true hp] at cw
          obtain ⟨_,_,d6,d7⟩:=hst1.1.cells (b:=b) (c:=c) (by rw [hn.out]) ha
          obtain ⟨y1,hy1⟩:∃ y,min (Zw T Pk L p m s) (m+1)=y:=⟨_,rfl⟩
          have e1:Zw T Pk L p (m+1) s=y1:=by rw [hSs.out hp,if_pos rfl];exact hy1
          have hset1:(Zx P (Zz Pk L p (m+1)) (Zw T Pk L p m)).set (a * 2+1) (.int .i64 (y1:Int))=Zx P (Zz Pk L p (m+1)) (Zw T Pk L p (m+1)):=by
           rw [← e1]
           exact Yj hnd ha (fun q _ hqs=>by rw [hSs.out hp,if_neg hqs])
          have hst2:=hst1.1.store (b:=b) (c:=c) (by rw [hn.out]) (a * 2+1) (.int .i64 (y1:Int)) hset1
          have cl1:=YE _ ⟨b,a * 2+1,none⟩ _ (m+1) d6 d7 y1 hy1 ((m:Int)+1) (by omega)
          obtain ⟨W6,hW6⟩:∃ W,W5.setCell ⟨b,a * 2+1,none⟩ (.int .i64 (y1:Int))=W:=⟨_,rfl⟩
          rw [hW6] at hst2 cl1
          replace cl1:=As.mk cl1
          clear hW6
          have hfin:=As.mk hst2.1
          have hkf:=As.mk (hkd.trans ((hkk1.trans hst2.2.2).mono (fun _ _ h=>h)))
          have hof:=As.mk (Zj hho1 hst2.2.2 (fun b' c' _ hb' _ hS=>by
           have hS:b'=b:=hS
           subst hS;rw [hcsb2] at hb';injection hb' with hb';injection hb' with _ hb';exact absurd hb' (by decide)))
          replace ha:=As.mk ha
          clear hst1 hst2 hset0 hset1 e0 e1 hy0 hy1 hcf cf0 hsd hod hkd hkk1 hho1 hcsb hcsd hcsb2 g1 g2 g3 g5 hop hkp hsh hbd hby hnd d0 d1 d2 d3 d6 d7
          have han:a<n:=by have:=hn.out;omega
          clear hal
          go_wp2_with fail
          go_region_with (go_at_call 218;refine Calls.mono cf.out ?_;rintro e w' ⟨rfl,rfl⟩)
          all_goals
           go_wp2_with (first
            | (go_at_call 219;refine Calls.mono cw.out ?_;rintro e w' ⟨rfl,rfl⟩)
            | (go_at_call 217;(first | with_reducible refine Calls.mono cl0.out ?_ | with_reducible refine Calls.mono cl1.out ?_);rintro e w' ⟨rfl,rfl⟩))
           go_roundg gp
           case rel=>exact ⟨m+1,⟨by have:=hgk.out;omega⟩,by omega,(by first | rfl | go_num | (congr 1;omega)),hfin,hof,hkf⟩
           case measure=>omega
        · rw [decide_eq_false hp] at cw
          have hfin:=As.mk hst1.1
          rw [funext (hSN.out hp m)] at hfin
          have hkf:=As.mk (hkd.trans hkk1)
          have hof:=As.mk hho1
          clear hst1 hset0 e0 hy0 hcf cf0 hsd hod hkd hkk1 hho1 hcsb hcsd hcsb2 g1 g2 g3 g5 hop hkp hsh hbd hby hnd d0 d1 d2 d3
          have han:a<n:=by have:=hn.out;omega
          clear hal
          go_wp2_with fail
          go_region_with (go_at_call 218;refine Calls.mono cf.out ?_;rintro e w' ⟨rfl,rfl⟩)
          all_goals
           go_wp2_with (first
            | (go_at_call 219;refine Calls.mono cw.out ?_;rintro e w' ⟨rfl,rfl⟩)
            | (go_at_call 217;refine Calls.mono cl0.out ?_;rintro e w' ⟨rfl,rfl⟩))
           go_roundg gp
           case rel=>exact ⟨m+1,⟨by have:=hgk.out;omega⟩,by omega,(by first | rfl | go_num | (congr 1;omega)),hfin,hof,hkf⟩
           case measure=>omega
      · have hpn:=ZQ hq
        rw [hpn] at cf0
        have cf:=As.mk cf0
        have hFe:Zx P (Zz Pk L p m) (Zw T Pk L p m)=Zx P (Zz Pk L p (m+1)) (Zw T Pk L p (m+1)):=XA (fun x hx=>by
            rw [hFs.out,if_neg (fun e:x=s=>hq (by rw [← e];exact hx))]) (fun x hx=>by
            by_cases hp:p∈T
            · rw [hSs.out hp,if_neg (fun e:x=s=>hq (by rw [← e];exact hx))]
            · exact hSN.out hp m x)
        have hfin:=hsd
        unfold ShIn at hfin
        rw [hFe] at hfin
        replace hfin:=As.mk (show ShIn wr.drew base g gb T (.slice (some ⟨b,0,none⟩) n c) P (Zz Pk L p (m+1)) (Zw T Pk L p (m+1)) from hfin)
        have hkf:=As.mk hkd
        have hof:=As.mk hod
        clear hcf cf0 hsd hod hkd hcsb hcsd g1 g2 g3 g5 hop hkp hsh hbd hby hnd hFe
        go_wp2_with fail
        go_region_with (go_at_call 218;refine Calls.mono cf.out ?_;rintro e w' ⟨rfl,rfl⟩)
        all_goals
         go_wp2
         go_roundg gp
         case rel=>exact ⟨m+1,⟨by have:=hgk.out;omega⟩,by omega,(by first | rfl | go_num | (congr 1;omega)),hfin,hof,hkf⟩
         case measure=>omega
  · obtain rfl:m=pl:=by omega
    have hfin:=hsh.out
    rw [funext hFn.out,funext hSn.out] at hfin
    replace hfin:=As.mk hfin
    go_wp2
    go_end0
    exact ⟨rfl,hfin.out,hkp.out⟩
end Go.Proofs.YtfdlaomnecjfeaaGreatDoor
end
section
namespace Go.Proofs.YtfdlaomnecjfeaaGreatDoor
open Go.RowKit Seine.Trie Seine.Links Seine.Cw
attribute [local go_sem high] Xn XT QM Q9
theorem farCells_put (k L:Nat) (P:List Txt) (hk:k<P.length):Zx (P.take (k+1)) (fun _=>L) (fun _=>L)=Zx (P.take k) (fun _=>L) (fun _=>L)++[.int .i64 (L:Int),.int .i64 (L:Int)]:=by
 rw [List.take_succ_eq_append_getElem hk,farCells_snoc]
theorem first_root (L:Nat) (s:Txt) (hb:0<L):Zz [[]] L [] 0 s=L:=by
 have:=Zbx [] L [] [] s
 rw [List.length_nil,List.nil_append] at this
 rw [← this,firstTo_first hb]
theorem whole_root (T:List Txt) (L:Nat) (s:Txt) (hb:0<L):Zw T [[]] L [] 0 s=L:=by
 have:=Zby T [] L [] [] s
 rw [List.length_nil,List.nil_append] at this
 rw [← this,wholeTo_first T hb]
/-- How far a window may be moved, by what fitted. -/
def ShAt (w:World) (gs gb:Nat) (T:List Txt):Prop:=T≠[]→∃ base v,ShIn w base gs gb T v (Zl T) (firstF T) (secondF T)
theorem ShAt.below {w w':World} {gs gb:Nat} {T:List Txt} (h:ShAt w gs gb T) (hb:Below w.heap.size w w'):ShAt w' gs gb T:=fun hne=>by
 obtain ⟨base,v,h⟩:=h hne
 exact ⟨base,v,h.below hb⟩
theorem shbuild_none (w:World) (gb:Nat) (h:BackAt w gb []) :
    Calls Tryz.prog 145 #[.pointer (some ⟨gb,0,none⟩)] w fun e w'=>∃ g,e=.returned (.pointer (some ⟨g,0,none⟩))∧ShAt w' g gb []∧Below w.heap.size w w':=by
 have hB:=As.mk ((Below.refl w.heap.size w).alloc (Nat.le_refl _) (.cells #[.pointer (some ⟨gb,0,none⟩),.slice none 0 0] 305))
 have cl:=As.mk (Xe _ gb [] (h.below hB.out))
 rw [show least []=0 from rfl] at cl
 clear h
 go_enter Tryz.func145,Tryz.ntmps145
 go_wp2_with (go_at_call 197;refine Calls.mono cl.out ?_;rintro e w' ⟨rfl,rfl⟩)
 go_ret
 exact ⟨_,rfl,fun h=>absurd rfl h,hB.out⟩
set_option maxRecDepth 100000 in
set_option maxHeartbeats 6400000 in
theorem shbuild_calls (w:World) (gb:Nat) (T P:List Txt) (hP:As (Zl T=P)) (L n:Nat) (hL:As (least T=L)) (hn:P.length=n) (hb0:0<L) (hl:n≤1000000) (hd:∀ p∈P,p.length≤100000) (h:BackAt w gb T) :
    Calls Tryz.prog 145 #[.pointer (some ⟨gb,0,none⟩)] w fun e w'=>∃ g,e=.returned (.pointer (some ⟨g,0,none⟩))∧ShAt w' g gb T∧Below w.heap.size w w':=by
 have hB:=As.mk ((Below.refl w.heap.size w).alloc (Nat.le_refl _) (.cells #[.pointer (some ⟨gb,0,none⟩),.slice none 0 0] 305))
 have hbk:=h.below hB.out
 have hS0:As (ShIn (w.alloc (.cells #[.pointer (some ⟨gb,0,none⟩),.slice none 0 0] 305)) w.heap.size w.heap.size gb T (.slice none 0 0) (P.take 0) (fun _=>L) (fun _=>L)):=⟨heap_alloc_new _ _,hbk,by rw [List.take_zero];exact World.ownsRow_nil _ _ _ _⟩
 have hT:As (Tree P):=⟨by rw [← hP.out];exact ZC T⟩
 have hn0:=hT.out.len
 rw [hn] at hn0
 obtain ⟨i0,hi,hz0,hz1,hz2⟩:=info_parts info_two
 obtain ⟨gg,hgg⟩:∃ g,w.heap.size=g:=⟨_,rfl⟩
 obtain ⟨W0,hW0⟩:∃ W,w.alloc (.cells #[.pointer (some ⟨gb,0,none⟩),.slice none 0 0] 305)=W:=⟨_,rfl⟩
 have cl:=As.mk (Xe _ gb T hbk)
 rw [hL.out] at cl
 rw [hW0] at cl hS0 hB hbk
 rw [hgg] at hS0 hB
 replace hn:=As.mk hn
 have hL0:((L:Int) == 0)=false:=by simp;omega
 obtain ⟨tb,tg,c1,g5⟩:=hbk.open_ hP
 have cN:=As.mk (Qv _ tb tg P (place T) g5)
 rw [hn.out] at cN
 replace hW0:=As.mk hW0
 replace hgg:=As.mk hgg
 clear h hbk g5
 go_enter Tryz.func145,Tryz.ntmps145
 go_wp2_with fail
 rw [hW0.out]
 simp only [hgg.out]
 refine Calls.mono cl.out ?_
 rintro e w' ⟨rfl,rfl⟩
 go_wp2_with (go_at_call 135;refine Calls.mono cN.out ?_;rintro e w' ⟨rfl,rfl⟩)
 go_loopg [18] (n+1) (fun gk i wr=>∃ (k:Nat) (v:Value),As (n+1≤gk+k)∧k≤n∧i=.int .i64 k∧As (ShIn wr gg gg gb T v (P.take k) (fun _=>L) (fun _=>L))∧As (Below gg w wr))
 case atStart=>exact ⟨0,_,⟨by omega⟩,Nat.zero_le _,rfl,hS0,hB⟩
 case round =>
  obtain ⟨k,v,hgk,hk,rfl,hS,hbel⟩:=hrel
  have hgw:gg≤wr.heap.size:=by have:=hbel.out.size;have:=hgg.out;omega
  by_cases hlt:k<n
  · obtain ⟨gp,rfl⟩:∃ gp,gk=gp+1:=⟨gk - 1,by have:=hgk.out;omega⟩
    have hput:=As.mk (farCells_put k L P (by rw [hn.out];exact hlt))
    have htl:(P.take k).length=k:=by rw [List.length_take,hn.out];omega
    have htl2:(P.take (k+1)).length=k+1:=by rw [List.length_take,hn.out];omega
    obtain ⟨g1,g2,g3⟩:=hS.out
    rw [htl] at g3
    obtain ⟨Av,cv,rfl,hcv⟩:=Zk g3
    have cle:=As.mk (Xe wr.drew gb T (g2.below (Below.refl _ _).drew))
    rw [hL.out] at cle
    have q1:wr.cell? ⟨gg,1,none⟩=some (.slice Av k cv):=Za g1 1
    have hgl:=Zf g1
    have hfar:some gg≠(Value.slice Av k cv).ownBlock:=Zy g3 g1 (by decide)
    have hown2:=As.mk ((g3.alloc (.cells #[.int .i64 (L:Int),.int .i64 (L:Int)] 306)).drew)
    have K1:=As.mk ((Below.cell (p:=⟨gg,1,none⟩) ((Below.alloc (Below.refl wr.heap.size wr) (Nat.le_refl _) (.cells #[.int .i64 (L:Int),.int .i64 (L:Int)] 306)).drew) hgl).trans q1)
    have K2:=As.mk ((Below.frozen (p:=⟨gg,1,none⟩) ((Below.alloc (Below.refl wr.heap.size wr) (Nat.le_refl _) (.cells #[.int .i64 (L:Int),.int .i64 (L:Int)] 306)).drew) hgl).trans (Zb g1 1))
    have G1:=As.mk g1
    have G2:=As.mk g2
    have G3:=As.mk g3
    clear g1 g2 g3
    go_wp2_with fail
    go_region_law (first
     | (refine step_append_lies _ (by rfl) _ _ _ (by rfl) gg 306 i0 _ 2 16 Tryz.underlying303 hi hz0 hz1 hz2 rfl (by omega) (.slice Av k cv) k _ (by rfl) hown2.out
              ⟨wr.heap.size,0,none⟩ 1 1 [.int .i64 (L:Int),.int .i64 (L:Int)] (by rfl) (by rfl) (World.news_of_block (cs:=#[.int .i64 (L:Int),.int .i64 (L:Int)]) (t:=306) (fr:=(0,0)) (heap_alloc_new wr _)) (by simp [Value.oneCell'])
              (by omega) (by unfold maxLen;omega) (by omega) (by simp;omega) (wr.heap.size+1) (by simp) ?_
        intro g4 cap w4 hown4 hgrow hat hlt4
        have e0:=(hgrow.cell_far ⟨gg,1,none⟩ (by show gg<_;simp;omega) hfar).trans K1.out
        have e1:=(hgrow.frozen_far ⟨gg,1,none⟩ (by show gg<_;simp;omega) hfar).trans K2.out
        replace hgrow:=As.mk hgrow
        replace hown4:=As.mk hown4)
     | (refine JE (by rfl) ?ho cle.out ?_;(case ho=>go_simp)))
    all_goals
     go_wp2_with fail
     have hkp:Keeps (fun q=>some q=(Value.slice Av k cv).ownBlock) wr w4:=(Keeps.of_below (((Below.refl _ _).alloc (Nat.le_refl _) _).drew) _).trans ((Keeps.of_grown hgrow.out).mono (fun _ _ h=>h))
     have hks5:=(hkp.mono (T:=fun q=>some q=(Value.slice Av k cv).ownBlock∨q=gg) (fun _ _ h=>.inl h)).trans ((Zm w4 ⟨gg,1,none⟩ (.slice (some ⟨g4,0,none⟩) (k+1) cap)).mono (fun _ _ h=>.inr h))
     have hSS:∀ q,(some q=(Value.slice Av k cv).ownBlock∨q=gg)→∃ cs t fr,wr.heap[q]? = some (.cells cs t fr)∧(t=306∨t=305):=fun q hq=>by
      rcases hq with hq | rfl
      · obtain ⟨cs,h⟩:=QE G3.out hq
        exact ⟨cs,_,_,h,.inl rfl⟩
      · exact ⟨_,_,_,G1.out,.inr rfl⟩
     have hB5:=G2.out.keepOf hks5 (fun q hq=>by obtain ⟨cs,t,fr,h1,h2⟩:=hSS q hq;exact ⟨cs,t,fr,h1,by rcases h2 with rfl | rfl <;> decide,by rcases h2 with rfl | rfl <;> decide,by rcases h2 with rfl | rfl <;> decide⟩)
     have hA4:=Zd G1.out hkp hfar
     have hS5:ShIn (w4.setCell ⟨gg,1,none⟩ (.slice (some ⟨g4,0,none⟩) (k+1) cap)) gg gg gb T (.slice (some ⟨g4,0,none⟩) (k+1) cap) (P.take (k+1)) (fun _=>L) (fun _=>L):=by
      refine ⟨?_,hB5,?_⟩
      · have:=Zi hA4 1 (.slice (some ⟨g4,0,none⟩) (k+1) cap)
        rw [this];simp
      · have h6:=hown4.out
        rw [← hput.out] at h6
        have h7:=Zj h6 (Zm w4 ⟨gg,1,none⟩ (.slice (some ⟨g4,0,none⟩) (k+1) cap)) (fun b c' _ hb _ hS=>by
         have hS:b=gg:=hS
         subst hS
         rw [hA4] at hb
         injection hb with hb
         injection hb with _ hb
         exact absurd hb (by decide))
        rw [htl2]
        exact h7
     have hbel5:Below gg w (w4.setCell ⟨gg,1,none⟩ (.slice (some ⟨g4,0,none⟩) (k+1) cap)) :=
      hbel.out.trans (hks5.below (fun q hq hS=>by
       rcases hS with hS | hS
       · have:=(ZM G3.out hS).1
         omega
       · omega) hgw)
     go_roundg gp
     case rel=>exact ⟨k+1,_,⟨by have:=hgk.out;omega⟩,by omega,(by first | rfl | go_num | (congr 1;omega)),⟨hS5⟩,⟨hbel5⟩⟩
     case measure=>omega
  · obtain rfl:k=n:=by omega
    have hPk:P.take k=P:=List.take_of_length_le (by have:=hn.out;omega)
    have hS1:=hS.out
    rw [hPk] at hS1
    have hg3:=hS1.2.2
    rw [hn.out] at hg3
    obtain ⟨fb,fc,rfl,hfb,hfc⟩:=hg3.form (by omega)
    have hroot:P.take 1=[[]]:=by
     have:=hT.out.root
     cases hPP:P with
     | nil=>rw [hPP] at this;simp at this
     | cons x Q=>rw [hPP] at this;simp at this;subst this;rfl
    have hF1:(fun _:Txt=>L)=Zz (P.take 1) L [] 0:=by funext s;rw [hroot,first_root L s hb0]
    have hW1:(fun _:Txt=>L)=Zw T (P.take 1) L [] 0:=by funext s;rw [hroot,whole_root T L s hb0]
    have hS2:As (ShIn wr gg gg gb T (.slice (some ⟨fb,0,none⟩) k fc) P (Zz (P.take 1) L [] 0) (Zw T (P.take 1) L [] 0)):=⟨by rw [← hF1,← hW1];exact hS1⟩
    obtain ⟨W2,hW2⟩:∃ W,wr=W:=⟨_,rfl⟩
    rw [hW2] at hS2 hbel ⊢
    clear hS hS1 hg3 hW2 hF1 hW1 hPk hgw hW0 cl cN c1 hS0 hB
    go_wp2_with fail
    go_loopg [4] (k+1) (fun gk i wr=>∃ q:Nat,As (k+1≤gk+q)∧1≤q∧q≤k∧i=.int .i64 q∧As (ShIn wr gg gg gb T (.slice (some ⟨fb,0,none⟩) k fc) P (Zz (P.take q) L [] 0) (Zw T (P.take q) L [] 0))∧As (Below gg w wr))
    case atStart=>exact ⟨1,⟨by omega⟩,Nat.le_refl _,by omega,rfl,hS2,hbel⟩
    case round =>
     obtain ⟨q,hgq,hq1,hq,rfl,hS,hbel2⟩:=hrel
     have hgw:gg≤wr.heap.size:=by have:=hbel2.out.size;have:=hgg.out;omega
     obtain ⟨g1,g2,g3⟩:=hS.out
     obtain ⟨tb,tg,c1,g5⟩:=g2.open_ hP
     have cN:=As.mk (Qv wr tb tg P (place T) g5)
     rw [hn.out] at cN
     by_cases hlt:q<k
     · obtain ⟨gp,rfl⟩:∃ gp,gk=gp+1:=⟨gk - 1,by have:=hgq.out;omega⟩
       obtain ⟨p,hp⟩:∃ p,P[q]? = some p:=⟨_,List.getElem?_eq_getElem (by have:=hn.out;omega)⟩
       have cg:=As.mk (goes_calls wr gg gg gb T P hP L k hn.out hb0 fb fc q p hp hS.out hl hd)
       clear g1 g2 g3 g5 hp
       go_wp2_with (first
        | (go_at_call 135;refine Calls.mono cN.out ?_;rintro e w' ⟨rfl,rfl⟩)
        | (go_at_call 198;refine Calls.mono cg.out ?_;rintro e w5 ⟨rfl,hS5,hk5⟩))
       go_roundg gp
       case rel=>exact ⟨q+1,⟨by have:=hgq.out;omega⟩,by omega,by omega,(by first | rfl | go_num | (congr 1;omega)),⟨hS5⟩,⟨hbel2.out.trans (hk5.below (fun z hz e=>by omega) hgw)⟩⟩
       case measure=>omega
     · obtain rfl:q=k:=by omega
       have hPk:P.take q=P:=List.take_of_length_le (by have:=hn.out;omega)
       have hFF:Zz P L [] 0=firstF T:=by funext s;rw [← hL.out,← hP.out,firstTo_all]
       have hSS:Zw T P L [] 0=Qd T (P.take 1):=by funext s;rw [hroot,secondTo_root,← hL.out,← hP.out,wholeTo_all]
       have hS3:=hS.out
       rw [hPk,hFF,hSS] at hS3
       replace hS3:=As.mk hS3
       obtain ⟨W3,hW3⟩:∃ W,wr=W:=⟨_,rfl⟩
       rw [hW3] at hS3 hbel2 cN c1 ⊢
       clear hS hW3 hPk hFF hSS hgw g1 g2 g3 g5
       go_wp2_with (go_at_call 135;refine Calls.mono cN.out ?_;rintro e w' ⟨rfl,rfl⟩)
       clear cN c1
       go_loopg [5] (q+1) (fun gk i wr=>∃ r:Nat,As (q+1≤gk+r)∧1≤r∧r≤q∧i=.int .i64 r∧As (ShIn wr gg gg gb T (.slice (some ⟨fb,0,none⟩) q fc) P (firstF T) (Qd T (P.take r)))∧As (Below gg w wr))
       case atStart=>exact ⟨1,⟨by omega⟩,Nat.le_refl _,by omega,rfl,hS3,hbel2⟩
       case round =>
        obtain ⟨r,hgr,hr1,hr,rfl,hS,hbel3⟩:=hrel
        have hgw:gg≤wr.heap.size:=by have:=hbel3.out.size;have:=hgg.out;omega
        obtain ⟨g1,g2,g3⟩:=hS.out
        obtain ⟨tb,tg,c1,g5⟩:=g2.open_ hP
        have cN:=As.mk (Qv wr tb tg P (place T) g5)
        rw [hn.out] at cN
        by_cases hlt:r<q
        · obtain ⟨gp,rfl⟩:∃ gp,gk=gp+1:=⟨gk - 1,by have:=hgr.out;omega⟩
          have hrP:r<P.length:=by have:=hn.out;omega
          obtain ⟨s,hs⟩:∃ p,P[r]? = some p:=⟨_,List.getElem?_eq_getElem hrP⟩
          have hsd:P.getD r []=s:=by rw [List.getD_eq_getElem?_getD,hs];rfl
          have hne:s≠[]:=by rw [← hsd];exact ZdW hT.out hr1 hrP
          have hup:=(show Up P by rw [← hP.out];exact paths_up T) r s hs hne
          obtain ⟨a,ea,ha⟩:=Qs (List.mem_of_mem_take hup)
          have hpar:parent P s=(a:Int):=by unfold parent;rw [if_neg hne];exact ea
          have hns:s ∉ P.take r:=fun hm=>by
           obtain ⟨j,hj⟩:=List.mem_iff_getElem?.1 hm
           have hjr:j<r:=by have:=(List.getElem?_eq_some_iff.1 hj).1;rw [List.length_take] at this;omega
           rw [List.getElem?_take_of_lt hjr] at hj
           have:=Y4 hT.out.nodup hj hs
           omega
          have htk:P.take (r+1)=P.take r++[s]:=by rw [List.take_succ_eq_append_getElem hrP];congr 2;exact (List.getElem?_eq_some_iff.1 hs).2
          have hstep:=secondTo_step (T:=T) (by rw [hL.out];exact hb0) hne hns hup
          rw [← htk] at hstep
          have cpar:=As.mk (JA wr.drew tb tg P (place T) (g5.below (Below.refl _ _).drew) (r:Int))
          have hask:askF P (parent P) (-1) (r:Int)=(a:Int):=by unfold askF;rw [if_pos (by omega),Int.toNat_natCast,hsd,hpar]
          rw [hask] at cpar
          have hsd2:ShIn wr.drew gg gg gb T (.slice (some ⟨fb,0,none⟩) q fc) P (firstF T) (Qd T (P.take r)):=hS.out.below (Below.refl _ _).drew
          obtain ⟨_,_,d2,d3⟩:=hS.out.cells (b:=fb) (c:=fc) (by rw [hn.out]) hs
          obtain ⟨_,_,d6,_⟩:=hS.out.cells (b:=fb) (c:=fc) (by rw [hn.out]) ha
          obtain ⟨x,hx⟩:∃ x,Qd T (P.take r) s=x:=⟨_,rfl⟩
          obtain ⟨y,hy⟩:∃ x,Qd T (P.take r) s.dropLast=x:=⟨_,rfl⟩
          obtain ⟨z,hz⟩:∃ z,min x y=z:=⟨_,rfl⟩
          have ez:Qd T (P.take (r+1)) s=z:=by rw [hstep,if_pos rfl,hx,hy,hz]
          have hset:(Zx P (firstF T) (Qd T (P.take r))).set (r * 2+1) (.int .i64 (z:Int))=Zx P (firstF T) (Qd T (P.take (r+1))):=by
           rw [← ez]
           exact Yj hT.out.nodup hs (fun t _ hts=>by rw [hstep,if_neg hts])
          have hmin:min (x:Int) (y:Int)=(z:Int):=by omega
          have hst:=hS.out.store (b:=fb) (c:=fc) (by rw [hn.out]) (r * 2+1) (.int .i64 (z:Int)) hset
          have han:a<q:=by have:=(List.getElem?_eq_some_iff.1 ha).1;have:=hn.out;omega
          rw [hx] at d2
          rw [hy] at d6
          have c0:wr.cell? ⟨gg,1,none⟩=some (.slice (some ⟨fb,0,none⟩) q fc):=Za g1 1
          replace hst:=As.mk hst
          clear hsd hup ea ha hpar hns htk hstep hask hsd2 hx hy hz ez hset hs hrP hne g1 g2 g3 g5
          go_wp2_with (go_at_call 135;refine Calls.mono cN.out ?_;rintro e w' ⟨rfl,rfl⟩)
          refine wp_region_still_tail 29 (by kernel_rfl) (by kernel_rfl) ?_
          simp only [List.take_succ_cons,List.take_zero,List.drop_succ_cons,List.drop_zero]
          iterate 22 still_step
          refine wpStill_step (fun K hK=>?_)
          go_simp
          refine ⟨_,cpar.out.mono (fun e w' h=>⟨h.1,h.2.symm⟩),hK _ ?_⟩
          clear hK K
          iterate 6 still_step
          refine wpStill_nil ?_
          change wpList _ _ _ _ _ wr.drew
          go_wp2_with fail
          go_roundg gp
          case rel =>
           refine ⟨r+1,⟨by have:=hgr.out;omega⟩,by omega,by omega,(by first | rfl | go_num | (congr 1;omega)),⟨hst.out.1.below (Below.refl _ _).drew⟩,⟨hbel3.out.trans (((hst.out.2.2.below (fun z hz e=>by omega) hgw)).drew)⟩⟩
          case measure=>omega
        · obtain rfl:r=q:=by omega
          have hPk:P.take r=P:=List.take_of_length_le (by have:=hn.out;omega)
          have hfin:ShIn wr gg gg gb T (.slice (some ⟨fb,0,none⟩) r fc) (Zl T) (firstF T) (secondF T):=by
           have h0:=hS.out
           rw [hPk] at h0
           rw [hP.out]
           refine ⟨h0.1,h0.2.1,?_⟩
           rw [XA (F':=firstF T) (S':=Qd T P) (fun _ _=>rfl) (fun s hs=>by unfold Qd;rw [if_pos hs])]
           exact h0.2.2
          replace hfin:=As.mk hfin
          clear hS g1 g2 g3 g5 hPk
          go_wp2_with (go_at_call 135;refine Calls.mono cN.out ?_;rintro e w' ⟨rfl,rfl⟩)
          go_ret
          exact ⟨gg,rfl,fun _=>⟨gg,_,hfin.out⟩,by rw [hgg.out];exact hbel3.out⟩
end Go.Proofs.YtfdlaomnecjfeaaGreatDoor
end
section
namespace Go.Proofs.YtfdlaomnecjfeaaGreatDoor
open Go.RowKit Seine.Trie Seine.Cw
attribute [local go_sem high] Xn XT QM Q9
theorem eqTwo (d:Nat) (w:World) (x0 x1 y0 y1:Int) :
    (Op.equalIn (d+2) 306 (.agg #[.int .i64 x0,.int .i64 x1]) (.agg #[.int .i64 y0,.int .i64 y1])).run Tryz.prog w=.ok (x0 == y0 && (x1 == y1)) w:=by
 obtain ⟨i0,hi,_⟩:=info_parts XF
 have h1:Tryz.prog.cellsOf 3=1:=by kernel_rfl
 rw [run_equalIn_array (P:=Tryz.prog) w (d+1) _ _ Tryz.underlying306 hi,h1]
 have hr:List.range 2=[0,1]:=rfl
 have p0:∀ a b:Int,(part 3 #[.int .i64 a,.int .i64 b] (0 * 1)).run Tryz.prog w=.ok (.int .i64 a) w:=fun a b=>by go_simp
 have p1:∀ a b:Int,(part 3 #[.int .i64 a,.int .i64 b] (1 * 1)).run Tryz.prog w=.ok (.int .i64 b) w:=fun a b=>by go_simp
 have e0:∀ a b:Int,(Op.equalIn (d+1) 3 (.int .i64 a) (.int .i64 b)).run Tryz.prog w=.ok (a == b) w:=fun a b=>by go_simp
 rw [hr]
 simp only [Op.eqItems,Sem.run_bind,p0,p1,e0,Result.andThen_ok]
 cases h:(x0 == y0)
 · simp
 · have p1':∀ a b:Int,(part 3 #[.int .i64 a,.int .i64 b] 1).run Tryz.prog w=.ok (.int .i64 b) w:=fun a b=>by go_simp
   cases h2:(x1 == y1) <;> simp [p1',e0,h2]
attribute [local go_sem high] eqTwo
set_option maxRecDepth 100000 in
theorem Zff (w:World) (gs gb:Nat) (T:List Txt) (hne:T≠[]) (h:ShAt w gs gb T) (a:Nat) (p:Txt) (hp:(Zl T)[a]? = some p) :
    Calls Tryz.prog 235 #[.pointer (some ⟨gs,0,none⟩),.int .i64 (a:Int)] w fun e w'=>e=.returned (.agg #[.int .i64 (firstF T p:Int),.int .i64 (secondF T p:Int)])∧Below w.heap.size w w':=by
 obtain ⟨base,v,hS⟩:=h hne
 have hal:=(List.getElem?_eq_some_iff.1 hp).1
 obtain ⟨fb,fc,rfl,_,hfc⟩:=hS.2.2.form (by omega)
 have c1:w.cell? ⟨gs,1,none⟩=some (.slice (some ⟨fb,0,none⟩) (Zl T).length fc):=Za hS.1 1
 obtain ⟨d0,_,d1,_⟩:=hS.cells (b:=fb) (c:=fc) rfl hp
 generalize firstF T p=x at *
 generalize secondF T p=y at *
 generalize (Zl T).length=n at *
 have hg:=Zf hS.1
 have hf:fb<w.heap.size:=World.block_lt_of_cell? w _ d0
 clear hS h hp
 have e0:=Za (heap_alloc_new w (.cells #[.int .i64 (x:Int),.int .i64 (y:Int)] 306)) 0
 have e1:=Za (heap_alloc_new w (.cells #[.int .i64 (x:Int),.int .i64 (y:Int)] 306)) 1
 have hB:Below w.heap.size w (w.alloc (.cells #[.int .i64 (x:Int),.int .i64 (y:Int)] 306)):=(Below.refl _ _).alloc (Nat.le_refl _) _
 simp at e0 e1
 go_enter Tryz.func235,Tryz.ntmps235
 go_wp2
 refine bodyPost_ret (v:=.agg #[.int .i64 (x:Int),.int .i64 (y:Int)]) (by simp [results,Tryz.results235,go_sem,e0,e1]) rfl ⟨rfl,hB⟩
set_option maxRecDepth 100000 in
theorem second_calls (w:World) (gs gb:Nat) (T:List Txt) (hne:T≠[]) (h:ShAt w gs gb T) (a:Nat) (p:Txt) (hp:(Zl T)[a]? = some p) :
    Calls Tryz.prog 221 #[.pointer (some ⟨gs,0,none⟩),.int .i64 (a:Int)] w fun e w'=>e=.returned (.int .i64 (secondF T p:Int))∧Below w.heap.size w w':=by
 have co:=As.mk (Zff w gs gb T hne h a p hp)
 have i1:∀ (x y:Int) (w:World),(Instr.index 306 (.agg #[.int .i64 x,.int .i64 y]) (.int .i64 1)).run Tryz.prog w=.ok (.int .i64 y) w:=fun x y w=>by kernel_rfl
 clear h hp
 go_enter Tryz.func221,Tryz.ntmps221
 go_wp2_with (go_at_call 235;refine Calls.mono co.out ?_;rintro e w' ⟨rfl,hb⟩)
 go_ret
 exact ⟨rfl,hb⟩
theorem ShAt.back {w:World} {gs gb:Nat} {T:List Txt} (h:ShAt w gs gb T) (hne:T≠[]):BackAt w gb T∧w.cell? ⟨gs,0,none⟩=some (.pointer (some ⟨gb,0,none⟩)):=by
 obtain ⟨base,v,h⟩:=h hne
 exact ⟨h.2.1,Za h.1 0⟩
theorem farF_int (T:List Txt) (p:Txt) (c:UInt8):min (secondF T p:Int) (max (firstF T p:Int) ((Jp T c:Int) - (p.length:Int) - 1))=(JJ T p c:Int):=by
 unfold JJ;omega
set_option maxRecDepth 100000 in
set_option maxHeartbeats 1600000 in
theorem far_calls (w:World) (gs gb:Nat) (T:List Txt) (hT:∀ t∈T,t≠[]) (hne:T≠[]) (h:ShAt w gs gb T) (a:Nat) (p:Txt) (hp:(Zl T)[a]? = some p) (hl:least T≤100000) (hpl:p.length≤100000) (c:UInt8) :
    Calls Tryz.prog 222 #[.pointer (some ⟨gs,0,none⟩),.int .i64 (a:Int),.int .u8 (c.toNat:Int)] w fun e w'=>e=.returned (.int .i64 (JJ T p c:Int))∧Below w.heap.size w w':=by
 have co:=As.mk (Zff w gs gb T hne h a p hp)
 have hdp:askF (Zl T) (fun p=>p.length) 0 (a:Int)=(p.length:Int):=by
  unfold askF
  have:=(List.getElem?_eq_some_iff.1 hp).1
  rw [if_pos (by omega),Int.toNat_natCast,List.getD_eq_getElem?_getD,hp];rfl
 have hx0:=(X3 hT hne p).1
 have hfar:=farF_int T p c
 have hnk:Jp T c=if 0<near T c then min (least T+1) (near T c) else least T+1:=rfl
 obtain ⟨x,hx⟩:∃ x,firstF T p=x:=⟨_,rfl⟩
 obtain ⟨y,hy⟩:∃ x,secondF T p=x:=⟨_,rfl⟩
 obtain ⟨z,hz⟩:∃ x,JJ T p c=x:=⟨_,rfl⟩
 obtain ⟨L,hL⟩:∃ x,least T=x:=⟨_,rfl⟩
 obtain ⟨N,hN⟩:∃ x,near T c=x:=⟨_,rfl⟩
 rw [hx,hy] at co
 rw [hx,hy,hz] at hfar
 rw [hx] at hx0
 rw [hL,hN] at hnk
 rw [hz]
 rw [hL] at hl
 replace hL:=As.mk hL
 replace hN:=As.mk hN
 have hsh:=As.mk h
 have hx1:((x:Int) == 0)=false:=by simp;omega
 have hdp:=As.mk hdp
 obtain ⟨pl,hpl2⟩:∃ n,p.length=n:=⟨_,rfl⟩
 rw [hpl2] at hfar hpl hdp
 replace hfar:=As.mk hfar
 clear h hp hT hx hy hz hpl2
 by_cases hN0:0<N
 · rw [if_pos hN0] at hnk
   have hmin:min ((L:Int)+1) (N:Int)=(Jp T c:Int):=by omega
   have hkb:(Jp T c:Int)≤100001:=by omega
   have hN1:decide (0<(N:Int))=true:=decide_eq_true (by omega)
   obtain ⟨kk,hkk⟩:∃ k,Jp T c=k:=⟨_,rfl⟩
   rw [hkk] at hmin hkb hfar
   have i1:IntKind.i64.wrap ((kk:Int) - (pl:Int))=(kk:Int) - (pl:Int):=IntWalk.i64_in _ (by omega)
   have i2:IntKind.i64.wrap ((kk:Int) - (pl:Int) - 1)=(kk:Int) - (pl:Int) - 1:=IntWalk.i64_in _ (by omega)
   clear hkk hnk
   go_enter Tryz.func222,Tryz.ntmps222
   go_wp2_with (first
    | (go_at_call 235;refine Calls.mono co.out ?_;rintro e w1 ⟨rfl,hb1⟩
       have hB2:Below w.heap.size w (w1.alloc (.cells #[.int .i64 (x:Int),.int .i64 (y:Int)] 306)):=hb1.alloc hb1.size _
       have hsh2:=hsh.out.below hB2
       obtain ⟨hbk2,q0⟩:=hsh2.back hne
       have e0:=Za (heap_alloc_new w1 (.cells #[.int .i64 (x:Int),.int .i64 (y:Int)] 306)) 0
       have e1:=Za (heap_alloc_new w1 (.cells #[.int .i64 (x:Int),.int .i64 (y:Int)] 306)) 1
       simp only [List.getElem?_toArray,List.getElem?_cons_succ,List.getElem?_cons_zero] at e0 e1
       obtain ⟨tb,tg,q1,ht⟩:=hbk2.open_ ⟨rfl⟩
       clear hsh2)
    | (go_at_call 197;refine Calls.mono (Xe _ gb T hbk2) ?_;rintro e w' ⟨rfl,rfl⟩;rw [hL.out])
    | (go_at_call 236;refine Calls.mono (Zcs _ gb T hbk2 c) ?_;rintro e w' ⟨rfl,rfl⟩;rw [hN.out]))
   generalize w1.alloc (.cells #[.int .i64 (x:Int),.int .i64 (y:Int)] 306)=W2 at *
   have cd:=As.mk (Zad W2.drew tb tg (Zl T) (place T) (ht.below (Below.refl _ _).drew) (a:Int))
   rw [hdp.out] at cd
   refine wp_region_still_lit (by kernel_rfl) (by kernel_rfl) ?_
   iterate 13 still_step
   refine wpStill_step (fun K hK=>?_)
   go_simp
   refine ⟨_,cd.out.mono (fun e w' h=>⟨h.1,h.2.symm⟩),hK _ ?_⟩
   clear hK K
   repeat still_step
   refine wpStill_nil ?_
   go_wp2
   go_ret
   exact ⟨QL hfar.out,hB2.drew⟩
 · obtain rfl:N=0:=by omega
   rw [if_neg hN0] at hnk
   have i1:IntKind.i64.wrap ((L:Int)+1 - (pl:Int))=(L:Int)+1 - (pl:Int):=IntWalk.i64_in _ (by omega)
   have i2:IntKind.i64.wrap ((L:Int)+1 - (pl:Int) - 1)=(L:Int)+1 - (pl:Int) - 1:=IntWalk.i64_in _ (by omega)
   have hfar2:As (min (y:Int) (max (x:Int) ((L:Int)+1 - (pl:Int) - 1))=(z:Int)):=⟨by have:=hfar.out;rw [hnk] at this;rw [← this];push_cast;rfl⟩
   clear hnk hfar
   go_enter Tryz.func222,Tryz.ntmps222
   go_wp2_with (first
    | (go_at_call 235;refine Calls.mono co.out ?_;rintro e w1 ⟨rfl,hb1⟩
       have hB2:Below w.heap.size w (w1.alloc (.cells #[.int .i64 (x:Int),.int .i64 (y:Int)] 306)):=hb1.alloc hb1.size _
       have hsh2:=hsh.out.below hB2
       obtain ⟨hbk2,q0⟩:=hsh2.back hne
       have e0:=Za (heap_alloc_new w1 (.cells #[.int .i64 (x:Int),.int .i64 (y:Int)] 306)) 0
       have e1:=Za (heap_alloc_new w1 (.cells #[.int .i64 (x:Int),.int .i64 (y:Int)] 306)) 1
       simp only [List.getElem?_toArray,List.getElem?_cons_succ,List.getElem?_cons_zero] at e0 e1
       obtain ⟨tb,tg,q1,ht⟩:=hbk2.open_ ⟨rfl⟩
       clear hsh2)
    | (go_at_call 197;refine Calls.mono (Xe _ gb T hbk2) ?_;rintro e w' ⟨rfl,rfl⟩;rw [hL.out])
    | (go_at_call 236;refine Calls.mono (Zcs _ gb T hbk2 c) ?_;rintro e w' ⟨rfl,rfl⟩;rw [hN.out]))
   generalize w1.alloc (.cells #[.int .i64 (x:Int),.int .i64 (y:Int)] 306)=W2 at *
   have cd:=As.mk (Zad W2.drew tb tg (Zl T) (place T) (ht.below (Below.refl _ _).drew) (a:Int))
   rw [hdp.out] at cd
   refine wp_region_still_lit (by kernel_rfl) (by kernel_rfl) ?_
   iterate 13 still_step
   refine wpStill_step (fun K hK=>?_)
   go_simp
   refine ⟨_,cd.out.mono (fun e w' h=>⟨h.1,h.2.symm⟩),hK _ ?_⟩
   clear hK K
   repeat still_step
   refine wpStill_nil ?_
   go_wp2
   go_ret
   exact ⟨QL hfar2.out,hB2.drew⟩
end Go.Proofs.YtfdlaomnecjfeaaGreatDoor
end
section
namespace Go.Proofs.YtfdlaomnecjfeaaGreatDoor
open Go.RowKit Seine.Trie Seine.Links Seine.Cw
open Seine.Sort (sortP)
attribute [local go_sem high] Xn XT QM Q9
/-- What finds texts from their ends: T are the texts turned round. -/
def WalkAt (w:World) (g:Nat) (T:List Txt):Prop :=
 ∃ gb gs,w.heap[g]? = some (.cells #[.pointer (some ⟨gb,0,none⟩),.pointer (some ⟨gs,0,none⟩)] 256 (0,0))∧BackAt w gb T∧ShAt w gs gb T
theorem WalkAt.below {w w':World} {g:Nat} {T:List Txt} (h:WalkAt w g T) (hb:Below w.heap.size w w'):WalkAt w' g T:=by
 obtain ⟨gb,gs,h1,h2,h3⟩:=h
 exact ⟨gb,gs,Zc hb h1,h2.below hb,h3.below hb⟩
theorem cnew_calls (w:World) (A:Option Addr) (c:Nat) (l:List Txt) (hx:Txts w A l) (hl:tot l≤90000) (hll:l.length≤1000000) :
    Calls Tryz.prog 94 #[.slice A l.length c] w fun e w'=>∃ g,e=.returned (.pointer (some ⟨g,0,none⟩))∧WalkAt w' g (ZK l)∧Below w.heap.size w w':=by
 have cb:=As.mk (bbuild_calls w A c l hx (by omega) hll)
 have htot:=J4 l
 have hT:=JL l
 obtain ⟨T,hTT⟩:∃ T,ZK l=T:=⟨_,rfl⟩
 rw [hTT] at cb htot hT ⊢
 have hpl:=Yq T
 have hd:∀ p∈Zl T,p.length≤100000:=JI (l:=T) (by omega)
 have cs:=As.mk (fun (v:World) (gb:Nat) (h:BackAt v gb T)=>(by
  by_cases hne:T=[]
  · subst hne;exact shbuild_none v gb h
  · exact shbuild_calls v gb T (Zl T) ⟨rfl⟩ (least T) _ ⟨rfl⟩ rfl (Q2 hT hne).1 (by omega) hd h:Calls Tryz.prog 145 #[.pointer (some ⟨gb,0,none⟩)] v fun e w'=>∃ g,e=.returned (.pointer (some ⟨g,0,none⟩))∧ShAt w' g gb T∧Below v.heap.size v w'))
 generalize l.length=n at *
 clear hx hd hT hTT
 go_enter Tryz.func94,Tryz.ntmps94
 go_wp2_with (first
  | (go_at_call 144;refine Calls.mono cb.out ?_;rintro e w1 ⟨gb,rfl,hb1,hB1⟩)
  | (go_at_call 145;refine Calls.mono (cs.out _ gb hb1) ?_;rintro e w2 ⟨gs,rfl,hs2,hB2⟩))
 go_ret
 have hn:=(Below.refl w2.heap.size w2).alloc (Nat.le_refl _) (.cells #[.pointer (some ⟨gb,0,none⟩),.pointer (some ⟨gs,0,none⟩)] 256)
 exact ⟨_,rfl,⟨gb,gs,heap_alloc_new _ _,(hb1.below hB2).below hn,hs2.below hn⟩,Ze (Ze hB1 hB2) hn⟩
theorem fit_eq {P:List Txt} (hT:Tree P) {L:Txt} {e d:Nat} (he:e≤L.length) (hd:d≤e) (h1:(rv L e).take d∈P) (h2:d<e→(rv L e).take (d+1) ∉ P):fit P L e=(rv L e).take d:=by
 obtain ⟨d',a1,a2,a3,a4,a5⟩:=JK hT he
 rw [a2]
 rcases Nat.lt_trichotomy d' d with h | h | h
 · have:=J3 hT h1 (d'+1)
   rw [List.take_take,Nat.min_eq_left (by omega)] at this
   exact absurd this (a5 (by omega))
 · rw [h]
 · have:=J3 hT a4 (d+1)
   rw [List.take_take,Nat.min_eq_left (by omega)] at this
   exact absurd this (h2 (by omega))
/-- Pairs and a number, the pairs in new memory. -/
def RetPN (w:World) (xs:List Pr) (n:Int) (e:Ending) (w':World):Prop:=∃ v,e=.returned (.tuple #[v,.int .i64 n])∧OwnPrs w' w.heap.size v xs∧Below w.heap.size w w'
theorem YQ (T:List Txt) (L:Txt) (e:Nat):∀ d,(XH T L e d).length≤d
 | 0=>Nat.le_refl _
 | d+1=>by
   have:=YQ T L e d
   rw [XH,List.length_append];split <;> simp <;> omega
theorem stepF_at' {P:List Txt} {s:Txt} {a:Nat} (h:P[a]? = some s) (c:UInt8):stepF P (a:Int) c=place P (s++[c]):=by
 unfold stepF
 have:=(List.getElem?_eq_some_iff.1 h).1
 rw [if_pos (by omega),Int.toNat_natCast,List.getD_eq_getElem?_getD,h];rfl
set_option maxRecDepth 100000 in
set_option maxHeartbeats 3200000 in
theorem Zbz (w:World) (g:Nat) (T P:List Txt) (hP:As (Zl T=P)) (hT:∀ t∈T,t≠[]) (hne:T≠[]) (h:WalkAt w g T) (hlt0:least T≤100000) (hpl:∀ p∈P,p.length≤100000) (hl:P.length≤1000000)
    (A:Option Addr) (c:Nat) (L:Txt) (hx:Byt w A L) (hL:L.length≤1000000) (e:Nat) (he1:0<e) (he:e≤L.length) :
    Calls Tryz.prog 199 #[.pointer (some ⟨g,0,none⟩),.slice A L.length c,.int .i64 (e:Int)] w (RetPN w (XH T L e (fit P L e).length) (QX T L e:Int)):=by
 have hTr:As (Tree P):=⟨by rw [← hP.out];exact ZC T⟩
 have HW:=As.mk h
 have HX:=As.mk hx
 obtain ⟨n,hn⟩:∃ n,L.length=n:=⟨_,rfl⟩
 have hrl:=As.mk (Y6 he)
 have hg:=As.mk (fun k (hk:k<e)=>Zfd he hk)
 have hfe:=As.mk (fun d hd h1 h2=>fit_eq (L:=L) (e:=e) (d:=d) hTr.out he hd h1 h2)
 rw [hn] at hL he ⊢
 replace hn:=As.mk hn
 clear h hx
 go_enter Tryz.func199,Tryz.ntmps199
 go_wp2_with fail
 go_step3
 go_wp2_with fail
 go_step3
 go_wp2_with fail
 have h00:As ((0:Int)=place P ((rv L e).take 0)):=⟨by rw [List.take_zero,ZO hTr.out.nodup hTr.out.root];rfl⟩
 have h0m:As ((rv L e).take 0∈P):=⟨by rw [List.take_zero];exact hTr.out.nil_mem⟩
 go_loopg [8,9,10] (e+1) (fun gk v at_ i wr=>∃ (d:Nat) (u:Value),u=v∧As (e+1≤gk+d)∧d≤e∧(∃ z:Int,i=.int .i64 z∧z=(e:Int) - (d:Int) - 1)∧at_=.int .i64 (place P ((rv L e).take d))∧As ((rv L e).take d∈P)∧As (OwnPrs wr w.heap.size u (XH T L e d))∧As (Below w.heap.size w wr))
 case atStart=>exact ⟨0,_,rfl,⟨by omega⟩,Nat.zero_le _,⟨_,rfl,by go_num⟩,by rw [← h00.out],h0m,⟨World.ownsRow_nil _ _ _ _⟩,⟨Below.refl _ _⟩⟩
 case round =>
  obtain ⟨d,u,rfl,hgk,hd,⟨z,rfl,hz⟩,rfl,hm,hown,hbel⟩:=hrel
  obtain ⟨gb,gs,g1,g2,g3⟩:=HW.out.below hbel.out
  obtain ⟨tb,tg,c1,g5⟩:=g2.open_ hP
  have c0:wr.cell? ⟨g,0,none⟩=some (.pointer (some ⟨gb,0,none⟩)):=Za g1 0
  have c2:wr.cell? ⟨g,1,none⟩=some (.pointer (some ⟨gs,0,none⟩)):=Za g1 1
  obtain ⟨a,ea,ha⟩:=Qs hm.out
  rw [ea]
  have htd:((rv L e).take d).length=d:=by rw [List.length_take,hrl.out];omega
  have hask:askF P (fun p=>p.length) 0 (a:Int)=(d:Int):=by
   unfold askF
   have:=(List.getElem?_eq_some_iff.1 ha).1
   rw [if_pos (by omega),Int.toNat_natCast,List.getD_eq_getElem?_getD,ha,Option.getD_some]
   show ((((rv L e).take d).length:Nat):Int)=(d:Int)
   rw [htd]
  have cd:=As.mk (fun (v:World) (hv:Below wr.heap.size wr v)=>(by have:=Zad v tb tg P (place T) (g5.below hv) (a:Int);rw [hask] at this;exact this:Calls Tryz.prog 220 #[.pointer (some ⟨tg,0,none⟩),.int .i64 (a:Int)] v fun e w'=>e=.returned (.int .i64 (d:Int))∧v=w'))
  by_cases hlt:d<e
  · obtain ⟨gp,rfl⟩:∃ gp,gk=gp+1:=⟨gk - 1,by have:=hgk.out;omega⟩
    have hXr:=Row.below HX.out hbel.out
    obtain ⟨m,rfl⟩:∃ m:Nat,z=(m:Int):=⟨e - d - 1,by omega⟩
    have hme:m=e - d - 1:=by omega
    obtain ⟨ad,rfl,ca⟩:=Byt.at_ hXr (i:=m) (by rw [hn.out];omega)
    have hgd:=hg.out d hlt
    rw [← hme] at hgd
    have hm0:0≤(m:Int):=by omega
    obtain ⟨x,hxx⟩:∃ x,L.getD m 0=x:=⟨_,rfl⟩
    rw [hxx] at ca hgd
    have cst:=XC wr.drew tb tg P (place T) (g5.below (Below.refl _ _).drew) hl (a:Int) (x.toNat:Int) x rfl
    rw [stepF_at' ha x,← hgd] at cst
    have hmn:m<n:=by omega
    replace hz:=As.mk hz
    replace hme:=As.mk hme
    by_cases hq:(rv L e).take (d+1)∈P
    · obtain ⟨a',ea',ha'⟩:=Qs hq
      rw [ea'] at cst
      replace cst:=As.mk cst
      have cw:=As.mk (JM wr.drew gb T (g2.below (Below.refl _ _).drew) (a':Int))
      rw [ZeB (T:=T) (a:=a') (p:=(rv L e).take (d+1)) (by rw [hP.out];exact ha')] at cw
      have hw1:=As.mk (show XH T L e (d+1)=XH T L e d++(if (rv L e).take (d+1)∈T then [((e:Int) - ((d+1:Nat):Int),(e:Int))] else []) from rfl)
      have hq':=As.mk hq
      have hwl:=YQ T L e d
      have hea:=As.mk ea'
      obtain ⟨xs,hxs⟩:∃ xs,XH T L e d=xs:=⟨_,rfl⟩
      rw [hxs] at hown hw1 hwl
      have hna:decide ((a':Int)<0)=false:=decide_eq_false (by omega)
      have hbd:=As.mk hbel.out.drew
      have hod:As (OwnPrs wr.drew w.heap.size u xs):=⟨Zo hown.out (Below.refl _ _).drew⟩
      clear hgd ea' ha' ha ea hq hask htd hXr g1 g2 g3 g5 hxs hxx
      obtain ⟨Au,cu,rfl,hcu⟩:=Zk hod.out
      obtain ⟨xl,hxl⟩:∃ k,xs.length=k:=⟨_,rfl⟩
      rw [hxl] at hwl hcu ⊢
      have hodl:=hod.out
      unfold OwnPrs at hodl
      rw [hxl] at hodl
      replace hodl:=As.mk hodl
      clear hod
      replace hxl:=As.mk hxl
      by_cases ht:(rv L e).take (d+1)∈T
      · rw [decide_eq_true ht] at cw
        rw [if_pos ht] at hw1
        go_wp2_with fail
        refine wp_region_still_lit (by kernel_rfl) (by kernel_rfl) ?_
        iterate 12 still_step
        refine wpStill_step (fun K hK=>?_)
        go_simp
        refine ⟨_,cst.out.mono (fun e w' h=>⟨h.1,h.2.symm⟩),hK _ ?_⟩
        clear hK K
        repeat still_step
        refine wpStill_nil ?_
        rw [show ({ heap:=wr.heap,tape:=wr.tape,drawn:=wr.drawn+1,os:=wr.os,output:=wr.output }:World)=wr.drew from rfl]
        have c0d:wr.drew.cell? ⟨g,0,none⟩=some (.pointer (some ⟨gb,0,none⟩)):=c0
        have c1d:wr.drew.cell? ⟨gb,0,none⟩=some (.pointer (some ⟨tg,0,none⟩)):=c1
        have c2d:wr.drew.cell? ⟨g,1,none⟩=some (.pointer (some ⟨gs,0,none⟩)):=c2
        have cad:wr.drew.cell? (ad.add m)=some (.int .u8 (x.toNat:Int)):=ca
        clear c0 c1 c2 ca
        generalize wr.drew=Wd at *
        go_wp2_with (first
         | (go_at_call 219;refine Calls.mono cw.out ?_;rintro e w' ⟨rfl,rfl⟩)
         | (at_builtin
            refine ZA _ rfl (.tmp 41) (.tmp 45) 64 rfl w.heap.size 67 _ 2 16 Tryz.underlying64 Xl rfl (by decide) _ xl (Zr xs) rfl hodl.out [.int .i64 (m:Int),.int .i64 (e:Int)] rfl (by simp [Value.oneCell']) _ rfl (by simp) (by omega) (by decide) hbd.out.size ?_
            intro v' w2 ho2 hk2 hat2 hb2))
        go_roundg gp
        case rel =>
         refine ⟨d+1,v',rfl,⟨by have:=hgk.out;omega⟩,by omega,⟨_,rfl,by have:=hz.out;go_num⟩,by rw [hea.out],hq',⟨?_⟩,⟨hbd.out.trans hb2⟩⟩
         rw [hw1.out]
         have h1:((e:Int) - ((d+1:Nat):Int))=(m:Int):=by have:=hz.out;omega
         rw [h1]
         rw [← hxl.out] at ho2
         exact Zb9 ho2
        case measure=>omega
      · rw [decide_eq_false ht] at cw
        rw [if_neg ht,List.append_nil] at hw1
        go_wp2_with fail
        refine wp_region_still_lit (by kernel_rfl) (by kernel_rfl) ?_
        iterate 12 still_step
        refine wpStill_step (fun K hK=>?_)
        go_simp
        refine ⟨_,cst.out.mono (fun e w' h=>⟨h.1,h.2.symm⟩),hK _ ?_⟩
        clear hK K
        repeat still_step
        refine wpStill_nil ?_
        rw [show ({ heap:=wr.heap,tape:=wr.tape,drawn:=wr.drawn+1,os:=wr.os,output:=wr.output }:World)=wr.drew from rfl]
        have c0d:wr.drew.cell? ⟨g,0,none⟩=some (.pointer (some ⟨gb,0,none⟩)):=c0
        have c1d:wr.drew.cell? ⟨gb,0,none⟩=some (.pointer (some ⟨tg,0,none⟩)):=c1
        have c2d:wr.drew.cell? ⟨g,1,none⟩=some (.pointer (some ⟨gs,0,none⟩)):=c2
        have cad:wr.drew.cell? (ad.add m)=some (.int .u8 (x.toNat:Int)):=ca
        clear c0 c1 c2 ca
        generalize wr.drew=Wd at *
        go_wp2_with (go_at_call 219;refine Calls.mono cw.out ?_;rintro e w' ⟨rfl,rfl⟩)
        go_roundg gp
        case rel =>
         refine ⟨d+1,_,rfl,⟨by have:=hgk.out;omega⟩,by omega,⟨_,rfl,by have:=hz.out;go_num⟩,by rw [hea.out],hq',⟨?_⟩,hbd⟩
         rw [hw1.out]
         unfold OwnPrs
         rw [hxl.out]
         exact hodl.out
        case measure=>omega
    · have hpn:=ZQ hq
      rw [hpn] at cst
      replace cst:=As.mk cst
      have hfit:=hfe.out d hd hm.out (fun _=>hq)
      have hfl:(fit P L e).length=d:=by rw [hfit,htd]
      have hfa:QX T L e=JJ T ((rv L e).take d) x:=by
       unfold QX
       rw [hP.out,hfl,if_pos hlt,hfit,show e - d - 1=m by have:=hme.out;omega,hxx]
      have cfr:=As.mk (fun (v:World) (hv:Below wr.heap.size wr v)=>far_calls v gs gb T hT hne (g3.below hv) a ((rv L e).take d) (by rw [hP.out];exact ha) hlt0 (hpl _ hm.out) x)
      rw [← hfa] at cfr
      have hbd:=As.mk hbel.out.drew
      have hod:As (OwnPrs wr.drew w.heap.size u (XH T L e d)):=⟨Zo hown.out (Below.refl _ _).drew⟩
      have hdr:Below wr.heap.size wr wr.drew:=(Below.refl _ _).drew
      have cdd:=As.mk (cd.out _ hdr)
      have hsz:wr.drew.heap.size=wr.heap.size:=rfl
      replace hdr:=As.mk hdr
      obtain ⟨wn,hwn⟩:∃ q,XH T L e d=q:=⟨_,rfl⟩
      rw [hwn] at hod
      replace hfl:=As.mk hfl
      replace hwn:=As.mk hwn
      have hfar:=(Q3 hT hne L e).2
      obtain ⟨fa,hfaa⟩:∃ q,QX T L e=q:=⟨_,rfl⟩
      rw [hfaa] at cfr hfar
      replace hfaa:=As.mk hfaa
      have hz1:(e:Int) - (d:Int) - 1=(m:Int):=hz.out.symm
      have i1:IntKind.i64.wrap ((e:Int) - (d:Int) - 1)=(m:Int):=by rw [IntWalk.i64_in _ (by omega)];omega
      have k1:((m:Int)).toNat=m:=by omega
      have k2:(m:Int)<(n:Int):=by omega
      have hz2:decide ((e:Int) - (d:Int)=0)=false:=decide_eq_false (by omega)
      have hz3:(((e:Int) - (d:Int)) == 0)=false:=by simp;omega
      clear hgd ha ea hq hask htd hXr g1 g2 g3 g5 hfit hfa hpn hown hxx
      go_wp2_with fail
      refine wp_region_still_lit (by kernel_rfl) (by kernel_rfl) ?_
      iterate 12 still_step
      refine wpStill_step (fun K hK=>?_)
      go_simp
      refine ⟨_,cst.out.mono (fun e w' h=>⟨h.1,h.2.symm⟩),hK _ ?_⟩
      clear hK K
      repeat still_step
      refine wpStill_nil ?_
      rw [show ({ heap:=wr.heap,tape:=wr.tape,drawn:=wr.drawn+1,os:=wr.os,output:=wr.output }:World)=wr.drew from rfl]
      have c0d:wr.drew.cell? ⟨g,0,none⟩=some (.pointer (some ⟨gb,0,none⟩)):=c0
      have c1d:wr.drew.cell? ⟨gb,0,none⟩=some (.pointer (some ⟨tg,0,none⟩)):=c1
      have c2d:wr.drew.cell? ⟨g,1,none⟩=some (.pointer (some ⟨gs,0,none⟩)):=c2
      have cad:wr.drew.cell? (ad.add m)=some (.int .u8 (x.toNat:Int)):=ca
      clear c0 c1 c2 ca
      generalize wr.drew=Wd at *
      go_wp2_with (go_at_call 220;refine Calls.mono cdd.out ?_;rintro e w' ⟨rfl,rfl⟩)
      obtain ⟨ah,hah⟩:∃ z:Int,(e:Int) - (d:Int)=z:=⟨_,rfl⟩
      have i3:IntKind.i64.wrap (ah - 1)=(m:Int):=by rw [← hah];exact i1
      rw [hah]
      clear i1 hz1 hz2 hz3 hah
      have hdr2:=As.mk hdr.out.drew
      go_region_with (go_at_call 222;refine Calls.mono (cfr.out _ hdr2.out) ?_;rintro e w6 ⟨rfl,hb6⟩)
      all_goals
       go_wp2
       try rw [Exit.noGoto_ret]
       go_ret2
       have hs6:=hb6.size
       rw [hfl.out,hwn.out,hfaa.out]
       refine ⟨u,rfl,Zo (Zo hod.out (Below.refl _ _).drew) hb6,(hbd.out.drew).trans (hb6.mono ?_)⟩
       show w.heap.size≤Wd.heap.size
       exact hbd.out.size
  · obtain rfl:d=e:=by omega
    have hfit:=hfe.out d hd hm.out (fun h=>absurd h (Nat.lt_irrefl _))
    have hfl:(fit P L d).length=d:=by rw [hfit,htd]
    have hfa:QX T L d=secondF T ((rv L d).take d):=by
     unfold QX
     rw [hP.out,hfl,if_neg (Nat.lt_irrefl _),hfit]
    have csc:=As.mk (second_calls wr gs gb T hne g3 a ((rv L d).take d) (by rw [hP.out];exact ha))
    rw [← hfa] at csc
    have hfar:=(Q3 hT hne L d).2
    obtain ⟨fa,hfaa⟩:∃ q,QX T L d=q:=⟨_,rfl⟩
    rw [hfaa] at csc hfar
    obtain ⟨wn,hwn⟩:∃ q,XH T L d d=q:=⟨_,rfl⟩
    rw [hwn] at hown
    replace hfl:=As.mk hfl
    replace hwn:=As.mk hwn
    replace hfaa:=As.mk hfaa
    have cdd:=As.mk (cd.out _ (Below.refl _ _))
    obtain rfl:z = -1:=by omega
    have hdd:((d:Int) - (d:Int))=0:=by omega
    clear hz ha ea hask htd g1 g2 g3 g5 hfit hfa
    go_wp2_with (first
     | (go_at_call 220;refine Calls.mono cdd.out ?_;rintro e w' ⟨rfl,rfl⟩)
     | (go_at_call 221;refine Calls.mono csc.out ?_;rintro e w6 ⟨rfl,hb6⟩))
    try rw [Exit.noGoto_ret]
    go_ret2
    rw [hfl.out,hwn.out,hfaa.out]
    exact ⟨u,rfl,Zo hown.out hb6,Ze hbel.out hb6⟩
end Go.Proofs.YtfdlaomnecjfeaaGreatDoor
end
