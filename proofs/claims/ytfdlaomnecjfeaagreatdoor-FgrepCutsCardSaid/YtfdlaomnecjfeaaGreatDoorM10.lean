/- Joined texts: Cwalter2, Cwalter3, TwoPure, TwoWalk, TwoWalk2. -/
import Derived.Test.YtfdlaomnecjfeaaGreatDoorM9
import Derived.Test.YtfdlaomnecjfeaaGreatDoorM6
import Derived.Test.YtfdlaomnecjfeaaGreatDoorM1
import Derived.Deep.LoopGhost
import Derived.Deep.QuietTactic
import Derived.BigQuiet
import Derived.Laws.EntriesVeiled
set_option linter.unusedVariables false
set_option linter.unusedSimpArgs false
section
namespace Go.Proofs.YtfdlaomnecjfeaaGreatDoor
open Go.RowKit Seine.Trie Seine.Links Seine.Cw
open Seine.Sort (sortP)
/-- append of a slice's elements, and what else stays. -/
theorem ZbA {P:Program} {ops:Array Oper} {rest:List Oper} {o:Oper} {a:Act} {Q:Exit→Act→World→Prop} (w:World) (hgd:o.guard=none) (s x:Operand) (t:TypeId)
    (ho:o.op=.call { callee:=.builtin .append,args:=#[s,x],argTypes:=#[t,t] })
    (base:Nat) (e:TypeId) (z:Value) (size bytes:Nat) (ht:P.underlying t=some (.slice e)) (hi:(P.info? e).map (fun i=>(i.zero,i.size,i.bytes))=some (some z,size,bytes))
    (hzs:z.cells.size=size) (hsz:0<size)
    (v:Value) (n:Nat) (xs:List Value) (hs:a.eval s=v) (hown:w.ownsRow base e size v n xs)
    (A:Option Addr) (m c:Nat) (cs:List Value) (hrow:Row w A cs) (hl:cs.length=m * size) (h1:∀ u∈cs,u.oneCell'=true) (hx:a.eval x=.slice A m c)
    (hlen:n+m≤1000000000000) (hby:bytes≤100) (hbase:base≤w.heap.size)
    (h:∀ v' w',w'.ownsRow base e size v' (n+m) (xs++cs)→Below base w w'→Keeps (fun k=>some k=v.ownBlock) w w'→wpList P ops Q rest (a.put o.dst v') w') :
    wpList P ops Q (o::rest) a w:=by
 obtain ⟨i,hi,hz,hsize,hbytes⟩:=info_parts hi
 rcases hrow with rfl | ⟨ad,rfl,hlt,hc⟩
 · obtain rfl:m=0:=by
     have hl:0=m * size:=by simpa using hl
     rcases Nat.mul_eq_zero.1 hl.symm with h | h
     · exact h
     · omega
   obtain ⟨A0,c0,rfl,hc0⟩:=Zk hown
   refine Zb6 w hgd s x t ho e i ht hi A0 A n c0 c hs hc0 hx ?_
   exact h _ _ (by simpa using hown) (Below.refl _ _) (Keeps.refl _ _)
 · refine wpList_append_own_at w hgd s x t ho base e i z size bytes ht hi hz hsize hbytes hzs hsz v n xs hs hown ad m c cs hx hl hc h1
     (by simp only [maxLen];omega) ?_ hbase ?_
   · have:(n+m) * bytes≤(n+m) * 100:=Nat.mul_le_mul_left _ hby
     omega
   · intro v' w' h2 h3 _ h5
     refine h v' w' h2 ((Below.refl base w).grown h3 hbase (fun k hk=>?_)) (Keeps.of_grown h3)
     rcases hown.2 with ⟨rfl,_⟩ | ⟨g,cap,cur,rfl,hg,_⟩
     · simp [Value.ownBlock] at hk
     · simp [Value.ownBlock] at hk;omega
/-- Pairs and whole numbers, in new memory. -/
def RetPI (w:World) (xs:List Pr) (ys:List Int) (e:Ending) (w':World):Prop:=∃ v u,e=.returned (.tuple #[v,u])∧OwnPrs w' w.heap.size v xs∧OwnInts w' w.heap.size u ys∧Below w.heap.size w w'
theorem Zak (T:List Txt) (L:Txt) (E:List Nat) (e:Nat):QJ T L (E++[e])=QJ T L E++XH T L e (fit (Zl T) L e).length:=by unfold QJ;rw [List.flatMap_append];simp
theorem Zb1 {P:List Txt} (hT:Tree P) {L:Txt} {e:Nat} (he:e≤L.length):(fit P L e).length≤e:=by
 obtain ⟨d,h1,_,h3,_⟩:=JK hT he
 omega
def natI (E:List Nat):List Int:=E.map fun (e:Nat)=>(e:Int)
theorem YY (E:List Nat):(natI E).length=E.length:=by simp [natI]
theorem ZeC (E:List Nat) (e:Nat):natI (E++[e])=natI E++[(e:Int)]:=by simp [natI]
/-- What is handed from window to window. -/
structure CwRel (w wr:World) (T:List Txt) (L:Txt) (e:Nat) (Es:List Nat) (v6 v7:Value):Prop where
 split:ends T L=Es++ZT T L (L.length+1) e
 few:Es.length≤e
 pos:0<e
 small:e≤L.length+100000
 hits:(QJ T L Es).length≤Es.length * L.length
 own6:OwnPrs wr w.heap.size v6 (QJ T L Es)
 own7:OwnInts wr w.heap.size v7 (natI Es)
 bel:Below w.heap.size w wr
theorem CwRel.next {w wr w':World} {T:List Txt} {L:Txt} {e:Nat} {Es:List Nat} {v6 v7 v6' v7':Value} (hT:∀ t∈T,t≠[]) (hne:T≠[]) (h:CwRel w wr T L e Es v6 v7) (hlt0:least T≤100000) (he:e≤L.length)
    (h6:OwnPrs w' w.heap.size v6' (QJ T L (Es++[e]))) (h7:OwnInts w' w.heap.size v7' (natI (Es++[e]))) (hb:Below w.heap.size w w'):CwRel w w' T L (e+QX T L e) (Es++[e]) v6' v7':=by
 obtain ⟨f1,f2⟩:=Q3 hT hne L e
 refine ⟨?_,?_,by omega,by omega,?_,h6,h7,hb⟩
 · rw [h.split,endsFrom_step hT hne L he,List.append_assoc];rfl
 · rw [List.length_append,List.length_singleton];have:=h.few;omega
 · rw [Zak,List.length_append,List.length_append,List.length_singleton,Nat.add_mul]
   have h1:=YQ T L e (fit (Zl T) L e).length
   have h2:=Zb1 (ZC T) he
   have:=h.hits
   omega
theorem Zcu (xs ys:List Pr):Zr (xs++ys)=Zr xs++Zr ys:=by unfold Zr;rw [List.flatMap_append]
theorem RetPN.open_ {w w':World} {xs:List Pr} {n:Int} {e:Ending} (h:RetPN w xs n e w'):∃ v,e=.returned (.tuple #[v,.int .i64 n])∧OwnPrs w' w.heap.size v xs∧Below w.heap.size w w':=h
set_option maxRecDepth 100000 in
set_option maxHeartbeats 3200000 in
theorem cwalk_calls (w:World) (g:Nat) (T P:List Txt) (hP:As (Zl T=P)) (hT:∀ t∈T,t≠[]) (hne:T≠[]) (h:WalkAt w g T) (hlt0:least T≤100000) (hpl:∀ p∈P,p.length≤100000) (hl:P.length≤1000000)
    (A:Option Addr) (c:Nat) (L:Txt) (hx:Byt w A L) (hL:L.length≤900) :
    Calls Tryz.prog 146 #[.pointer (some ⟨g,0,none⟩),.slice A L.length c] w (RetPI w (QJ T L (ends T L)) (natI (ends T L))):=by
 have hTr:As (Tree P):=⟨by rw [← hP.out];exact ZC T⟩
 have HW:=As.mk h
 have HX:=As.mk hx
 obtain ⟨gb,gs,g1,g2,g3⟩:=h
 have c0:w.cell? ⟨g,0,none⟩=some (.pointer (some ⟨gb,0,none⟩)):=Za g1 0
 have cl:=As.mk (Xe w gb T g2)
 have hl0:=(Q2 hT hne).1
 have hE0:ends T L=ZT T L (L.length+1) (least T):=by unfold ends;rw [if_neg hne]
 have hR0:As (CwRel w w T L (least T) [] (.slice none 0 0) (.slice none 0 0)):=⟨⟨by rw [hE0];rfl,Nat.zero_le _,hl0,by omega,Nat.zero_le _,World.ownsRow_nil _ _ _ _,World.ownsRow_nil _ _ _ _,Below.refl _ _⟩⟩
 obtain ⟨n,hn⟩:∃ n,L.length=n:=⟨_,rfl⟩
 obtain ⟨M,hM⟩:∃ n,least T=n:=⟨_,rfl⟩
 rw [hM] at cl hl0 hlt0 hR0
 rw [hn] at hL ⊢
 have hM0:((M:Int) == 0)=false:=by simp;omega
 replace hn:=As.mk hn
 replace hM:=As.mk hM
 clear g1 g2 g3 hx hE0
 go_enter Tryz.func146,Tryz.ntmps146
 go_wp2
 refine wp_scope_jumps 0 (fun a' w'=>∃ (e:Nat) (Es:List Nat) (v6 v7:Value) (u9 u10 u11 u12 u13 u14 u15 u16 u17 u18 u19 u20 u21 u22 u23 u24 u25 u26 u27 u28 u29 u30 u31 u32 u33 u34 u35 u36 u37 u38 u39 u40 u41 u42 u43 u44 u45 u46 u47 u48:Value),a'={ tmps:=#[.pointer (some ⟨g,0,none⟩),.slice A n c,undef,undef,.slice none 0 0,.slice none 0 0,v6,v7,.int .i64 (e:Int),u9,u10,u11,u12,u13,u14,u15,u16,u17,u18,u19,u20,u21,u22,u23,u24,u25,u26,u27,u28,u29,u30,u31,u32,u33,u34,u35,u36,u37,u38,u39,u40,u41,u42,u43,u44,u45,u46,u47,u48],defers:=[] }∧As (CwRel w w' T L e Es v6 v7)) (fun a' _=>n+1 - (intOf (a'.tmps.getD 8 undef)).toNat) rfl ?_ ?_
 · go_wp2_with (go_at_call 197;refine Calls.mono cl.out ?_;rintro e w' ⟨rfl,rfl⟩)
   go_step3
   have hR:=hR0
   have hpos:=hR.out.pos
   have hsm:=hR.out.small
   by_cases hel:M≤n
   · have cwin:=As.mk (Zbz w g T P hP hT hne (HW.out.below hR.out.bel) (by rw [hM.out];exact hlt0) hpl hl A c L (Row.below HX.out hR.out.bel) (by have:=hn.out;omega) M hpos (by rw [hn.out];exact hel))
     rw [hn.out] at cwin
     obtain ⟨f1,f2⟩:=Q3 hT hne L M
     have hmul:[].length * L.length≤(n+100000) * 900:=Nat.mul_le_mul (by have:=hR.out.few;have:=hn.out;omega) (by have:=hn.out;omega)
     have hits:=hR.out.hits
     have hwl:=YQ T L M (fit P L M).length
     have hfl:=Zb1 hTr.out (L:=L) (e:=M) (by rw [hn.out];exact hel)
     have hH:=Zak T L [] M
     rw [hP.out] at hH
     obtain ⟨xs,hxs⟩:∃ xs,QJ T L []=xs:=⟨_,rfl⟩
     obtain ⟨ys,hys⟩:∃ xs,XH T L M (fit P L M).length=xs:=⟨_,rfl⟩
     obtain ⟨far,hfar⟩:∃ f,QX T L M=f:=⟨_,rfl⟩
     rw [hxs,hys] at hH
     rw [hxs] at hits
     rw [hys] at hwl cwin
     rw [hfar] at cwin f1 f2
     have ho6:=hR.out.own6
     have ho7:=hR.out.own7
     rw [hxs] at ho6
     unfold OwnPrs at ho6
     unfold OwnInts at ho7
     rw [YY] at ho7
     obtain ⟨xl,hxl⟩:∃ k,xs.length=k:=⟨_,rfl⟩
     obtain ⟨el,hel2⟩:∃ k,[].length=k:=⟨_,rfl⟩
     obtain ⟨yl,hyl⟩:∃ k,ys.length=k:=⟨_,rfl⟩
     rw [hxl] at ho6 hits
     rw [hel2] at ho7 hits hmul
     rw [hyl] at hwl
     obtain ⟨A6,c6,e6,hc6⟩:=Zk ho6
     obtain ⟨A7,c7,e7,hc7⟩:=Zk ho7
     have hbel:=As.mk hR.out.bel
     have hfew:=hR.out.few
     rw [hel2] at hfew
     have ho6':=As.mk ho6
     have ho7':=As.mk ho7
     replace hR:=As.mk hR.out
     replace hH:=As.mk hH
     replace hxl:=As.mk hxl
     replace hyl:=As.mk hyl
     replace hel2:=As.mk hel2
     replace hfar:=As.mk hfar
     have hyn:((Zr ys).length=yl * 2):=by rw [Qq,hyl.out]
     replace hyn:=As.mk hyn
     have hfar2:=As.mk f1
     rw [hM.out] at f2
     have h100:(n+100000) * 900≤100000000:=by omega
     have hyle:yl≤1000:=by omega
     have hxle:xl≤100000000:=by omega
     have hele:el≤1000000:=by omega
     clear hxs hys ho6 ho7 hfl hmul hits hwl
     cases e6
     cases e7
     go_wp2_with (first
      | (go_at_call 199;with_reducible refine Calls.mono cwin.out ?_;intro e w1 h1;obtain ⟨v,he,hov,hb1⟩:=h1.open_;subst he;obtain ⟨Av,cv,rfl,hcv,hrow⟩:=OwnPrs.row hov;rw [hyl.out] at hcv ⊢;have hs1:=hb1.size;have hbw:=hbel.out.size;have ho61:=Zo ho6'.out hb1)
      | (at_builtin
         refine ZbA _ rfl (.tmp 37) (.tmp 38) 64 rfl w.heap.size 67 _ 2 16 Tryz.underlying64 Xl rfl (by decide) _ _ (Zr xs) rfl ho61 Av yl cv (Zr ys) hrow hyn.out Zd0 rfl (by omega) (by decide) (by omega) ?_
         intro v6' w2 ho62 hb2 hk2
         have ho72:=Zj (Zo ho7'.out hb1) hk2 (fun b c' _ hb' hb'' hS=>Zy ho61 hb' (by decide) hS)
         have hs2:=hb2.size)
      | (at_builtin
         refine ZA _ rfl (.tmp 40) (.tmp 42) 45 rfl w.heap.size 3 _ 1 8 Tryz.underlying45 XF rfl (by decide) _ _ _ rfl ho72 [.int .i64 (M:Int)] rfl (by simp [Value.oneCell']) _ rfl (by simp) (by omega) (by decide) (by omega) ?_
         intro v7' w3 ho73 hk3 hat3 hb3
         have ho63:=Zj ho62 hk3 (fun b c' _ hb' hb'' hS=>Zy ho72 hb' (by decide) hS)))
     go_step3
     have hb3':Below w.heap.size w w3:=((hbel.out.trans (hb1.mono (by omega))).trans hb2).trans hb3
     have hnx:=CwRel.next (v6':=v6') (v7':=v7') hT hne hR.out (by rw [hM.out];exact hlt0) (by rw [hn.out];exact hel) (by
      rw [hH.out];unfold OwnPrs;rw [List.length_append,hxl.out,hyl.out,Zcu];exact ho63) (by
      rw [ZeC];refine JG ?_;rw [YY,hel2.out];exact ho73) hb3'
     rw [hfar.out] at hnx
     exact ⟨rfl,_,_,_,_,_,_,_,_,_,_,_,_,_,_,_,_,_,_,_,_,_,_,_,_,_,_,_,_,_,_,_,_,_,_,_,_,_,_,_,_,_,_,_,_,by rw [Int.natCast_add],⟨hnx⟩⟩
   · have hst:=Zbc hT hne L (e:=M) (by rw [hn.out];omega)
     have hsp:=hR.out.split
     rw [hst,List.append_nil] at hsp
     replace hR:=As.mk hR.out
     replace hsp:=As.mk hsp
     clear hst
     go_wp2
     simp only [Exit.jump]
     go_ret2
     rw [hsp.out]
     exact ⟨_,_,rfl,hR.out.own6,hR.out.own7,hR.out.bel⟩
 · rintro a' wr ⟨E0,Es,v6,v7,u9,u10,u11,u12,u13,u14,u15,u16,u17,u18,u19,u20,u21,u22,u23,u24,u25,u26,u27,u28,u29,u30,u31,u32,u33,u34,u35,u36,u37,u38,u39,u40,u41,u42,u43,u44,u45,u46,u47,u48,rfl,hR⟩
   have hpos:=hR.out.pos
   have hsm:=hR.out.small
   by_cases hel:E0≤n
   · have cwin:=As.mk (Zbz wr g T P hP hT hne (HW.out.below hR.out.bel) (by rw [hM.out];exact hlt0) hpl hl A c L (Row.below HX.out hR.out.bel) (by have:=hn.out;omega) E0 hpos (by rw [hn.out];exact hel))
     rw [hn.out] at cwin
     obtain ⟨f1,f2⟩:=Q3 hT hne L E0
     have hmul:Es.length * L.length≤(n+100000) * 900:=Nat.mul_le_mul (by have:=hR.out.few;have:=hn.out;omega) (by have:=hn.out;omega)
     have hits:=hR.out.hits
     have hwl:=YQ T L E0 (fit P L E0).length
     have hfl:=Zb1 hTr.out (L:=L) (e:=E0) (by rw [hn.out];exact hel)
     have hH:=Zak T L Es E0
     rw [hP.out] at hH
     obtain ⟨xs,hxs⟩:∃ xs,QJ T L Es=xs:=⟨_,rfl⟩
     obtain ⟨ys,hys⟩:∃ xs,XH T L E0 (fit P L E0).length=xs:=⟨_,rfl⟩
     obtain ⟨far,hfar⟩:∃ f,QX T L E0=f:=⟨_,rfl⟩
     rw [hxs,hys] at hH
     rw [hxs] at hits
     rw [hys] at hwl cwin
     rw [hfar] at cwin f1 f2
     have ho6:=hR.out.own6
     have ho7:=hR.out.own7
     rw [hxs] at ho6
     unfold OwnPrs at ho6
     unfold OwnInts at ho7
     rw [YY] at ho7
     obtain ⟨xl,hxl⟩:∃ k,xs.length=k:=⟨_,rfl⟩
     obtain ⟨el,hel2⟩:∃ k,Es.length=k:=⟨_,rfl⟩
     obtain ⟨yl,hyl⟩:∃ k,ys.length=k:=⟨_,rfl⟩
     rw [hxl] at ho6 hits
     rw [hel2] at ho7 hits hmul
     rw [hyl] at hwl
     obtain ⟨A6,c6,e6,hc6⟩:=Zk ho6
     obtain ⟨A7,c7,e7,hc7⟩:=Zk ho7
     have hbel:=As.mk hR.out.bel
     have hfew:=hR.out.few
     rw [hel2] at hfew
     have ho6':=As.mk ho6
     have ho7':=As.mk ho7
     replace hR:=As.mk hR.out
     replace hH:=As.mk hH
     replace hxl:=As.mk hxl
     replace hyl:=As.mk hyl
     replace hel2:=As.mk hel2
     replace hfar:=As.mk hfar
     have hyn:((Zr ys).length=yl * 2):=by rw [Qq,hyl.out]
     replace hyn:=As.mk hyn
     have hfar2:=As.mk f1
     rw [hM.out] at f2
     have h100:(n+100000) * 900≤100000000:=by omega
     have hyle:yl≤1000:=by omega
     have hxle:xl≤100000000:=by omega
     have hele:el≤1000000:=by omega
     clear hxs hys ho6 ho7 hfl hmul hits hwl
     cases e6
     cases e7
     go_wp2_with (first
      | (go_at_call 199;with_reducible refine Calls.mono cwin.out ?_;intro e w1 h1;obtain ⟨v,he,hov,hb1⟩:=h1.open_;subst he;obtain ⟨Av,cv,rfl,hcv,hrow⟩:=OwnPrs.row hov;rw [hyl.out] at hcv ⊢;have hs1:=hb1.size;have hbw:=hbel.out.size;have ho61:=Zo ho6'.out hb1)
      | (at_builtin
         refine ZbA _ rfl (.tmp 37) (.tmp 38) 64 rfl w.heap.size 67 _ 2 16 Tryz.underlying64 Xl rfl (by decide) _ _ (Zr xs) rfl ho61 Av yl cv (Zr ys) hrow hyn.out Zd0 rfl (by omega) (by decide) (by omega) ?_
         intro v6' w2 ho62 hb2 hk2
         have ho72:=Zj (Zo ho7'.out hb1) hk2 (fun b c' _ hb' hb'' hS=>Zy ho61 hb' (by decide) hS)
         have hs2:=hb2.size)
      | (at_builtin
         refine ZA _ rfl (.tmp 40) (.tmp 42) 45 rfl w.heap.size 3 _ 1 8 Tryz.underlying45 XF rfl (by decide) _ _ _ rfl ho72 [.int .i64 (E0:Int)] rfl (by simp [Value.oneCell']) _ rfl (by simp) (by omega) (by decide) (by omega) ?_
         intro v7' w3 ho73 hk3 hat3 hb3
         have ho63:=Zj ho62 hk3 (fun b c' _ hb' hb'' hS=>Zy ho72 hb' (by decide) hS)))
     go_step3
     have hb3':Below w.heap.size w w3:=((hbel.out.trans (hb1.mono (by omega))).trans hb2).trans hb3
     have hnx:=CwRel.next (v6':=v6') (v7':=v7') hT hne hR.out (by rw [hM.out];exact hlt0) (by rw [hn.out];exact hel) (by
      rw [hH.out];unfold OwnPrs;rw [List.length_append,hxl.out,hyl.out,Zcu];exact ho63) (by
      rw [ZeC];refine JG ?_;rw [YY,hel2.out];exact ho73) hb3'
     rw [hfar.out] at hnx
     exact ⟨rfl,⟨_,_,_,_,_,_,_,_,_,_,_,_,_,_,_,_,_,_,_,_,_,_,_,_,_,_,_,_,_,_,_,_,_,_,_,_,_,_,_,_,_,_,_,_,by rw [Int.natCast_add],⟨hnx⟩⟩,by have:=hfar2.out;show n+1 - ((E0:Int)+(far:Int)).toNat<n+1 - ((E0:Int)).toNat;omega⟩
   · have hst:=Zbc hT hne L (e:=E0) (by rw [hn.out];omega)
     have hsp:=hR.out.split
     rw [hst,List.append_nil] at hsp
     replace hR:=As.mk hR.out
     replace hsp:=As.mk hsp
     clear hst
     go_wp2
     simp only [Exit.jump]
     go_ret2
     rw [hsp.out]
     exact ⟨_,_,rfl,hR.out.own6,hR.out.own7,hR.out.bel⟩
end Go.Proofs.YtfdlaomnecjfeaaGreatDoor
end
section
namespace Go.Proofs.YtfdlaomnecjfeaaGreatDoor
open Go.RowKit Seine.Trie Seine.Links Seine.Cw
open Seine.Sort (sortP occ)
theorem RetPI.open_ {w w':World} {xs:List Pr} {ys:List Int} {e:Ending} (h:RetPI w xs ys e w'):∃ v u,e=.returned (.tuple #[v,u])∧OwnPrs w' w.heap.size v xs∧OwnInts w' w.heap.size u ys∧Below w.heap.size w w':=h
set_option maxRecDepth 100000 in
theorem cwalk_void (w:World) (g:Nat) (h:WalkAt w g []) (A:Option Addr) (c:Nat) (L:Txt) :
    Calls Tryz.prog 146 #[.pointer (some ⟨g,0,none⟩),.slice A L.length c] w (RetPI w [] []):=by
 obtain ⟨gb,gs,g1,g2,g3⟩:=h
 have c0:w.cell? ⟨g,0,none⟩=some (.pointer (some ⟨gb,0,none⟩)):=Za g1 0
 have cl:=As.mk (Xe w gb [] g2)
 rw [show least []=0 from rfl] at cl
 generalize L.length=n at *
 clear g1 g2 g3
 go_enter Tryz.func146,Tryz.ntmps146
 go_wp2
 go_step3
 go_wp2_with (go_at_call 197;refine Calls.mono cl.out ?_;rintro e w' ⟨rfl,rfl⟩)
 try rw [Exit.noGoto_ret]
 go_ret2
 exact ⟨_,_,rfl,World.ownsRow_nil _ _ _ _,World.ownsRow_nil _ _ _ _,Below.refl _ _⟩
theorem ZbB (T:List Txt) (L:Txt):∀ f e,(ZT T L f e).length≤f
 | 0,e=>Nat.le_refl _
 | f+1,e=>by
   have:=ZbB T L f (e+QX T L e)
   unfold ZT
   split
   · simp;omega
   · simp
theorem Zfg (T:List Txt) (L:Txt):∀ E:List Nat,(∀ e∈E,e≤L.length)→(QJ T L E).length≤E.length * L.length
 | [],_=>by simp [QJ]
 | e::E,h=>by
   have h1:=Zfg T L E (fun x hx=>h x (List.mem_cons_of_mem _ hx))
   have h2:=YQ T L e (fit (Zl T) L e).length
   have h3:=Zb1 (ZC T) (h e (by simp))
   have h4:=h e (by simp)
   have:QJ T L (e::E)=XH T L e (fit (Zl T) L e).length++QJ T L E:=rfl
   rw [this,List.length_append,List.length_cons,Nat.add_mul]
   omega
theorem X7 {l:List Txt} {x:Txt} (h:x∈l):x.length≤tot l:=by
 obtain ⟨a,b,rfl⟩:=List.append_of_mem h
 simp only [tot,List.map_append,List.map_cons,List.sum_append,List.sum_cons]
 omega
theorem least_small {T:List Txt} {n:Nat} (h:∀ x∈T,x.length≤n) (hT:∀ t∈T,t≠[]):least T≤n:=by
 by_cases hne:T=[]
 · subst hne;exact Nat.zero_le _
 · obtain ⟨_,_,t,ht,e⟩:=Q2 hT hne
   rw [e];exact h t ht
/-- A walk over a short line, whatever the texts. -/
theorem cwalklT_calls (w:World) (g:Nat) (l:List Txt) (h:WalkAt w g (ZK l)) (hst:tot l≤60000) (A:Option Addr) (c:Nat) (L:Txt) (hx:Byt w A L) (hL:L.length≤900) :
    Calls Tryz.prog 146 #[.pointer (some ⟨g,0,none⟩),.slice A L.length c] w (RetPI w (QJ (ZK l) L (ends (ZK l) L)) (natI (ends (ZK l) L))):=by
 have hT:=JL l
 have hpn:=Yq (ZK l)
 have htt:=J4 l
 by_cases hne:ZK l=[]
 · rw [hne] at h ⊢
   exact cwalk_void w g h A c L
 · refine cwalk_calls w g (ZK l) (Zl (ZK l)) ⟨rfl⟩ hT hne h (Nat.le_trans (least_small (n:=60000) (fun x hx=>?_) hT) (by omega)) (JI (l:=ZK l) (by omega)) (by omega) A c L hx hL
   obtain ⟨y,hy,rfl⟩:=List.mem_map.1 hx
   rw [List.length_reverse];exact Nat.le_trans (X7 (List.mem_filter.1 hy).1) hst
set_option maxRecDepth 100000 in
theorem cscanT_calls (w:World) (g:Nat) (l:List Txt) (h:WalkAt w g (ZK l)) (hst:tot l≤60000) (A:Option Addr) (c:Nat) (L:Txt) (hx:Byt w A L) (hL:L.length≤900) :
    Calls Tryz.prog 95 #[.pointer (some ⟨g,0,none⟩),.slice A L.length c] w (RetPrs w (occ l L)):=by
 have cw:=As.mk (cwalklT_calls w g l h hst A c L hx hL)
 have hocc:=ZaR (turnT_mem l) (JL l) L
 rw [← hocc]
 have hlen:(QJ (ZK l) L (ends (ZK l) L)).length≤1000000:=by
  have h1:=Zfg (ZK l) L (ends (ZK l) L) (fun e he=>by
   unfold ends at he
   split at he
   · simp at he
   · rename_i hne;exact (Zd2 (JL l) hne L _ _ _ he).2)
  have h2:(ends (ZK l) L).length≤L.length+1:=by
   unfold ends
   split
   · simp
   · exact ZbB _ _ _ _
  have h3:(ends (ZK l) L).length * L.length≤901 * 900:=Nat.mul_le_mul (by omega) hL
  omega
 obtain ⟨xs,hxs⟩:∃ xs,QJ (ZK l) L (ends (ZK l) L)=xs:=⟨_,rfl⟩
 rw [hxs] at cw hlen ⊢
 generalize natI (ends (ZK l) L)=ys at *
 generalize L.length=n at *
 clear h hx hocc hxs
 go_enter Tryz.func95,Tryz.ntmps95
 go_wp2_with (first
  | (go_at_call 146;refine Calls.mono cw.out ?_;intro e w1 h1;obtain ⟨v,u,he,hov,hou,hb1⟩:=h1.open_;subst he;obtain ⟨Av,cv,rfl,hcv,hcm,hrow⟩:=OwnPrs.row2 hov)
  | (go_at_call 147;refine Calls.mono (YB _ Av cv xs _ (Nat.le_refl _) hrow hcv hcm hlen) ?_;intro e w2 h2;obtain ⟨v2,he2,ho2,hb2⟩:=h2.out;subst he2))
 go_ret
 exact ⟨_,rfl,ZB ho2 hb1.size,Ze hb1 hb2⟩
end Go.Proofs.YtfdlaomnecjfeaaGreatDoor
end
section
namespace Seine.Two
/-- A strict order in which any two unlike numbers stand. -/
structure Ord (R:Nat→Nat→Prop):Prop where
 irr:∀ a,¬ R a a
 tr:∀ a b c,R a b→R b c→R a c
 tot:∀ a b,a≠b→R a b∨R b a
theorem Ord.asym {R:Nat→Nat→Prop} (o:Ord R) {a b:Nat} (h:R a b) (k:R b a):False:=o.irr a (o.tr a b a h k)
section
variable {R R':Nat→Nat→Prop} {x:Nat→Nat} {m:Nat}
/-- The end at j stands ahead of that at a by a byte. -/
def Dom (R:Nat→Nat→Prop) (x:Nat→Nat) (m j a:Nat):Prop:=∃ d,j+d<m∧a+d<m∧(∀ e,e<d→x (j+e)=x (a+e))∧R (x (j+d)) (x (a+d))
/-- The end at j stands ahead of that at a. -/
def Lt (R:Nat→Nat→Prop) (x:Nat→Nat) (m j a:Nat):Prop:=Dom R x m j a∨(a<j∧∀ e,j+e<m→x (j+e)=x (a+e))
def ZbC (R:Nat→Nat→Prop) (x:Nat→Nat) (m a:Nat):Prop:=a<m∧∀ j,j<m→j≠a→Lt R x m j a
theorem Dom.trans (o:Ord R) {i j k:Nat} (h:Dom R x m i j) (g:Dom R x m j k):Dom R x m i k:=by
 obtain ⟨d,h1,h2,h3,h4⟩:=h
 obtain ⟨f,g1,g2,g3,g4⟩:=g
 rcases Nat.lt_trichotomy d f with hl | rfl | hl
 · exact ⟨d,h1,by omega,fun e he=>(h3 e he).trans (g3 e (by omega)),by rw [← g3 d hl];exact h4⟩
 · exact ⟨d,h1,g2,fun e he=>(h3 e he).trans (g3 e he),o.tr _ _ _ h4 g4⟩
 · exact ⟨f,by omega,g2,fun e he=>(h3 e (by omega)).trans (g3 e he),by rw [h3 f hl];exact g4⟩
theorem dom_lt (o:Ord R) {i j:Nat} (h:Dom R x m i j) (g:Lt R x m j i):False:=by
 obtain ⟨d,h1,h2,h3,h4⟩:=h
 rcases g with ⟨f,g1,g2,g3,g4⟩ | ⟨g1,g2⟩
 · rcases Nat.lt_trichotomy d f with hl | rfl | hl
   · have:=g3 d hl;rw [this] at h4;exact o.irr _ h4
   · exact o.asym h4 g4
   · have:=h3 f hl;rw [this] at g4;exact o.irr _ g4
 · have:=g2 d h2;rw [this] at h4;exact o.irr _ h4
/-- What holds at the head of a round of the search for the greatest end. -/
structure Inv (R:Nat→Nat→Prop) (x:Nat→Nat) (m a nx k p:Nat):Prop where
 p1:1≤p
 kp:k<p
 nm:nx+k≤m
 mul:∃ J,1≤J∧nx=a+J * p
 A:∀ j,j<a→Dom R x m j a
 B:∀ i,0<i→i<p→∃ d,i+d<p∧(∀ e,e<d→x (a+i+e)=x (a+e))∧R (x (a+i+d)) (x (a+d))
 C:∀ e,a+p+e<nx+k→x (a+p+e)=x (a+e)
theorem Inv.lo {a nx k p:Nat} (h:Inv R x m a nx k p):a+p≤nx:=by
 obtain ⟨J,h1,h2⟩:=h.mul
 have:1 * p≤J * p:=Nat.mul_le_mul_right p h1
 omega
theorem Inv.start (hm:1≤m):Inv R x m 0 1 0 1:=⟨by omega,by omega,hm,⟨1,by omega,by omega⟩,fun j hj=>by omega,fun i a b=>by omega,fun e he=>by omega⟩
theorem Inv.rep {a nx k p:Nat} (h:Inv R x m a nx k p):∀ (t e:Nat),a+t * p+e<nx+k→x (a+t * p+e)=x (a+e)
 | 0,e,_=>by simp
 | t+1,e,he=>by
   have e1:a+(t+1) * p+e=a+p+(t * p+e):=by rw [Nat.add_mul];omega
   rw [e1] at he ⊢
   rw [h.C _ he,← Nat.add_assoc,h.rep t e (by omega)]
theorem Inv.fits {a nx k p:Nat} (h:Inv R x m a nx k p) (hx:nx+k<m) (hy:x (a+k)=x (nx+k)) (hk:k+1<p):Inv R x m a nx (k+1) p:=by
 refine ⟨h.p1,hk,by omega,h.mul,h.A,h.B,fun e he=>?_⟩
 rcases Nat.lt_or_ge (a+p+e) (nx+k) with hl | hl
 · exact h.C e hl
 · obtain ⟨J,h1,h2⟩:=h.mul
   obtain ⟨t,rfl⟩:∃ t,J=t+1:=⟨J - 1,by omega⟩
   have e1:(t+1) * p=t * p+p:=by rw [Nat.add_mul];omega
   have e2:a+e=a+t * p+k:=by omega
   rw [show a+p+e=nx+k by omega,← hy,e2,h.rep t k (by omega)]
theorem Inv.whole {a nx k p:Nat} (h:Inv R x m a nx k p) (hx:nx+k<m) (hy:x (a+k)=x (nx+k)) (hk:k+1=p):Inv R x m a (nx+p) 0 p:=by
 obtain ⟨J,h1,h2⟩:=h.mul
 refine ⟨h.p1,by omega,by omega,⟨J+1,by omega,by rw [Nat.add_mul];omega⟩,h.A,h.B,fun e he=>?_⟩
 rcases Nat.lt_or_ge (a+p+e) (nx+k) with hl | hl
 · exact h.C e hl
 · obtain ⟨t,rfl⟩:∃ t,J=t+1:=⟨J - 1,by omega⟩
   have e1:(t+1) * p=t * p+p:=by rw [Nat.add_mul];omega
   have e2:a+e=a+t * p+k:=by omega
   rw [show a+p+e=nx+k by omega,← hy,e2,h.rep t k (by omega)]
/-- A place between the best end and the next: so many periods on, and more. -/
theorem Zc2 (p i:Nat) (hp:1≤p):∃ t r,i=t * p+r∧r<p:=⟨i / p,i % p,by have:=Nat.div_add_mod i p;rw [Nat.mul_comm] at this;omega,Nat.mod_lt _ hp⟩
theorem Inv.less (o:Ord R) {a nx k p:Nat} (h:Inv R x m a nx k p) (hx:nx+k<m) (hy:R (x (nx+k)) (x (a+k))):Inv R x m a (nx+k+1) 0 (nx+k+1 - a):=by
 have hlo:=h.lo
 obtain ⟨J,h1,h2⟩:=h.mul
 refine ⟨by omega,by omega,by omega,⟨1,by omega,by omega⟩,h.A,fun i hi hip=>?_,fun e he=>by omega⟩
 obtain ⟨t,r,rfl,hr⟩:=Zc2 p i h.p1
 have key:∀ e,t * p+r+e<nx+k - a→x (a+(t * p+r)+e)=x (a+r+e):=fun e he=>by
  have:=h.rep t (r+e) (by omega)
  rw [show a+(t * p+r)+e=a+t * p+(r+e) by omega,this,Nat.add_assoc]
 rcases Nat.eq_zero_or_pos r with h0 | h0
 · subst h0
   refine ⟨nx+k - a - t * p,by omega,fun e he=>?_,?_⟩
   · rw [key e (by omega)];simp
   · have e1:a+(t * p+0)+(nx+k - a - t * p)=nx+k:=by omega
     rw [e1]
     have htJ:t≤J:=by
      rcases Nat.lt_or_ge J t with hj | hj
      · have:(J+1) * p≤t * p:=Nat.mul_le_mul_right p hj
        rw [Nat.add_mul] at this
        have:=h.kp
        omega
      · exact hj
     obtain ⟨q,rfl⟩:∃ q,J=t+q:=⟨J - t,by omega⟩
     have e2:a+(nx+k - a - t * p)=a+q * p+k:=by rw [Nat.add_mul] at h2;omega
     rw [e2]
     have ht:1≤t:=by
      rcases Nat.eq_zero_or_pos t with h3 | h3
      · subst h3;omega
      · exact h3
     have:1 * p≤t * p:=Nat.mul_le_mul_right p ht
     rw [h.rep q k (by rw [Nat.add_mul] at h2;have:=h.p1;omega)]
     exact hy
 · obtain ⟨d,d1,d2,d3⟩:=h.B r h0 hr
   rcases Nat.lt_or_ge (t * p+r+d) (nx+k - a) with hd | hd
   · exact ⟨d,by omega,fun e he=>by rw [key e (by omega),d2 e he],by rw [key d hd];exact d3⟩
   · have htJ:t=J:=by
       rcases Nat.lt_trichotomy t J with hj | hj | hj
       · have:(t+1) * p≤J * p:=Nat.mul_le_mul_right p hj
         rw [Nat.add_mul] at this
         omega
       · exact hj
       · have:(J+1) * p≤t * p:=Nat.mul_le_mul_right p hj
         rw [Nat.add_mul] at this
         have:=h.kp
         omega
     subst htJ
     obtain ⟨e,he⟩:∃ e,r+e=k:=⟨k - r,by have:=h.kp;omega⟩
     refine ⟨e,by omega,fun f hf=>by rw [key f (by omega),d2 f (by omega)],?_⟩
     rw [show a+(t * p+r)+e=nx+k by omega]
     rcases Nat.lt_or_ge e d with hed | hed
     · rw [← d2 e hed,show a+r+e=a+k by omega];exact hy
     · obtain rfl:e=d:=by omega
       exact o.tr _ _ _ (by rw [show a+r+e=a+k by omega];exact hy) d3
theorem Inv.more (o:Ord R) {a nx k p:Nat} (h:Inv R x m a nx k p) (hx:nx+k<m) (hy:R (x (a+k)) (x (nx+k))):Inv R x m nx (nx+1) 0 1:=by
 have hlo:=h.lo
 obtain ⟨J,h1,h2⟩:=h.mul
 have hkp:=h.kp
 have hD:Dom R x m a nx:=⟨k,by omega,hx,fun e he=>by
  have:=h.rep J e (by omega)
  rw [h2,this],hy⟩
 refine ⟨by omega,by omega,by omega,⟨1,by omega,by omega⟩,fun j hj=>?_,fun i a b=>by omega,fun e he=>by omega⟩
 rcases Nat.lt_trichotomy j a with hl | rfl | hl
 · exact (h.A j hl).trans o hD
 · exact hD
 · obtain ⟨i,rfl⟩:∃ i,j=a+i:=⟨j - a,by omega⟩
   obtain ⟨t,r,rfl,hr⟩:=Zc2 p i h.p1
   have htJ:t+1≤J:=by
    rcases Nat.lt_or_ge t J with hj | hj
    · exact hj
    · have:J * p≤t * p:=Nat.mul_le_mul_right p hj
      omega
   have htp:(t+1) * p≤J * p:=Nat.mul_le_mul_right p htJ
   rw [Nat.add_mul] at htp
   have key:∀ e,t * p+r+e<nx+k - a→x (a+(t * p+r)+e)=x (a+r+e):=fun e he=>by
    have:=h.rep t (r+e) (by omega)
    rw [show a+(t * p+r)+e=a+t * p+(r+e) by omega,this,Nat.add_assoc]
   rcases Nat.eq_zero_or_pos r with h0 | h0
   · subst h0
     refine ⟨k,by omega,hx,fun e he=>?_,?_⟩
     · rw [key e (by omega),h2,h.rep J e (by omega)];simp
     · rw [key k (by omega)];simpa using hy
   · obtain ⟨d,d1,d2,d3⟩:=h.B r h0 hr
     refine Dom.trans o (j:=a) ⟨d,by omega,by omega,fun e he=>by rw [key e (by omega),d2 e he],by rw [key d (by omega)];exact d3⟩ hD
theorem Inv.done (o:Ord R) {a nx k p:Nat} (h:Inv R x m a nx k p) (hx:m≤nx+k):ZbC R x m a∧(∀ e,a+p+e<m→x (a+p+e)=x (a+e))∧(∀ q,0<q→q<p→∃ e,a+q+e<m∧x (a+q+e)≠x (a+e))∧a+p≤m:=by
 have hlo:=h.lo
 have hnm:=h.nm
 have hkp:=h.kp
 obtain rfl:m=nx+k:=by omega
 refine ⟨⟨by omega,fun j hj hja=>?_⟩,h.C,fun q hq hqp=>?_,by omega⟩
 · rcases Nat.lt_or_ge j a with hl | hl
   · exact .inl (h.A j hl)
   · obtain ⟨i,rfl⟩:∃ i,j=a+i:=⟨j - a,by omega⟩
     obtain ⟨t,r,rfl,hr⟩:=Zc2 p i h.p1
     have key:∀ e,a+(t * p+r)+e<nx+k→x (a+(t * p+r)+e)=x (a+r+e):=fun e he=>by
      have:=h.rep t (r+e) (by omega)
      rw [show a+(t * p+r)+e=a+t * p+(r+e) by omega,this,Nat.add_assoc]
     rcases Nat.eq_zero_or_pos r with h0 | h0
     · subst h0
       exact .inr ⟨by omega,fun e he=>by rw [key e he];simp⟩
     · obtain ⟨d,d1,d2,d3⟩:=h.B r h0 hr
       rcases Nat.lt_or_ge (a+(t * p+r)+d) (nx+k) with hd | hd
       · exact .inl ⟨d,hd,by omega,fun e he=>by rw [key e (by omega),d2 e he],by rw [key d hd];exact d3⟩
       · exact .inr ⟨by omega,fun e he=>by rw [key e he,d2 e (by omega)]⟩
 · obtain ⟨d,d1,d2,d3⟩:=h.B q hq hqp
   exact ⟨d,by omega,fun e=>by rw [e] at d3;exact o.irr _ d3⟩
/-- x has the period r. -/
def Per (x:Nat→Nat) (m r:Nat):Prop:=∀ k,k+r<m→x k=x (k+r)
/-- At a place a, what is r bytes on either side fits. -/
def Loc (x:Nat→Nat) (m a r:Nat):Prop:=∀ k,k<a→a≤k+r→k+r<m→x k=x (k+r)
theorem Per.loc {r:Nat} (h:Per x m r) (a:Nat):Loc x m a r:=fun k _ _ hk=>h k hk
def ZfJ (x:Nat→Nat) (m a:Nat):Prop:=∀ r,0<r→Loc x m a r→a<r∧Per x m r
theorem crit_far (o:Ord R) {a:Nat} (h:ZbC R x m a) {r:Nat} (hr:0<r) (hl:Loc x m a r):a<r:=by
 rcases Nat.lt_or_ge a r with hc | hc
 · exact hc
 exfalso
 have ham:=h.1
 rcases h.2 (a - r) (by omega) (by omega) with ⟨d,h1,h2,h3,h4⟩ | ⟨h1,h2⟩
 · have heq:∀ e,e<r→a+e<m→x (a - r+e)=x (a+e):=fun e he hem=>by
     have:=hl (a - r+e) (by omega) (by omega) (by omega)
     rw [this];congr 1;omega
   rcases Nat.lt_or_ge d r with hd | hd
   · rw [heq d hd h2] at h4;exact o.irr _ h4
   · have hD:Dom R x m a (a+r):=⟨d - r,by omega,by omega,fun e he=>by
       have:=h3 (e+r) (by omega)
       rw [show a - r+(e+r)=a+e by omega] at this
       rw [this];congr 1;omega,by
       rw [show a+(d - r)=a - r+d by omega,show a+r+(d - r)=a+d by omega];exact h4⟩
     exact dom_lt o hD (h.2 (a+r) (by omega) (by omega))
 · omega
theorem ZfB (o:Ord R) (hRR:∀ a b,R' a b↔R b a) {a b:Nat} (h:ZbC R x m a) (h':ZbC R' x m b) (hba:b≤a):ZfJ x m a:=by
 intro r hr hl
 have hlt:=crit_far o h hr hl
 refine ⟨hlt,fun k hk=>?_⟩
 rcases Nat.lt_or_ge k a with hka | hka
 · exact hl k hka (by omega) hk
 obtain ⟨f,rfl⟩:∃ f,k=a+f:=⟨k - a,by omega⟩
 have ham:=h.1
 rcases h.2 (a+r) (by omega) (by omega) with ⟨d,h1,h2,h3,h4⟩ | ⟨h1,h2⟩
 · exfalso
   have hpre:∀ e,b+e<a→x (b+r+e)=x (b+e):=fun e he=>by
    have:=hl (b+e) he (by omega) (by omega)
    rw [this];congr 1;omega
   have hmid:∀ e,e<(a - b)+d→x (b+r+e)=x (b+e):=fun e he=>by
    rcases Nat.lt_or_ge (b+e) a with hc | hc
    · exact hpre e hc
    · have:=h3 (b+e - a) (by omega)
      rw [show a+r+(b+e - a)=b+r+e by omega,show a+(b+e - a)=b+e by omega] at this
      exact this
   have hend:R (x (b+r+((a - b)+d))) (x (b+((a - b)+d))):=by
    rw [show b+r+((a - b)+d)=a+r+d by omega,show b+((a - b)+d)=a+d by omega];exact h4
   rcases h'.2 (b+r) (by omega) (by omega) with ⟨d',g1,g2,g3,g4⟩ | ⟨g1,g2⟩
   · have g4:=(hRR _ _).1 g4
     rcases Nat.lt_trichotomy d' ((a - b)+d) with hc | hc | hc
     · rw [hmid d' hc] at g4;exact o.irr _ g4
     · subst hc;exact o.asym g4 hend
     · rw [g3 _ hc] at hend;exact o.irr _ hend
   · rw [g2 _ (by omega)] at hend;exact o.irr _ hend
 · have:=h2 f (by omega)
   rw [show a+f+r=a+r+f by omega]
   exact this.symm
/-- What a text's cut is good for. -/
structure Cut (x:Nat→Nat) (m a s:Nat) (small:Bool):Prop where
 am:a<m
 s1:1≤s
 crit:ZfJ x m a
 least:∀ r,0<r→Per x m r→s≤r
 per:small=true→Per x m s
 far:s≤m+1
theorem ZfR {q n:Nat} {y:Nat→Nat} (hp:∀ e,q+e<n→y (q+e)=y e):∀ (t e:Nat),t * q+e<n→y (t * q+e)=y e
 | 0,e,_=>by simp
 | t+1,e,h=>by
   have e1:(t+1) * q+e=q+(t * q+e):=by rw [Nat.add_mul];omega
   rw [e1] at h ⊢
   rw [hp _ h,ZfR hp t e (by omega)]
/-- The greatest end's period is the text's, or the text's is long. -/
theorem cut_of (hm:0<m) {a q:Nat} (ham:a<m) (hcr:ZfJ x m a) (q1:1≤q) (hper:∀ e,a+q+e<m→x (a+q+e)=x (a+e)) (hmin:∀ p,0<p→p<q→∃ e,a+p+e<m∧x (a+p+e)≠x (a+e)) (hq:a+q≤m)
    {small:Bool} (hs:small=true↔∀ k,k<a→x k=x (k+q)):Cut x m a (if small then q else max a (m - a)+1) small:=by
 have hlo:∀ r,0<r→Per x m r→a<r∧q≤r:=fun r h0 hp=>by
  refine ⟨(hcr r h0 (hp.loc a)).1,?_⟩
  rcases Nat.lt_or_ge r q with hc | hc
  · obtain ⟨e,h1,h2⟩:=hmin r h0 hc
    exact absurd (by have:=hp (a+e) (by omega);rw [this];congr 1;omega) h2
  · exact hc
 cases small with
 | true =>
   have hq':=hs.1 rfl
   have hP:Per x m q:=fun k hk=>by
    rcases Nat.lt_or_ge k a with hc | hc
    · exact hq' k hc
    · obtain ⟨e,rfl⟩:∃ e,k=a+e:=⟨k - a,by omega⟩
      rw [← hper e (by omega)];congr 1;omega
   exact ⟨ham,q1,hcr,fun r h0 hp=>(hlo r h0 hp).2,fun _=>hP,by simp;omega⟩
 | false =>
   refine ⟨ham,by simp,hcr,fun r h0 hp=>?_,(fun h=>by cases h),by simp;omega⟩
   obtain ⟨l1,l2⟩:=hlo r h0 hp
   simp only [Bool.false_eq_true,if_false]
   rcases Nat.lt_or_ge (max a (m - a)) r with hc | hc
   · omega
   exfalso
   have hrm:r≤m - a:=by omega
   -- the end's own period,many times
   have hy:=ZfR (q:=q) (n:=m - a) (y:=fun e=>x (a+e)) (fun e he=>by show x (a+(q+e))=x (a+e);rw [← Nat.add_assoc];exact hper e (by omega))
   obtain ⟨t,c,hrc,hcq⟩:∃ t c,r=t * q+c∧c<q:=⟨r / q,r % q,by have:=Nat.div_add_mod r q;rw [Nat.mul_comm] at this;omega,Nat.mod_lt _ q1⟩
   rcases Nat.eq_zero_or_pos c with h1 | h1
   · subst h1
     have hP:∀ k,k<a→x k=x (k+q):=fun k hk=>by
      have k1:=hp k (by omega)
      have t1:1≤t:=by
       rcases Nat.eq_zero_or_pos t with h | h
       · subst h;omega
       · exact h
      obtain ⟨t',rfl⟩:∃ t',t=t'+1:=⟨t - 1,by omega⟩
      have e1:(t'+1) * q=t' * q+q:=by rw [Nat.add_mul];omega
      rcases Nat.lt_or_ge (k+q) a with hc | hc
      · have k2:=hp (k+q) (by omega)
        rw [k1,k2]
        obtain ⟨f,hf⟩:∃ f,k+r=a+f:=⟨k+r - a,by omega⟩
        have:=hper f (by omega)
        rw [hf,← this];congr 1;omega
      · rw [k1]
        obtain ⟨f,hf⟩:∃ f,k+q=a+f:=⟨k+q - a,by omega⟩
        have:=hy t' f (by omega)
        rw [hf,← this];congr 1;omega
     have:=hs.2 hP
     cases this
   · have hloc:Loc x m a c:=fun k hk h2 h3=>by
       have k1:=hp k (by omega)
       obtain ⟨f,hf⟩:∃ f,k+c=a+f:=⟨k+c - a,by omega⟩
       have:=hy t f (by omega)
       rw [k1,hf,← this];congr 1;omega
     obtain ⟨e,g1,g2⟩:=hmin c h1 hcq
     have:=(hcr c h1 hloc).2 (a+e) (by omega)
     exact g2 (by rw [this];congr 1;omega)
variable {y:Nat→Nat} {n:Nat}
def XI (x:Nat→Nat) (m:Nat) (y:Nat→Nat) (n i:Nat):Prop:=i+m≤n∧∀ k,k<m→y (i+k)=x k
/-- The bytes from the cut on fit up to one that doesn't: none stands before the move's end. -/
theorem Cut.skip {a s:Nat} {small:Bool} (h:Cut x m a s small) {p i:Nat} (hai:a≤i) (him:i<m) (hfit:∀ k,a≤k→k<i→y (p+k)=x k) (hno:y (p+i)≠x i):∀ j,p≤j→j<p+(i - a+1)→¬ XI x m y n j:=by
 intro j hj1 hj2 ⟨hm1,hm2⟩
 obtain ⟨r,rfl⟩:∃ r,j=p+r:=⟨j - p,by omega⟩
 rcases Nat.eq_zero_or_pos r with h0 | h0
 · subst h0;exact hno (by simpa using hm2 i him)
 · have hl:Loc x m a r:=fun k h1 h2 h3=>by
     have e1:=hm2 k (by omega)
     have e2:=hfit (k+r) h2 (by omega)
     rw [← e1,← e2];congr 1;omega
   have hp:=(h.crit r h0 hl).2 (i - r) (by omega)
   have e3:=hm2 (i - r) (by omega)
   rw [show p+r+(i - r)=p+i by omega,hp,show i - r+r=i by omega] at e3
   exact hno e3
/-- The bytes from the cut on all fit: behind this place none stands before the move's end. -/
theorem Cut.jump {a s:Nat} {small:Bool} (h:Cut x m a s small) {p:Nat} (hfit:∀ k,a≤k→k<m→y (p+k)=x k):∀ j,p<j→j<p+s→¬ XI x m y n j:=by
 intro j hj1 hj2 ⟨hm1,hm2⟩
 obtain ⟨r,rfl⟩:∃ r,j=p+r:=⟨j - p,by omega⟩
 have hl:Loc x m a r:=fun k h1 h2 h3=>by
  have e1:=hm2 k (by omega)
  have e2:=hfit (k+r) h2 h3
  rw [← e1,← e2];congr 1;omega
 have:=h.least r (by omega) (h.crit r (by omega) hl).2
 omega
/-- What fitted fits still behind a move by the period. -/
theorem Cut.known {a s:Nat} (h:Cut x m a s true) {p:Nat} (hfit:∀ k,a≤k→k<m→y (p+k)=x k):∀ k,k<m - s→y (p+s+k)=x k:=by
 intro k hk
 have hp:=h.per rfl
 have ha:=(h.crit s h.s1 (hp.loc a)).1
 have:=hfit (s+k) (by omega) (by omega)
 rw [show p+s+k=p+(s+k) by omega,this,hp k (by omega)];congr 1;omega
/-- The first place from p on; -1: none. -/
def next (x:Nat→Nat) (m:Nat) (y:Nat→Nat) (n p:Nat) (r:Int):Prop:=(0≤r→p≤r.toNat∧XI x m y n r.toNat∧∀ j,p≤j→j<r.toNat→¬ XI x m y n j)∧(r<0→r = -1∧∀ j,p≤j→¬ XI x m y n j)
theorem next_one {p:Nat} {r r':Int} (h:next x m y n p r) (h':next x m y n p r'):r=r':=by
 rcases Int.lt_or_le r 0 with a | a <;> rcases Int.lt_or_le r' 0 with b | b
 · rw [(h.2 a).1,(h'.2 b).1]
 · exact absurd (h'.1 b).2.1 ((h.2 a).2 _ (h'.1 b).1)
 · exact absurd (h.1 a).2.1 ((h'.2 b).2 _ (h.1 a).1)
 · obtain ⟨a1,a2,a3⟩:=h.1 a
   obtain ⟨b1,b2,b3⟩:=h'.1 b
   rcases Nat.lt_trichotomy r.toNat r'.toNat with c | c | c
   · exact absurd a2 (b3 _ a1 c)
   · omega
   · exact absurd b2 (a3 _ b1 c)
end
end Seine.Two
end
section
namespace Go.Proofs.YtfdlaomnecjfeaaGreatDoor
open Go.RowKit Seine.Trie Seine.Two
/-- How bytes stand: by the order, or the turned one. -/
def RB (t:Bool) (a b:Nat):Prop:=if t then b<a else a<b
instance (t:Bool) (a b:Nat):Decidable (RB t a b):=by unfold RB;exact inferInstance
theorem Zfh (t:Bool):Ord (RB t):=by
 cases t
 · exact ⟨fun a=>by simp [RB],fun a b c h1 h2=>by simp [RB] at *;omega,fun a b h=>by simp [RB];omega⟩
 · exact ⟨fun a=>by simp [RB],fun a b c h1 h2=>by simp [RB] at *;omega,fun a b h=>by simp [RB];omega⟩
theorem ZfC (a b:Nat):RB true a b↔RB false b a:=by simp [RB]
/-- A text's bytes as numbers. -/
def bx (b:Txt) (k:Nat):Nat:=(b.getD k 0).toNat
theorem less_calls (w:World) (bl:Nat) (t:Bool) (a c:Nat) (hc:w.cell? ⟨bl,0,none⟩=some (.bool t)) (r:Bool) (hr:r=decide (RB t a c)) :
    Calls Tryz.prog 244 #[.int .u8 (a:Int),.int .u8 (c:Int),.pointer (some ⟨bl,0,none⟩)] w fun e w'=>e=.returned (.bool r)∧w=w':=by
 rcases Nat.lt_trichotomy a c with h | h | h
 · have h1:((a:Int) != (c:Int))=true:=by simp;omega
   have h2:decide ((a:Int)<(c:Int))=true:=by simp;omega
   have h2':decide (a<c)=true:=by simp;omega
   obtain rfl:r=!t:=by rw [hr];cases t <;> simp [RB] <;> omega
   clear hr h
   cases t
   all_goals
    go_enter Tryz.func244,Tryz.ntmps244
    go_wp2
    go_ret
    exact ⟨rfl,rfl⟩
 · subst h
   have h1:((a:Int) != (a:Int))=false:=by simp
   obtain rfl:r=false:=by rw [hr];cases t <;> simp [RB]
   clear hr
   go_enter Tryz.func244,Tryz.ntmps244
   go_wp2
   go_ret
   exact ⟨rfl,rfl⟩
 · have h1:((a:Int) != (c:Int))=true:=by simp;omega
   have h2:decide ((a:Int)<(c:Int))=false:=by simp;omega
   have h2':decide (a<c)=false:=by simp;omega
   obtain rfl:r=t:=by rw [hr];cases t <;> simp [RB] <;> omega
   clear hr h
   cases r
   all_goals
    go_enter Tryz.func244,Tryz.ntmps244
    go_wp2
    go_ret
    exact ⟨rfl,rfl⟩
theorem by_calls (w:World) (t:Bool):Calls Tryz.prog 234 #[.bool t] w fun e w'=>∃ bl,e=.returned (.agg #[.func (.func 244) #[] #[.pointer (some ⟨bl,0,none⟩)]])∧w'.heap[bl]? = some (.cells #[.bool t] 4 (0,0))∧Below w.heap.size w w':=by
 have hmf:∀ (fn:Fn) (first cap:Array Value) (w:World),(Instr.makeFunc fn first cap).run Tryz.prog w=.ok (.func fn first cap) w:=fun _ _ _ _=>rfl
 go_enter Tryz.func234,Tryz.ntmps234
 go_wp2
 refine bodyPost_ret (v:=.agg #[.func (.func 244) #[] #[.pointer (some ⟨w.heap.size,0,none⟩)]]) (by simp [results,Tryz.results234,go_sem]) rfl ⟨w.heap.size,rfl,?_,?_⟩
 · exact Zn (heap_alloc_new w _)
 · exact ((Below.refl _ _).alloc (Nat.le_refl _) _).alloc (by simp) _
set_option maxRecDepth 100000 in
set_option maxHeartbeats 1600000 in
theorem max_calls (w:World) (A:Option Addr) (c:Nat) (b:Txt) (t:Bool) (hb:Byt w A b) (hl:b.length≤1000000) (hne:0<b.length) :
    Calls Tryz.prog 216 #[.slice A b.length c,.bool t] w fun e w'=>∃ a p:Nat,e=.returned (.tuple #[.int .i64 (a:Int),.int .i64 (p:Int)])∧(ZbC (RB t) (bx b) b.length a∧(∀ e,a+p+e<b.length→bx b (a+p+e)=bx b (a+e))∧(∀ q,0<q→q<p→∃ e,a+q+e<b.length∧bx b (a+q+e)≠bx b (a+e))∧a+p≤b.length∧1≤p)∧Below w.heap.size w w':=by
 have HX:=As.mk hb
 clear hb
 obtain ⟨n,hn⟩:∃ n,b.length=n:=⟨_,rfl⟩
 rw [hn] at hl hne
 have hn':=As.mk hn
 have hst:As (Inv (RB t) (bx b) n 0 1 0 1):=⟨Inv.start hne⟩
 have hord:=As.mk (Zfh t)
 have hn0:((n:Int) == 0)=false:=by simp;omega
 rw [hn]
 clear hn
 go_enter Tryz.func216,Tryz.ntmps216
 go_wp2_with fail
 refine Calls.mono (by_calls w t) ?_
 rintro e w1 ⟨bl,rfl,hbl,hb1⟩
 have HX1:=As.mk (HX.out.below hb1)
 replace hb1:=As.mk hb1
 have hbl0:=Zf hbl
 go_wp2
 have v1:(w1.alloc (.cells #[.func (.func 244) #[] #[.pointer (some ⟨bl,0,none⟩)]] 340)).cell? ⟨w1.heap.size,0,none⟩=some (.func (.func 244) #[] #[.pointer (some ⟨bl,0,none⟩)]):=Za (heap_alloc_new w1 _) 0
 have v2:(w1.alloc (.cells #[.func (.func 244) #[] #[.pointer (some ⟨bl,0,none⟩)]] 340)).cell? ⟨bl,0,none⟩=some (.bool t):=Za (Zn hbl) 0
 have hX2:=As.mk (HX1.out.alloc (.cells #[.func (.func 244) #[] #[.pointer (some ⟨bl,0,none⟩)]] 340))
 have hB2:=As.mk (hb1.out.alloc hb1.out.size (.cells #[.func (.func 244) #[] #[.pointer (some ⟨bl,0,none⟩)]] 340))
 clear hbl hbl0
 generalize (w1.alloc (.cells #[.func (.func 244) #[] #[.pointer (some ⟨bl,0,none⟩)]] 340))=w2 at *
 generalize w1.heap.size=ob at *
 go_loopg [7,8,9,10] (2 * n+1) (fun gk a nx k p wr=>∃ (A' N K Q m:Nat),As (2 * n+2≤gk+(A'+N+K))∧a=.int .i64 A'∧nx=.int .i64 N∧k=.int .i64 K∧p=.int .i64 Q∧As (Inv (RB t) (bx b) n A' N K Q)∧wr=w2.drewN m)
 case atStart=>exact ⟨0,1,0,1,0,⟨by omega⟩,rfl,rfl,rfl,rfl,hst,rfl⟩
 case round =>
  obtain ⟨a,N,K,Q,m,hgk,rfl,rfl,rfl,rfl,hinv,rfl⟩:=hrel
  have h1:=hinv.out.p1
  have h2:=hinv.out.kp
  have h3:=hinv.out.nm
  have h4:=hinv.out.lo
  obtain ⟨gp,rfl⟩:∃ gp,gk=gp+1:=⟨gk - 1,by have:=hgk.out;omega⟩
  by_cases hlt:N+K<n
  · obtain ⟨ad,rfl,c1⟩:=Byt.at_ hX2.out (i:=a+K) (by have:=hn'.out;omega)
    obtain ⟨ad',e',c2⟩:=Byt.at_ hX2.out (i:=N+K) (by have:=hn'.out;omega)
    injection e' with e'
    subst e'
    obtain ⟨x,hx⟩:∃ x,(b.getD (a+K) 0).toNat=x:=⟨_,rfl⟩
    obtain ⟨y,hy⟩:∃ y,(b.getD (N+K) 0).toNat=y:=⟨_,rfl⟩
    rw [hx] at c1
    rw [hy] at c2
    have hx:=As.mk (show bx b (a+K)=x from hx)
    have hy:=As.mk (show bx b (N+K)=y from hy)
    have hlt':(N:Int)+(K:Int)<(n:Int):=by omega
    have hak:(a:Int)+(K:Int)<(n:Int):=by omega
    have i1:IntKind.i64.wrap ((a:Int)+(K:Int))=(a:Int)+(K:Int):=IntWalk.i64_in _ (by omega)
    have i2:IntKind.i64.wrap ((N:Int)+(K:Int))=(N:Int)+(K:Int):=IntWalk.i64_in _ (by omega)
    have j1:0≤(a:Int)+(K:Int):=by omega
    have j2:0≤(N:Int)+(K:Int):=by omega
    have k1:((a:Int)+(K:Int)).toNat=a+K:=by omega
    have k2:((N:Int)+(K:Int)).toNat=N+K:=by omega
    go_wp2
    go_quiet (fail)
    clear i1 i2 j1 j2 k1 k2
    rw [World.drewN_drewN]
    have cl:=As.mk (fun (r:Bool) (hr:r=decide (RB t y x))=>less_calls (w2.drewN (m+nq)) bl t y x v2 r hr)
    have v1':(w2.drewN (m+nq)).cell? ⟨ob,0,none⟩=some (.func (.func 244) #[] #[.pointer (some ⟨bl,0,none⟩)]):=v1
    clear c1 c2
    rcases (show RB t y x∨(¬ RB t y x∧x=y)∨(¬ RB t y x∧RB t x y) by
     by_cases h1:RB t y x
     · exact .inl h1
     · by_cases h2:x=y
       · exact .inr (.inl ⟨h1,h2⟩)
       · rcases hord.out.tot x y h2 with h3 | h3
         · exact .inr (.inr ⟨h1,h3⟩)
         · exact absurd h3 h1) with hR | ⟨hR,hxy⟩ | ⟨hR,hR2⟩
    · have hinv2:=As.mk (hinv.out.less hord.out hlt (by rw [hx.out,hy.out];exact hR))
      have c3:=As.mk (cl.out true (by simp [hR]))
      clear hR
      go_wp2_with (go_at_call 244;refine Calls.mono c3.out ?_;rintro e w' ⟨rfl,rfl⟩)
      go_roundg gp
      case rel=>exact ⟨a,N+K+1,0,N+K+1 - a,_,⟨by have:=hgk.out;omega⟩,rfl,(by first | rfl | go_num | (congr 1;omega)),rfl,(by first | rfl | go_num | (congr 1;omega)),hinv2,rfl⟩
      case measure=>omega
    · subst hxy
      have c3:=As.mk (cl.out false (by simp [hR]))
      clear hR
      by_cases hk:K+1<Q
      · have hinv2:=As.mk (hinv.out.fits hlt (by rw [hx.out,hy.out]) hk)
        have hk1:decide ((K:Int)+1<(Q:Int))=true:=by simp;omega
        go_wp2_with (go_at_call 244;refine Calls.mono c3.out ?_;rintro e w' ⟨rfl,rfl⟩)
        go_roundg gp
        case rel=>exact ⟨a,N,K+1,Q,_,⟨by have:=hgk.out;omega⟩,rfl,rfl,(by first | rfl | go_num | (congr 1;omega)),rfl,hinv2,rfl⟩
        case measure=>omega
      · have hinv2:=As.mk (hinv.out.whole hlt (by rw [hx.out,hy.out]) (by omega))
        have hk1:decide ((K:Int)+1<(Q:Int))=false:=by simp;omega
        go_wp2_with (go_at_call 244;refine Calls.mono c3.out ?_;rintro e w' ⟨rfl,rfl⟩)
        go_roundg gp
        case rel=>exact ⟨a,N+Q,0,Q,_,⟨by have:=hgk.out;omega⟩,rfl,(by first | rfl | go_num | (congr 1;omega)),rfl,rfl,hinv2,rfl⟩
        case measure=>omega
    · have hinv2:=As.mk (hinv.out.more hord.out hlt (by rw [hx.out,hy.out];exact hR2))
      have c3:=As.mk (cl.out false (by simp [hR]))
      have hne1:((x:Int) == (y:Int))=false:=by
       have:x≠y:=fun e=>hord.out.irr x (by rw [← e] at hR2;exact hR2)
       simp;omega
      clear hR hR2
      go_wp2_with (go_at_call 244;refine Calls.mono c3.out ?_;rintro e w' ⟨rfl,rfl⟩)
      go_roundg gp
      case rel=>exact ⟨N,N+1,0,1,_,⟨by have:=hgk.out;omega⟩,rfl,(by first | rfl | go_num | (congr 1;omega)),rfl,rfl,hinv2,rfl⟩
      case measure=>omega
  · have hlt':decide ((N:Int)+(K:Int)<(n:Int))=false:=by simp;omega
    obtain ⟨d1,d2,d3,d4⟩:=hinv.out.done hord.out (by omega)
    have hfin:=As.mk (And.intro d1 (And.intro d2 (And.intro d3 (And.intro d4 h1))))
    clear d1 d2 d3 d4 hlt
    go_wp2
    go_ret2
    exact ⟨a,Q,rfl,hfin.out,ZF hB2.out m⟩
end Go.Proofs.YtfdlaomnecjfeaaGreatDoor
end
section
namespace Go.Proofs.YtfdlaomnecjfeaaGreatDoor
open Go.RowKit Seine.Trie Seine.Two Go.Proofs.YtfdlaomnecjfeaaGreatDoorW.PrintWords
theorem ZfK {w:World} {b t:Nat} {x y z:Value} (h:w.heap[b]? = some (.cells #[x,y,z] t (0,0))) (u v s:Value):(w.setCell ⟨b,0,none⟩ u).cell? ⟨b,0,none⟩=some u∧((w.setCell ⟨b,0,none⟩ u).setCell ⟨b,1,none⟩ v).cell? ⟨b,1,none⟩=some v ∧
    (((w.setCell ⟨b,0,none⟩ u).setCell ⟨b,1,none⟩ v).setCell ⟨b,2,none⟩ s).cell? ⟨b,2,none⟩=some s :=
 ⟨(Za (Zi h 0 u) 0).trans (by simp),(Za (Zi (Zi h 0 u) 1 v) 1).trans (by simp),(Za (Zi (Zi (Zi h 0 u) 1 v) 2 s) 2).trans (by simp)⟩
/-- What the greatest ends tell of a text's cut, ahead of its period. -/
def ZfL (x:Nat→Nat) (m a q:Nat):Prop:=a<m∧ZfJ x m a∧1≤q∧(∀ e,a+q+e<m→x (a+q+e)=x (a+e))∧(∀ p,0<p→p<q→∃ e,a+p+e<m∧x (a+p+e)≠x (a+e))∧a+q≤m
set_option maxHeartbeats 800000 in
theorem cut_calls (w:World) (A:Option Addr) (c:Nat) (b:Txt) (hb:Byt w A b) (hl:b.length≤1000000) (hne:0<b.length) :
    Calls Tryz.prog 191 #[.slice A b.length c] w fun e w'=>∃ a q:Nat,e=.returned (.agg #[.int .i64 (a:Int),.int .i64 (q:Int),.bool false])∧ZfL (bx b) b.length a q∧Below w.heap.size w w':=by
 have HX:=As.mk hb
 clear hb
 obtain ⟨n,hn⟩:∃ n,b.length=n:=⟨_,rfl⟩
 have cm:=As.mk (fun (v:World) (h:Byt v A b) t=>max_calls v A c b t h hl hne)
 rw [hn] at cm hl hne
 rw [hn]
 clear hn
 go_enter Tryz.func191,Tryz.ntmps191
 go_wp2_with fail
 refine Calls.mono (cm.out _ ?_ false) ?_
 · exact HX.out.alloc _
 rintro e w1 ⟨a1,p1,rfl,h1,hb1⟩
 replace h1:=As.mk h1
 have hs1:=hb1.size
 simp only [World.size_alloc] at hs1
 have hx1:=As.mk ((HX.out.alloc (.cells #[.int .i64 0,.int .i64 0,.bool false] 245)).below hb1)
 have z1:=As.mk (Zc hb1 (heap_alloc_new w (.cells #[.int .i64 0,.int .i64 0,.bool false] 245)))
 have hB1:=As.mk (((Below.refl w.heap.size w).alloc (Nat.le_refl _) (.cells #[.int .i64 0,.int .i64 0,.bool false] 245)).trans (hb1.mono (by simp)))
 clear hb1
 go_wp2_with fail
 refine Calls.mono (cm.out _ hx1.out true) ?_
 rintro e w2 ⟨a2,p2,rfl,h2,hb2⟩
 replace h2:=As.mk h2
 have z2:=As.mk (Zc hb2 z1.out)
 have hB2:=As.mk (hB1.out.trans (hb2.mono (by omega)))
 have hs2:=hb2.size
 clear hb2
 have y0:=Za z2.out 0
 have y1:=Za z2.out 1
 have y2:=Za z2.out 2
 have f0:=Zb z2.out 0
 have f1:=Zb z2.out 1
 have f2:=Zb z2.out 2
 simp at y0 y1 y2
 by_cases hgt:a1<a2
 · have hgt':decide ((a1:Int)<(a2:Int))=true:=by simp;omega
   have hc:ZfL (bx b) n a2 p2:=by
    obtain ⟨m1,_⟩:=h1.out
    obtain ⟨m2,r2,r3,r4,r5⟩:=h2.out
    exact ⟨m2.1,ZfB (Zfh true) (fun a b=>(ZfC b a).symm) m2 m1 (by omega),r5,r2,r3,r4⟩
   go_wp2
   obtain ⟨e0,e1,e2⟩:=ZfK z2.out (.int .i64 (a2:Int)) (.int .i64 (p2:Int)) (.bool false)
   refine bodyPost_ret (v:=.agg #[.int .i64 (a2:Int),.int .i64 (p2:Int),.bool false]) (by simp [results,Tryz.results191,go_sem,e0,e1,e2]) rfl ⟨a2,p2,rfl,hc,?_⟩
   exact ((hB2.out.setCell (by simp) _).setCell (by simp) _).setCell (by simp) _
 · have hgt':decide ((a1:Int)<(a2:Int))=false:=by simp;omega
   have hc:ZfL (bx b) n a1 p1:=by
    obtain ⟨m1,r2,r3,r4,r5⟩:=h1.out
    obtain ⟨m2,_⟩:=h2.out
    exact ⟨m1.1,ZfB (Zfh false) (fun a b=>ZfC a b) m1 m2 (by omega),r5,r2,r3,r4⟩
   go_wp2
   obtain ⟨e0,e1,e2⟩:=ZfK z2.out (.int .i64 (a1:Int)) (.int .i64 (p1:Int)) (.bool false)
   refine bodyPost_ret (v:=.agg #[.int .i64 (a1:Int),.int .i64 (p1:Int),.bool false]) (by simp [results,Tryz.results191,go_sem,e0,e1,e2]) rfl ⟨a1,p1,rfl,hc,?_⟩
   exact ((hB2.out.setCell (by simp) _).setCell (by simp) _).setCell (by simp) _
/-- A piece of a row of bytes. -/
theorem Byt.piece {w:World} {ad:Addr} {b:Txt} (h:Byt w (some ad) b) (i k:Nat) (hik:i+k≤b.length):Byt w (some (ad.add i)) ((b.drop i).take k):=by
 rcases Nat.eq_zero_or_pos k with rfl | hk
 · exact .inl (by simp [Zh])
 · rcases h with h | ⟨ad',e,hlt,hc⟩
   · have:=congrArg List.length h;rw [Zt] at this;simp at this;simp [this] at hik;omega
   · injection e with e
     subst e
     refine .inr ⟨_,rfl,by rw [Addr.block_add];exact hlt,fun j u hu=>?_⟩
     rw [Addr.add_add']
     refine hc _ u ?_
     unfold Zh at hu ⊢
     rw [List.getElem?_map,List.getElem?_take] at hu
     split at hu
     · rw [List.getElem?_drop] at hu;rw [List.getElem?_map];exact hu
     · simp at hu
theorem Byt.empty (w:World) (A:Option Addr):Byt w A []:=.inl rfl
set_option maxHeartbeats 800000 in
theorem alike_calls (w:World) (ad:Addr) (c:Nat) (b:Txt) (hb:Byt w (some ad) b) (hl:b.length≤1000000) (hc:b.length≤c) (q a:Nat) (hqa:a+q≤b.length) (hq:1≤q) :
    Calls Tryz.prog 192 #[.slice (some ad) b.length c,.int .i64 0,.int .i64 (q:Int),.int .i64 (a:Int)] w fun e w'=>e=.returned (.bool (decide (b.take a=(b.drop q).take a)))∧Below w.heap.size w w':=by
 obtain ⟨n,hn⟩:∃ n,b.length=n:=⟨_,rfl⟩
 rw [hn] at hl hc hqa
 rw [hn]
 have hn:=As.mk hn
 have hb:=As.mk hb
 have hcA:∀ m c',(convert 297 9 (.slice (some ad) a c')).run Tryz.prog (w.drewN m)=.ok (.string (bb (b.take a))) (w.drewN m):=fun m c'=>by
  have h0:Byt (w.drewN m) (some ad) (b.take a):=by
   have:=Byt.piece (b:=b) (hb.out.drewN m) 0 a (by have:=hn.out;omega)
   rwa [show ad.add 0=ad from (by unfold Addr.add;simp),List.drop_zero] at this
  have:=Yk (c:=c') Tryz.underlying297 h0 (by rw [List.length_take];have:=hn.out;omega)
  rwa [show (b.take a).length=a by rw [List.length_take];have:=hn.out;omega] at this
 have hcB:∀ m c',(convert 297 9 (.slice (some (ad.add q)) a c')).run Tryz.prog (w.drewN m)=.ok (.string (bb ((b.drop q).take a))) (w.drewN m):=fun m c'=>by
  have h0:=Byt.piece (b:=b) (hb.out.drewN m) q a (by have:=hn.out;omega)
  have:=Yk (c:=c') Tryz.underlying297 h0 (by rw [List.length_take,List.length_drop];have:=hn.out;omega)
  rwa [show ((b.drop q).take a).length=a by rw [List.length_take,List.length_drop];have:=hn.out;omega] at this
 have hn1:(a:Int)≤(c:Int):=by omega
 have hn2:(q:Int)+(a:Int)≤(c:Int):=by omega
 have hn3:(q:Int)≤(q:Int)+(a:Int):=by omega
 by_cases he:b.take a=(b.drop q).take a
 · rw [decide_eq_true he]
   rw [← he] at hcB
   obtain ⟨x,hx⟩:∃ x,bb (b.take a)=x:=⟨_,rfl⟩
   rw [hx] at hcA hcB
   clear hx he
   by_cases hqc:q<c
   · go_enter Tryz.func192,Tryz.ntmps192
     go_wp2
     go_quiet (fail)
     go_wp2
     go_ret
     exact ⟨rfl,ZF (Below.refl _ _) _⟩
   · obtain rfl:a=0:=by omega
     obtain rfl:q=c:=by omega
     go_enter Tryz.func192,Tryz.ntmps192
     go_wp2
     go_quiet (fail)
     go_wp2
     go_ret
     exact ⟨rfl,ZF (Below.refl _ _) _⟩
 · rw [decide_eq_false he]
   have hqc:q<c:=by
    rcases Nat.lt_or_ge q c with h | h
    · exact h
    · exfalso
      obtain rfl:a=0:=by omega
      exact he (by simp)
   obtain ⟨x,hx⟩:∃ x,bb (b.take a)=x:=⟨_,rfl⟩
   obtain ⟨y,hy⟩:∃ y,bb ((b.drop q).take a)=y:=⟨_,rfl⟩
   have hne:(x.toList == y.toList)=false:=by
    rw [← hx,← hy,JT,JT];simpa using he
   rw [hx] at hcA
   rw [hy] at hcB
   clear hx hy he
   go_enter Tryz.func192,Tryz.ntmps192
   go_wp2
   go_quiet (fail)
   go_wp2
   go_ret
   exact ⟨rfl,ZF (Below.refl _ _) _⟩
theorem eqSplit (d:Nat) (w:World) (x0 y0 x1 y1:Int) (x2 y2:Bool) :
    (Op.equalIn (d+2) 245 (.agg #[.int .i64 x0,.int .i64 x1,.bool x2]) (.agg #[.int .i64 y0,.int .i64 y1,.bool y2])).run Tryz.prog w=.ok (x0 == y0 && (x1 == y1 && (x2 == y2))) w:=by
 have h := Ju (P := Tryz.prog) (d := d + 1) (w := w) (xs := #[.int .i64 x0, .int .i64 x1, .bool x2]) (ys := #[.int .i64 y0, .int .i64 y1, .bool y2]) (f := ⟨"At", 3, 0, false, "", "", 0⟩) (by decide) (by go_simp; rfl) (by go_simp; rfl) (by go_simp; rfl)
  (Ju (f := ⟨"Per", 3, 1, false, "", "", 8⟩) (by decide) (by go_simp; rfl) (by go_simp; rfl) (by go_simp; rfl)
   (Ju (f := ⟨"Small", 4, 2, false, "", "", 16⟩) (by decide) (by go_simp; rfl) (by go_simp; rfl) (by go_simp; rfl) Zb5))
 rw [Bool.and_true] at h
 exact Zd9 Tryz.underlying245 (by kernel_rfl) h
theorem small_iff (b:Txt) (a q:Nat) (h:a+q≤b.length):b.take a=(b.drop q).take a↔∀ k,k<a→bx b k=bx b (k+q):=by
 constructor
 · intro he k hk
   have:=congrArg (fun l=>(l.getD k 0).toNat) he
   simp only [List.getD_eq_getElem?_getD,List.getElem?_take,List.getElem?_drop,if_pos hk] at this
   unfold bx
   rw [List.getD_eq_getElem?_getD,List.getD_eq_getElem?_getD,Nat.add_comm k q];exact this
 · intro he
   refine Zar (by rw [List.length_take,List.length_take,List.length_drop];omega) fun j hj=>?_
   have hja:j<a:=by rw [List.length_take] at hj;omega
   have:=he j hja
   unfold bx at this
   have h2:=UInt8.toNat_inj.1 this
   simp only [List.getD_eq_getElem?_getD,List.getElem?_take,List.getElem?_drop,if_pos hja] at h2 ⊢
   rw [Nat.add_comm q j];exact h2
attribute [local go_sem high] eqSplit
attribute [local go_sem] Xn XT QM Q9
set_option maxRecDepth 100000 in
set_option maxHeartbeats 1600000 in
theorem factor_calls (w:World) (ad:Addr) (c:Nat) (b:Txt) (hb:Byt w (some ad) b) (hl:b.length≤1000000) (hne:0<b.length) (hc:b.length≤c) :
    Calls Tryz.prog 140 #[.slice (some ad) b.length c] w fun e w'=>∃ (a s:Nat) (sm:Bool),e=.returned (.agg #[.int .i64 (a:Int),.int .i64 (s:Int),.bool sm])∧Cut (bx b) b.length a s sm∧Below w.heap.size w w':=by
 have hu:=Tryz.underlying245
 have HX:=As.mk hb
 clear hb
 have hmf:∀ (fn:Fn) (first cap:Array Value) (w:World),(Instr.makeFunc fn first cap).run Tryz.prog w=.ok (.func fn first cap) w:=fun _ _ _ _=>rfl
 have ca:=As.mk (fun (v:World) (h:Byt v (some ad) b) q a h1 h2=>alike_calls v ad c b h hl hc q a h1 h2)
 have cc:=As.mk (fun (v:World) (h:Byt v (some ad) b)=>cut_calls v (some ad) c b h hl hne)
 have hsm:=As.mk (fun a q h=>small_iff b a q h)
 have hco:=As.mk (fun (a q:Nat) (h:ZfL (bx b) b.length a q) (sm:Bool) hs=>cut_of hne h.1 h.2.1 h.2.2.1 h.2.2.2.1 h.2.2.2.2.1 h.2.2.2.2.2 (small:=sm) hs)
 obtain ⟨n,hn⟩:∃ n,b.length=n:=⟨_,rfl⟩
 rw [hn] at ca cc hsm hl hne hc hco
 rw [hn]
 clear hn
 go_enter Tryz.func140,Tryz.ntmps140
 go_wp2_with fail
 refine Calls.mono (cc.out _ ?_) ?_
 · exact HX.out.alloc _
 rintro e w1 ⟨a,q,rfl,hcp,hb1⟩
 have hs1:=hb1.size
 simp only [World.size_alloc] at hs1
 have hx1:=As.mk ((HX.out.alloc (.cells #[.int .i64 0,.int .i64 0,.bool false] 245)).below hb1)
 have z1:=As.mk (Zc hb1 (heap_alloc_new w (.cells #[.int .i64 0,.int .i64 0,.bool false] 245)))
 have hB1:=As.mk (((Below.refl w.heap.size w).alloc (Nat.le_refl _) (.cells #[.int .i64 0,.int .i64 0,.bool false] 245)).trans (hb1.mono (by simp)))
 have hq1:1≤q:=hcp.2.2.1
 have haq:a+q≤n:=hcp.2.2.2.2.2
 have han:a<n:=hcp.1
 replace hcp:=As.mk hcp
 clear hb1
 have hq0:((q:Int) == 0)=false:=by simp;omega
 have z2:=Zn (o':=.cells #[.int .i64 (a:Int),.int .i64 (q:Int),.bool false] 245) z1.out
 have z3:=heap_alloc_new w1 (.cells #[.int .i64 (a:Int),.int .i64 (q:Int),.bool false] 245)
 have hx2:=As.mk (hx1.out.alloc (.cells #[.int .i64 (a:Int),.int .i64 (q:Int),.bool false] 245))
 have hB2:=As.mk (hB1.out.alloc (by omega) (.cells #[.int .i64 (a:Int),.int .i64 (q:Int),.bool false] 245))
 have y0:=Za z3 0
 have y1:=Za z3 1
 have y2:=Za z3 2
 simp at y0 y1 y2
 go_wp2_with fail
 refine Calls.mono (ca.out _ hx2.out q a haq hq1) ?_
 rintro e w3 ⟨rfl,hb3⟩
 have hs3:=hb3.size
 simp only [World.size_alloc] at hs3
 have z2:=Zc hb3 z2
 have z3:=Zc hb3 z3
 have hB3:=As.mk (hB2.out.trans (hb3.mono (by simp;omega)))
 have hlt:w.heap.size<w1.heap.size:=by omega
 clear hb3 y0 y1 y2
 obtain ⟨sm,hsm2⟩:∃ sm,decide (b.take a=(b.drop q).take a)=sm:=⟨_,rfl⟩
 have hcut:=As.mk (hco.out a q hcp.out sm (by rw [← hsm2,decide_eq_true_iff];exact hsm.out a q haq))
 rw [hsm2]
 clear hsm2
 generalize w1.heap.size=b3 at *
 obtain ⟨r0,hr0⟩:∃ r0,w.heap.size=r0:=⟨_,rfl⟩
 rw [hr0] at z2 hB3 hlt ⊢
 have y0:=Za z3 0
 have y1:=Za z3 1
 have y2:=Za z3 2
 have g0:=Za z2 0
 have g1:=Za z2 1
 have g2:=Za z2 2
 have f0:=Zb z3 0
 have f1:=Zb z3 1
 have f2:=Zb z3 2
 have k0:=Zb z2 0
 have k1:=Zb z2 1
 have k2:=Zb z2 2
 simp at y0 y1 y2 g0 g1 g2
 have hne3:¬ r0=b3:=by omega
 have hne4:¬ b3=r0:=by omega
 have hbs3:=Zf z3
 cases sm with
 | true =>
   have e2:(w3.setCell ⟨b3,2,none⟩ (.bool true)).cell? ⟨b3,2,none⟩=some (.bool true):=(Za (Zi z3 2 _) 2).trans (by simp)
   have zr:=Z2 z2 (p:=⟨b3,2,none⟩) hne3 (.bool true)
   obtain ⟨o0,o1,o2⟩:=ZfK zr (.int .i64 (a:Int)) (.int .i64 (q:Int)) (.bool true)
   replace z2:=As.mk z2
   replace z3:=As.mk z3
   replace zr:=As.mk zr
   go_wp2
   refine bodyPost_ret (v:=.agg #[.int .i64 (a:Int),.int .i64 (q:Int),.bool true]) (by simp [results,Tryz.results140,go_sem,o0,o1,o2]) rfl ⟨a,q,true,rfl,hcut.out,?_⟩
   rw [hr0]
   exact (((hB3.out.setCell (by show r0≤b3;omega) _).setCell (Nat.le_refl _) _).setCell (Nat.le_refl _) _).setCell (Nat.le_refl _) _
 | false =>
   have hmx:As (((max a (n - a)+1:Nat):Int)=max (a:Int) ((n:Int) - (a:Int))+1):=⟨by omega⟩
   obtain ⟨S,hS⟩:∃ S:Nat,max a (n - a)+1=S:=⟨_,rfl⟩
   have hS2:max (a:Int) ((n:Int) - (a:Int))+1=(S:Int):=by rw [← hmx.out,hS]
   have e2:(w3.setCell ⟨b3,2,none⟩ (.bool false)).cell? ⟨b3,2,none⟩=some (.bool false):=(Za (Zi z3 2 _) 2).trans (by simp)
   have e1:((w3.setCell ⟨b3,2,none⟩ (.bool false)).setCell ⟨b3,1,none⟩ (.int .i64 (S:Int))).cell? ⟨b3,1,none⟩=some (.int .i64 (S:Int)):=(Za (Zi (Zi z3 2 _) 1 _) 1).trans (by simp)
   have zr:=Z2 (Z2 z2 (p:=⟨b3,2,none⟩) hne3 (.bool false)) (p:=⟨b3,1,none⟩) hne3 (.int .i64 (S:Int))
   obtain ⟨o0,o1,o2⟩:=ZfK zr (.int .i64 (a:Int)) (.int .i64 (S:Int)) (.bool false)
   have hcut2:As (Cut (bx b) n a S false):=⟨by have:=hcut.out;simp only [Bool.false_eq_true,if_false] at this;rw [hS] at this;exact this⟩
   replace z2:=As.mk z2
   replace z3:=As.mk z3
   replace zr:=As.mk zr
   clear hcut hS
   have hw1:IntKind.i64.wrap ((n:Int) - (a:Int))=(n:Int) - (a:Int):=IntWalk.i64_in _ (by omega)
   go_wp2
   refine bodyPost_ret (v:=.agg #[.int .i64 (a:Int),.int .i64 (S:Int),.bool false]) (by simp [results,Tryz.results140,go_sem,o0,o1,o2]) rfl ⟨a,S,false,rfl,hcut2.out,?_⟩
   rw [hr0]
   exact ((((hB3.out.setCell (by show r0≤b3;omega) _).setCell (by show r0≤b3;omega) _).setCell (Nat.le_refl _) _).setCell (Nat.le_refl _) _).setCell (Nat.le_refl _) _
end Go.Proofs.YtfdlaomnecjfeaaGreatDoor
end
