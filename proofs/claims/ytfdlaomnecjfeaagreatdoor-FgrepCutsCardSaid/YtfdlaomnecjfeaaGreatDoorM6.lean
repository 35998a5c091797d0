/- Joined texts: Sparse4, DfaPure, Fold, Fold2, Classes, Dfa, LinksWalk5, Dfa2. -/
import Derived.Test.YtfdlaomnecjfeaaGreatDoorM5
import Derived.Test.YtfdlaomnecjfeaaGreatDoorM4
import Derived.Test.YtfdlaomnecjfeaaGreatDoorM2
import Derived.Deep.LoopGhost
import Derived.Deep.MidRow
import Derived.Laws.Bits64b
import Derived.ChangeKeysEq
import Derived.StillTailTactics
import Derived.Deep.WholeRow
import Derived.WalkSpells
set_option linter.unusedVariables false
set_option linter.unusedSimpArgs false
section
namespace Go.Proofs.YtfdlaomnecjfeaaGreatDoor
open Go.RowKit Go.Maps Seine.Trie Seine.Links Seine.Sparse
open Seine.Sort (sortP sortP_len)
/-- A counting that has room. -/
def Cn.room (c:Cn):Prop:=0≤c.s∧c.s≤100000000000∧0≤c.l∧c.l≤100000000000∧0≤c.h∧c.h≤100000000000∧0≤c.m∧c.m≤100000000000
def Cn.more (c:Cn) (i k:Nat):Cn:=⟨c.s+(i:Int),c.l+(k:Int),c.h,c.m⟩
theorem Cn.more_zero (c:Cn):c.more 0 0=c:=by unfold Cn.more;simp
theorem Cn.more_ok {c:Cn} (h:c.room) {i k:Nat} (hi:i≤1000000) (hk:k≤2000000):(c.more i k).ok:=by unfold Cn.room at h;unfold Cn.more Cn.ok;simp only;omega
theorem Keeps.transBelow {S:Nat→Prop} {w0 wr w4:World} (h:Keeps S w0 wr) (k:Below w0.heap.size wr w4):Keeps S w0 w4 :=
 ⟨k.os.trans h.os,k.tape.trans h.tape,k.output.trans h.output,Nat.le_trans h.size k.size,fun i hi hn=>(k.block i hi).trans (h.block i hi hn)⟩
theorem Mo.belowAt {w w':World} {mo:Option Nat} {c:Cn} {base:Nat} (h:Mo w mo c) (hlt:∀ g,mo=some g→g<base) (hb:Below base w w'):Mo w' mo c:=fun g e=>(hb.block g (hlt g e)).trans (h g e)
theorem OwnPrs.row2 {w:World} {base:Nat} {v:Value} {xs:List Pr} (h:OwnPrs w base v xs):∃ A c,v=.slice A xs.length c∧xs.length≤c∧c≤maxLen∧Prs w A xs:=by
 obtain ⟨A,c,rfl,hc,hr⟩:=OwnPrs.row h
 refine ⟨A,c,rfl,hc,?_,hr⟩
 rcases h.2 with ⟨hv,_⟩ | ⟨g,cap,cur,hv,_,_,_,hcm,_⟩
 · injection hv with _ _ h;omega
 · injection hv with _ _ h;omega
/-- Pairs in new memory; all that was there stays, but for what counts. -/
def RetPrsM (w:World) (mo:Option Nat) (xs:List Pr) (cn:Cn) (e:Ending) (w':World):Prop:=∃ v,e=.returned v∧OwnPrs w' w.heap.size v xs∧Mo w' mo cn∧Keeps (Zu mo) w w'
theorem RetPrsM.out {w w':World} {mo:Option Nat} {xs:List Pr} {cn:Cn} {e:Ending} (h:RetPrsM w mo xs cn e w'):∃ A c,e=.returned (.slice A xs.length c)∧xs.length≤c∧c≤maxLen∧Prs w' A xs∧Mo w' mo cn∧Keeps (Zu mo) w w'∧OwnPrs w' w.heap.size (.slice A xs.length c) xs:=by
 obtain ⟨v,rfl,ho,hm,hk⟩:=h
 obtain ⟨A,c,rfl,hc,hcm,hr⟩:=OwnPrs.row2 ho
 exact ⟨A,c,rfl,hc,hcm,hr,hm,hk,ho⟩
/-- What a scan hands from byte to byte. -/
structure ScanAt (w wr:World) (P l:List Txt) (L:Txt) (mo:Option Nat) (cn:Cn) (i:Nat) (v:Value):Prop where
 own:OwnPrs wr w.heap.size v (Z1 P l L i)
 mt:Mo wr mo (cn.more i (ZU P L i))
 keep:Keeps (Zu mo) w wr
theorem RetInts.out {w w':World} {xs:List Int} {e:Ending} (h:RetInts w xs e w'):∃ v,e=.returned v∧OwnInts w' w.heap.size v xs∧Below w.heap.size w w':=h
theorem Zer {P l:List Txt} (hT:Tree P) (t:Txt):Yb P l (place P (lng P t))=endsF l (lng P t):=by
 obtain ⟨a,ea,ha⟩:=QR (Jt hT t)
 rw [ea];exact JF hT ha
theorem Zck {l:List Txt} {s:Txt} {n:Int} (h:n∈endsF l s):1≤n∧n≤s.length:=by
 obtain ⟨k,h1,_,rfl⟩:=mem_endsF.1 h;omega
set_option maxRecDepth 100000 in
set_option maxHeartbeats 3200000 in
theorem sscan_calls (w:World) (g:Nat) (P l:List Txt) (h:AutoAt w g P l) (mo:Option Nat) (cn:Cn) (hm:Mo w mo cn) (hok:cn.room) (hT:Tree P) (hlP:∀ x,x∈l→x∈P) (m:Nat) (hpm:∀ p∈P,p.length≤m) (hm1:m≤100000) (hl:P.length≤1000000)
    (A:Option Addr) (c:Nat) (L:Txt) (hx:Byt w A L) (hL:L.length≤1000000) (hLm:L.length * m≤1000000) :
    Calls Tryz.prog 264 #[.pointer (some ⟨g,0,none⟩),.pointer (Xk mo),.slice A L.length c] w (RetPrsM w mo (sortP (Z1 P l L L.length)) (cn.more L.length (ZU P L L.length))):=by
 have HA:=As.mk h
 have HM:=As.mk hm
 have hTr:=As.mk hT
 have ctx:=As.mk (fun v (hv:Below w.heap.size w v)=>Zcb v mo cn (HM.out.below hv) A c L (Row.below hx hv) hL)
 obtain ⟨B,h1,h2,h3,h4⟩:=h
 obtain ⟨Av,cv,hv,hcv⟩:=Zk h4
 have hrow:=Row.of_own (by rw [hv] at h4;exact h4)
 have csp:=As.mk (fun v (hb:Below w.heap.size w v)=>msparse_calls v mo Av cv (P.length - 1) P hT hl (Row.below hrow hb) rfl)
 have hc2:=As.mk (fun v (hb:Below w.heap.size w v)=>(show v.cell? ⟨g,2,none⟩=some (.slice Av (P.length - 1) cv) by rw [← hv];exact Za (Zc hb h1) 2))
 have d0:=hc2.out _ ((Below.refl _ _).drew)
 obtain ⟨n,hn⟩:∃ k,L.length=k:=⟨_,rfl⟩
 obtain ⟨pl,hpl⟩:∃ k,P.length - 1=k:=⟨_,rfl⟩
 rw [hn] at ctx hL hLm ⊢
 rw [hpl] at csp hc2 d0
 have hn':=As.mk hn
 have hpm':=As.mk hpm
 have hlP':=As.mk hlP
 have hpl':=As.mk hpl
 clear h1 h2 h3 h4 hv hrow hm hT hx hn hpm hlP hpl
 go_enter Tryz.func264,Tryz.ntmps264
 go_wp2_with fail
 go_cut [7,8] (fun v7 v8 wx=>∃ tb eb,v7=.pointer (some ⟨tb,0,none⟩)∧v8=.pointer (some ⟨eb,0,none⟩)∧As (TextAt wx tb mo L)∧As (TabS wx eb mo P)∧As (Below w.heap.size w wx))
 case first =>
  have hwd:Below w.heap.size w w.drew:=(Below.refl _ _).drew
  go_region_with (first
   | (go_at_call 266;with_reducible refine Calls.mono (ctx.out _ ?hv) ?_;(case hv=>with_reducible assumption);rintro e w1 ⟨tb,rfl,ht1,hb1⟩;have hw1:Below w.heap.size w w1:=Ze (by with_reducible assumption) hb1;have d1:=hc2.out _ hw1)
   | (go_at_call 267;with_reducible refine Calls.mono (csp.out _ ?hv) ?_;(case hv=>with_reducible assumption);rintro e w2 ⟨eb,rfl,ht2,hb2⟩;have hw2:Below w.heap.size w w2:=Ze (by with_reducible assumption) hb2))
  all_goals
   go_wp2_with fail
   go_meet
   case rel=>first
    | exact ⟨tb,eb,rfl,rfl,⟨ht1.below hb2⟩,⟨ht2⟩,⟨hw2⟩⟩
    | exact ⟨tb,eb,rfl,rfl,⟨ht1⟩,⟨ht2.below hb1⟩,⟨hw1⟩⟩
 case rest =>
  obtain ⟨tb,eb,rfl,rfl,hTx,hTab,hbw⟩:=hcut
  obtain ⟨W0,hW0⟩:∃ W,wc=W:=⟨_,rfl⟩
  rw [hW0] at hTx hTab hbw ⊢
  clear hW0 ctx csp hc2 d0
  have hA0:=As.mk (HA.out.below hbw.out)
  have hM0:=As.mk (HM.out.below hbw.out)
  have hglt:=As.mk (fun g (e:mo=some g)=>(Zf (hM0.out g e):g<W0.heap.size))
  have clen:=As.mk (ZaI W0 tb mo L hTx.out)
  rw [hn'.out] at clen
  have hS0:As (ScanAt W0 W0 P l L mo cn 0 (.slice none 0 0)):=⟨⟨World.ownsRow_nil _ _ _ _,by rw [show ZU P L 0=0 from rfl,Cn.more_zero];exact hM0.out,Keeps.refl _ _⟩⟩
  have hp0:place P (lng P (L.take 0))=0:=by rw [List.take_zero,ZdZ,ZO hTr.out.nodup hTr.out.root];rfl
  go_wp2_with (go_at_call 268;refine Calls.mono clen.out ?_;rintro e w' ⟨rfl,rfl⟩)
  go_loopg [9,10,27] (n+1) (fun gk v9 v10 v27 wr=>∃ (i:Nat) (u:Value),u=v9∧As (n+1≤gk+i)∧i≤n∧v27=.int .i64 i∧v10=.int .i64 (place P (lng P (L.take i)))∧As (ScanAt W0 wr P l L mo cn i u))
  case atStart=>exact ⟨0,_,rfl,⟨by omega⟩,Nat.zero_le _,rfl,by rw [hp0],hS0⟩
  case round =>
   obtain ⟨i,u,rfl,hgk,hi,rfl,rfl,hS⟩:=hrel
   by_cases hlt:i<n
   · obtain ⟨gp,rfl⟩:∃ gp,gk=gp+1:=⟨gk - 1,by have:=hgk.out;omega⟩
     have hlook:=looksTo_cost hTr.out L (i+1) (by rw [hn'.out];omega)
     have hlook0:=looksTo_cost hTr.out L i (by rw [hn'.out];omega)
     have cat:=As.mk (Zeb wr tb mo L (hTx.out.keep hM0.out hS.out.keep) _ hS.out.mt (Cn.more_ok hok (by omega) (by omega)) i (by rw [hn'.out];exact hlt))
     have hsm:=Jt hTr.out (L.take i)
     have hsx:ZU P L (i+1)=ZU P L i+Qi P (lng P (L.take i)) (L.getD i 0):=rfl
     have hnx:lng P (lng P (L.take i)++[L.getD i 0])=lng P (L.take (i+1)):=by rw [ZaQ L i (by rw [hn'.out];exact hlt),← ZcV hTr.out]
     have cst:=As.mk (fun v (hk:Keeps (Zu mo) W0 v) (hmv:Mo v mo (cn.more (i+1) (ZU P L i)))=>sstep_calls v g eb P l (hA0.out.keepM hM0.out hk) mo (hTab.out.keep hM0.out hk) _ hmv hTr.out hl _ hsm (L.getD i 0) ⟨by
      have h1:(cn.more (i+1) (ZU P L i)).looked (Qi P (lng P (L.take i)) (L.getD i 0))=cn.more (i+1) (ZU P L (i+1)):=by rw [hsx];unfold Cn.more Cn.looked;simp only [Cn.mk.injEq,true_and,and_true];push_cast;omega
      rw [h1];exact Cn.more_ok hok (by omega) (by omega),Cn.more_ok hok (by omega) (by omega)⟩)
     have hlk:(cn.more (i+1) (ZU P L i)).looked (Qi P (lng P (L.take i)) (L.getD i 0))=cn.more (i+1) (ZU P L (i+1)):=by rw [hsx];unfold Cn.more Cn.looked;simp only [Cn.mk.injEq,true_and,and_true];push_cast;omega
     rw [hnx,hlk] at cst
     have hmS:{ cn.more i (ZU P L i) with s:=(cn.more i (ZU P L i)).s+1 }=cn.more (i+1) (ZU P L i):=by unfold Cn.more;simp only [Cn.mk.injEq,true_and,and_true];push_cast;omega
     rw [hmS] at cat
     have hendE:=Zer (l:=l) hTr.out (L.take (i+1))
     have hEl:=Zbq l (lng P (L.take (i+1)))
     have hEm:=hpm'.out _ (Jt hTr.out (L.take (i+1)))
     have hEr:=As.mk (fun z (hz:z∈endsF l (lng P (L.take (i+1))))=>Zck hz)
     have hh:Z1 P l L (i+1)=Z1 P l L i++(endsF l (lng P (L.take (i+1)))).map fun z=>(((i+1:Nat):Int) - z,((i+1:Nat):Int)):=rfl
     have hhl:=YA (l:=l) hTr.out L m hpm'.out i
     have hll:=Zfx hTr.out (L.take (i+1))
     rw [List.length_take,hn'.out] at hll
     have cen:=As.mk (fun v (hk:Keeps (Zu mo) W0 v)=>(by
      obtain ⟨B,h1,h2,h3,h4⟩:=hA0.out.keepM hM0.out hk
      have:=Zcj v B.lb B.lg P l hTr.out hlP'.out (fun p hp=>Nat.le_trans (hpm'.out p hp) hm1) h3 (place P (lng P (L.take (i+1))))
      rw [hendE] at this
      exact ⟨_,Za h1 1,this⟩:∃ lg,v.cell? ⟨g,1,none⟩=some (.pointer (some ⟨lg,0,none⟩))∧Calls Tryz.prog 271 #[.pointer (some ⟨lg,0,none⟩),.int .i64 (place P (lng P (L.take (i+1))))] v (RetInts v (endsF l (lng P (L.take (i+1)))))))
     generalize endsF l (lng P (L.take (i+1)))=E at *
     obtain ⟨st2,hst2⟩:∃ x,place P (lng P (L.take (i+1)))=x:=⟨_,rfl⟩
     rw [hst2] at cst hendE cen
     replace hst2:=As.mk hst2
     generalize place P (lng P (L.take i))=st1 at *
     generalize L.getD i 0=x at *
     have hwx:IntKind.u8.wrap (x.toNat:Int)=(x.toNat:Int):=by have:=x.toNat_lt;simp only [IntKind.wrap,IntKind.signed,IntKind.bits];simp;omega
     replace hh:=As.mk hh
     clear hsx hnx hlk hmS hendE hsm hlook hlook0
     go_wp2_with (first
      | (go_at_call 270;refine Calls.mono cat.out ?_;rintro e w4 ⟨rfl,hm4,hk4⟩;have hk4':=hS.out.keep.trans hk4)
      | (go_at_call 269;refine Calls.mono (cst.out _ hk4' hm4) ?_;rintro e w5 ⟨rfl,hm5,hk5⟩;have hk5':=hk4'.trans hk5;obtain ⟨lg,hlg,cE⟩:=cen.out _ hk5')
      | (go_at_call 271;refine Calls.mono cE ?_;intro e w6 h6;obtain ⟨vE,heE,hoE,hb6⟩:=h6.out;subst heE;obtain ⟨AE,cE',rfl,hcE⟩:=Zk hoE))
     obtain ⟨H,hH⟩:∃ H,Z1 P l L i=H:=⟨_,rfl⟩
     obtain ⟨hSo,hSm,hSk⟩:=hS.out
     rw [hH] at hSo hh hhl
     obtain ⟨el,hel⟩:∃ k,E.length=k:=⟨_,rfl⟩
     have hown6:OwnPrs w6 W0.heap.size u H:=Zo (Zj (Zj hSo hk4 (fun b c' _ hb _=>hSm.far hb (.inr (by decide)))) hk5 (fun b c' _ hb _=>hm4.far hb (.inr (by decide)))) hb6
     have hin:As (OwnPrs w6 W0.heap.size u (H++(E.take 0).map fun z=>(((i+1:Nat):Int) - z,((i+1:Nat):Int)))):=⟨by rw [List.take_zero,List.map_nil,List.append_nil];exact hown6⟩
     have hmo6:=As.mk (hm5.below hb6)
     have hkp6:=As.mk (hk5'.trans (Keeps.of_below hb6 _))
     have hoE':=As.mk hoE
     have hW5:=hk5'.size
     rw [hel] at hcE ⊢
     have hHl:As (H.length+el≤1000000):=⟨by
      have:(i+1) * m≤n * m:=Nat.mul_le_mul_right _ (by omega)
      rw [Nat.succ_mul] at this
      omega⟩
     have hel6:el≤1000000:=by have:=hHl.out;omega
     replace hel:=As.mk hel
     replace hH:=As.mk hH
     clear cat cst cen cE hm4 hk4 hk4' hm5 hk5 hk5' hb6 h6 hoE hown6 hS hSo hSm hSk hhl hlg
     go_loopg [9,45] (el+1) (fun g2 v9 v45 wq=>∃ (j:Nat) (u2:Value),u2=v9∧As (el+1≤g2+j)∧j≤el∧v45=.int .i64 j∧As (OwnPrs wq W0.heap.size u2 (H++(E.take j).map fun z=>(((i+1:Nat):Int) - z,((i+1:Nat):Int))))∧As (Mo wq mo (cn.more (i+1) (ZU P L (i+1))))∧As (Keeps (Zu mo) W0 wq)∧As (wq.ownsRow w5.heap.size 3 1 (.slice AE el cE') el (Z9 E)))
     case atStart=>exact ⟨0,_,rfl,⟨by omega⟩,Nat.zero_le _,rfl,hin,hmo6,hkp6,⟨by rw [← hel.out];exact hoE'.out⟩⟩
     case round =>
      obtain ⟨j,u2,rfl,hgk2,hj,rfl,hown,hmq,hkq,hoq⟩:=hrel
      by_cases hjl:j<el
      · obtain ⟨gq,rfl⟩:∃ gq,gk=gq+1:=⟨gk - 1,by have:=hgk2.out;omega⟩
        obtain ⟨ad,rfl,hc0⟩:=Ints.at_ (Row.of_own hoq.out) (i:=j) (by rw [hel.out];exact hjl)
        have hjE:j<E.length:=by rw [hel.out];exact hjl
        have hzz:=hEr.out (E.getD j 0) (by rw [List.getD_eq_getElem?_getD,List.getElem?_eq_getElem hjE];exact List.getElem_mem hjE)
        have htk:(E.take (j+1)).map (fun z=>(((i+1:Nat):Int) - z,((i+1:Nat):Int)))=(E.take j).map (fun z=>(((i+1:Nat):Int) - z,((i+1:Nat):Int)))++[(((i+1:Nat):Int) - E.getD j 0,((i+1:Nat):Int))]:=by
         rw [List.take_succ_eq_append_getElem hjE,List.map_append,List.getD_eq_getElem?_getD,List.getElem?_eq_getElem hjE];rfl
        have hql:(H++(E.take j).map fun z=>(((i+1:Nat):Int) - z,((i+1:Nat):Int))).length+1≤1000000:=by
         rw [List.length_append,List.length_map,List.length_take]
         have:=hHl.out;omega
        generalize (E.take j).map (fun z=>(((i+1:Nat):Int) - z,((i+1:Nat):Int)))=Q at *
        generalize E.getD j 0=z at *
        obtain ⟨ql,hqq⟩:∃ k,(H++Q).length=k:=⟨_,rfl⟩
        rw [hqq] at hql
        have hown':wr.ownsRow W0.heap.size 67 2 u2 ql (Zr (H++Q)):=by have:=hown.out;unfold OwnPrs at this;rwa [hqq] at this
        have hz0:=hzz.1
        have hz1:=hzz.2
        have hsq:=hkq.out.size
        have hwz:IntKind.i64.wrap ((i:Int)+1 - z)=(i:Int)+1 - z:=by simp only [IntKind.wrap,IntKind.signed,IntKind.bits];simp;omega
        replace hown':=As.mk hown'
        replace hqq:=As.mk hqq
        replace htk:=As.mk htk
        clear hjE hzz hown
        go_wp2_with (at_builtin
                     (refine ZA wr rfl (.tmp 49) (.tmp 57) 64 rfl W0.heap.size 67 _ 2 16 Tryz.underlying64 Xl rfl (by decide) u2 ql (Zr (H++Q)) rfl hown'.out [.int .i64 ((i:Int)+1 - z),.int .i64 ((i:Int)+1)] rfl (by simp [Value.oneCell']) _ rfl (by simp) (by omega) (by decide) hsq ?_)
                     intro v8 w8 ho8 hk8 _ hb8)
        have hoq8:=Zj hoq.out hk8 (fun b c' _ hb _ hS=>Zy hown'.out hb (by decide) hS)
        have hkq8:=hkq.out.transBelow hb8
        have hmq8:=hmq.out.belowAt hglt.out hb8
        go_roundg gq
        case rel =>
         refine ⟨j+1,_,rfl,⟨by have:=hgk2.out;omega⟩,by omega,(by first | rfl | go_num | (congr 1;omega)),⟨?_⟩,⟨hmq8⟩,⟨hkq8⟩,⟨hoq8⟩⟩
         rw [htk.out,← List.append_assoc]
         unfold OwnPrs
         rw [List.length_append,hqq.out,List.length_singleton,Xa]
         push_cast
         exact ho8
        case measure=>omega
      · obtain rfl:el=j:=by omega
        have hfin:As (ScanAt W0 wr P l L mo cn (i+1) u2):=⟨⟨by rw [hh.out];have:=hown.out;rw [List.take_of_length_le (by rw [hel.out];exact Nat.le_refl _)] at this;exact this,hmq.out,hkq.out⟩⟩
        go_wp2
        go_roundg gp
        case rel=>exact ⟨i+1,_,rfl,⟨by have:=hgk.out;omega⟩,by omega,(by first | rfl | go_num | (congr 1;omega)),congrArg _ hst2.out.symm,hfin⟩
        case measure=>omega
   · obtain rfl:n=i:=by omega
     have hhl:=YA (l:=l) hTr.out L m hpm'.out n
     have hso:RetPrsM w mo (sortP (Z1 P l L n)) (cn.more n (ZU P L n))=RetPrsM w mo (sortP (Z1 P l L n)) (cn.more n (ZU P L n)):=rfl
     have hSo:=hS.out.own
     have hSm:=As.mk hS.out.mt
     have hSk:=As.mk hS.out.keep
     obtain ⟨Ao,co,rfl,hco,hcm,hro⟩:=OwnPrs.row2 hSo
     have cso:=As.mk (YB _ Ao co (Z1 P l L n) wr (Nat.le_refl _) hro hco hcm (by omega))
     have hss:=hS.out.keep.size
     clear hSo hro hS hso
     generalize sortP (Z1 P l L n)=R at *
     go_wp2_with (go_at_call 147;refine Calls.mono cso.out ?_;intro e w9 h9;obtain ⟨v9,he,ho9,hb9⟩:=h9.out;subst he)
     go_ret
     have hs0:=hbw.out.size
     exact ⟨v9,rfl,ZB ho9 (by omega),hSm.out.below hb9,((Keeps.of_below hbw.out _).trans hSk.out).trans (Keeps.of_below hb9 _)⟩
end Go.Proofs.YtfdlaomnecjfeaaGreatDoor
end
section
namespace Seine.Dfa
open Seine.Trie Seine.Links Seine.Sparse
def stands (l:List Txt) (c:UInt8):Bool:=l.any fun t=>decide (c∈t)
theorem stands_iff {l:List Txt} {c:UInt8}:stands l c=true↔∃ t∈l,c∈t:=by
 unfold stands
 rw [List.any_eq_true]
 constructor
 · rintro ⟨t,h1,h2⟩;exact ⟨t,h1,of_decide_eq_true h2⟩
 · rintro ⟨t,h1,h2⟩;exact ⟨t,h1,decide_eq_true h2⟩
theorem stands_snoc (l:List Txt) (t:Txt) (c:UInt8):stands (l++[t]) c=(stands l c || decide (c∈t)):=by unfold stands;rw [List.any_append];simp
/-- Those of a set below k, rising. -/
def listTo (q:UInt8→Bool) (k:Nat):Txt:=((List.range k).map UInt8.ofNat).filter q
theorem Yc (q:UInt8→Bool) (k:Nat):listTo q (k+1)=listTo q k++if q (UInt8.ofNat k)=true then [UInt8.ofNat k] else []:=by
 unfold listTo
 rw [List.range_succ,List.map_append,List.filter_append]
 congr 1
 by_cases h:q (UInt8.ofNat k)=true <;> simp [h]
theorem ZaT (q:UInt8→Bool) (k:Nat):(listTo q k).length≤k:=by
 unfold listTo
 exact Nat.le_trans (List.length_filter_le _ _) (by simp)
/-- A byte's class: how many of those that stand are no greater; 0: it doesn't stand. -/
def ZV (l:List Txt) (c:UInt8):Nat:=if stands l c=true then (listTo (stands l) (c.toNat+1)).length else 0
def XM (l:List Txt):Nat:=(listTo (stands l) 256).length+1
theorem Zcl (q:UInt8→Bool) {a b:Nat} (h:a≤b):(listTo q a).length≤(listTo q b).length:=by
 obtain ⟨m,rfl⟩:∃ m,b=a+m:=⟨b - a,by omega⟩
 induction m with
 | zero=>exact Nat.le_refl _
 | succ m ih =>
   have:=ih (by omega)
   rw [← Nat.add_assoc,Yc,List.length_append];omega
theorem Zdq (q:UInt8→Bool) (c:UInt8) (h:q c=true):(listTo q (c.toNat+1)).length=(listTo q c.toNat).length+1:=by
 rw [Yc,List.length_append,if_pos (by simpa using h)];rfl
theorem Ze9 {l:List Txt} {c:UInt8} (h:stands l c=true):0<ZV l c:=by
 unfold ZV
 rw [if_pos h,Zdq _ _ h];omega
theorem Zes {l:List Txt} {c:UInt8} (h:¬ stands l c=true):ZV l c=0:=if_neg h
theorem ZbZ (l:List Txt) (c:UInt8):ZV l c<XM l:=by
 unfold ZV XM
 split
 · have:=Zcl (stands l) (a:=c.toNat+1) (b:=256) (by have:=c.toNat_lt;omega)
   omega
 · omega
theorem clsF_inj {l:List Txt} {c d:UInt8} (hc:stands l c=true) (hd:stands l d=true) (h:ZV l c=ZV l d):c=d:=by
 have key:∀ {c d:UInt8},stands l c=true→stands l d=true→c.toNat<d.toNat→ZV l c<ZV l d:=by
  intro c d hc hd hlt
  unfold ZV
  rw [if_pos hc,if_pos hd,Zdq _ d hd]
  have:=Zcl (stands l) (a:=c.toNat+1) (b:=d.toNat) (by omega)
  omega
 rcases Nat.lt_trichotomy c.toNat d.toNat with e | e | e
 · have:=key hc hd e;omega
 · exact UInt8.toNat_inj.1 e
 · have:=key hd hc e;omega
/-- What stands at the k-th place of those that stand. -/
theorem ZaU (q:UInt8→Bool) (n:Nat) (hn:n≤256) (i:Nat) (hi:i<(listTo q n).length):∃ c:UInt8,(listTo q n)[i]? = some c∧q c=true∧c.toNat<n∧(listTo q (c.toNat+1)).length=i+1:=by
 induction n with
 | zero=>simp [listTo] at hi
 | succ n ih =>
   rw [Yc] at hi ⊢
   by_cases h:i<(listTo q n).length
   · obtain ⟨c,h1,h2,h3,h4⟩:=ih (by omega) h
     exact ⟨c,by rw [List.getElem?_append_left h];exact h1,h2,by omega,h4⟩
   · rw [List.length_append] at hi
     by_cases hq:q (UInt8.ofNat n)=true
     · rw [if_pos hq] at hi ⊢
       have hi2:i=(listTo q n).length:=by simp at hi;omega
       have hc:(UInt8.ofNat n).toNat=n:=by simp;omega
       exact ⟨UInt8.ofNat n,by rw [hi2,List.getElem?_append_right (Nat.le_refl _)];simp,hq,by omega,by rw [hc,Yc,if_pos hq,hi2];simp⟩
     · rw [if_neg hq] at hi;simp at hi;omega
/-- Classes of the first i of those that stand. -/
def Xx (l:List Txt) (i:Nat) (c:UInt8):Nat:=if c∈(listTo (stands l) 256).take i then ZV l c else 0
theorem mem_listTo {q:UInt8→Bool} {c:UInt8}:c∈listTo q 256↔q c=true:=by
 unfold listTo
 rw [List.mem_filter,List.mem_map]
 constructor
 · exact fun h=>h.2
 · intro h
   exact ⟨⟨c.toNat,List.mem_range.2 c.toNat_lt,by simp⟩,h⟩
theorem clsTo_zero (l:List Txt) (c:UInt8):Xx l 0 c=0:=by unfold Xx;simp
theorem clsTo_all (l:List Txt) (c:UInt8):Xx l (listTo (stands l) 256).length c=ZV l c:=by
 unfold Xx
 rw [List.take_length]
 by_cases h:stands l c=true
 · rw [if_pos (mem_listTo.2 h)]
 · rw [if_neg (fun e=>h (mem_listTo.1 e)),Zes h]
theorem clsTo_step (l:List Txt) (i:Nat) (b:UInt8) (hi:(listTo (stands l) 256)[i]? = some b) (c:UInt8):Xx l (i+1) c=if c=b then i+1 else Xx l i c:=by
 have hil:=(List.getElem?_eq_some_iff.1 hi).1
 obtain ⟨b',h1,h2,_,h4⟩:=ZaU (stands l) 256 (Nat.le_refl _) i hil
 rw [hi] at h1
 injection h1 with h1
 subst h1
 have htk:(listTo (stands l) 256).take (i+1)=(listTo (stands l) 256).take i++[b]:=by
  rw [List.take_succ_eq_append_getElem hil];congr 2;exact (List.getElem?_eq_some_iff.1 hi).2
 unfold Xx
 rw [htk]
 by_cases h:c=b
 · subst h
   rw [if_pos (by simp),if_pos rfl]
   unfold ZV
   rw [if_pos h2,h4]
 · rw [if_neg h]
   by_cases hc:c∈(listTo (stands l) 256).take i
   · rw [if_pos (List.mem_append_left _ hc),if_pos hc]
   · rw [if_neg (by simp [hc,h]),if_neg hc]
/-- The byte of a class. -/
def ZaA (l:List Txt) (k:Nat):Option UInt8:=if k=0 then none else (listTo (stands l) 256)[k - 1]?
theorem Zdr {l:List Txt} {c:UInt8} (h:stands l c=true):ZaA l (ZV l c)=some c:=by
 unfold ZaA
 rw [if_neg (by have:=Ze9 h;omega)]
 have h1:=ZbZ l c
 have h0:=Ze9 h
 unfold XM at h1
 obtain ⟨d,a1,a2,_,a4⟩:=ZaU (stands l) 256 (Nat.le_refl _) (ZV l c - 1) (by omega)
 rw [a1]
 congr 1
 refine clsF_inj a2 h ?_
 have:ZV l d=(listTo (stands l) (d.toNat+1)).length:=by unfold ZV;rw [if_pos a2]
 rw [this,a4];omega
theorem byteOf_stands {l:List Txt} {k:Nat} {c:UInt8} (h:ZaA l k=some c):stands l c=true∧ZV l c=k:=by
 unfold ZaA at h
 split at h
 · cases h
 · rename_i hk
   have hl:=(List.getElem?_eq_some_iff.1 h).1
   obtain ⟨d,a1,a2,_,a4⟩:=ZaU (stands l) 256 (Nat.le_refl _) (k - 1) hl
   rw [h] at a1
   injection a1 with a1
   subst a1
   refine ⟨a2,?_⟩
   unfold ZV
   rw [if_pos a2,a4];omega
/-- A state's row: where it goes by the bytes of a class. -/
def Ym (P l:List Txt) (s:Txt) (k:Nat):Int:=match ZaA l k with | some c=>place P (lng P (s++[c])) | none=>0
theorem Zcm {l:List Txt} {s:Txt} {c:UInt8} (h:s++[c]∈Zl l):stands l c=true:=by
 rcases mem_paths.1 h with e | ⟨b,hb,k,hk,e⟩
 · simp at e
 · refine stands_iff.2 ⟨b,hb,?_⟩
   have:c∈b.take k:=by rw [← e];simp
   exact List.mem_of_mem_take this
theorem lng_foreign {l:List Txt} (s:Txt) {c:UInt8} (h:¬ stands l c=true):lng (Zl l) (s++[c])=[]:=by
 obtain ⟨n,h1,h2,h3,_⟩:=XX (ZC l) (s++[c])
 rw [h2]
 by_cases hn:n≤s.length
 · rw [Qc hn] at h3
   exact absurd (Zcm h3) h
 · rw [List.length_append,List.length_singleton] at h1
   exact List.drop_eq_nil_of_le (by simp;omega)
/-- The table is the step. -/
theorem rowF_cls (l:List Txt) (s:Txt) (c:UInt8):Ym (Zl l) l s (ZV l c)=place (Zl l) (lng (Zl l) (s++[c])):=by
 by_cases h:stands l c=true
 · unfold Ym;rw [Zdr h]
 · rw [Zes h,lng_foreign s h,ZO (ZC l).nodup (ZC l).root]
   rfl
/-- A row that is being made: base's, but for the first j bytes that lead on. -/
def Qj (P l:List Txt) (s:Txt) (base:Nat→Int) (j k:Nat):Int:=match ZaA l k with | some c=>if c∈(Qf P s).take j then place P (s++[c]) else base k | none=>base k
theorem mem_kids {P:List Txt} {s:Txt} {c:UInt8}:c∈Qf P s↔s++[c]∈P:=by
 unfold Qf
 rw [List.mem_filter,List.mem_map,decide_eq_true_eq]
 constructor
 · exact fun h=>h.2
 · intro h;exact ⟨⟨c.toNat,List.mem_range.2 c.toNat_lt,by simp⟩,h⟩
theorem JY (P l:List Txt) (s:Txt) (base:Nat→Int) (k:Nat):Qj P l s base 0 k=base k:=by unfold Qj;split <;> simp
theorem Zet (l:List Txt) (s:Txt) (base:Nat→Int) (j:Nat) (c:UInt8) (hj:(Qf (Zl l) s)[j]? = some c) (k:Nat) :
    Qj (Zl l) l s base (j+1) k=if k=ZV l c then place (Zl l) (s++[c]) else Qj (Zl l) l s base j k:=by
 have hjl:=(List.getElem?_eq_some_iff.1 hj).1
 have hc:=Zcm (mem_kids.1 (List.mem_of_getElem? hj))
 have htk:(Qf (Zl l) s).take (j+1)=(Qf (Zl l) s).take j++[c]:=by
  rw [List.take_succ_eq_append_getElem hjl];congr 2;exact (List.getElem?_eq_some_iff.1 hj).2
 by_cases hk:k=ZV l c
 · subst hk
   rw [if_pos rfl]
   unfold Qj
   rw [Zdr hc,htk]
   simp
 · rw [if_neg hk]
   unfold Qj
   split
   · rename_i d hd
     have hdc:d≠c:=fun e=>hk (by rw [← e];exact (byteOf_stands hd).2.symm)
     rw [htk]
     simp [hdc]
   · rfl
/-- Where all that lead on have been: the row of a state, out of that of where it falls to. -/
theorem rowK_done (l:List Txt) (s:Txt) (m:Nat) (hf:Xi (Zl l) s=some m) (k:Nat):Qj (Zl l) l s (Ym (Zl l) l (s.drop m)) (Qf (Zl l) s).length k=Ym (Zl l) l s k:=by
 unfold Qj Ym
 rw [List.take_length]
 split
 · rename_i c hc
   by_cases h:c∈Qf (Zl l) s
   · rw [if_pos h,JH (ZC l) (mem_kids.1 h)]
   · rw [if_neg h,JW (ZC l) (fun e=>h (mem_kids.2 e)) hf]
 · rfl
theorem rowK_root (l:List Txt) (k:Nat):Qj (Zl l) l [] (fun _=>0) (Qf (Zl l) []).length k=Ym (Zl l) l [] k:=by
 unfold Qj Ym
 rw [List.take_length]
 split
 · rename_i c hc
   by_cases h:c∈Qf (Zl l) []
   · rw [if_pos h,JH (ZC l) (mem_kids.1 h)]
   · have hn:[c] ∉ Zl l:=fun e=>h (mem_kids.2 e)
     rw [if_neg h,List.nil_append,JV (ZC l) hn,ZO (ZC l).nodup (ZC l).root]
     rfl
 · rfl
/-- c stands in the set. -/
def Qt (ws:Nat→Nat) (c:UInt8):Bool:=(ws (c.toNat / 64)).testBit (c.toNat % 64)
theorem bit_or_shift {x i j:Nat}:(x ||| 1 <<< i).testBit j=(x.testBit j || decide (j=i)):=by
 rw [Nat.testBit_or,Nat.one_shiftLeft,Nat.testBit_two_pow]
 congr 1
 rw [decide_eq_decide]
 exact eq_comm
theorem memS_with (ws:Nat→Nat) (c d:UInt8):Qt (fun i=>if i=c.toNat / 64 then ws i ||| 1 <<< (c.toNat % 64) else ws i) d=(Qt ws d || decide (d=c)):=by
 unfold Qt
 by_cases h:d.toNat / 64=c.toNat / 64
 · simp only [h,if_pos]
   rw [bit_or_shift]
   congr 1
   rw [decide_eq_decide]
   constructor
   · intro e;apply UInt8.toNat_inj.1;omega
   · rintro rfl;rfl
 · simp only [if_neg h]
   have:decide (d=c)=false:=decide_eq_false (fun e=>h (by rw [e]))
   rw [this,Bool.or_false]
theorem memS_union (ws vs:Nat→Nat) (d:UInt8):Qt (fun i=>ws i ||| vs i) d=(Qt ws d || Qt vs d):=by
 unfold Qt;rw [Nat.testBit_or]
theorem memS_none (d:UInt8):Qt (fun _=>0) d=false:=by unfold Qt;simp
end Seine.Dfa
end
section
namespace Go.Proofs.YtfdlaomnecjfeaaGreatDoor
open Go.RowKit Seine.Trie Seine.Dfa
/-- A set as the program keeps it. -/
def ZD (ws:Nat→Nat):Array Value:=#[.int .u64 (ws 0:Int),.int .u64 (ws 1:Int),.int .u64 (ws 2:Int),.int .u64 (ws 3:Int)]
def Small (ws:Nat→Nat):Prop:=∀ i,ws i<18446744073709551616
/-- ws is the set q. -/
def IsSet (ws:Nat→Nat) (q:UInt8→Bool):Prop:=Small ws∧∀ c,Qt ws c=q c
theorem IsSet.none:IsSet (fun _=>0) (fun _=>false):=⟨fun _=>Nat.zero_lt_succ _,memS_none⟩
def XQ (ws:Nat→Nat) (c:UInt8):Nat→Nat:=fun i=>if i=c.toNat / 64 then ws i ||| 1 <<< (c.toNat % 64) else ws i
theorem small_with {ws:Nat→Nat} (h:Small ws) (c:UInt8):Small (XQ ws c):=fun i=>by
 unfold XQ
 split
 · exact Nat.or_lt_two_pow (n:=64) (h i) (by
     rw [Nat.one_shiftLeft];exact Nat.pow_lt_pow_right (by omega) (Nat.mod_lt _ (by decide)))
 · exact h i
theorem IsSet.with_ {ws:Nat→Nat} {q:UInt8→Bool} (h:IsSet ws q) (c:UInt8):IsSet (XQ ws c) (fun d=>q d || decide (d=c)):=⟨small_with h.1 c,fun d=>by
 have:=memS_with ws c d
 unfold XQ
 rw [this,h.2 d]⟩
theorem IsSet.union {ws vs:Nat→Nat} {q r:UInt8→Bool} (h:IsSet ws q) (k:IsSet vs r):IsSet (fun i=>ws i ||| vs i) (fun d=>q d || r d) :=
 ⟨fun i=>Nat.or_lt_two_pow (n:=64) (h.1 i) (k.1 i),fun d=>by rw [memS_union,h.2 d,k.2 d]⟩
theorem Jo (w:World) (A B:Array Value) (t u j:Nat):((w.alloc (.cells A t)).alloc (.cells B u)).cell? ⟨w.heap.size+1,j,none⟩=B[j]?:=Za (Q8 w _ _) j
theorem alloc3cell (w:World) (A B C:Array Value) (t u v j:Nat):(((w.alloc (.cells A t)).alloc (.cells B u)).alloc (.cells C v)).cell? ⟨w.heap.size+1+1,j,none⟩=C[j]?:=by
 have h:((w.alloc (.cells A t)).alloc (.cells B u)).heap.size=w.heap.size+1+1:=by simp
 rw [← h]
 exact Za (heap_alloc_new _ _) j
theorem shl_one (k:Nat) (hk:k<64):IntKind.u64.wrap (2 ^ k)=((1 <<< k:Nat):Int):=by
 rw [IntKind.wrap_u64,Nat.one_shiftLeft]
 have:(2:Nat) ^ k<2 ^ 64:=Nat.pow_lt_pow_right (by omega) hk
 have h2:((2:Int) ^ k)=(((2:Nat) ^ k:Nat):Int):=by push_cast;rfl
 rw [h2,Int.emod_eq_of_lt (Int.natCast_nonneg _) (by omega)]
set_option maxRecDepth 100000 in
theorem with_calls (w:World) (ws:Nat→Nat) (hs:Small ws) (c:UInt8) :
    Calls Tryz.prog 212 #[.agg (ZD ws),.int .u8 (c.toNat:Int)] w fun e w'=>e=.returned (.agg (ZD (XQ ws c)))∧Below w.heap.size w w':=by
 have hc:=c.toNat_lt
 have hset:∀ (i:Nat),c.toNat / 64=i→XQ ws c=fun j=>if j=i then ws i ||| 1 <<< (c.toNat % 64) else ws j:=fun i hi=>by
  funext j
  unfold XQ
  rw [hi]
  split
  · rename_i h;rw [h]
  · rfl
 obtain ⟨k,hk⟩:∃ k,c.toNat % 64=k:=⟨_,rfl⟩
 have hk64:k<64:=by omega
 have hsh:=shl_one k hk64
 obtain ⟨b,hb⟩:∃ b,1 <<< k=b:=⟨_,rfl⟩
 have hb64:b<18446744073709551616:=by rw [← hb,Nat.one_shiftLeft];exact Nat.pow_lt_pow_right (m:=k) (n:=64) (by omega) hk64
 have hor:=fun i=>bits_or_u64_nat (ws i) b (hs i) hb64
 rw [hk,hb] at hset
 rw [hb] at hsh
 have hsV:ZD ws=#[.int .u64 (ws 0:Int),.int .u64 (ws 1:Int),.int .u64 (ws 2:Int),.int .u64 (ws 3:Int)]:=rfl
 rw [hsV]
 clear hsV
 have e2:(c.toNat:Int) % 64=(k:Int):=by omega
 rcases (show c.toNat / 64=0∨c.toNat / 64=1∨c.toNat / 64=2∨c.toNat / 64=3 by omega) with h | h | h | h
 · --
   have h2:=As.mk (hset _ h)
   have e1:(c.toNat:Int) / 64=0:=by omega
   have hor0:=hor 0
   clear hset hor hb
   have hB:∀ A B,Below w.heap.size w ((w.alloc (.cells A 290)).alloc (.cells B 290)):=fun A B=>((Below.refl _ _).alloc (Nat.le_refl _) _).alloc (by simp) _
   go_enter Tryz.func212,Tryz.ntmps212
   go_wp2
   refine bodyPost_ret (v:=.agg (ZD (XQ ws c))) ?_ rfl ⟨rfl,hB _ _⟩
   rw [h2.out]
   simp [results,Tryz.results212,go_sem,Jo,ZD,hsh,hor0]
 · --
   have h2:=As.mk (hset _ h)
   have e1:(c.toNat:Int) / 64=1:=by omega
   have hor0:=hor 1
   clear hset hor hb
   have hB:∀ A B,Below w.heap.size w ((w.alloc (.cells A 290)).alloc (.cells B 290)):=fun A B=>((Below.refl _ _).alloc (Nat.le_refl _) _).alloc (by simp) _
   go_enter Tryz.func212,Tryz.ntmps212
   go_wp2
   refine bodyPost_ret (v:=.agg (ZD (XQ ws c))) ?_ rfl ⟨rfl,hB _ _⟩
   rw [h2.out]
   simp [results,Tryz.results212,go_sem,Jo,ZD,hsh,hor0]
 · --
   have h2:=As.mk (hset _ h)
   have e1:(c.toNat:Int) / 64=2:=by omega
   have hor0:=hor 2
   clear hset hor hb
   have hB:∀ A B,Below w.heap.size w ((w.alloc (.cells A 290)).alloc (.cells B 290)):=fun A B=>((Below.refl _ _).alloc (Nat.le_refl _) _).alloc (by simp) _
   go_enter Tryz.func212,Tryz.ntmps212
   go_wp2
   refine bodyPost_ret (v:=.agg (ZD (XQ ws c))) ?_ rfl ⟨rfl,hB _ _⟩
   rw [h2.out]
   simp [results,Tryz.results212,go_sem,Jo,ZD,hsh,hor0]
 · --
   have h2:=As.mk (hset _ h)
   have e1:(c.toNat:Int) / 64=3:=by omega
   have hor0:=hor 3
   clear hset hor hb
   have hB:∀ A B,Below w.heap.size w ((w.alloc (.cells A 290)).alloc (.cells B 290)):=fun A B=>((Below.refl _ _).alloc (Nat.le_refl _) _).alloc (by simp) _
   go_enter Tryz.func212,Tryz.ntmps212
   go_wp2
   refine bodyPost_ret (v:=.agg (ZD (XQ ws c))) ?_ rfl ⟨rfl,hB _ _⟩
   rw [h2.out]
   simp [results,Tryz.results212,go_sem,Jo,ZD,hsh,hor0]
theorem Zb0 (x k:Nat) (hx:x<18446744073709551616):(bits .and .u64 ((x:Int) / 2 ^ k) 1 == 1)=x.testBit k:=by
 have h2:((2:Int) ^ k)=(((2:Nat) ^ k:Nat):Int):=by push_cast;rfl
 have h3:((x:Int) / 2 ^ k)=((x >>> k:Nat):Int):=by rw [h2,Nat.shiftRight_eq_div_pow];rfl
 have h4:x >>> k<18446744073709551616:=Nat.lt_of_le_of_lt (by rw [Nat.shiftRight_eq_div_pow];exact Nat.div_le_self _ _) hx
 have h5:=bits_and_u64_nat (x >>> k) 1 h4 (by decide)
 rw [h3,show (1:Int)=((1:Nat):Int) from rfl,h5,Nat.testBit_eq_decide_div_mod_eq,Nat.and_one_is_mod,Nat.shiftRight_eq_div_pow]
 rw [Bool.eq_iff_iff,beq_iff_eq,decide_eq_true_eq]
 omega
set_option maxRecDepth 100000 in
theorem has_calls (w:World) (ws:Nat→Nat) (hs:Small ws) (c:UInt8) (x:Int) (hx:x=(c.toNat:Int)) :
    Calls Tryz.prog 213 #[.agg (ZD ws),.int .u8 x] w fun e w'=>e=.returned (.bool (Qt ws c))∧Below w.heap.size w w':=by
 subst hx
 have hc:=c.toNat_lt
 obtain ⟨k,hk⟩:∃ k,c.toNat % 64=k:=⟨_,rfl⟩
 have hk64:k<64:=by omega
 have e2:(c.toNat:Int) % 64=(k:Int):=by omega
 have hsV:ZD ws=#[.int .u64 (ws 0:Int),.int .u64 (ws 1:Int),.int .u64 (ws 2:Int),.int .u64 (ws 3:Int)]:=rfl
 rw [hsV]
 clear hsV
 rcases (show c.toNat / 64=0∨c.toNat / 64=1∨c.toNat / 64=2∨c.toNat / 64=3 by omega) with h | h | h | h
 · --
   have e1:(c.toNat:Int) / 64=0:=by omega
   have hr:Qt ws c=(ws 0).testBit k:=by unfold Qt;rw [h,hk]
   have hbt:=As.mk (Zb0 (ws 0) k (hs 0))
   rw [hr]
   clear hr
   have hB:∀ A,Below w.heap.size w (w.alloc (.cells A 290)):=fun A=>(Below.refl _ _).alloc (Nat.le_refl _) _
   go_enter Tryz.func213,Tryz.ntmps213
   go_wp2
   go_ret
   exact ⟨YH hbt.out,hB _⟩
 · --
   have e1:(c.toNat:Int) / 64=1:=by omega
   have hr:Qt ws c=(ws 1).testBit k:=by unfold Qt;rw [h,hk]
   have hbt:=As.mk (Zb0 (ws 1) k (hs 1))
   rw [hr]
   clear hr
   have hB:∀ A,Below w.heap.size w (w.alloc (.cells A 290)):=fun A=>(Below.refl _ _).alloc (Nat.le_refl _) _
   go_enter Tryz.func213,Tryz.ntmps213
   go_wp2
   go_ret
   exact ⟨YH hbt.out,hB _⟩
 · --
   have e1:(c.toNat:Int) / 64=2:=by omega
   have hr:Qt ws c=(ws 2).testBit k:=by unfold Qt;rw [h,hk]
   have hbt:=As.mk (Zb0 (ws 2) k (hs 2))
   rw [hr]
   clear hr
   have hB:∀ A,Below w.heap.size w (w.alloc (.cells A 290)):=fun A=>(Below.refl _ _).alloc (Nat.le_refl _) _
   go_enter Tryz.func213,Tryz.ntmps213
   go_wp2
   go_ret
   exact ⟨YH hbt.out,hB _⟩
 · --
   have e1:(c.toNat:Int) / 64=3:=by omega
   have hr:Qt ws c=(ws 3).testBit k:=by unfold Qt;rw [h,hk]
   have hbt:=As.mk (Zb0 (ws 3) k (hs 3))
   rw [hr]
   clear hr
   have hB:∀ A,Below w.heap.size w (w.alloc (.cells A 290)):=fun A=>(Below.refl _ _).alloc (Nat.le_refl _) _
   go_enter Tryz.func213,Tryz.ntmps213
   go_wp2
   go_ret
   exact ⟨YH hbt.out,hB _⟩
set_option maxRecDepth 100000 in
theorem union_calls (w:World) (ws vs:Nat→Nat) (hs:Small ws) (hv:Small vs) :
    Calls Tryz.prog 183 #[.agg (ZD ws),.agg (ZD vs)] w fun e w'=>e=.returned (.agg (ZD fun i=>ws i ||| vs i))∧Below w.heap.size w w':=by
 have hor0:=bits_or_u64_nat (ws 0) (vs 0) (hs 0) (hv 0)
 have hor1:=bits_or_u64_nat (ws 1) (vs 1) (hs 1) (hv 1)
 have hor2:=bits_or_u64_nat (ws 2) (vs 2) (hs 2) (hv 2)
 have hor3:=bits_or_u64_nat (ws 3) (vs 3) (hs 3) (hv 3)
 have i0:∀ (a b c d:Int) (w:World),(Instr.index 290 (.agg #[.int .u64 a,.int .u64 b,.int .u64 c,.int .u64 d]) (.int .i64 0)).run Tryz.prog w=.ok (.int .u64 a) w:=fun a b c d w=>by kernel_rfl
 have i1:∀ (a b c d:Int) (w:World),(Instr.index 290 (.agg #[.int .u64 a,.int .u64 b,.int .u64 c,.int .u64 d]) (.int .i64 1)).run Tryz.prog w=.ok (.int .u64 b) w:=fun a b c d w=>by kernel_rfl
 have i2:∀ (a b c d:Int) (w:World),(Instr.index 290 (.agg #[.int .u64 a,.int .u64 b,.int .u64 c,.int .u64 d]) (.int .i64 2)).run Tryz.prog w=.ok (.int .u64 c) w:=fun a b c d w=>by kernel_rfl
 have i3:∀ (a b c d:Int) (w:World),(Instr.index 290 (.agg #[.int .u64 a,.int .u64 b,.int .u64 c,.int .u64 d]) (.int .i64 3)).run Tryz.prog w=.ok (.int .u64 d) w:=fun a b c d w=>by kernel_rfl
 have hsV:∀ ws,ZD ws=#[.int .u64 (ws 0:Int),.int .u64 (ws 1:Int),.int .u64 (ws 2:Int),.int .u64 (ws 3:Int)]:=fun _=>rfl
 rw [hsV ws,hsV vs]
 clear hsV
 go_enter Tryz.func183,Tryz.ntmps183
 go_wp2
 refine wp_loop_rounds 5 ?_
 rw [rounds_succ]
 go_wp2
 rw [rounds_succ]
 go_wp2
 rw [rounds_succ]
 go_wp2
 rw [rounds_succ]
 go_wp2
 rw [rounds_succ]
 go_wp2
 refine bodyPost_ret (v:=.agg (ZD fun i=>ws i ||| vs i)) ?_ rfl ⟨rfl,(((Below.refl _ _).alloc (Nat.le_refl _) _).alloc (by simp) _).alloc (by simp;omega) _⟩
 simp [results,Tryz.results183,go_sem,alloc3cell,ZD]
theorem Zfa {b t:Nat}:∀ (vs:List Value) (o:Nat) (w:World) (c:Array Value),w.heap[b]? = some (.cells c t (0,0))→o+vs.length≤c.size →
    (w.setCells b o vs).heap[b]? = some (.cells (c.toList.take o++vs++c.toList.drop (o+vs.length)).toArray t (0,0))
 | [],o,w,c,h,hl=>by
   rw [World.setCells,h];simp
 | v::r,o,w,c,h,hl=>by
   have hl':o+1+r.length≤c.size:=by simp at hl;omega
   rw [World.setCells,Zfa r (o+1) _ (c.setIfInBounds o v) (Zi h o v) (by simp;omega)]
   have h1:(c.setIfInBounds o v).toList.take (o+1)=c.toList.take o++[v]:=by
    rw [Array.toList_setIfInBounds,List.take_add_one,List.getElem?_set_self (by simp;omega),List.take_set_of_le (Nat.le_refl _)];rfl
   have h2:(c.setIfInBounds o v).toList.drop (o+1+r.length)=c.toList.drop (o+(v::r).length):=by
    rw [Array.toList_setIfInBounds,List.drop_set_of_lt (by omega)]
    congr 1;simp;omega
   rw [h1,h2];simp
theorem ZaB {b t:Nat} {w:World} {c d:Array Value} (h:w.heap[b]? = some (.cells c t (0,0))) (hs:d.size=c.size):(w.setCells b 0 d.toList).heap[b]? = some (.cells d t (0,0)):=by
 rw [Zfa d.toList 0 w c h (by simp [hs])]
 rw [List.drop_eq_nil_of_le (by simp [hs])]
 simp
theorem X4 {base b:Nat} (hb:base≤b):∀ (vs:List Value) (o:Nat) {w0 w:World},Below base w0 w→Below base w0 (w.setCells b o vs)
 | [],_,_,_,h=>h
 | v::r,o,_,_,h=>X4 hb r (o+1) (h.setCell (p:=⟨b,o,none⟩) hb v)
theorem ZcX {b b':Nat} {x:Obj} (hb:b'≠b):∀ (vs:List Value) (o:Nat) {w:World},w.heap[b']? = some x→(w.setCells b o vs).heap[b']? = some x
 | [],_,_,h=>h
 | v::r,o,_,h=>ZcX hb r (o+1) (Z2 (p:=⟨b,o,none⟩) h hb v)
theorem ZcY (ws:Nat→Nat):(ZD ws).all (·.oneCell')=true:=by simp [ZD,Value.oneCell']
theorem Y5 {w:World} {b t:Nat} {c:Array Value} (h:w.heap[b]? = some (.cells c t (0,0))) {o n:Nat} (hn:o+n≤c.size):w.there b o n:=fun j hj =>
 ⟨by rw [Za h];simp;omega,Zb h _⟩
/-- Bytes of a set. -/
theorem of_set_step {b:Txt} {i:Nat} (hi:i<b.length) {ws:Nat→Nat} (h:IsSet ws fun d=>decide (d∈b.take i)):IsSet (XQ ws (b.getD i 0)) fun d=>decide (d∈b.take (i+1)):=by
 have h1:=h.with_ (b.getD i 0)
 refine ⟨h1.1,fun d=>?_⟩
 rw [h1.2 d,Zae b i hi,Bool.eq_iff_iff]
 simp
set_option maxRecDepth 100000 in
set_option maxHeartbeats 800000 in
theorem fof_calls (w:World) (A:Option Addr) (c:Nat) (b:Txt) (hb:Byt w A b) (hl:b.length≤1000000) :
    Calls Tryz.prog 184 #[.slice A b.length c] w fun e w'=>∃ ws,e=.returned (.agg (ZD ws))∧IsSet ws (fun d=>decide (d∈b))∧Below w.heap.size w w':=by
 have HB:=As.mk hb
 have hst:=As.mk (fun i (hi:i<b.length) ws (h:IsSet ws fun d=>decide (d∈b.take i))=>of_set_step hi h)
 have hs0:As (IsSet (fun _=>0) fun d=>decide (d∈b.take 0)):=⟨by simpa using IsSet.none⟩
 have hfin:As (∀ ws,IsSet ws (fun d=>decide (d∈b.take b.length))→IsSet ws fun d=>decide (d∈b)):=⟨fun ws h=>by rw [List.take_length] at h;exact h⟩
 obtain ⟨n,hn⟩:∃ n,b.length=n:=⟨_,rfl⟩
 rw [hn] at hl hfin hst ⊢
 replace hn:=As.mk hn
 clear hb
 go_enter Tryz.func184,Tryz.ntmps184
 go_wp2
 obtain ⟨gb,hgb⟩:∃ g,w.heap.size=g:=⟨_,rfl⟩
 have hz0:As ((((w.alloc (.cells (ZD fun _=>0) 290)).alloc (.cells (ZD fun _=>0) 290)).heap[gb]? = some (.cells (ZD fun _=>0) 290 (0,0)))):=⟨by rw [← hgb];exact Zn (heap_alloc_new w _)⟩
 have hz1:As ((((w.alloc (.cells (ZD fun _=>0) 290)).alloc (.cells (ZD fun _=>0) 290)).heap[gb+1]? = some (.cells (ZD fun _=>0) 290 (0,0)))):=⟨by rw [← hgb];exact Q8 w _ _⟩
 have hzB:As (Below gb w ((w.alloc (.cells (ZD fun _=>0) 290)).alloc (.cells (ZD fun _=>0) 290))):=⟨by rw [← hgb];exact ((Below.refl _ _).alloc (Nat.le_refl _) _).alloc (by simp) _⟩
 obtain ⟨W0,hW0⟩:∃ W,(w.alloc (.cells (ZD fun _=>0) 290)).alloc (.cells (ZD fun _=>0) 290)=W:=⟨_,rfl⟩
 rw [hW0] at hz0 hz1 hzB
 rw [show (w.alloc (.cells #[.int .u64 0,.int .u64 0,.int .u64 0,.int .u64 0] 290)).alloc (.cells #[.int .u64 0,.int .u64 0,.int .u64 0,.int .u64 0] 290)=W0 from hW0]
 rw [hgb]
 replace hgb:=As.mk hgb
 clear hW0
 go_loopg [8] (n+1) (fun gk i wr=>∃ (k:Nat) (ws:Nat→Nat),As (n+1≤gk+k)∧k≤n∧i=.int .i64 k∧As (wr.heap[gb]? = some (.cells (ZD fun _=>0) 290 (0,0)))∧As (wr.heap[gb+1]? = some (.cells (ZD ws) 290 (0,0)))∧As (IsSet ws fun d=>decide (d∈b.take k))∧As (Below gb w wr))
 case atStart=>exact ⟨0,_,⟨by omega⟩,Nat.zero_le _,rfl,hz0,hz1,hs0,hzB⟩
 case round =>
  obtain ⟨k,ws,hgk,hk,rfl,h0,h1,his,hbel⟩:=hrel
  have c0:wr.cell? ⟨gb+1,0,none⟩=some (.int .u64 (ws 0:Int)):=Za h1.out 0
  have c1:wr.cell? ⟨gb+1,1,none⟩=some (.int .u64 (ws 1:Int)):=Za h1.out 1
  have c2:wr.cell? ⟨gb+1,2,none⟩=some (.int .u64 (ws 2:Int)):=Za h1.out 2
  have c3:wr.cell? ⟨gb+1,3,none⟩=some (.int .u64 (ws 3:Int)):=Za h1.out 3
  by_cases hlt:k<n
  · obtain ⟨gp,rfl⟩:∃ gp,gk=gp+1:=⟨gk - 1,by have:=hgk.out;omega⟩
    have hHB:=Row.below HB.out (show Below w.heap.size w wr by rw [hgb.out];exact hbel.out)
    obtain ⟨ad,rfl,ca⟩:=Byt.at_ hHB (i:=k) (by rw [hn.out];exact hlt)
    have hnx:=As.mk (hst.out k hlt ws his.out)
    obtain ⟨x,hx⟩:∃ x,b.getD k 0=x:=⟨_,rfl⟩
    rw [hx] at ca hnx
    have cw:=As.mk (with_calls wr ws his.out.1 x)
    unfold ZD at cw
    have hgs:gb≤wr.heap.size:=by have:=hbel.out.size;have:=hgb.out;omega
    clear hHB hx
    have inf:(Tryz.prog.info? 290).map (·.size)=some 4:=by kernel_rfl
    go_wp2_with (first | (go_at_call 212;refine Calls.mono cw.out ?_;rintro e w1 ⟨rfl,hb1⟩;have q1:=As.mk (Zc hb1 h1.out);have q0:=As.mk (Zc hb1 h0.out);have hb2:=As.mk (hbel.out.trans (hb1.mono hgs));clear hb1) | (refine wpList_store_mid (w:=w1) rfl 290 (.tmp 3) (.tmp 14) rfl (gb+1) 0 (ZD (XQ ws x)) rfl rfl (Y5 q1.out (by simp [ZD])) inf (ZcY _) ?_))
    go_roundg gp
    case measure=>exact Nat.lt_succ_self _
    case rel=>exact ⟨k+1,XQ ws x,⟨by have:=hgk.out;omega⟩,hlt,(by first | rfl | go_num | (congr 1;omega)),⟨ZcX (by omega) _ _ q0.out⟩,⟨ZaB q1.out (by simp [ZD])⟩,hnx,⟨X4 (by omega) _ _ hb2.out⟩⟩
  · obtain rfl:k=n:=by omega
    have inf:(Tryz.prog.info? 290).map (·.size)=some 4:=by kernel_rfl
    have hq0:=ZaB (d:=ZD ws) h0.out (by simp [ZD])
    have hl0:=X4 (base:=gb) (Nat.le_refl gb) (ZD ws).toList 0 hbel.out
    go_wp2_with (refine wpList_store_mid (w:=wr) rfl 290 (.tmp 2) (.tmp 16) rfl gb 0 (ZD ws) rfl rfl (Y5 h0.out (by simp [ZD])) inf (ZcY _) ?_;generalize wr.setCells gb 0 (ZD ws).toList=W9 at hq0 hl0 ⊢;have e0:W9.cell? ⟨gb,0,none⟩=some (.int .u64 (ws 0:Int)):=Za hq0 0;have e1:W9.cell? ⟨gb,1,none⟩=some (.int .u64 (ws 1:Int)):=Za hq0 1;have e2:W9.cell? ⟨gb,2,none⟩=some (.int .u64 (ws 2:Int)):=Za hq0 2;have e3:W9.cell? ⟨gb,3,none⟩=some (.int .u64 (ws 3:Int)):=Za hq0 3;replace hq0:=As.mk hq0;replace hl0:=As.mk hl0)
    refine bodyPost_ret (v:=.agg (ZD ws)) ?_ rfl ⟨ws,rfl,hfin.out ws his.out,by rw [hgb.out];exact hl0.out⟩
    simp [results,Tryz.results184,go_sem,e0,e1,e2,e3,ZD]
end Go.Proofs.YtfdlaomnecjfeaaGreatDoor
end
section
namespace Go.Proofs.YtfdlaomnecjfeaaGreatDoor
open Go.RowKit Seine.Trie Seine.Dfa
theorem info_u64:(Tryz.prog.info? 96).map (fun i=>(i.zero,i.size,i.bytes))=some (some (.int .u64 0),1,8):=by kernel_rfl
theorem eqSet (d:Nat) (w:World) (x0 x1 x2 x3 y0 y1 y2 y3:Int) :
    (Op.equalIn (d+2) 290 (.agg #[.int .u64 x0,.int .u64 x1,.int .u64 x2,.int .u64 x3]) (.agg #[.int .u64 y0,.int .u64 y1,.int .u64 y2,.int .u64 y3])).run Tryz.prog w=.ok (x0 == y0 && (x1 == y1 && (x2 == y2 && (x3 == y3)))) w:=by
 obtain ⟨i0,hi,_⟩:=info_parts info_u64
 have h1:Tryz.prog.cellsOf 96=1:=by kernel_rfl
 rw [run_equalIn_array (P:=Tryz.prog) w (d+1) _ _ Tryz.underlying290 hi,h1]
 have hr:List.range 4=[0,1,2,3]:=rfl
 have p0:∀ a b c e:Int,(part 96 #[.int .u64 a,.int .u64 b,.int .u64 c,.int .u64 e] (0 * 1)).run Tryz.prog w=.ok (.int .u64 a) w:=fun a b c e=>by go_simp
 have p1:∀ a b c e:Int,(part 96 #[.int .u64 a,.int .u64 b,.int .u64 c,.int .u64 e] (1 * 1)).run Tryz.prog w=.ok (.int .u64 b) w:=fun a b c e=>by go_simp
 have p2:∀ a b c e:Int,(part 96 #[.int .u64 a,.int .u64 b,.int .u64 c,.int .u64 e] (2 * 1)).run Tryz.prog w=.ok (.int .u64 c) w:=fun a b c e=>by go_simp
 have p3:∀ a b c e:Int,(part 96 #[.int .u64 a,.int .u64 b,.int .u64 c,.int .u64 e] (3 * 1)).run Tryz.prog w=.ok (.int .u64 e) w:=fun a b c e=>by go_simp
 have e0:∀ a b:Int,(Op.equalIn (d+1) 96 (.int .u64 a) (.int .u64 b)).run Tryz.prog w=.ok (a == b) w:=fun a b=>by go_simp
 rw [hr]
 simp only [Op.eqItems,Sem.run_bind,p0,p1,p2,p3,e0,Result.andThen_ok]
 have q1:∀ a b c e:Int,(part 96 #[.int .u64 a,.int .u64 b,.int .u64 c,.int .u64 e] 1).run Tryz.prog w=.ok (.int .u64 b) w:=p1
 have q2:∀ a b c e:Int,(part 96 #[.int .u64 a,.int .u64 b,.int .u64 c,.int .u64 e] 2).run Tryz.prog w=.ok (.int .u64 c) w:=p2
 have q3:∀ a b c e:Int,(part 96 #[.int .u64 a,.int .u64 b,.int .u64 c,.int .u64 e] 3).run Tryz.prog w=.ok (.int .u64 e) w:=p3
 cases h:(x0 == y0)
 · simp
 · cases h2:(x1 == y1)
   · simp [q1,e0,h2]
   · cases h3:(x2 == y2)
     · simp [q1,q2,e0,h2,h3]
     · cases h4:(x3 == y3) <;> simp [q1,q2,q3,e0,h2,h3,h4]
attribute [local go_sem high] eqSet
theorem listTo_nil {q:UInt8→Bool} (h:∀ c,q c=false) (k:Nat):listTo q k=[]:=by
 unfold listTo
 rw [List.filter_eq_nil_iff]
 intro c _;rw [h c];simp
theorem listTo_congr {q r:UInt8→Bool} (h:∀ c,q c=r c) (k:Nat):listTo q k=listTo r k:=by
 rw [show q=r from funext h]
set_option maxRecDepth 100000 in
set_option maxHeartbeats 800000 in
theorem list_calls (w:World) (ws:Nat→Nat) (hs:Small ws) :
    Calls Tryz.prog 185 #[.agg (ZD ws)] w (RetByt w (listTo (Qt ws) 256)):=by
 obtain ⟨R,hR⟩:∃ R,listTo (Qt ws) 256=R:=⟨_,rfl⟩
 rw [hR]
 have hzero:As ((ws 0:Int)=0→(ws 1:Int)=0→(ws 2:Int)=0→(ws 3:Int)=0→R=[]):=⟨fun a b c d=>by
  rw [← hR]
  refine listTo_nil (fun x=>?_) _
  have hx:=x.toNat_lt
  unfold Qt
  have:ws (x.toNat / 64)=0:=by
   rcases (show x.toNat / 64=0∨x.toNat / 64=1∨x.toNat / 64=2∨x.toNat / 64=3 by omega) with h | h | h | h <;> rw [h] <;> omega
  rw [this];simp⟩
 replace hR:=As.mk hR
 have hs:=As.mk hs
 obtain ⟨gb,hgb⟩:∃ g,w.heap.size=g:=⟨_,rfl⟩
 have hz0:As ((w.alloc (.cells (ZD ws) 290)).heap[gb]? = some (.cells (ZD ws) 290 (0,0))):=⟨by rw [← hgb];exact heap_alloc_new w _⟩
 have hzB:As (Below gb w (w.alloc (.cells (ZD ws) 290))):=⟨by rw [← hgb];exact (Below.refl _ _).alloc (Nat.le_refl _) _⟩
 have hzs:(w.alloc (.cells (ZD ws) 290)).heap.size=gb+1:=by rw [← hgb];simp
 obtain ⟨W0,hW0⟩:∃ W,w.alloc (.cells (ZD ws) 290)=W:=⟨_,rfl⟩
 rw [hW0] at hz0 hzB hzs
 have hW0':=show w.alloc (.cells #[.int .u64 (ws 0:Int),.int .u64 (ws 1:Int),.int .u64 (ws 2:Int),.int .u64 (ws 3:Int)] 290)=W0 from hW0
 clear hW0
 have c0:W0.cell? ⟨gb,0,none⟩=some (.int .u64 (ws 0:Int)):=Za hz0.out 0
 have c1:W0.cell? ⟨gb,1,none⟩=some (.int .u64 (ws 1:Int)):=Za hz0.out 1
 have c2:W0.cell? ⟨gb,2,none⟩=some (.int .u64 (ws 2:Int)):=Za hz0.out 2
 have c3:W0.cell? ⟨gb,3,none⟩=some (.int .u64 (ws 3:Int)):=Za hz0.out 3
 have hsV:ZD ws=#[.int .u64 (ws 0:Int),.int .u64 (ws 1:Int),.int .u64 (ws 2:Int),.int .u64 (ws 3:Int)]:=rfl
 rw [hsV]
 clear hsV
 generalize hx0:(ws 0:Int)=x0 at *
 generalize hx1:(ws 1:Int)=x1 at *
 generalize hx2:(ws 2:Int)=x2 at *
 generalize hx3:(ws 3:Int)=x3 at *
 replace hx0:=As.mk hx0
 replace hx1:=As.mk hx1
 replace hx2:=As.mk hx2
 replace hx3:=As.mk hx3
 cases hz:(x0 == 0 && (x1 == 0 && (x2 == 0 && x3 == 0)))
 · go_enter Tryz.func185,Tryz.ntmps185
   go_wp2_with (rw [hW0'])
   clear hW0' hz
   go_loopw [3,8] (fun v i wr=>∃ k:Nat,k≤256∧i=.int .i64 k∧As (OwnByt wr (gb+1) v (listTo (Qt ws) k))∧As (Below (gb+1) W0 wr)) (fun _ i _=>256 - (intOf i).toNat)
   case atStart=>exact ⟨0,by omega,rfl,⟨World.ownsRow_nil _ _ _ _⟩,⟨Below.refl _ _⟩⟩
   case round =>
    obtain ⟨k,hk,rfl,hown,hbel⟩:=hrel
    have hsz:=hbel.out.size
    rw [hzs] at hsz
    have hbl:As (wr.heap[gb]? = some (.cells (ZD ws) 290 (0,0))):=⟨by rw [hbel.out.block gb (by omega)];exact hz0.out⟩
    have d0:wr.cell? ⟨gb,0,none⟩=some (.int .u64 x0):=by rw [← hx0.out];exact Za hbl.out 0
    have d1:wr.cell? ⟨gb,1,none⟩=some (.int .u64 x1):=by rw [← hx1.out];exact Za hbl.out 1
    have d2:wr.cell? ⟨gb,2,none⟩=some (.int .u64 x2):=by rw [← hx2.out];exact Za hbl.out 2
    have d3:wr.cell? ⟨gb,3,none⟩=some (.int .u64 x3):=by rw [← hx3.out];exact Za hbl.out 3
    by_cases hlt:k<256
    · have hcb:((UInt8.ofNat k).toNat:Int)=(k:Int):=by simp;omega
      have hc:=As.mk (has_calls wr ws hs.out (UInt8.ofNat k) (k:Int) hcb.symm)
      have hsV:ZD ws=#[.int .u64 x0,.int .u64 x1,.int .u64 x2,.int .u64 x3]:=by rw [← hx0.out,← hx1.out,← hx2.out,← hx3.out];rfl
      rw [hsV] at hc
      clear hsV
      have hst:=As.mk (Yc (Qt ws) k)
      have hlen:=ZaT (Qt ws) k
      generalize listTo (Qt ws) k=acc at *
      cases hm:Qt ws (UInt8.ofNat k)
      · rw [hm] at hst hc
        have hst:As (listTo (Qt ws) (k+1)=acc):=⟨by have:=hst.out;simpa using this⟩
        clear hcb hm
        go_wp2_with (go_at_call 213;refine Calls.mono hc.out ?_;rintro e w1 ⟨rfl,hb1⟩;have hb1:=As.mk hb1)
        go_roundw
        case rel=>exact ⟨k+1,by omega,by go_num,⟨by rw [hst.out];exact Zo hown.out hb1.out⟩,⟨Jj hbel.out hb1.out hsz⟩⟩
        case measure=>simp [intOf];omega
      · rw [hm] at hst hc
        have hst:As (listTo (Qt ws) (k+1)=acc++[UInt8.ofNat k]):=⟨by have:=hst.out;simpa using this⟩
        have hcb:=As.mk hcb
        clear hm
        go_wp2_with (first
         | (go_at_call 213;refine Calls.mono hc.out ?_;rintro e w1 ⟨rfl,hb1⟩;have hown1:=As.mk (Zo hown.out hb1);have hb1:=As.mk (Jj hbel.out hb1 hsz))
         | (at_builtin
            refine ZA _ rfl (.tmp 15) (.tmp 18) 22 rfl (gb+1) 5 _ 1 1 Tryz.underlying22 X2 rfl (by decide) _ acc.length (Zh acc) rfl hown1.out [.int .u8 (k:Int)] rfl (by simp [Value.oneCell']) _ rfl (by simp) (by omega) (by decide) (by have:=hb1.out.size;omega) ?_
            intro v' w2 ho2 hk2 hat2 hb2))
        go_roundw
        case rel=>exact ⟨k+1,by omega,by go_num,⟨by rw [hst.out];refine Zaa ?_;rw [hcb.out];exact ho2⟩,⟨hb1.out.trans hb2⟩⟩
        case measure=>simp [intOf];omega
    · have hk2:k=256:=by omega
      rw [hk2,hR.out] at hown
      clear hk2
      go_wp2
      go_ret
      exact ⟨_,rfl,by rw [hgb];exact ZB hown.out (Nat.le_succ _),by rw [hgb];exact hzB.out.trans (hbel.out.mono (Nat.le_succ _))⟩
 · have hRn:R=[]:=by
     simp only [Bool.and_eq_true,beq_iff_eq] at hz
     exact hzero.out hz.1 hz.2.1 hz.2.2.1 hz.2.2.2
   have hRn:=As.mk hRn
   go_enter Tryz.func185,Tryz.ntmps185
   go_wp2_with (rw [hW0'])
   go_ret
   refine ⟨_,rfl,?_,by rw [hgb];exact hzB.out⟩
   rw [hRn.out]
   exact World.ownsRow_nil _ _ _ _
end Go.Proofs.YtfdlaomnecjfeaaGreatDoor
end
section
namespace Go.Proofs.YtfdlaomnecjfeaaGreatDoor
open Go.RowKit Seine.Trie Seine.Dfa
/-- Classes as the program keeps them: F says each byte's, n how many. -/
def ZJ (F:UInt8→Nat) (n:Nat):List Value:=(List.range 256).map (fun i=>Value.int .i64 (F (UInt8.ofNat i):Int))++[.int .i64 (n:Int)]
theorem ZI (F:UInt8→Nat) (n:Nat):(ZJ F n).length=257:=by simp [ZJ]
theorem Zcn (F:UInt8→Nat) (n:Nat) (c:UInt8):(ZJ F n)[c.toNat]? = some (.int .i64 (F c:Int)):=by
 unfold ZJ
 rw [List.getElem?_append_left (by simpa using c.toNat_lt),List.getElem?_map,List.getElem?_range c.toNat_lt];simp
theorem X5 (F:UInt8→Nat) (n:Nat):(ZJ F n)[256]? = some (.int .i64 (n:Int)):=by
 unfold ZJ
 rw [List.getElem?_append_right (by simp)];simp
def ZS (F:UInt8→Nat) (n:Nat):Array Value:=(ZJ F n).toArray
set_option maxRecDepth 100000 in
theorem Zco (w:World) (F:UInt8→Nat) (n:Nat) (c:UInt8) (x:Int) (hx:x=(c.toNat:Int)) :
    Calls Tryz.prog 190 #[.agg (ZS F n),.int .u8 x] w fun e w'=>e=.returned (.int .i64 (F c:Int))∧Below w.heap.size w w':=by
 subst hx
 have hc:=c.toNat_lt
 obtain ⟨C,hC⟩:∃ C,ZS F n=C:=⟨_,rfl⟩
 have hs:C.size=257:=by rw [← hC];simp [ZS,ZI]
 have hat:C[c.toNat]? = some (.int .i64 (F c:Int)):=by rw [← hC];simp [ZS,Zcn]
 rw [hC]
 obtain ⟨gb,hgb⟩:∃ g,w.heap.size=g:=⟨_,rfl⟩
 have hz0:(w.alloc (.cells C 240)).heap[gb]? = some (.cells C 240 (0,0)):=by rw [← hgb];exact heap_alloc_new w _
 have hcell:(w.alloc (.cells C 240)).cell? ⟨gb,c.toNat,none⟩=some (.int .i64 (F c:Int)):=by rw [Za hz0];exact hat
 have hB:Below w.heap.size w (w.alloc (.cells C 240)):=(Below.refl _ _).alloc (Nat.le_refl _) _
 clear hC hz0
 go_enter Tryz.func190,Tryz.ntmps190
 go_wp2
 go_ret
 exact ⟨rfl,hB⟩
set_option maxRecDepth 100000 in
theorem ZaV (w:World) (F:UInt8→Nat) (n:Nat) (hn:n≤256) :
    Calls Tryz.prog 186 #[.agg (ZS F n)] w fun e w'=>e=.returned (.int .i64 ((n+1:Nat):Int))∧Below w.heap.size w w':=by
 obtain ⟨C,hC⟩:∃ C,ZS F n=C:=⟨_,rfl⟩
 have hs:C.size=257:=by rw [← hC];simp [ZS,ZI]
 have hat:C[256]? = some (.int .i64 (n:Int)):=by rw [← hC];simp [ZS,X5]
 rw [hC]
 obtain ⟨gb,hgb⟩:∃ g,w.heap.size=g:=⟨_,rfl⟩
 have hz0:(w.alloc (.cells C 240)).heap[gb]? = some (.cells C 240 (0,0)):=by rw [← hgb];exact heap_alloc_new w _
 have hcell:(w.alloc (.cells C 240)).cell? ⟨gb,256,none⟩=some (.int .i64 (n:Int)):=by rw [Za hz0];exact hat
 have hB:Below w.heap.size w (w.alloc (.cells C 240)):=(Below.refl _ _).alloc (Nat.le_refl _) _
 clear hC hz0
 go_enter Tryz.func186,Tryz.ntmps186
 go_wp2
 go_ret
 exact ⟨by push_cast;rfl,hB⟩
theorem zero_cls:(∀ w,(zeroValue 240).run Tryz.prog w=.ok (.agg (ZS (fun _=>0) 0)) w)∧(Tryz.prog.info? 240).map (·.size)=some 257 :=
 zero_of_info (by kernel_rfl)
theorem JZ (F:UInt8→Nat) (n:Nat):(ZS F n).size=257:=by simp [ZS,ZI]
theorem clsV_one (F:UInt8→Nat) (n:Nat):(ZS F n).all (·.oneCell')=true:=by
 refine all_oneCell_toArray ?_
 intro v hv
 unfold ZJ at hv
 rcases List.mem_append.1 hv with h | h
 · obtain ⟨i,_,rfl⟩:=List.mem_map.1 h;rfl
 · rw [List.mem_singleton.1 h];rfl
theorem store_set {w:World} {b t:Nat} {C:Array Value} (h:w.heap[b]? = some (.cells C t (0,0))) (hs:C.size=4) (us:Nat→Nat) :
    (storeCells ⟨b,0,none⟩ (ZD us).toList 0).run Tryz.prog w=.ok () (w.setCells b 0 (ZD us).toList):=by
 have ht:w.there b 0 4:=Y5 h (by omega)
 have h4:(ZD us).toList.length=4:=rfl
 have:=run_storeCells_cells (P:=Tryz.prog) b 0 (ZD us).toList 0 w (fun j hj=>by simpa using (ht j (by omega)).1) (fun j hj=>by simpa using (ht j (by omega)).2)
  (fun v hv=>(Array.all_eq_true_iff_forall_mem.1 (ZcY us)) v (by simpa using hv))
 simpa using this
theorem YC (F:UInt8→Nat) (n:Nat) {i:Nat} (hi:i<256):(ZJ F n)[i]? = some (.int .i64 (F (UInt8.ofNat i):Int)):=by
 unfold ZJ
 rw [List.getElem?_append_left (by simpa using hi),List.getElem?_map,List.getElem?_range hi];rfl
theorem clsV_setN (F:UInt8→Nat) (n m:Nat):(ZS F n).setIfInBounds 256 (.int .i64 (m:Int))=ZS F m:=by
 apply Array.toList_inj.1
 rw [Array.toList_setIfInBounds]
 unfold ZS
 apply List.ext_getElem?
 intro i
 rw [List.getElem?_set]
 by_cases h:256=i
 · subst h
   show _=(ZJ F m)[256]?
   rw [X5 F m];simp [ZI]
 · rw [if_neg h]
   by_cases hi:i<256
   · show (ZJ F n)[i]? = (ZJ F m)[i]?
     rw [YC _ _ hi,YC _ _ hi]
   · rw [List.getElem?_eq_none (by simp [ZI];omega),List.getElem?_eq_none (by simp [ZI];omega)]
theorem clsV_setF (F G:UInt8→Nat) (n m:Nat) (b:UInt8) (h:∀ c,G c=if c=b then m else F c):(ZS F n).setIfInBounds b.toNat (.int .i64 (m:Int))=ZS G n:=by
 have hb:=b.toNat_lt
 apply Array.toList_inj.1
 rw [Array.toList_setIfInBounds]
 unfold ZS
 apply List.ext_getElem?
 intro i
 rw [List.getElem?_set]
 by_cases hi:i<256
 · show _=(ZJ G n)[i]?
   rw [YC G n hi,h]
   by_cases hbi:b.toNat=i
   · have:UInt8.ofNat i=b:=by rw [← hbi];simp
     rw [if_pos hbi,if_pos this,if_pos (by simp [ZI];omega)]
   · rw [if_neg hbi,if_neg (fun e=>hbi (by rw [← e];simp;omega))]
     exact YC _ _ hi
 · rw [if_neg (by omega)]
   by_cases h2:i=256
   · subst h2
     show (ZJ F n)[256]? = (ZJ G n)[256]?
     rw [X5,X5]
   · rw [List.getElem?_eq_none (by simp [ZI];omega),List.getElem?_eq_none (by simp [ZI];omega)]
theorem stands_take {l:List Txt} {k:Nat} (hk:k<l.length) (d:UInt8):stands (l.take (k+1)) d=(stands (l.take k) d || decide (d∈l.getD k [])):=by
 rw [List.take_succ_eq_append_getElem hk,stands_snoc];simp [hk]
set_option maxRecDepth 100000 in
set_option maxHeartbeats 1600000 in
theorem cof_calls (w:World) (A:Option Addr) (c:Nat) (l:List Txt) (htx:Txts w A l) (hl:∀ t∈l,t.length≤1000000) (hll:l.length≤1000000) :
    Calls Tryz.prog 138 #[.slice A l.length c] w fun e w'=>e=.returned (.agg (ZS (ZV l) (listTo (stands l) 256).length))∧Below w.heap.size w w':=by
 have HX:=As.mk htx
 have hl:=As.mk hl
 have hstep:=As.mk (fun k (hk:k<l.length) d=>stands_take hk d)
 obtain ⟨n,hn⟩:∃ n,l.length=n:=⟨_,rfl⟩
 rw [hn] at hll ⊢
 replace hn:=As.mk hn
 have hzv:=zero_cls.1
 obtain ⟨Z,hZ⟩:∃ Z,ZS (fun _=>0) 0=Z:=⟨_,rfl⟩
 rw [hZ] at hzv
 replace hZ:=As.mk hZ
 clear htx
 go_enter Tryz.func138,Tryz.ntmps138
 go_wp2
 obtain ⟨gb,hgb⟩:∃ g,w.heap.size=g:=⟨_,rfl⟩
 have hz0:As ((((w.alloc (.cells Z 240)).alloc (.cells (ZD fun _=>0) 290)).heap[gb]? = some (.cells Z 240 (0,0)))):=⟨by rw [← hgb];exact Zn (heap_alloc_new w _)⟩
 have hz1:As ((((w.alloc (.cells Z 240)).alloc (.cells (ZD fun _=>0) 290)).heap[gb+1]? = some (.cells (ZD fun _=>0) 290 (0,0)))):=⟨by rw [← hgb];exact Q8 w _ _⟩
 have hzB:As (Below gb w ((w.alloc (.cells Z 240)).alloc (.cells (ZD fun _=>0) 290))):=⟨by rw [← hgb];exact ((Below.refl _ _).alloc (Nat.le_refl _) _).alloc (by simp) _⟩
 obtain ⟨W0,hW0⟩:∃ W,(w.alloc (.cells Z 240)).alloc (.cells (ZD fun _=>0) 290)=W:=⟨_,rfl⟩
 rw [hW0] at hz0 hz1 hzB
 rw [show (w.alloc (.cells Z 240)).alloc (.cells #[.int .u64 0,.int .u64 0,.int .u64 0,.int .u64 0] 290)=W0 from hW0]
 rw [hgb]
 replace hgb:=As.mk hgb
 clear hW0
 go_loopg [11] (n+1) (fun gk i wr=>∃ (k:Nat) (ws:Nat→Nat),As (n+1≤gk+k)∧k≤n∧i=.int .i64 k∧As (wr.heap[gb]? = some (.cells Z 240 (0,0)))∧As (wr.heap[gb+1]? = some (.cells (ZD ws) 290 (0,0)))∧As (IsSet ws fun d=>stands (l.take k) d)∧As (Below gb w wr))
 case atStart=>exact ⟨0,_,⟨by omega⟩,Nat.zero_le _,rfl,hz0,hz1,⟨by simpa [stands] using IsSet.none⟩,hzB⟩
 case round =>
  obtain ⟨k,ws,hgk,hk,rfl,h0,h1,his,hbel⟩:=hrel
  by_cases hlt:k<n
  · obtain ⟨gp,rfl⟩:∃ gp,gk=gp+1:=⟨gk - 1,by have:=hgk.out;omega⟩
    have hHB:=HX.out.below (show Below w.heap.size w wr by rw [hgb.out];exact hbel.out)
    have hkl:k<l.length:=by rw [hn.out];exact hlt
    obtain ⟨ad,A',c',rfl,ca,hc',hrw⟩:=hHB.at_ hkl
    have hnx:=As.mk (hstep.out k hkl)
    have hlt2:As ((l.getD k []).length≤1000000):=⟨hl.out _ (by rw [List.getD_eq_getElem?_getD,List.getElem?_eq_getElem hkl];exact List.getElem_mem hkl)⟩
    obtain ⟨t,ht⟩:∃ t,l.getD k []=t:=⟨_,rfl⟩
    rw [ht] at ca hc' hrw hnx hlt2
    replace hrw:=As.mk hrw
    replace hc':=As.mk hc'
    have hgs:gb≤wr.heap.size:=by have:=hbel.out.size;have:=hgb.out;omega
    clear hHB ht hkl
    have cof:=As.mk (fun v (hv:Below wr.heap.size wr v)=>fof_calls v A' c' t (Row.below hrw.out hv) hlt2.out)
    have cun:=As.mk (fun v (vs:Nat→Nat) (hv:Small vs)=>union_calls v ws vs his.out.1 hv)
    have hsV:ZD ws=#[.int .u64 (ws 0:Int),.int .u64 (ws 1:Int),.int .u64 (ws 2:Int),.int .u64 (ws 3:Int)]:=rfl
    rw [hsV] at cun
    have c0:wr.cell? ⟨gb+1,0,none⟩=some (.int .u64 (ws 0:Int)):=Za h1.out 0
    have c1:wr.cell? ⟨gb+1,1,none⟩=some (.int .u64 (ws 1:Int)):=Za h1.out 1
    have c2:wr.cell? ⟨gb+1,2,none⟩=some (.int .u64 (ws 2:Int)):=Za h1.out 2
    have c3:wr.cell? ⟨gb+1,3,none⟩=some (.int .u64 (ws 3:Int)):=Za h1.out 3
    have inf:(Tryz.prog.info? 290).map (·.size)=some 4:=by kernel_rfl
    go_wp2_with fail
    go_region_with (first
     | (go_at_call 184;(with_reducible refine Calls.mono (cof.out _ ?hb) ?_);(case hb=>(repeat (first | (with_reducible assumption) | (with_reducible exact Below.refl _ _) | (with_reducible refine Below.drew ?_) | (with_reducible refine ZF ?_ _) | (with_reducible refine Below.alloc ?_ (by (first | omega | (simp only [World.size_alloc,World.size_drew];done) | (simp only [World.size_alloc,World.size_drew];omega))) _) | (refine Below.trans ?_ (Below.mono (by with_reducible assumption) (by (first | omega | (simp only [World.size_alloc,World.size_drew];done) | (simp only [World.size_alloc,World.size_drew];omega))))))));intro e w1 hh;obtain ⟨vs,he,hvs,hb1⟩:=hh;subst he;have hb1':Below wr.heap.size wr w1:=(by (repeat (first | (with_reducible assumption) | (with_reducible exact Below.refl _ _) | (with_reducible refine Below.drew ?_) | (with_reducible refine ZF ?_ _) | (with_reducible refine Below.alloc ?_ (by (first | omega | (simp only [World.size_alloc,World.size_drew];done) | (simp only [World.size_alloc,World.size_drew];omega))) _) | (refine Below.trans ?_ (Below.mono (by with_reducible assumption) (by (first | omega | (simp only [World.size_alloc,World.size_drew];done) | (simp only [World.size_alloc,World.size_drew];omega))))))));clear hb1;have q1:=As.mk (Zc hb1' h1.out);have e0:w1.cell? ⟨gb+1,0,none⟩=some (.int .u64 (ws 0:Int)):=Za q1.out 0;have e1:w1.cell? ⟨gb+1,1,none⟩=some (.int .u64 (ws 1:Int)):=Za q1.out 1;have e2:w1.cell? ⟨gb+1,2,none⟩=some (.int .u64 (ws 2:Int)):=Za q1.out 2;have e3:w1.cell? ⟨gb+1,3,none⟩=some (.int .u64 (ws 3:Int)):=Za q1.out 3;have hvs':=As.mk hvs;clear hvs;have hb1:=As.mk hb1';clear hb1')
     | (go_at_call 183;refine Calls.mono (cun.out _ vs hvs'.out.1) ?_;rintro e w2 ⟨rfl,hb2⟩;have q2:=Zc hb2 q1.out;have hsc:=store_set q2 (by rfl) (fun i=>ws i ||| vs i);have hb2':Below wr.heap.size wr w2:=hb1.out.trans (hb2.mono hb1.out.size);replace q2:=As.mk q2;clear hb2;have hb2:=As.mk hb2';clear hb2'))
    all_goals
     go_wp2_with fail
     go_roundg gp
     case measure=>exact Nat.lt_succ_self _
     case rel =>
      have hun:=his.out.union hvs'.out
      exact ⟨k+1,fun i=>ws i ||| vs i,⟨by have:=hgk.out;omega⟩,hlt,(by first | rfl | go_num | (congr 1;omega)),⟨ZcX (by omega) _ _ (Zc hb2.out h0.out)⟩,⟨ZaB q2.out (by simp [ZD])⟩,⟨⟨hun.1,fun d=>(hun.2 d).trans (hnx.out d).symm⟩⟩,⟨X4 (by omega) _ _ (hbel.out.trans (hb2.out.mono hgs))⟩⟩
  · obtain rfl:k=n:=by omega
    clear hlt hk hgk
    have hst:As (IsSet ws (stands l)):=⟨by have:=his.out;rw [← hn.out,List.take_length] at this;exact this⟩
    have hR:As (listTo (Qt ws) 256=listTo (stands l) 256):=⟨by rw [listTo_congr hst.out.2]⟩
    obtain ⟨R,hRR⟩:∃ R,listTo (stands l) 256=R:=⟨_,rfl⟩
    obtain ⟨g6,hg6⟩:∃ g,wr.heap.size=g:=⟨_,rfl⟩
    have hg6b:gb+1<g6:=by rw [← hg6];exact Zf h1.out
    have v0:As ((wr.alloc (.cells Z 240)).heap[gb]? = some (.cells Z 240 (0,0))):=⟨Zn h0.out⟩
    have v1:As ((wr.alloc (.cells Z 240)).heap[gb+1]? = some (.cells (ZD ws) 290 (0,0))):=⟨Zn h1.out⟩
    have v6:As ((wr.alloc (.cells Z 240)).heap[g6]? = some (.cells Z 240 (0,0))):=⟨by rw [← hg6];exact heap_alloc_new wr _⟩
    have vB:As (Below gb w (wr.alloc (.cells Z 240))):=⟨hbel.out.alloc (by omega) _⟩
    have vs6:(wr.alloc (.cells Z 240)).heap.size=g6+1:=by simp;exact hg6
    obtain ⟨W1,hW1⟩:∃ W,wr.alloc (.cells Z 240)=W:=⟨_,rfl⟩
    rw [hW1] at v0 v1 v6 vB vs6
    have c0:W1.cell? ⟨gb+1,0,none⟩=some (.int .u64 (ws 0:Int)):=Za v1.out 0
    have c1:W1.cell? ⟨gb+1,1,none⟩=some (.int .u64 (ws 1:Int)):=Za v1.out 1
    have c2:W1.cell? ⟨gb+1,2,none⟩=some (.int .u64 (ws 2:Int)):=Za v1.out 2
    have c3:W1.cell? ⟨gb+1,3,none⟩=some (.int .u64 (ws 3:Int)):=Za v1.out 3
    have cli:=list_calls W1 ws hst.out.1
    rw [hR.out,hRR] at cli
    replace cli:=As.mk cli
    replace hRR:=As.mk hRR
    clear hR
    go_wp2_with (first | (rw [hW1]) | (rw [hg6]) | (go_at_call 185;refine Calls.mono cli.out ?_;rintro e w2 ⟨vl,rfl,hvl,hb2⟩;obtain ⟨A2,c2',rfl,hc2'⟩:=Zk hvl;have hvl:=As.mk hvl;have hb2:=As.mk hb2))
    obtain ⟨m,hm⟩:∃ m,R.length=m:=⟨_,rfl⟩
    have hm256:m≤256:=by rw [← hm,← hRR.out];exact ZaT _ _
    rw [hm]
    replace hm:=As.mk hm
    have u6:As (w2.heap[g6]? = some (.cells (ZS (Xx l 0) 0) 240 (0,0))):=⟨by
     rw [show Xx l 0=fun _=>0 from funext fun c=>clsTo_zero l c,hZ.out]
     exact Zc hb2.out v6.out⟩
    go_loopw [23] (fun i wr=>∃ j:Nat,j≤m∧i=.int .i64 j∧As (wr.heap[g6]? = some (.cells (ZS (Xx l j) j) 240 (0,0)))∧As (Keeps (fun k=>k=g6) w2 wr)) (fun i _=>m - (intOf i).toNat)
    case atStart=>exact ⟨0,by omega,rfl,u6,⟨Keeps.refl _ _⟩⟩
    case round =>
     obtain ⟨j,hj,rfl,h6,hkp⟩:=hrel
     have hvq:As (OwnByt wr (g6+1) (.slice A2 R.length c2') R):=⟨Zj (vs6 ▸ hvl.out) hkp.out (fun b _ hb _ _ e=>by omega)⟩
     by_cases hlt:j<m
     · obtain ⟨ad,rfl,cx⟩:=Byt.at_ (Row.of_own hvq.out) (i:=j) (by rw [hm.out];exact hlt)
       have hst:=As.mk (fun b (h:R[j]? = some b)=>clsTo_step l j b (by rw [hRR.out];exact h))
       have hRj:As (R[j]? = some (R.getD j 0)):=⟨by rw [List.getD_eq_getElem?_getD,List.getElem?_eq_getElem (by rw [hm.out];exact hlt)];rfl⟩
       obtain ⟨x,hx⟩:∃ x,R.getD j 0=x:=⟨_,rfl⟩
       rw [hx] at cx hRj
       have hx256:=x.toNat_lt
       clear hx
       have d256:wr.cell? ⟨g6,256,none⟩=some (.int .i64 (j:Int)):=by rw [Za h6.out];show (ZJ _ _).toArray[256]? = _;simp [X5]
       have f256:wr.frozen? ⟨g6,256,none⟩=false:=Zb h6.out _
       have h6':(wr.setCell ⟨g6,256,none⟩ (.int .i64 ((j:Int)+1))).heap[g6]? = some (.cells (ZS (Xx l j) (j+1)) 240 (0,0)):=by
        have:=Zi h6.out 256 (.int .i64 ((j+1:Nat):Int))
        rw [clsV_setN] at this
        exact this
       have dn:(wr.setCell ⟨g6,256,none⟩ (.int .i64 ((j:Int)+1))).cell? ⟨g6,256,none⟩=some (.int .i64 ((j:Int)+1)):=by
        rw [Za h6'];show (ZJ _ _).toArray[256]? = _;simp [X5]
       have dx:(wr.setCell ⟨g6,256,none⟩ (.int .i64 ((j:Int)+1))).cell? ⟨g6,x.toNat,none⟩=some (.int .i64 (Xx l j x:Int)):=by
        rw [Za h6'];show (ZJ _ _).toArray[x.toNat]? = _;simp [Zcn]
       have fx:(wr.setCell ⟨g6,256,none⟩ (.int .i64 ((j:Int)+1))).frozen? ⟨g6,x.toNat,none⟩=false:=Zb h6' _
       have h7:As (((wr.setCell ⟨g6,256,none⟩ (.int .i64 ((j:Int)+1))).setCell ⟨g6,x.toNat,none⟩ (.int .i64 ((j:Int)+1))).heap[g6]? = some (.cells (ZS (Xx l (j+1)) (j+1)) 240 (0,0))):=⟨by
        have:=Zi h6' x.toNat (.int .i64 ((j+1:Nat):Int))
        rw [clsV_setF (Xx l j) (Xx l (j+1)) (j+1) (j+1) x (fun c=>hst.out x hRj.out c)] at this
        exact this⟩
       have hk7:As (Keeps (fun k=>k=g6) w2 ((wr.setCell ⟨g6,256,none⟩ (.int .i64 ((j:Int)+1))).setCell ⟨g6,x.toNat,none⟩ (.int .i64 ((j:Int)+1)))):=⟨(hkp.out.trans ((Zm _ ⟨g6,256,none⟩ _).mono fun _ _ h=>h)).trans ((Zm _ ⟨g6,x.toNat,none⟩ _).mono fun _ _ h=>h)⟩
       replace h6':=As.mk h6'
       go_wp2_with fail
       go_roundw
       case rel=>exact ⟨j+1,by omega,by go_num,h7,hk7⟩
       case measure=>simp [intOf];omega
     · obtain rfl:j=m:=by omega
       have hall:Xx l j=ZV l:=by
        funext c
        have:=clsTo_all l c
        rw [hRR.out,hm.out] at this
        exact this
       rw [hall] at h6
       have q0:As (wr.heap[gb]? = some (.cells Z 240 (0,0))):=⟨(hkp.out.block gb (Zf (Zc hb2.out v0.out)) (by omega)).trans (Zc hb2.out v0.out)⟩
       have hZs:Z.size=257:=by rw [← hZ.out];exact JZ _ _
       have hsz:=zero_cls.2
       have hF:As (Below gb w wr):=⟨(vB.out.trans (hb2.out.mono (by omega))).trans (hkp.out.below (fun k _ hS=>by omega) (Nat.le_trans (by omega) hb2.out.size))⟩
       obtain ⟨C,hC⟩:∃ C,ZS (ZV l) j=C:=⟨_,rfl⟩
       have hCs:C.size=257:=by rw [← hC];exact JZ _ _
       have hC1:C.all (·.oneCell')=true:=by rw [← hC];exact clsV_one _ _
       rw [hC] at h6
       have hq0:=ZaB (d:=C) q0.out (by rw [hCs,hZs])
       have hl0:=X4 (base:=gb) (Nat.le_refl gb) C.toList 0 hF.out
       go_wp2_with (first
        | (refine wpList_load_row (w:=wr) rfl 240 (.tmp 6) rfl g6 rfl _ _ _ _ h6.out Tryz.underlying240 rfl (by rw [hCs];exact hsz) ?_)
        | (refine wpList_store_mid (w:=wr) rfl 240 (.tmp 2) (.tmp 37) rfl gb 0 C rfl rfl (Y5 q0.out (by omega)) (by rw [hCs];exact hsz) hC1 ?_;generalize wr.setCells gb 0 C.toList=W9 at hq0 hl0 ⊢;replace hq0:=As.mk hq0;replace hl0:=As.mk hl0))
       refine bodyPost_ret (v:=.agg C) (results_cell_row (p:=2) (ty:=240) rfl _ _ gb _ C _ _ rfl hq0.out Tryz.underlying240 rfl (by rw [hCs];exact hsz)) rfl ⟨?_,by rw [hgb.out];exact hl0.out⟩
       rw [hRR.out,hm.out,hC]
end Go.Proofs.YtfdlaomnecjfeaaGreatDoor
end
section
namespace Go.Proofs.YtfdlaomnecjfeaaGreatDoor
open Go.RowKit Seine.Trie Seine.Dfa
set_option maxRecDepth 100000 in
set_option maxHeartbeats 1600000 in
theorem row_calls (w:World) (g nb cp N m W a b:Nat) (F:UInt8→Nat) (n:Int) (hm:m≤256) (hW:m+1=W) (hC:w.rangeAt g 2 (ZJ F m)) (hg:g<w.heap.size)
    (h259:w.cell? ⟨g,259,none⟩=some (.slice (some ⟨nb,0,none⟩) N cp)) (hn:n=(a:Int)) (ha:a≤1000000) (hb:a * W=b) (hbN:b+W≤N) (hNc:N≤cp) (hcp:cp≤1000000000000) :
    Calls Tryz.prog 188 #[.pointer (some ⟨g,0,none⟩),.int .i64 n] w fun e w'=>e=.returned (.slice (some ⟨nb,b,none⟩) W (cp - b))∧Below w.heap.size w w':=by
 subst hn
 have hlen:=As.mk (ZaV w F m hm)
 rw [hW] at hlen
 have hsz:=zero_cls.2
 have hmul:(a:Int) * (W:Int)=(b:Int):=by rw [← hb];push_cast;rfl
 have hW1:1≤W:=by omega
 have hW2:W≤257:=by omega
 obtain ⟨C,hCC⟩:∃ C,ZJ F m=C:=⟨_,rfl⟩
 have hCs:C.length=257:=by rw [← hCC];exact ZI _ _
 have hV:ZS F m=C.toArray:=by rw [← hCC];rfl
 rw [hCC] at hC
 rw [hV] at hlen
 replace hC:=As.mk hC
 replace hb:=As.mk hb
 replace hW:=As.mk hW
 clear hV hCC
 go_enter Tryz.func188,Tryz.ntmps188
 go_wp2_with (first
  | (refine wpList_load_mid (w:=w) rfl 240 (.tmp 8) rfl g 2 rfl C _ hC.out Tryz.underlying240 rfl (by rw [hCs];exact hsz) ?_)
  | (go_at_call 186;refine Calls.mono hlen.out ?_;rintro e w1 ⟨rfl,hb1⟩;have q259:=(hb1.cell (p:=⟨g,259,none⟩) hg).trans h259;replace hb1:=As.mk hb1))
 rw [show b+W - b=W by omega]
 go_ret
 exact ⟨rfl,hb1.out⟩
end Go.Proofs.YtfdlaomnecjfeaaGreatDoor
end
section
namespace Go.Proofs.YtfdlaomnecjfeaaGreatDoor
open Go.RowKit Go.Maps Seine.Trie Seine.Links
set_option maxRecDepth 100000 in
set_option maxHeartbeats 400000 in
theorem J0 (w:World) (ad:Addr) (c:Nat) (xs:List Int) (h:Ints w (some ad) xs) (hl:xs.length≤1000000) :
    Calls Tryz.prog 214 #[.slice (some ad) xs.length c] w (RetInts w xs):=by
 obtain ⟨n,hn⟩:∃ n,xs.length=n:=⟨_,rfl⟩
 rw [hn] at hl ⊢
 have hn:=As.mk hn
 have H:=As.mk h
 clear h
 obtain ⟨i0,hi,hz0,hz1,hz2⟩:=info_parts XF
 have hown:As ((w.alloc (.cells #[] 3)).ownsRow w.heap.size 3 1 (.slice (some ⟨w.heap.size,0,none⟩) 0 0) 0 []):=⟨Xd (cs:=[]) (heap_alloc_new w _) rfl (Nat.le_refl _) (Nat.zero_le _)⟩
 have hcells:As (∀ j u,(Z9 xs)[j]? = some u→(w.alloc (.cells #[] 3)).cell? (ad.add j)=some u):=⟨fun j u hj=>by
  have hjl:j<(Z9 xs).length:=(List.getElem?_eq_some_iff.1 hj).1
  obtain ⟨ad2,e2,hc2⟩:=Row.at_ (H.out.alloc (.cells #[] 3)) hjl
  injection e2 with e2
  subst e2
  rw [hc2,← hj];exact (List.getElem?_eq_getElem hjl).symm⟩
 have hone:As (∀ u∈Z9 xs,u.oneCell'=true):=⟨fun u hu=>by obtain ⟨x,_,rfl⟩:=List.mem_map.1 hu;rfl⟩
 have hnl:As ((Z9 xs).length=n * 1):=⟨by rw [Zat,hn.out,Nat.mul_one]⟩
 have hnil:∀ (w:World) (a:Addr) (n c:Nat),(binOp .eql 45 (.slice (some a) n c) (.slice none 0 0)).run Tryz.prog w=.ok (.bool false) w:=fun w a n c=>Lib.run_eql_slice_nil w _ _ (some a) n c 0 0 Tryz.underlying45
 go_enter Tryz.func214,Tryz.ntmps214
 go_wp2_with (at_builtin
              refine wpList_append_own_at _ rfl (.tmp 5) (.tmp 6) 45 rfl w.heap.size 3 i0 _ 1 8 Tryz.underlying45 hi hz0 hz1 hz2 rfl (by decide) (.slice (some ⟨w.heap.size,0,none⟩) 0 0) 0 [] rfl hown.out ad n c (Z9 xs) rfl hnl.out hcells.out hone.out (by unfold maxLen;omega) (by omega) (by simp) ?_
              intro v' w' h2 h3 h4 h5)
 go_ret
 refine ⟨v',rfl,?_,?_⟩
 · unfold OwnInts;rw [hn.out];simpa using h2
 · exact ((Below.refl _ _).alloc (Nat.le_refl _) _).grown h3 (by simp) (fun k hk=>Nat.le_of_eq (Option.some.inj hk))
/-- The nodes' order, by numbers. -/
def Xz (P:List Txt):List Int:=(op P P.length).map (place P)
theorem orderF_length {P:List Txt} (hT:Tree P):(Xz P).length=P.length:=by
 unfold Xz
 rw [List.length_map]
 have h1:=Zay hT P.length
 have h2:=Zbj hT.nodup (fun x hx=>Ze5 hT _ x rfl hx)
 omega
theorem lorder_calls (w:World) (base g:Nat) (P l:List Txt) (hT:Tree P) (hl:P.length≤1000000) (h:YN w base g P l) :
    Calls Tryz.prog 187 #[.pointer (some ⟨g,0,none⟩)] w (RetInts w (Xz P)):=by
 obtain ⟨v,q3,q4,hgl,hgb,ho,hne,_⟩:=LinksAt.order h
 have hlen:=Zay hT P.length
 have hpos:0<(op P P.length).length:=(List.getElem?_eq_some_iff.1 (ZbY P P.length)).1
 have hoi:OwnInts w base v (Xz P):=by unfold OwnInts Xz;rw [List.length_map];simpa [Z9,ZX,Function.comp_def] using ho
 have hol:(Xz P).length=(op P P.length).length:=by unfold Xz;rw [List.length_map]
 obtain ⟨b,cp,rfl,_,_⟩:=hoi.form (by omega)
 have hcl:=As.mk (J0 w ⟨b,0,none⟩ cp (Xz P) (Row.of_own hoi) (by omega))
 clear hoi ho hne hol hpos hlen
 go_enter Tryz.func187,Tryz.ntmps187
 go_wp2_with (go_at_call 214;refine hcl.out.mono ?_;rintro e w' ⟨v,rfl,ho2,hb2⟩)
 go_ret
 exact ⟨v,rfl,ho2,hb2⟩
end Go.Proofs.YtfdlaomnecjfeaaGreatDoor
end
section
namespace Go.Proofs.YtfdlaomnecjfeaaGreatDoor
open Go.RowKit Seine.Trie Seine.Dfa
/-- What `build` writes: an array's values from a place on. -/
theorem Zfb (o:Nat):∀ (L:List Value) (k:Nat) (Z:Array Value) (i:Nat),o+k+L.length≤Z.size →
    ((L.zipIdx k).foldl (fun cs x=>cs.setIfInBounds (o+x.2) x.1) Z)[i]? = if o+k≤i∧i<o+k+L.length then L[i - (o+k)]? else Z[i]?
 | [],k,Z,i,h=>by
   rw [if_neg (by simp)];rfl
 | v::r,k,Z,i,h=>by
   rw [List.zipIdx_cons,List.foldl_cons,Zfb o r (k+1) _ i (by simp at h ⊢;omega)]
   simp only [List.length_cons] at h ⊢
   by_cases h1:o+(k+1)≤i∧i<o+(k+1)+r.length
   · rw [if_pos h1,if_pos (by omega),show i - (o+k)=(i - (o+(k+1)))+1 by omega,List.getElem?_cons_succ]
   · rw [if_neg h1]
     by_cases h2:i=o+k
     · subst h2
       rw [if_pos (by omega),Array.getElem?_setIfInBounds_self_of_lt (by omega)];simp
     · rw [if_neg (by omega),Array.getElem?_setIfInBounds_ne (by omega)]
theorem fold_arr (o n:Nat) (C Z:Array Value) (hn:C.size=n) (i:Nat) (h:o+n≤Z.size) :
    (Array.foldl (fun cs x=>cs.setIfInBounds (o+x.2) x.1) Z C.zipIdx 0 n)[i]? = if o≤i∧i<o+n then C[i - o]? else Z[i]?:=by
 subst hn
 have:=Zfb o C.toList 0 Z i (by simpa using h)
 simp only [Nat.add_zero,Array.length_toList,Array.getElem?_toList] at this
 rw [← this,← Array.toList_zipIdx,Array.foldl_toList]
 simp
/-- A table of n rows of W numbers. -/
def ZP (G:Nat→Nat→Int) (n W:Nat):List Value:=(List.range (n * W)).map fun i=>.int .i64 (G (i / W) (i % W))
theorem Qk (G:Nat→Nat→Int) (n W:Nat):(ZP G n W).length=n * W:=by simp [ZP]
theorem ZaC {n W a k:Nat} (ha:a<n) (hk:k<W):a * W+k<n * W:=by
 have h1:(a+1) * W≤n * W:=Nat.mul_le_mul_right _ ha
 rw [Nat.succ_mul] at h1;omega
theorem Zd1 (G:Nat→Nat→Int) {n W a k:Nat} (ha:a<n) (hk:k<W):(ZP G n W)[a * W+k]? = some (.int .i64 (G a k)):=by
 unfold ZP
 rw [List.getElem?_map,List.getElem?_range (ZaC ha hk)]
 have h1:(a * W+k) / W=a:=by rw [Nat.mul_comm,Nat.mul_add_div (by omega),Nat.div_eq_of_lt hk];rfl
 have h2:(a * W+k) % W=k:=by rw [Nat.mul_comm,Nat.mul_add_mod,Nat.mod_eq_of_lt hk]
 simp [h1,h2]
/-- The block of a table machine: its trie, its links, its classes, its rows. -/
def DfaBlk (w:World) (g tg lg:Nat) (F:UInt8→Nat) (m:Nat) (v:Value):Prop :=
 ∃ D:Array Value,w.heap[g]? = some (.cells D 243 (0,0))∧D.size=260∧D[0]? = some (.pointer (some ⟨tg,0,none⟩))∧D[1]? = some (.pointer (some ⟨lg,0,none⟩))∧(∀ i u,(ZJ F m)[i]? = some u→D[2+i]? = some u)∧D[259]? = some v
theorem DfaBlk.range {w:World} {g tg lg:Nat} {F:UInt8→Nat} {m:Nat} {v:Value} (h:DfaBlk w g tg lg F m v):w.rangeAt g 2 (ZJ F m):=fun i u hu=>by
 obtain ⟨D,h1,_,_,_,h5,_⟩:=h
 rw [Za h1];exact h5 i u hu
theorem DfaBlk.cells {w:World} {g tg lg:Nat} {F:UInt8→Nat} {m:Nat} {v:Value} (h:DfaBlk w g tg lg F m v) :
    w.cell? ⟨g,0,none⟩=some (.pointer (some ⟨tg,0,none⟩))∧w.cell? ⟨g,1,none⟩=some (.pointer (some ⟨lg,0,none⟩))∧w.cell? ⟨g,259,none⟩=some v:=by
 obtain ⟨D,h1,_,h3,h4,_,h6⟩:=h
 exact ⟨by rw [Za h1];exact h3,by rw [Za h1];exact h4,by rw [Za h1];exact h6⟩
theorem DfaBlk.below {w w':World} {g tg lg:Nat} {F:UInt8→Nat} {m:Nat} {v:Value} (h:DfaBlk w g tg lg F m v) (hb:Below w.heap.size w w'):DfaBlk w' g tg lg F m v:=by
 obtain ⟨D,h1,h2⟩:=h
 exact ⟨D,Zc hb h1,h2⟩
end Go.Proofs.YtfdlaomnecjfeaaGreatDoor
end
