/- Joined texts: Dfa8, CwPure, TxtsOwn, Back, ShiftsPure. -/
import Derived.Test.YtfdlaomnecjfeaaGreatDoorM7
import Derived.Test.YtfdlaomnecjfeaaGreatDoorM3
import Derived.Test.YtfdlaomnecjfeaaGreatDoorM2
import Derived.Test.YtfdlaomnecjfeaaGreatDoorM1
import Derived.Test.YtfdlaomnecjfeaaGreatDoorM4
import Derived.Deep.RegionHeld3
import Derived.Deep.RegionWith
import Derived.Deep.LoopGhost
import Derived.StillTailTactics
import Derived.WalkSpells
set_option linter.unusedVariables false
set_option linter.unusedSimpArgs false
section
namespace Go.Proofs.YtfdlaomnecjfeaaGreatDoor
open Go.RowKit Go.Maps Seine.Trie Seine.Links Seine.Sparse Seine.Dfa
open Seine.Sort (sortP sortP_len)
/-- What a scan hands from byte to byte. -/
structure DScanAt (w wr:World) (P l:List Txt) (L:Txt) (mo:Option Nat) (cn:Cn) (i:Nat) (v:Value):Prop where
 own:OwnPrs wr w.heap.size v (Z1 P l L i)
 mt:Mo wr mo (cn.more i i)
 keep:Keeps (Zu mo) w wr
set_option maxRecDepth 100000 in
set_option maxHeartbeats 3200000 in
theorem dscan_calls (w:World) (g:Nat) (P l:List Txt) (h:DfaAt w g P l) (hPl:Zl l=P) (hl:P.length≤160) (mo:Option Nat) (cn:Cn) (hm:Mo w mo cn) (hok:cn.room) (hT:Tree P) (hlP:∀ x,x∈l→x∈P) (m:Nat) (hpm:∀ p∈P,p.length≤m) (hm1:m≤100000)
    (A:Option Addr) (c:Nat) (L:Txt) (hx:Byt w A L) (hL:L.length≤1000000) (hLm:L.length * m≤1000000) :
    Calls Tryz.prog 274 #[.pointer (some ⟨g,0,none⟩),.pointer (Xk mo),.slice A L.length c] w (RetPrsM w mo (sortP (Z1 P l L L.length)) (cn.more L.length L.length)):=by
 have HA:=As.mk h
 have HM:=As.mk hm
 have hTr:=As.mk hT
 have ctx:=As.mk (fun v (hv:Below w.heap.size w v)=>Zcb v mo cn (HM.out.below hv) A c L (Row.below hx hv) hL)
 obtain ⟨B,h1,h2,h3,h4⟩:=h
 obtain ⟨len,hlen⟩:∃ k,P.length=k:=⟨_,rfl⟩
 obtain ⟨W,hW⟩:∃ W,XM l=W:=⟨_,rfl⟩
 rw [hlen] at hl
 have hmc:=ZfA l
 have hW1:Jc l+1=W:=hW
 have hNb:len * W≤50000:=Nat.le_trans (Nat.mul_le_mul hl (by omega:W≤257)) (by decide)
 rw [hW,hlen] at h1 h4
 have cden:=As.mk (fun v (hv:Below w.heap.size w v)=>mdense_calls v mo cn (HM.out.below hv) (ZV l) len W (Z5 P l P) B.nb (Zc hv h4) hNb)
 have ctab:=As.mk (fun v=>ctable_calls v (ZV l) (Jc l))
 have cln:=As.mk (fun v=>ZaV v (ZV l) (Jc l) hmc)
 rw [hW1] at cln
 obtain ⟨C,hC⟩:∃ C,ZJ (ZV l) (Jc l)=C:=⟨_,rfl⟩
 have hCs:C.length=257:=by rw [← hC];exact ZI _ _
 rw [show ZS (ZV l) (Jc l)=C.toArray by rw [← hC];rfl] at ctab cln
 have hrC:=As.mk (fun (v:World) (hv:Below w.heap.size w v)=>(by have:=(h1.below hv).range;rw [hC] at this;exact this:v.rangeAt g 2 C))
 have hsz:=As.mk zero_cls.2
 obtain ⟨N,hN⟩:∃ N,len * W=N:=⟨_,rfl⟩
 rw [hN] at h1 cden
 have hs9:∀ v,Below w.heap.size w v→v.cell? ⟨g,259,none⟩=some (.slice (some ⟨B.nb,0,none⟩) N N):=fun v hv=>(h1.below hv).cells.2.2
 obtain ⟨T,hTV⟩:∃ T,YP (ZV l)=T:=⟨_,rfl⟩
 rw [hTV] at cden ctab
 obtain ⟨n,hn⟩:∃ k,L.length=k:=⟨_,rfl⟩
 rw [hn] at ctx hL hLm ⊢
 have hn':=As.mk hn
 have hpm':=As.mk hpm
 have hlP':=As.mk hlP
 replace hC:=As.mk hC
 replace hN:=As.mk hN
 replace hlen:=As.mk hlen
 replace hW:=As.mk hW
 replace hTV:=As.mk hTV
 replace hPl:=As.mk hPl
 have hwd:Below w.heap.size w w.drew:=(Below.refl _ _).drew
 clear h1 h2 h3 h4 hm hT hx hn hpm hlP
 go_enter Tryz.func274,Tryz.ntmps274
 go_wp2_with fail
 go_cut [7,8] (fun v7 v8 wx=>∃ tb eb,v7=.pointer (some ⟨tb,0,none⟩)∧v8=.pointer (some ⟨eb,0,none⟩)∧As (TextAt wx tb mo L)∧As (TabD wx eb mo (ZV l) len W (Z5 P l P))∧As (Below w.heap.size w wx))
 case first =>
  refine wp_region_held_drew (S:=fun v=>Below w.heap.size w v) (by kernel_rfl) hwd (fun hHeld=>?_)
  refine Zg 0 (v:=?_) rfl (by kernel_rfl) (by kernel_rfl) (by kernel_rfl) (fun _ _ _ h=>h) (Or.inl ⟨by rfl,?_⟩) (by assumption) ?_
  rotate_left 1
  · (intro w hSw;(try dsimp only at hSw);first | (go_simp;done) | (go_simp;with_reducible rfl))
  (simp only [Act.put,List.setIfInBounds_toArray,List.set_cons_zero,List.set_cons_succ])
  refine Zg 1 (v:=?_) rfl (by kernel_rfl) (by kernel_rfl) (by kernel_rfl) (fun _ _ _ h=>h) (Or.inl ⟨by rfl,?_⟩) (by assumption) ?_
  rotate_left 1
  · (intro w hSw;(try dsimp only at hSw);first | (go_simp;done) | (go_simp;with_reducible rfl))
  (simp only [Act.put,List.setIfInBounds_toArray,List.set_cons_zero,List.set_cons_succ])
  refine Zg 3 (v:=?_) rfl (by kernel_rfl) (by kernel_rfl) (by kernel_rfl) (fun _ _ _ h=>h) (Or.inl ⟨by rfl,?_⟩) (by assumption) ?_
  rotate_left 1
  · (intro w hSw;(try dsimp only at hSw);first | (go_simp;done) | (go_simp;with_reducible rfl))
  (simp only [Act.put,List.setIfInBounds_toArray,List.set_cons_zero,List.set_cons_succ])
  refine Zg 4 (v:=?_) rfl (by kernel_rfl) (by kernel_rfl) (by kernel_rfl) (fun _ _ _ h=>h) (Or.inl ⟨by rfl,?_⟩) (by assumption) ?_
  rotate_left 1
  · (intro w hSw;(try dsimp only at hSw);first | (go_simp;done) | (go_simp;with_reducible rfl))
  (simp only [Act.put,List.setIfInBounds_toArray,List.set_cons_zero,List.set_cons_succ])
  refine Zg 5 (v:=?_) rfl (by kernel_rfl) (by kernel_rfl) (by kernel_rfl) (fun _ _ _ h=>h) (Or.inl ⟨by rfl,?_⟩) (by assumption) ?_
  rotate_left 1
  · (intro w hSw;(try dsimp only at hSw);first | (go_simp;done) | (go_simp;with_reducible rfl))
  (simp only [Act.put,List.setIfInBounds_toArray,List.set_cons_zero,List.set_cons_succ])
  refine Zg 6 (v:=?_) rfl (by kernel_rfl) (by kernel_rfl) (by kernel_rfl) (fun _ _ _ h=>h) (Or.inl ⟨by rfl,?_⟩) (by assumption) ?_
  rotate_left 1
  · (intro w hSw;(try dsimp only at hSw);first | (go_simp;done) | (go_simp;with_reducible rfl))
  (simp only [Act.put,List.setIfInBounds_toArray,List.set_cons_zero,List.set_cons_succ])
  refine Zg 7 rfl (by kernel_rfl) (by kernel_rfl) (by kernel_rfl) (fun _ _ _ h=>h) (yieldsIf_load_mid (by rfl) _ _ rfl _ _ rfl C _ (fun v hv=>hrC.out v hv) Tryz.underlying240 rfl (by rw [hCs];exact hsz.out)) (by assumption) ?_
  (simp only [Act.put,List.setIfInBounds_toArray,List.set_cons_zero,List.set_cons_succ])
  refine Zg 9 (v:=?_) rfl (by kernel_rfl) (by kernel_rfl) (by kernel_rfl) (fun _ _ _ h=>h) (Or.inl ⟨by rfl,?_⟩) (by assumption) ?_
  rotate_left 1
  · (intro w hSw;(try dsimp only at hSw);first | (go_simp;done) | (go_simp;with_reducible rfl))
  (simp only [Act.put,List.setIfInBounds_toArray,List.set_cons_zero,List.set_cons_succ])
  refine Zg 10 (v:=?_) rfl (by kernel_rfl) (by kernel_rfl) (by kernel_rfl) (fun _ _ _ h=>h) (Or.inl ⟨by rfl,?_⟩) (by assumption) ?_
  rotate_left 1
  · (intro w hSw;(try dsimp only at hSw);first | (go_simp;done) | (go_simp;with_reducible rfl))
  (simp only [Act.put,List.setIfInBounds_toArray,List.set_cons_zero,List.set_cons_succ])
  refine Zg 11 (v:=?_) rfl (by kernel_rfl) (by kernel_rfl) (by kernel_rfl) (fun _ _ _ h=>h) (Or.inl ⟨by rfl,?_⟩) (by assumption) ?_
  rotate_left 1
  · (intro w hSw;(try dsimp only at hSw);first | (go_simp;done) | (go_simp;with_reducible rfl))
  (simp only [Act.put,List.setIfInBounds_toArray,List.set_cons_zero,List.set_cons_succ])
  refine Zg 12 rfl (by kernel_rfl) (by kernel_rfl) (by kernel_rfl) (fun _ _ _ h=>h) (yieldsIf_load_mid (by rfl) _ _ rfl _ _ rfl C _ (fun v hv=>hrC.out v hv) Tryz.underlying240 rfl (by rw [hCs];exact hsz.out)) (by assumption) ?_
  (simp only [Act.put,List.setIfInBounds_toArray,List.set_cons_zero,List.set_cons_succ])
  refine Zg 14 (v:=?_) rfl (by kernel_rfl) (by kernel_rfl) (by kernel_rfl) (fun _ _ _ h=>h) (Or.inl ⟨by rfl,?_⟩) (by assumption) ?_
  rotate_left 1
  · (intro w hSw;(try dsimp only at hSw);first | (go_simp;done) | (go_simp;with_reducible rfl))
  (simp only [Act.put,List.setIfInBounds_toArray,List.set_cons_zero,List.set_cons_succ])
  refine Zg 15 (v:=?_) rfl (by kernel_rfl) (by kernel_rfl) (by kernel_rfl) (fun _ _ _ h=>h) (Or.inl ⟨by rfl,?_⟩) (by assumption) ?_
  rotate_left 1
  · (intro w hSw;(try dsimp only at hSw);first | (go_simp;done) | (go_simp;with_reducible rfl))
  (simp only [Act.put,List.setIfInBounds_toArray,List.set_cons_zero,List.set_cons_succ])
  refine Zg 16 (v:=?_) rfl (by kernel_rfl) (by kernel_rfl) (by kernel_rfl) (fun _ _ _ h=>h) (Or.inl ⟨by rfl,?_⟩) (by assumption) ?_
  rotate_left 1
  · (intro w hSw;(try dsimp only at hSw);first | (go_simp;done) | (go_simp;with_reducible rfl))
  (simp only [Act.put,List.setIfInBounds_toArray,List.set_cons_zero,List.set_cons_succ])
  refine Zg 17 (v:=?_) rfl (by kernel_rfl) (by kernel_rfl) (by kernel_rfl) (fun _ _ _ h=>h) (Or.inl ⟨by rfl,?_⟩) (by assumption) ?_
  rotate_left 1
  · (intro w hSw;(try dsimp only at hSw);first | (go_simp;done) | (go_simp;with_reducible rfl))
  (simp only [Act.put,List.setIfInBounds_toArray,List.set_cons_zero,List.set_cons_succ])
  refine wpAnyH_ready (rs:=[2]) (by kernel_rfl) (by simp) ?_
  refine AllReadyH.cons rfl (fun K hK=>?_) AllReadyH.nil
  go_simp
  go_wp2_with (go_at_call 266;refine Calls.mono (ctx.out _ hwd) ?_;rintro e w1 ⟨tb,rfl,ht1,hb1⟩)
  have hB1:Below w.heap.size w w1:=Ze hwd hb1
  refine hK.out _ _ hB1 (fun hHeld=>?_)
  clear hK K hb1
  refine wpAnyH_ready (rs:=[8]) (by kernel_rfl) (by simp) ?_
  refine AllReadyH.cons rfl (fun K hK=>?_) AllReadyH.nil
  go_simp
  go_wp2_with (go_at_call 276;refine Calls.mono (ctab.out _) ?_;rintro e w2 ⟨rfl,hb2⟩)
  have hB2:Below w.heap.size w w2:=Ze hB1 hb2
  have ht2:=ht1.below hb2
  refine hK.out _ _ hB2 (fun hHeld=>?_)
  clear hK K hb2 ht1
  refine wpAnyH_ready (rs:=[13]) (by kernel_rfl) (by simp) ?_
  refine AllReadyH.cons rfl (fun K hK=>?_) AllReadyH.nil
  go_simp
  go_wp2_with (go_at_call 186;refine Calls.mono (cln.out _) ?_;rintro e w3 ⟨rfl,hb3⟩)
  have hB3:Below w.heap.size w w3:=Ze hB2 hb3
  have ht3:=ht2.below hb3
  refine hK.out _ _ hB3 (fun hHeld=>?_)
  clear hK K hb3 ht2
  refine wpAnyH_ready (rs:=[18]) (by kernel_rfl) (by simp) ?_
  refine AllReadyH.cons rfl (fun K hK=>?_) AllReadyH.nil
  go_simp
  go_wp2_with (go_at_call 275;refine Calls.mono (cden.out _ hB3) ?_;rintro e w4 ⟨eb,rfl,hD4,hb4⟩)
  have hB4:Below w.heap.size w w4:=Ze hB3 hb4
  have ht4:=ht3.below hb4
  refine hK.out _ _ hB4 (fun hHeld=>?_)
  clear hK K hb4 ht3
  refine Zg 19 (v:=?_) rfl (by kernel_rfl) (by kernel_rfl) (by kernel_rfl) (fun _ _ _ h=>h) (Or.inl ⟨by rfl,?_⟩) (by assumption) ?_
  rotate_left 1
  · (intro w hSw;(try dsimp only at hSw);first | (go_simp;done) | (go_simp;with_reducible rfl))
  (simp only [Act.put,List.setIfInBounds_toArray,List.set_cons_zero,List.set_cons_succ])
  refine Zg 20 (v:=?_) rfl (by kernel_rfl) (by kernel_rfl) (by kernel_rfl) (fun _ _ _ h=>h) (Or.inl ⟨by rfl,?_⟩) (by assumption) ?_
  rotate_left 1
  · (intro w hSw;(try dsimp only at hSw);first | (go_simp;done) | (go_simp;with_reducible rfl))
  (simp only [Act.put,List.setIfInBounds_toArray,List.set_cons_zero,List.set_cons_succ])
  refine wpAnyH_done (by kernel_rfl) ?_ _
  go_wp2_with fail
  go_meet
  case rel=>exact ⟨tb,eb,rfl,rfl,⟨ht4⟩,⟨hD4⟩,⟨hB4⟩⟩
 case rest =>
  obtain ⟨tb,eb,rfl,rfl,hTx,hTab,hbw⟩:=hcut
  obtain ⟨W0,hW0⟩:∃ W,wc=W:=⟨_,rfl⟩
  rw [hW0] at hTx hTab hbw ⊢
  clear hW0 ctx cden ctab cln hs9 hrC
  have hA0:=As.mk (HA.out.below hbw.out)
  have hM0:=As.mk (HM.out.below hbw.out)
  have hglt:=As.mk (fun g (e:mo=some g)=>(Zf (hM0.out g e):g<W0.heap.size))
  have clen:=As.mk (ZaI W0 tb mo L hTx.out)
  rw [hn'.out] at clen
  have hS0:As (DScanAt W0 W0 P l L mo cn 0 (.slice none 0 0)):=⟨⟨World.ownsRow_nil _ _ _ _,by rw [Cn.more_zero];exact hM0.out,Keeps.refl _ _⟩⟩
  have hp0:place P (lng P (L.take 0))=0:=by rw [List.take_zero,ZdZ,ZO hTr.out.nodup hTr.out.root];rfl
  go_wp2_with (go_at_call 268;refine Calls.mono clen.out ?_;rintro e w' ⟨rfl,rfl⟩)
  go_loopg [9,10,37] (n+1) (fun gk v9 v10 v37 wr=>∃ (i:Nat) (u:Value),u=v9∧As (n+1≤gk+i)∧i≤n∧v37=.int .i64 i∧v10=.int .i64 (place P (lng P (L.take i)))∧As (DScanAt W0 wr P l L mo cn i u))
  case atStart=>exact ⟨0,_,rfl,⟨by omega⟩,Nat.zero_le _,rfl,by rw [hp0],hS0⟩
  case round =>
   obtain ⟨i,u,rfl,hgk,hi,rfl,rfl,hS⟩:=hrel
   by_cases hlt:i<n
   · obtain ⟨gp,rfl⟩:∃ gp,gk=gp+1:=⟨gk - 1,by have:=hgk.out;omega⟩
     have cat:=As.mk (Zeb wr tb mo L (hTx.out.keep hM0.out hS.out.keep) _ hS.out.mt (Cn.more_ok hok (by omega) (by omega)) i (by rw [hn'.out];exact hlt))
     have hsm:=Jt hTr.out (L.take i)
     have hnx:lng P (lng P (L.take i)++[L.getD i 0])=lng P (L.take (i+1)):=by rw [ZaQ L i (by rw [hn'.out];exact hlt),← ZcV hTr.out]
     have cst:=As.mk (fun v (hk:Keeps (Zu mo) W0 v) (hmv:Mo v mo (cn.more (i+1) i))=>(by
      obtain ⟨a,ea,haP⟩:=QR hsm
      have h9:=mlookd_calls v eb mo (ZV l) len W (Z5 P l P) (hTab.out.keep hM0.out hk) _ hmv (Cn.more_ok hok (by omega) (by omega)) hNb a (by have:=(List.getElem?_eq_some_iff.1 haP).1;have:=hlen.out;omega) (L.getD i 0) (by rw [← hW.out];exact ZbZ l _)
      have h8:Z5 P l P a (ZV l (L.getD i 0))=place P (lng P (lng P (L.take i)++[L.getD i 0])):=by rw [← hPl.out] at haP ⊢;exact grid_step haP _
      rw [h8,hnx,← ea] at h9
      have h7:{ cn.more (i+1) i with l:=(cn.more (i+1) i).l+1 }=cn.more (i+1) (i+1):=by unfold Cn.more;simp only [Cn.mk.injEq,true_and,and_true];push_cast;omega
      rw [h7] at h9
      exact h9:Calls Tryz.prog 273 #[.pointer (some ⟨eb,0,none⟩),.int .i64 (place P (lng P (L.take i))),.int .u8 ((L.getD i 0).toNat:Int)] v fun e w'=>e=.returned (.int .i64 (place P (lng P (L.take (i+1)))))∧Mo w' mo (cn.more (i+1) (i+1))∧Keeps (Zu mo) v w'))
     have hmS:{ cn.more i i with s:=(cn.more i i).s+1 }=cn.more (i+1) i:=by unfold Cn.more;simp only [Cn.mk.injEq,true_and,and_true];push_cast;omega
     rw [hmS] at cat
     have hendE:=Zer (l:=l) hTr.out (L.take (i+1))
     have hEl:=Zbq l (lng P (L.take (i+1)))
     have hEm:=hpm'.out _ (Jt hTr.out (L.take (i+1)))
     have hEr:=As.mk (fun z (hz:z∈endsF l (lng P (L.take (i+1))))=>Zck hz)
     have hh:Z1 P l L (i+1)=Z1 P l L i++(endsF l (lng P (L.take (i+1)))).map fun z=>(((i+1:Nat):Int) - z,((i+1:Nat):Int)):=rfl
     have hhl:=YA (l:=l) hTr.out L m hpm'.out i
     have hll:=Zfx hTr.out (L.take (i+1))
     rw [List.length_take,hn'.out] at hll
     have cen:=As.mk (fun v (hk:Keeps (Zu mo) W0 v)=>(by
      obtain ⟨B,h1,h2,h3,h4⟩:=hA0.out.keepM hM0.out hk
      have:=Zcj v B.lb B.lg P l hTr.out hlP'.out (fun p hp=>Nat.le_trans (hpm'.out p hp) hm1) h3 (place P (lng P (L.take (i+1))))
      rw [hendE] at this
      exact ⟨_,h1.cells.2.1,this⟩:∃ lg,v.cell? ⟨g,1,none⟩=some (.pointer (some ⟨lg,0,none⟩))∧Calls Tryz.prog 271 #[.pointer (some ⟨lg,0,none⟩),.int .i64 (place P (lng P (L.take (i+1))))] v (RetInts v (endsF l (lng P (L.take (i+1)))))))
     generalize endsF l (lng P (L.take (i+1)))=E at *
     obtain ⟨st2,hst2⟩:∃ x,place P (lng P (L.take (i+1)))=x:=⟨_,rfl⟩
     rw [hst2] at cst hendE cen
     replace hst2:=As.mk hst2
     generalize place P (lng P (L.take i))=st1 at *
     generalize L.getD i 0=x at *
     have hwx:IntKind.u8.wrap (x.toNat:Int)=(x.toNat:Int):=by have:=x.toNat_lt;simp only [IntKind.wrap,IntKind.signed,IntKind.bits];simp;omega
     replace hh:=As.mk hh
     clear hnx hmS hendE hsm
     go_wp2_with (first
      | (go_at_call 270;refine Calls.mono cat.out ?_;rintro e w4 ⟨rfl,hm4,hk4⟩;have hk4':=hS.out.keep.trans hk4)
      | (go_at_call 273;refine Calls.mono (cst.out _ hk4' hm4) ?_;rintro e w5 ⟨rfl,hm5,hk5⟩;have hk5':=hk4'.trans hk5;obtain ⟨lg,hlg,cE⟩:=cen.out _ hk5')
      | (go_at_call 271;refine Calls.mono cE ?_;intro e w6 h6;obtain ⟨vE,heE,hoE,hb6⟩:=h6.out;subst heE;obtain ⟨AE,cE',rfl,hcE⟩:=Zk hoE))
     obtain ⟨H,hH⟩:∃ H,Z1 P l L i=H:=⟨_,rfl⟩
     obtain ⟨hSo,hSm,hSk⟩:=hS.out
     rw [hH] at hSo hh hhl
     obtain ⟨el,hel⟩:∃ k,E.length=k:=⟨_,rfl⟩
     have hown6:OwnPrs w6 W0.heap.size u H:=Zo (Zj (Zj hSo hk4 (fun b c' _ hb _=>hSm.far hb (.inr (by decide)))) hk5 (fun b c' _ hb _=>hm4.far hb (.inr (by decide)))) hb6
     have hin:As (OwnPrs w6 W0.heap.size u (H++(E.take 0).map fun z=>(((i+1:Nat):Int) - z,((i+1:Nat):Int)))):=⟨by rw [List.take_zero,List.map_nil,List.append_nil];exact hown6⟩
     have hmo6:=As.mk (hm5.below hb6)
     have hkp6:=As.mk (hk5'.trans (Keeps.of_below hb6 _))
     have hoE':=As.mk hoE
     have hW5:=hk5'.size
     rw [hel] at hcE ⊢
     have hHl:As (H.length+el≤1000000):=⟨by
      have:(i+1) * m≤n * m:=Nat.mul_le_mul_right _ (by omega)
      rw [Nat.succ_mul] at this
      omega⟩
     have hel6:el≤1000000:=by have:=hHl.out;omega
     replace hel:=As.mk hel
     replace hH:=As.mk hH
     clear cat cst cen cE hm4 hk4 hk4' hm5 hk5 hk5' hb6 h6 hoE hown6 hS hSo hSm hSk hhl hlg
     go_loopg [9,54] (el+1) (fun g2 v9 v54 wq=>∃ (j:Nat) (u2:Value),u2=v9∧As (el+1≤g2+j)∧j≤el∧v54=.int .i64 j∧As (OwnPrs wq W0.heap.size u2 (H++(E.take j).map fun z=>(((i+1:Nat):Int) - z,((i+1:Nat):Int))))∧As (Mo wq mo (cn.more (i+1) (i+1)))∧As (Keeps (Zu mo) W0 wq)∧As (wq.ownsRow w5.heap.size 3 1 (.slice AE el cE') el (Z9 E)))
     case atStart=>exact ⟨0,_,rfl,⟨by omega⟩,Nat.zero_le _,rfl,hin,hmo6,hkp6,⟨by rw [← hel.out];exact hoE'.out⟩⟩
     case round =>
      obtain ⟨j,u2,rfl,hgk2,hj,rfl,hown,hmq,hkq,hoq⟩:=hrel
      by_cases hjl:j<el
      · obtain ⟨gq,rfl⟩:∃ gq,gk=gq+1:=⟨gk - 1,by have:=hgk2.out;omega⟩
        obtain ⟨ad,rfl,hc0⟩:=Ints.at_ (Row.of_own hoq.out) (i:=j) (by rw [hel.out];exact hjl)
        have hjE:j<E.length:=by rw [hel.out];exact hjl
        have hzz:=hEr.out (E.getD j 0) (by rw [List.getD_eq_getElem?_getD,List.getElem?_eq_getElem hjE];exact List.getElem_mem hjE)
        have htk:(E.take (j+1)).map (fun z=>(((i+1:Nat):Int) - z,((i+1:Nat):Int)))=(E.take j).map (fun z=>(((i+1:Nat):Int) - z,((i+1:Nat):Int)))++[(((i+1:Nat):Int) - E.getD j 0,((i+1:Nat):Int))]:=by
         rw [List.take_succ_eq_append_getElem hjE,List.map_append,List.getD_eq_getElem?_getD,List.getElem?_eq_getElem hjE];rfl
        have hql:(H++(E.take j).map fun z=>(((i+1:Nat):Int) - z,((i+1:Nat):Int))).length+1≤1000000:=by
         rw [List.length_append,List.length_map,List.length_take]
         have:=hHl.out;omega
        generalize (E.take j).map (fun z=>(((i+1:Nat):Int) - z,((i+1:Nat):Int)))=Q at *
        generalize E.getD j 0=z at *
        obtain ⟨ql,hqq⟩:∃ k,(H++Q).length=k:=⟨_,rfl⟩
        rw [hqq] at hql
        have hown':wr.ownsRow W0.heap.size 67 2 u2 ql (Zr (H++Q)):=by have:=hown.out;unfold OwnPrs at this;rwa [hqq] at this
        have hz0:=hzz.1
        have hz1:=hzz.2
        have hsq:=hkq.out.size
        have hwz:IntKind.i64.wrap ((i:Int)+1 - z)=(i:Int)+1 - z:=by simp only [IntKind.wrap,IntKind.signed,IntKind.bits];simp;omega
        replace hown':=As.mk hown'
        replace hqq:=As.mk hqq
        replace htk:=As.mk htk
        clear hjE hzz hown
        go_wp2_with (at_builtin
                     (refine ZA wr rfl (.tmp 58) (.tmp 66) 64 rfl W0.heap.size 67 _ 2 16 Tryz.underlying64 Xl rfl (by decide) u2 ql (Zr (H++Q)) rfl hown'.out [.int .i64 ((i:Int)+1 - z),.int .i64 ((i:Int)+1)] rfl (by simp [Value.oneCell']) _ rfl (by simp) (by omega) (by decide) hsq ?_)
                     intro v8 w8 ho8 hk8 _ hb8)
        have hoq8:=Zj hoq.out hk8 (fun b c' _ hb _ hS=>Zy hown'.out hb (by decide) hS)
        have hkq8:=hkq.out.transBelow hb8
        have hmq8:=hmq.out.belowAt hglt.out hb8
        go_roundg gq
        case rel =>
         refine ⟨j+1,_,rfl,⟨by have:=hgk2.out;omega⟩,by omega,(by first | rfl | go_num | (congr 1;omega)),⟨?_⟩,⟨hmq8⟩,⟨hkq8⟩,⟨hoq8⟩⟩
         rw [htk.out,← List.append_assoc]
         unfold OwnPrs
         rw [List.length_append,hqq.out,List.length_singleton,Xa]
         push_cast
         exact ho8
        case measure=>omega
      · obtain rfl:el=j:=by omega
        have hfin:As (DScanAt W0 wr P l L mo cn (i+1) u2):=⟨⟨by rw [hh.out];have:=hown.out;rw [List.take_of_length_le (by rw [hel.out];exact Nat.le_refl _)] at this;exact this,hmq.out,hkq.out⟩⟩
        go_wp2
        go_roundg gp
        case rel=>exact ⟨i+1,_,rfl,⟨by have:=hgk.out;omega⟩,by omega,(by first | rfl | go_num | (congr 1;omega)),congrArg _ hst2.out.symm,hfin⟩
        case measure=>omega
   · obtain rfl:n=i:=by omega
     have hhl:=YA (l:=l) hTr.out L m hpm'.out n
     have hso:RetPrsM w mo (sortP (Z1 P l L n)) (cn.more n n)=RetPrsM w mo (sortP (Z1 P l L n)) (cn.more n n):=rfl
     have hSo:=hS.out.own
     have hSm:=As.mk hS.out.mt
     have hSk:=As.mk hS.out.keep
     obtain ⟨Ao,co,rfl,hco,hcm,hro⟩:=OwnPrs.row2 hSo
     have cso:=As.mk (YB _ Ao co (Z1 P l L n) wr (Nat.le_refl _) hro hco hcm (by omega))
     have hss:=hS.out.keep.size
     clear hSo hro hS hso
     generalize sortP (Z1 P l L n)=R at *
     go_wp2_with (go_at_call 147;refine Calls.mono cso.out ?_;intro e w9 h9;obtain ⟨v9,he,ho9,hb9⟩:=h9.out;subst he)
     go_ret
     have hs0:=hbw.out.size
     exact ⟨v9,rfl,ZB ho9 (by omega),hSm.out.below hb9,((Keeps.of_below hbw.out _).trans hSk.out).trans (Keeps.of_below hb9 _)⟩
end Go.Proofs.YtfdlaomnecjfeaaGreatDoor
end
section
namespace Seine.Cw
open Seine.Trie Seine.Sort
/-- The least of b and the numbers from 1 on, below b, that hold. -/
def ZY (q:Nat→Bool) (b:Nat):Nat:=((List.range b).find? (fun n=>decide (0<n) && q n)).getD b
theorem find_range {q:Nat→Bool}:∀ {b n:Nat},(List.range b).find? q=some n→n<b∧q n=true∧∀ j,j<n→q j=false:=by
 intro b n h
 rw [List.find?_range_eq_some] at h
 exact ⟨List.mem_range.1 h.2.1,h.1,fun j hj=>by have:=h.2.2 j hj;simpa using this⟩
theorem Xt (q:Nat→Bool) (b:Nat) (hb:0<b):0<ZY q b∧ZY q b≤b∧(ZY q b<b→q (ZY q b)=true)∧∀ j,0<j→j<ZY q b→q j=false:=by
 unfold ZY
 cases h:(List.range b).find? (fun n=>decide (0<n) && q n) with
 | some n =>
   obtain ⟨h1,h2,h3⟩:=find_range h
   rw [Bool.and_eq_true,decide_eq_true_eq] at h2
   refine ⟨h2.1,by simp;omega,fun _=>h2.2,fun j a c=>?_⟩
   have:=h3 j c
   rw [decide_eq_true a,Bool.true_and] at this
   exact this
 | none =>
   refine ⟨hb,Nat.le_refl _,fun h=>by simp at h,fun j a c=>?_⟩
   have:=List.find?_eq_none.1 h j (List.mem_range.2 (by simpa using c))
   rw [decide_eq_true a,Bool.true_and] at this
   simpa using this
theorem Zew {q:Nat→Bool} {b n:Nat} (hb:0<b) (hn:0<n) (h:q n=true):ZY q b≤n:=by
 rcases Nat.lt_or_ge n (ZY q b) with e | e
 · have:=(Xt q b hb).2.2.2 n hn e
   rw [h] at this;cases this
 · exact e
theorem J2 {q:Nat→Bool} {b m:Nat} (hb:0<b) (h0:0<m) (h1:m≤b) (h2:m<b→q m=true) (h3:∀ j,0<j→j<m→q j=false):ZY q b=m:=by
 obtain ⟨a1,a2,a3,a4⟩:=Xt q b hb
 rcases Nat.lt_trichotomy (ZY q b) m with e | e | e
 · have:=h3 _ a1 e;rw [a3 (by omega)] at this;cases this
 · exact e
 · have:=a4 m h0 e;rw [h2 (by omega)] at this;cases this
/-- How many bytes the shortest text has; 0: there are none. -/
def least (T:List Txt):Nat:=T.foldl (fun n t=>if n=0 then t.length else min n t.length) 0
theorem Zdt:∀ (T:List Txt) (n:Nat),0<n→(∀ t∈T,t≠[])→0<T.foldl (fun n t=>if n=0 then t.length else min n t.length) n∧T.foldl (fun n t=>if n=0 then t.length else min n t.length) n≤n∧(∀ t∈T,T.foldl (fun n t=>if n=0 then t.length else min n t.length) n≤t.length) ∧
    (T.foldl (fun n t=>if n=0 then t.length else min n t.length) n=n∨∃ t∈T,T.foldl (fun n t=>if n=0 then t.length else min n t.length) n=t.length)
 | [],n,hn,_=>⟨hn,Nat.le_refl _,by simp,.inl rfl⟩
 | t::T,n,hn,hT=>by
   have ht:0<t.length:=List.length_pos_iff.2 (hT t (by simp))
   obtain ⟨h1,h2,h3,h4⟩:=Zdt T (min n t.length) (by omega) (fun x hx=>hT x (List.mem_cons_of_mem _ hx))
   rw [List.foldl_cons,if_neg (by omega)]
   refine ⟨h1,by omega,fun x hx=>?_,?_⟩
   · rcases List.mem_cons.1 hx with rfl | hx
     · omega
     · exact h3 x hx
   · rcases h4 with h4 | ⟨x,hx,h4⟩
     · rw [h4]
       rcases Nat.le_total n t.length with e | e
       · exact .inl (by omega)
       · exact .inr ⟨t,by simp,by omega⟩
     · exact .inr ⟨x,List.mem_cons_of_mem _ hx,h4⟩
theorem Q2 {T:List Txt} (hT:∀ t∈T,t≠[]) (hne:T≠[]):0<least T∧(∀ t∈T,least T≤t.length)∧∃ t∈T,least T=t.length:=by
 cases T with
 | nil=>exact absurd rfl hne
 | cons t T =>
   have ht:0<t.length:=List.length_pos_iff.2 (hT t (by simp))
   unfold least
   rw [List.foldl_cons,if_pos rfl]
   obtain ⟨h1,h2,h3,h4⟩:=Zdt T t.length ht (fun x hx=>hT x (List.mem_cons_of_mem _ hx))
   refine ⟨h1,fun x hx=>?_,?_⟩
   · rcases List.mem_cons.1 hx with rfl | hx
     · exact h2
     · exact h3 x hx
   · rcases h4 with h4 | ⟨x,hx,h4⟩
     · exact ⟨t,by simp,h4⟩
     · exact ⟨x,List.mem_cons_of_mem _ hx,h4⟩
/-- How many bytes from a text's end a byte stands at the least; 0: nowhere. -/
def near (T:List Txt) (c:UInt8):Nat:=T.foldl (fun n t=>if c∈t then (if n=0 then t.idxOf c+1 else min n (t.idxOf c+1)) else n) 0
theorem near_spec (T:List Txt) (c:UInt8):(near T c=0→∀ t∈T,c ∉ t)∧(0<near T c→∃ t∈T,c∈t∧near T c=t.idxOf c+1)∧∀ t∈T,c∈t→0<near T c∧near T c≤t.idxOf c+1:=by
 have H:∀ (T:List Txt) (n:Nat),(T.foldl (fun n t=>if c∈t then (if n=0 then t.idxOf c+1 else min n (t.idxOf c+1)) else n) n=0→n=0∧∀ t∈T,c ∉ t) ∧
     (T.foldl (fun n t=>if c∈t then (if n=0 then t.idxOf c+1 else min n (t.idxOf c+1)) else n) n=n∨∃ t∈T,c∈t∧T.foldl (fun n t=>if c∈t then (if n=0 then t.idxOf c+1 else min n (t.idxOf c+1)) else n) n=t.idxOf c+1) ∧
     (0<n→0<T.foldl (fun n t=>if c∈t then (if n=0 then t.idxOf c+1 else min n (t.idxOf c+1)) else n) n∧T.foldl (fun n t=>if c∈t then (if n=0 then t.idxOf c+1 else min n (t.idxOf c+1)) else n) n≤n) ∧
     ∀ t∈T,c∈t→0<T.foldl (fun n t=>if c∈t then (if n=0 then t.idxOf c+1 else min n (t.idxOf c+1)) else n) n∧T.foldl (fun n t=>if c∈t then (if n=0 then t.idxOf c+1 else min n (t.idxOf c+1)) else n) n≤t.idxOf c+1:=by
  intro T
  induction T with
  | nil=>intro n;exact ⟨fun h=>⟨h,by simp⟩,.inl rfl,fun h=>⟨h,Nat.le_refl _⟩,by simp⟩
  | cons x T ih =>
    intro n
    rw [List.foldl_cons]
    by_cases hx:c∈x
    · rw [if_pos hx]
      obtain ⟨m,hm⟩:∃ m,(if n=0 then x.idxOf c+1 else min n (x.idxOf c+1))=m:=⟨_,rfl⟩
      have hm0:0<m∧m≤x.idxOf c+1∧(0<n→m≤n)∧(m=n∨m=x.idxOf c+1):=by rw [← hm];split <;> omega
      rw [hm]
      obtain ⟨h1,h2,h3,h4⟩:=ih m
      obtain ⟨h5,h6⟩:=h3 hm0.1
      refine ⟨fun h=>by omega,?_,fun h=>⟨h5,by have:=hm0.2.2.1 h;omega⟩,fun t ht hc=>?_⟩
      · rcases h2 with h2 | ⟨t,ht,hc,h2⟩
        · rcases hm0.2.2.2 with e | e
          · exact .inl (by omega)
          · exact .inr ⟨x,by simp,hx,by omega⟩
        · exact .inr ⟨t,List.mem_cons_of_mem _ ht,hc,h2⟩
      · rcases List.mem_cons.1 ht with rfl | ht
        · exact ⟨h5,by omega⟩
        · exact h4 t ht hc
    · rw [if_neg hx]
      obtain ⟨h1,h2,h3,h4⟩:=ih n
      refine ⟨fun h=>?_,?_,h3,fun t ht hc=>?_⟩
      · obtain ⟨a,b⟩:=h1 h
        refine ⟨a,fun t ht=>?_⟩
        rcases List.mem_cons.1 ht with rfl | ht
        · exact hx
        · exact b t ht
      · rcases h2 with h2 | ⟨t,ht,hc,h2⟩
        · exact .inl h2
        · exact .inr ⟨t,List.mem_cons_of_mem _ ht,hc,h2⟩
      · rcases List.mem_cons.1 ht with rfl | ht
        · exact absurd hc hx
        · exact h4 t ht hc
 obtain ⟨h1,h2,_,h4⟩:=H T 0
 refine ⟨fun h=>(h1 h).2,fun h=>?_,h4⟩
 rcases h2 with h2 | h2
 · unfold near at h;omega
 · exact h2
/-- A node's path goes on another one's end, by so many bytes. -/
def X6 (w s:Txt) (n:Nat):Bool:=decide (n≤w.length) && decide (w.drop n=s)
theorem goesB_iff {w s:Txt} {n:Nat}:X6 w s n=true↔n≤w.length∧w.drop n=s:=by unfold X6;rw [Bool.and_eq_true,decide_eq_true_eq,decide_eq_true_eq]
def firstF (T:List Txt) (s:Txt):Nat:=ZY (fun n=>(Zl T).any fun w=>X6 w s n) (least T)
def YD (T:List Txt) (s:Txt):Nat:=ZY (fun n=>T.any fun w=>X6 w s n) (least T)
def secondF (T:List Txt) (s:Txt):Nat:=ZY (fun n=>(List.range (s.length+1)).any fun k=>T.any fun w=>X6 w (s.take k) n) (least T)
def Jp (T:List Txt) (c:UInt8):Nat:=if 0<near T c then min (least T+1) (near T c) else least T+1
def JJ (T:List Txt) (s:Txt) (c:UInt8):Nat:=min (secondF T s) (max (firstF T s) (Jp T c - s.length - 1))
def ZfI (P:List Txt) (L:Txt):Nat→Txt→Txt
 | 0,s=>s
 | i+1,s=>if s++[L.getD i 0]∈P then ZfI P L i (s++[L.getD i 0]) else s
def fit (P:List Txt) (L:Txt) (e:Nat):Txt:=ZfI P L e []
/-- A line's first bytes, turned round. -/
def rv (L:Txt) (e:Nat):Txt:=(L.take e).reverse
theorem Y6 {L:Txt} {e:Nat} (h:e≤L.length):(rv L e).length=e:=by simp [rv];omega
theorem Zfd {L:Txt} {e k:Nat} (he:e≤L.length) (hk:k<e):(rv L e).take (k+1)=(rv L e).take k++[L.getD (e - k - 1) 0]:=by
 rw [List.take_succ_eq_append_getElem (by rw [Y6 he];exact hk)]
 congr 2
 unfold rv
 rw [List.getElem_reverse,List.getElem_take,List.getD_eq_getElem?_getD,List.getElem?_eq_getElem (by omega)]
 simp only [Option.getD_some]
 congr 1
 rw [List.length_take];omega
theorem J3 {P:List Txt} (hT:Tree P) {s:Txt} (h:s∈P):∀ k,s.take k∈P:=by
 have H:∀ (n:Nat) (s:Txt),s.length=n→s∈P→∀ k,s.take k∈P:=by
  intro n
  induction n with
  | zero=>intro s hs hm k;rw [List.eq_nil_of_length_eq_zero hs];simp;exact hT.nil_mem
  | succ n ih =>
    intro s hs hm k
    have hne:s≠[]:=by intro e;rw [e] at hs;simp at hs
    by_cases hk:s.length≤k
    · rw [List.take_of_length_le hk];exact hm
    · have:=ih s.dropLast (by rw [List.length_dropLast];omega) (hT.up s hm hne) k
      rw [List.dropLast_eq_take,List.take_take,Nat.min_eq_left (by omega)] at this
      exact this
 exact H _ s rfl h
theorem Zex {P:List Txt} {L:Txt} {e:Nat} (he:e≤L.length):∀ (i k:Nat),i+k=e→(rv L e).take k∈P→∃ d,k≤d∧d≤e∧ZfI P L i ((rv L e).take k)=(rv L e).take d∧(rv L e).take d∈P∧(d<e→(rv L e).take (d+1) ∉ P)
 | 0,k,h,hm=>⟨k,Nat.le_refl _,by omega,rfl,hm,fun h=>by omega⟩
 | i+1,k,h,hm=>by
   have hg:=Zfd he (k:=k) (by omega)
   rw [show e - k - 1=i by omega] at hg
   unfold ZfI
   rw [← hg]
   by_cases hP:(rv L e).take (k+1)∈P
   · rw [if_pos hP]
     obtain ⟨d,h1,h2,h3,h4,h5⟩:=Zex he i (k+1) (by omega) hP
     exact ⟨d,by omega,h2,h3,h4,h5⟩
   · rw [if_neg hP]
     exact ⟨k,Nat.le_refl _,by omega,rfl,hm,fun _=>hP⟩
theorem JK {P:List Txt} (hT:Tree P) {L:Txt} {e:Nat} (he:e≤L.length):∃ d,d≤e∧fit P L e=(rv L e).take d∧(fit P L e).length=d∧(rv L e).take d∈P∧(d<e→(rv L e).take (d+1) ∉ P):=by
 obtain ⟨d,_,h2,h3,h4,h5⟩:=Zex (P:=P) he e 0 (by omega) (by simp;exact hT.nil_mem)
 rw [List.take_zero] at h3
 refine ⟨d,h2,h3,?_,h4,h5⟩
 unfold fit
 rw [h3,List.length_take,Y6 he];omega
/-- A path that a window's end goes back to is among what fits. -/
theorem fit_all {P:List Txt} (hT:Tree P) {L:Txt} {e:Nat} (he:e≤L.length) {k:Nat} (hk:k≤e) (h:(rv L e).take k∈P):k≤(fit P L e).length:=by
 obtain ⟨d,h1,h2,h3,h4,h5⟩:=JK hT he
 rw [h3]
 rcases Nat.lt_or_ge d k with c | c
 · have:=J3 hT h (d+1)
   rw [List.take_take,Nat.min_eq_left (by omega)] at this
   exact absurd this (h5 (by omega))
 · exact c
/-- The pieces that end at a window's end. -/
def XH (T:List Txt) (L:Txt) (e:Nat):Nat→List Pr
 | 0=>[]
 | k+1=>XH T L e k++if (rv L e).take (k+1)∈T then [((e:Int) - ((k+1:Nat):Int),(e:Int))] else []
theorem mem_wins {T:List Txt} {L:Txt} {e:Nat} {p:Pr}:∀ {d:Nat},p∈XH T L e d↔∃ k,0<k∧k≤d∧p=((e:Int) - (k:Int),(e:Int))∧(rv L e).take k∈T
 | 0=>by simp only [XH,List.not_mem_nil,false_iff];rintro ⟨k,h1,h2,_⟩;omega
 | d+1=>by
   rw [XH,List.mem_append,mem_wins]
   constructor
   · rintro (⟨k,h1,h2,h3⟩ | h)
     · exact ⟨k,h1,by omega,h3⟩
     · split at h
       · rename_i hm
         rw [List.mem_singleton] at h
         exact ⟨d+1,by omega,Nat.le_refl _,h,hm⟩
       · simp at h
   · rintro ⟨k,h1,h2,rfl,h3⟩
     by_cases e':k=d+1
     · subst e';rw [if_pos h3];exact .inr (by simp)
     · exact .inl ⟨k,h1,by omega,rfl,h3⟩
/-- How far the next window is. -/
def QX (T:List Txt) (L:Txt) (e:Nat):Nat:=if (fit (Zl T) L e).length<e then JJ T (fit (Zl T) L e) (L.getD (e - (fit (Zl T) L e).length - 1) 0) else secondF T (fit (Zl T) L e)
section
variable {T:List Txt} (hT:∀ t∈T,t≠[]) (hne:T≠[])
include hT hne
theorem X3 (s:Txt):0<firstF T s∧firstF T s≤least T:=by
 have:=Xt (fun n=>(Zl T).any fun w=>X6 w s n) (least T) (Q2 hT hne).1
 exact ⟨this.1,this.2.1⟩
theorem Zcq (s:Txt):0<secondF T s∧secondF T s≤least T:=by
 have:=Xt (fun n=>(List.range (s.length+1)).any fun k=>T.any fun w=>X6 w (s.take k) n) (least T) (Q2 hT hne).1
 exact ⟨this.1,this.2.1⟩
theorem far_spec (s:Txt) (c:UInt8):0<JJ T s c∧JJ T s c≤least T:=by
 have:=X3 hT hne s
 have:=Zcq hT hne s
 unfold JJ;omega
theorem Q3 (L:Txt) (e:Nat):0<QX T L e∧QX T L e≤least T:=by
 unfold QX
 split
 · exact far_spec hT hne _ _
 · exact Zcq hT hne _
theorem first_le {s w:Txt} {n:Nat} (hn:0<n) (hw:w∈Zl T) (h:n≤w.length) (e:w.drop n=s):firstF T s≤n :=
 Zew (Q2 hT hne).1 hn (List.any_eq_true.2 ⟨w,hw,goesB_iff.2 ⟨h,e⟩⟩)
theorem second_le {s w:Txt} {n k:Nat} (hn:0<n) (hk:k≤s.length) (hw:w∈T) (h:n≤w.length) (e:w.drop n=s.take k):secondF T s≤n :=
 Zew (Q2 hT hne).1 hn (List.any_eq_true.2 ⟨k,List.mem_range.2 (by omega),List.any_eq_true.2 ⟨w,hw,goesB_iff.2 ⟨h,e⟩⟩⟩)
theorem nearK_le {w:Txt} {c:UInt8} {k:Nat} (hw:w∈T) (hk:k<w.length) (h:w.getD k 0=c):Jp T c≤k+1:=by
 have _u:=And.intro hT hne
 have hc:w[k]=c:=by rw [List.getD_eq_getElem?_getD,List.getElem?_eq_getElem hk] at h;exact h
 have hm:c∈w:=by rw [← hc];exact List.getElem_mem hk
 have hi:w.idxOf c≤k:=by
  rcases Nat.lt_or_ge k (w.idxOf c) with e | e
  · have:=List.not_of_lt_findIdx (p:=(· == c)) (xs:=w) (i:=k) (by simpa [List.idxOf] using e)
    rw [hc] at this;simp at this
  · exact e
 have:=(near_spec T c).2.2 w hw hm
 unfold Jp;split <;> omega
/-- No text's end is passed over: an occurrence that ends behind a window ends at the next one, or behind it. -/
theorem skip {L:Txt} {e i j:Nat} (he:e≤L.length) (hej:e<j) (hj:j≤L.length) (hij:i<j) (hx:((L.drop i).take (j - i)).reverse∈T):e+QX T L e≤j:=by
 obtain ⟨hl0,hl1,_⟩:=Q2 hT hne
 obtain ⟨f1,f2⟩:=Q3 hT hne L e
 obtain ⟨w,hw⟩:∃ w,((L.drop i).take (j - i)).reverse=w:=⟨_,rfl⟩
 rw [hw] at hx
 have hwl:w.length=j - i:=by rw [← hw];simp;omega
 have hml:=hl1 w hx
 by_cases hn:least T≤j - e
 · omega
 have hie:i<e:=by omega
 have hwn:w.drop (j - e)=(rv L e).take (e - i):=by
  rw [← hw,List.drop_reverse,List.length_take,List.length_drop,List.take_take]
  unfold rv
  rw [List.take_reverse,List.length_take,List.drop_take]
  congr 1
  rw [show min ((min (j - i) (L.length - i)) - (j - e)) (j - i)=e - i by omega,show min e L.length - (e - i)=i by omega]
 obtain ⟨d,h1,h2,h3,h4,h5⟩:=JK (ZC T) (L:=L) he
 have hns:0<j - e:=by omega
 unfold QX
 rw [h3]
 by_cases hs:e - i≤d
 · have hs2:secondF T (fit (Zl T) L e)≤j - e:=by
     refine second_le hT hne hns (k:=e - i) (by omega) hx (by omega) ?_
     rw [hwn,h2,List.take_take,Nat.min_eq_left hs]
   split
   · unfold JJ;omega
   · omega
 · rw [if_pos (by omega)]
   have hpw:w.take (d+(j - e))∈Zl T:=J3 (ZC T) (Qp hx) _
   have hf:firstF T (fit (Zl T) L e)≤j - e:=by
    refine first_le hT hne hns hpw (by rw [List.length_take];omega) ?_
    rw [List.drop_take,hwn,h2,List.take_take]
    congr 1;omega
   have hk:Jp T (L.getD (e - d - 1) 0)≤d+(j - e)+1:=by
    refine nearK_le hT hne hx (by omega) ?_
    have hg:=Zfd he (k:=d) (by omega)
    have:w.getD (d+(j - e)) 0=((rv L e).take (d+1)).getD d 0:=by
     rw [List.getD_eq_getElem?_getD,List.getD_eq_getElem?_getD,show d+(j - e)=(j - e)+d by omega,← List.getElem?_drop,hwn,List.getElem?_take_of_lt (by omega),List.getElem?_take_of_lt (by omega)]
    rw [this,hg,List.getD_eq_getElem?_getD,List.getElem?_append_right (by rw [List.length_take,Y6 he];omega)]
    rw [List.length_take,Y6 he,Nat.min_eq_left (by omega)];simp
   unfold JJ;omega
end
def ZT (T:List Txt) (L:Txt):Nat→Nat→List Nat
 | 0,_=>[]
 | f+1,e=>if e≤L.length then e::ZT T L f (e+QX T L e) else []
def ends (T:List Txt) (L:Txt):List Nat:=if T=[] then [] else ZT T L (L.length+1) (least T)
section
variable {T:List Txt} (hT:∀ t∈T,t≠[]) (hne:T≠[])
include hT hne
theorem Zbb (L:Txt):∀ (f g e:Nat),L.length+1≤f+e→L.length+1≤g+e→ZT T L f e=ZT T L g e
 | 0,0,_,_,_=>rfl
 | 0,g+1,e,h,_=>by unfold ZT;rw [if_neg (by omega)]
 | f+1,0,e,_,h=>by unfold ZT;rw [if_neg (by omega)]
 | f+1,g+1,e,h,k=>by
   have:=(Q3 hT hne L e).1
   unfold ZT
   split
   · rw [Zbb L f g (e+QX T L e) (by omega) (by omega)]
   · rfl
theorem endsFrom_step (L:Txt) {e:Nat} (he:e≤L.length):ZT T L (L.length+1) e=e::ZT T L (L.length+1) (e+QX T L e):=by
 have:=(Q3 hT hne L e).1
 rw [ZT,if_pos he,Zbb hT hne L L.length (L.length+1) (e+QX T L e) (by omega) (by omega)]
theorem Zbc (L:Txt) {e:Nat} (he:L.length<e):ZT T L (L.length+1) e=[]:=by
 have _u:=And.intro hT hne
 rw [ZT,if_neg (by omega)]
theorem Zfe (L:Txt) {i j:Nat} (hj:j≤L.length) (hij:i<j) (hx:((L.drop i).take (j - i)).reverse∈T):∀ (n e:Nat),L.length+1≤n+e→e≤j→j∈ZT T L n e
 | 0,e,h,k=>by omega
 | n+1,e,h,k=>by
   have h0:=(Q3 hT hne L e).1
   unfold ZT
   rw [if_pos (by omega)]
   rcases Nat.eq_or_lt_of_le k with c | c
   · rw [c];simp
   · exact List.mem_cons_of_mem _ (Zfe L hj hij hx n _ (by omega) (skip hT hne (by omega) c hj hij hx))
theorem Zd2 (L:Txt):∀ (n e j:Nat),j∈ZT T L n e→e≤j∧j≤L.length
 | 0,e,j,h=>by
   have _u:=And.intro hT hne
   simp [ZT] at h
 | n+1,e,j,h=>by
   unfold ZT at h
   split at h
   · rename_i he
     rcases List.mem_cons.1 h with rfl | h
     · exact ⟨Nat.le_refl _,he⟩
     · have:=Zd2 L n _ j h;omega
   · simp at h
end
def QJ (T:List Txt) (L:Txt) (E:List Nat):List Pr:=E.flatMap fun e=>XH T L e (fit (Zl T) L e).length
theorem Zc1 {L:Txt} {j k:Nat} (hk:k≤j) (hj:j≤L.length):(rv L j).take k=((L.drop (j - k)).take k).reverse:=by
 unfold rv
 rw [List.take_reverse,List.length_take,Nat.min_eq_left hj,List.drop_take,show j - (j - k)=k by omega]
/-- What the windows find is what stands in the line. -/
theorem ZaR {l T:List Txt} (hl:∀ x,x≠[]→(x∈l↔x.reverse∈T)) (hT:∀ t∈T,t≠[]) (L:Txt):sortP (QJ T L (ends T L))=occ l L:=by
 refine ZcT (rise_occ l L) fun p=>?_
 rw [mem_occ]
 unfold QJ
 rw [List.mem_flatMap]
 by_cases hne:T=[]
 · subst hne
   simp only [ends,if_pos,List.not_mem_nil,false_and,exists_false,false_iff]
   rintro ⟨i,j,_,h1,h2,h3⟩
   have:=(hl _ (fun e=>by have:=congrArg List.length e;rw [List.length_take,List.length_drop] at this;simp at this;omega)).1 h3
   simp at this
 · rw [ends,if_neg hne]
   constructor
   · rintro ⟨e,he,hp⟩
     obtain ⟨k,h1,h2,rfl,h3⟩:=mem_wins.1 hp
     obtain ⟨_,h4⟩:=Zd2 hT hne L _ _ _ he
     obtain ⟨d,d1,d2,d3,_⟩:=JK (ZC T) (L:=L) h4
     rw [Zc1 (by omega) h4] at h3
     refine ⟨e - k,e,by rw [Prod.mk.injEq];exact ⟨by omega,rfl⟩,by omega,h4,(hl _ fun c=>?_).2 (by rw [show e - (e - k)=k by omega];exact h3)⟩
     have:=congrArg List.length c;rw [List.length_take,List.length_drop] at this;simp at this;omega
   · rintro ⟨i,j,rfl,h1,h2,h3⟩
     have h4:=(hl _ (fun e=>by have:=congrArg List.length e;rw [List.length_take,List.length_drop] at this;simp at this;omega)).1 h3
     have hj:least T≤j:=by have:=(Q2 hT hne).2.1 _ h4;simp at this;omega
     refine ⟨j,Zfe hT hne L h2 h1 h4 _ _ (by omega) hj,mem_wins.2 ⟨j - i,by omega,?_,by rw [Prod.mk.injEq];exact ⟨by omega,rfl⟩,?_⟩⟩
     · refine fit_all (ZC T) h2 (by omega) ?_
       rw [Zc1 (by omega) h2,show j - (j - i)=i by omega]
       exact Qp h4
     · rw [Zc1 (by omega) h2,show j - (j - i)=i by omega]
       exact h4
end Seine.Cw
end
section
namespace Go.Proofs.YtfdlaomnecjfeaaGreatDoor
open Go.RowKit Seine.Trie
open Seine.Sort (occ occ_ext)
/-- Texts of a first world, in a slice that is young at the second. -/
def OwnTx (w0:World) (base:Nat) (wr:World) (v:Value) (ls:List Txt):Prop:=∃ vs:List Value,vs.length=ls.length∧wr.ownsRow base 22 1 v ls.length vs ∧
 ∀ i,i<ls.length→∃ A c,vs[i]? = some (.slice A (ls.getD i []).length c)∧(ls.getD i []).length≤c∧Byt w0 A (ls.getD i [])
theorem OwnTx.nil (w0:World) (base:Nat) (wr:World):OwnTx w0 base wr (.slice none 0 0) []:=⟨[],rfl,World.ownsRow_nil _ _ _ _,fun i hi=>absurd hi (Nat.not_lt_zero _)⟩
theorem OwnTx.snoc {w0 wr:World} {base:Nat} {v:Value} {ls:List Txt} {x:Txt} {vs:List Value} {A:Option Addr} {c:Nat} (hl:vs.length=ls.length) (hb:∀ i,i<ls.length→∃ A c,vs[i]? = some (.slice A (ls.getD i []).length c)∧(ls.getD i []).length≤c∧Byt w0 A (ls.getD i []))
    (hc:x.length≤c) (hx:Byt w0 A x) (ho:wr.ownsRow base 22 1 v (ls.length+1) (vs++[.slice A x.length c])):OwnTx w0 base wr v (ls++[x]):=by
 refine ⟨vs++[.slice A x.length c],by simp [hl],by rw [List.length_append];exact ho,fun i hi=>?_⟩
 rw [List.length_append,List.length_singleton] at hi
 by_cases h:i<ls.length
 · obtain ⟨A',c',a,b,d⟩:=hb i h
   have e:(ls++[x]).getD i []=ls.getD i []:=by rw [List.getD_eq_getElem?_getD,List.getElem?_append_left h,← List.getD_eq_getElem?_getD]
   rw [e]
   exact ⟨A',c',by rw [List.getElem?_append_left (by omega)];exact a,b,d⟩
 · obtain rfl:i=ls.length:=by omega
   have e:(ls++[x]).getD ls.length []=x:=by rw [List.getD_eq_getElem?_getD,List.getElem?_append_right (Nat.le_refl _)];simp
   rw [e]
   exact ⟨A,c,by rw [← hl,List.getElem?_append_right (Nat.le_refl _)];simp,hc,hx⟩
theorem OwnTx.txts {w0 wr:World} {base:Nat} {v:Value} {ls:List Txt} (h:OwnTx w0 base wr v ls) (hb:Below w0.heap.size w0 wr):∃ A c,v=.slice A ls.length c∧ls.length≤c∧Txts wr A ls:=by
 obtain ⟨vs,hl,ho,hbv⟩:=h
 obtain ⟨A,c,rfl,hc⟩:=Zk ho
 exact ⟨A,c,rfl,hc,vs,hl,Row.of_own ho,fun i hi=>by obtain ⟨A',c',a,b,d⟩:=hbv i hi;exact ⟨A',c',a,b,Row.below d hb⟩⟩
/-- The first k of the texts, read from the t-th on, round. -/
def turned (l:List Txt) (t k:Nat):List Txt:=(List.range k).map fun j=>l.getD ((j+t) % l.length) []
end Go.Proofs.YtfdlaomnecjfeaaGreatDoor
end
section
namespace Go.Proofs.YtfdlaomnecjfeaaGreatDoor
open Go.RowKit Seine.Trie Seine.Cw
attribute [local go_sem high] Xn XT QM Q9
theorem turn_calls (w:World) (A:Option Addr) (c:Nat) (b:Txt) (h:Byt w A b) (hl:b.length≤1000000) :
    Calls Tryz.prog 196 #[.slice A b.length c] w (RetByt w b.reverse):=by
 have cc:=As.mk (ZR w A c b h hl)
 have hl':=As.mk hl
 obtain ⟨n,hn⟩:∃ n,b.length=n:=⟨_,rfl⟩
 rw [hn] at cc ⊢
 clear hn
 go_enter Tryz.func196,Tryz.ntmps196
 go_wp2_with fail
 refine Calls.mono cc.out ?_
 rintro e w1 ⟨v,rfl,ho,hb⟩
 have cr:=As.mk (Y8 w1 w.heap.size v b ho)
 have hbs:=hb.size
 have ho:=As.mk ho
 have hb:=As.mk hb
 go_wp2_with fail
 refine Calls.mono (cr.out hl) ?_
 rintro e w2 ⟨rfl,ho2,hk2⟩
 go_wp2
 go_ret
 exact ⟨_,rfl,ho2,hb.out.trans (hk2.below (fun k hk hS=>by have:=ZM ho.out hS;omega) hbs)⟩
theorem Zbv (w:World) (old n:Nat):Calls Tryz.prog 195 #[.int .i64 (old:Int),.int .i64 (n:Int)] w fun e w'=>e=.returned (.int .i64 ((if old=0 then n else min old n:Nat):Int))∧w=w':=by
 by_cases h:old=0
 · subst h
   rw [if_pos rfl]
   go_enter Tryz.func195,Tryz.ntmps195
   go_wp2
   go_ret
   exact ⟨rfl,rfl⟩
 · have h1:((old:Int) == 0)=false:=by simpa using h
   have h2:As (min (old:Int) (n:Int)=((min old n:Nat):Int)):=⟨by omega⟩
   rw [if_neg h,← h2.out]
   clear h
   go_enter Tryz.func195,Tryz.ntmps195
   go_wp2
   go_ret
   exact ⟨rfl,rfl⟩
theorem Zbw (T:List Txt) (t:Txt) (c:UInt8):near (T++[t]) c=if c∈t then (if near T c=0 then t.idxOf c+1 else min (near T c) (t.idxOf c+1)) else near T c:=by
 unfold near;rw [List.foldl_append];rfl
theorem least_snoc (T:List Txt) (t:Txt):least (T++[t])=if least T=0 then t.length else min (least T) t.length:=by
 unfold least;rw [List.foldl_append];rfl
theorem near_step (T:List Txt) (t:Txt) (m:Nat) (h:m<t.length) (x:UInt8) (hx:t.getD m 0=x) (c:UInt8) :
    near (T++[t.take (m+1)]) c=if c=x then (if near (T++[t.take m]) c=0 then m+1 else min (near (T++[t.take m]) c) (m+1)) else near (T++[t.take m]) c:=by
 rw [Zbw,Zbw,Zae t m h,hx]
 have hl:(t.take m).length=m:=by rw [List.length_take];omega
 by_cases hm:c∈t.take m
 · have hi:(t.take m++[x]).idxOf c=(t.take m).idxOf c:=by rw [List.idxOf_append,if_pos hm]
   have hlt:(t.take m).idxOf c<m:=by have:=List.idxOf_lt_length_iff.2 hm;omega
   rw [if_pos (List.mem_append_left _ hm),if_pos hm,hi]
   generalize (t.take m).idxOf c=k at *
   generalize near T c=a
   (repeat' split) <;> omega
 · by_cases hc:c=x
   · subst hc
     have hi:(t.take m++[c]).idxOf c=m:=by rw [List.idxOf_append,if_neg hm,hl];simp
     rw [if_pos (by simp),if_neg hm,hi,if_pos rfl]
   · rw [if_neg (by simp [hm,hc]),if_neg hm,if_neg hc]
theorem near_empty (T:List Txt) (c:UInt8):near (T++[[]]) c=near T c:=by rw [Zbw,if_neg (by simp)]
/-- Texts that aren't empty, each turned round. -/
def ZK (l:List Txt):List Txt:=(l.filter fun t=>!t.isEmpty).map List.reverse
theorem turnT_snoc (l:List Txt) (t:Txt):ZK (l++[t])=ZK l++if t=[] then [] else [t.reverse]:=by
 unfold ZK
 rw [List.filter_append,List.map_append]
 congr 1
 cases t <;> simp
theorem JL (l:List Txt):∀ t∈ZK l,t≠[]:=by
 intro t ht
 obtain ⟨x,hx,rfl⟩:=List.mem_map.1 ht
 have:=(List.mem_filter.1 hx).2
 simpa using this
theorem turnT_mem (l:List Txt):∀ x,x≠[]→(x∈l↔x.reverse∈ZK l):=by
 intro x hx
 unfold ZK
 rw [List.mem_map]
 constructor
 · intro h;exact ⟨x,List.mem_filter.2 ⟨h,by simpa using hx⟩,rfl⟩
 · rintro ⟨y,hy,e⟩
   rw [List.reverse_inj] at e
   subst e
   exact (List.mem_filter.1 hy).1
theorem Zey (l:List Txt):(ZK l).length≤l.length:=by unfold ZK;rw [List.length_map];exact List.length_filter_le _ _
theorem J4:∀ l:List Txt,tot (ZK l)=tot l
 | []=>rfl
 | t::l=>by
   have h:=J4 l
   unfold ZK tot at *
   cases t with
   | nil=>simp at h ⊢;exact h
   | cons a t=>simp at h ⊢;omega
def XR (p:Option Addr) (n:Nat) (f:UInt8→Nat):List Value:=.pointer p::.int .i64 (n:Int)::(List.range 256).map fun i=>.int .i64 (f (UInt8.ofNat i):Int)
theorem Zez:Tryz.zeroCells301=(XR none 0 (fun _=>0)).toArray:=by kernel_rfl
theorem Zdu (p:Option Addr) (n:Nat) (f:UInt8→Nat) (c:UInt8):(XR p n f).toArray[2+c.toNat]? = some (.int .i64 (f c:Int)):=by
 have hc:=c.toNat_lt
 rw [List.getElem?_toArray,show 2+c.toNat=c.toNat+1+1 by omega]
 unfold XR
 rw [List.getElem?_cons_succ,List.getElem?_cons_succ,List.getElem?_map,List.getElem?_range (by omega)]
 simp
theorem backL_ptr (p q:Option Addr) (n:Nat) (f:UInt8→Nat):(XR p n f).toArray.setIfInBounds 0 (.pointer q)=(XR q n f).toArray:=by unfold XR;simp
theorem backL_least (p:Option Addr) (n m:Nat) (f:UInt8→Nat):(XR p n f).toArray.setIfInBounds 1 (.int .i64 (m:Int))=(XR p m f).toArray:=by unfold XR;simp
theorem backL_set (p:Option Addr) (n m:Nat) (f g:UInt8→Nat) (c:UInt8) (h:∀ x,g x=if x=c then m else f x):(XR p n f).toArray.setIfInBounds (2+c.toNat) (.int .i64 (m:Int))=(XR p n g).toArray:=by
 have hc:=c.toNat_lt
 rw [List.setIfInBounds_toArray,show 2+c.toNat=c.toNat+1+1 by omega]
 congr 1
 unfold XR
 rw [List.set_cons_succ,List.set_cons_succ]
 congr 2
 apply List.ext_getElem?
 intro i
 rw [List.getElem?_set]
 by_cases hi:i<256
 · rw [List.getElem?_map,List.getElem?_map,List.getElem?_range hi]
   simp only [Option.map_some,h,List.length_map,List.length_range]
   by_cases he:c.toNat=i
   · subst he
     simp;omega
   · rw [if_neg he,if_neg (fun e=>he (by rw [← e];simp;omega))]
 · rw [List.getElem?_map,List.getElem?_map,List.getElem?_eq_none (by simp;omega)]
   simp;omega
/-- Texts of the call's own, in a slice of its own. -/
def OwnTs (w:World) (base:Nat) (v:Value) (T:List Txt):Prop:=∃ vs:List Value,vs.length=T.length∧w.ownsRow base 22 1 v T.length vs∧∀ (i:Nat) (x:Txt),T[i]? = some x→∃ u:Value,vs[i]? = some u∧OwnByt w base u x
theorem OwnTs.nil (w:World) (base:Nat):OwnTs w base (.slice none 0 0) []:=⟨[],rfl,World.ownsRow_nil _ _ _ _,fun i x h=>by simp at h⟩
theorem OwnTs.keep {S:Nat→Prop} {w w':World} {base:Nat} {v:Value} {T:List Txt} (h:OwnTs w base v T) (hk:Keeps S w w') (hS:∀ b c t fr,w.heap[b]? = some (.cells c t fr)→S b→t≠5∧t≠22):OwnTs w' base v T:=by
 obtain ⟨vs,h1,h2,h3⟩:=h
 refine ⟨vs,h1,Zj h2 hk (fun b c _ hb _ hs=>(hS b c _ _ hb hs).2 rfl),fun i x hi=>?_⟩
 obtain ⟨u,h4,h5⟩:=h3 i x hi
 exact ⟨u,h4,Zj h5 hk (fun b c _ hb _ hs=>(hS b c _ _ hb hs).1 rfl)⟩
theorem OwnTs.below {w w':World} {base:Nat} {v:Value} {T:List Txt} (h:OwnTs w base v T) (hb:Below w.heap.size w w'):OwnTs w' base v T:=by
 obtain ⟨vs,h1,h2,h3⟩:=h
 refine ⟨vs,h1,Zo h2 hb,fun i x hi=>?_⟩
 obtain ⟨u,h4,h5⟩:=h3 i x hi
 exact ⟨u,h4,Zo h5 hb⟩
theorem OwnTs.row {w:World} {base:Nat} {v:Value} {T:List Txt} (h:OwnTs w base v T):∃ A c,v=.slice A T.length c∧T.length≤c∧Txts w A T:=by
 obtain ⟨vs,h1,h2,h3⟩:=h
 obtain ⟨A,c,rfl,hc⟩:=Zk h2
 refine ⟨A,c,rfl,hc,vs,h1,Row.of_own h2,fun i hi=>?_⟩
 obtain ⟨u,h4,h5⟩:=h3 i (T.getD i []) (by simp [List.getD_eq_getElem?_getD,hi])
 obtain ⟨A',c',rfl,hc',hr⟩:=h5.row
 exact ⟨A',c',h4,hc',hr⟩
theorem OwnTs.snoc {w w':World} {base:Nat} {v v' u:Value} {T:List Txt} {x:Txt} {vs:List Value} (hl:vs.length=T.length) (hb:∀ (i:Nat) (x:Txt),T[i]? = some x→∃ u:Value,vs[i]? = some u∧OwnByt w base u x) (hx:OwnByt w base u x)
    (ho:w.ownsRow base 22 1 v T.length vs) (hk:Keeps (fun k=>some k=v.ownBlock) w w') (h':w'.ownsRow base 22 1 v' (T.length+1) (vs++[u])):OwnTs w' base v' (T++[x])∧OwnByt w' base u x:=by
 have kp:∀ {u x},OwnByt w base u x→OwnByt w' base u x:=fun h=>Zj h hk (fun b c _ hb _ hS=>Zy ho hb (by decide) hS)
 refine ⟨⟨vs++[u],by simp [hl],by rw [List.length_append];exact h',fun i y hi=>?_⟩,kp hx⟩
 have hil:i<(T++[x]).length:=(List.getElem?_eq_some_iff.1 hi).1
 rw [List.length_append,List.length_singleton] at hil
 by_cases h:i<T.length
 · rw [List.getElem?_append_left h] at hi
   obtain ⟨u',a,b⟩:=hb i y hi
   exact ⟨u',by rw [List.getElem?_append_left (by omega)];exact a,kp b⟩
 · obtain rfl:i=T.length:=by omega
   rw [List.getElem?_append_right (Nat.le_refl _),Nat.sub_self] at hi
   simp at hi;subst hi
   exact ⟨u,by rw [← hl,List.getElem?_append_right (Nat.le_refl _)];simp,kp hx⟩
def BackTo (w:World) (base g:Nat) (n:Nat) (f:UInt8→Nat) (v:Value) (T:List Txt):Prop :=
 w.heap[g]? = some (.cells (XR none n f).toArray 301 (0,0))∧OwnTs w base v T
/-- A tree of texts from their ends: T are the texts turned round. -/
def BackAt (w:World) (g:Nat) (T:List Txt):Prop :=
 ∃ tb tg,w.heap[g]? = some (.cells (XR (some ⟨tg,0,none⟩) (least T) (near T)).toArray 301 (0,0))∧TrieAt w tb tg (Zl T) (place T)
theorem BackAt.below {w w':World} {g:Nat} {T:List Txt} (h:BackAt w g T) (hb:Below w.heap.size w w'):BackAt w' g T:=by
 obtain ⟨tb,tg,h1,h2⟩:=h
 exact ⟨tb,tg,Zc hb h1,h2.below hb⟩
theorem BackTo.below {w w':World} {base g n:Nat} {f:UInt8→Nat} {v:Value} {T:List Txt} (h:BackTo w base g n f v T) (hb:Below w.heap.size w w'):BackTo w' base g n f v T:=⟨Zc hb h.1,h.2.below hb⟩
set_option maxRecDepth 100000 in
set_option maxHeartbeats 1600000 in
theorem bbuild_calls (w:World) (A:Option Addr) (c:Nat) (l:List Txt) (hx:Txts w A l) (hl:tot l≤900000) (hll:l.length≤1000000) :
    Calls Tryz.prog 144 #[.slice A l.length c] w fun e w'=>∃ g,e=.returned (.pointer (some ⟨g,0,none⟩))∧BackAt w' g (ZK l)∧Below w.heap.size w w':=by
 have HX:=As.mk hx
 obtain ⟨n,hn⟩:∃ n,l.length=n:=⟨_,rfl⟩
 rw [hn] at hll ⊢
 replace hn:=As.mk hn
 have HL:=As.mk hl
 have hbz:=heap_alloc_new w (.cells Tryz.zeroCells301 301)
 rw [Zez] at hbz
 have hT0:As (BackTo (w.alloc (.cells Tryz.zeroCells301 301)) w.heap.size w.heap.size (least (ZK (l.take 0))) (near (ZK (l.take 0))) (.slice none 0 0) (ZK (l.take 0))):=⟨by rw [Zez];exact hbz,by rw [List.take_zero];exact OwnTs.nil _ _⟩
 have hB0:As (Below w.heap.size w (w.alloc (.cells Tryz.zeroCells301 301))):=⟨(Below.refl _ _).alloc (Nat.le_refl _) _⟩
 have hst:As (∀ k,k<n→l.take (k+1)=l.take k++[l.getD k []]):=⟨fun k h=>Za8 l k (by rw [hn.out];exact h)⟩
 clear hx hl hbz
 go_enter Tryz.func144,Tryz.ntmps144
 go_wp2
 obtain ⟨gb,hgb⟩:∃ g,w.heap.size=g:=⟨_,rfl⟩
 obtain ⟨W0,hW0⟩:∃ W,w.alloc (.cells Tryz.zeroCells301 301)=W:=⟨_,rfl⟩
 rw [hW0] at hT0 hB0 ⊢
 rw [hgb] at hT0 hB0 ⊢
 replace hgb:=As.mk hgb
 clear hW0
 go_loopg [5,14] (n+1) (fun gk v i wr=>∃ (k:Nat) (u:Value),u=v∧As (n+1≤gk+k)∧k≤n∧i=.int .i64 k∧As (BackTo wr gb gb (least (ZK (l.take k))) (near (ZK (l.take k))) u (ZK (l.take k)))∧As (Below gb w wr))
 case atStart=>exact ⟨0,_,rfl,⟨by omega⟩,Nat.zero_le _,rfl,hT0,hB0⟩
 case round =>
  obtain ⟨k,u,rfl,hgk,hk,rfl,hto,hbel⟩:=hrel
  by_cases hlt:k<n
  · obtain ⟨gp,rfl⟩:∃ gp,gk=gp+1:=⟨gk - 1,by have:=hgk.out;omega⟩
    have hbr:Below w.heap.size w wr:=by rw [hgb.out];exact hbel.out
    obtain ⟨ad,A',c',rfl,a1,hc',hbyt⟩:=(HX.out.below hbr).at_ (i:=k) (by rw [hn.out];exact hlt)
    obtain ⟨t,ht⟩:∃ t,l.getD k []=t:=⟨_,rfl⟩
    rw [ht] at a1 hc' hbyt
    have htk:l.take (k+1)=l.take k++[t]:=by rw [hst.out k hlt,ht]
    have htt:t.length≤900000:=by have h1:=Ze0 l k (by rw [hn.out];exact hlt);rw [ht] at h1;have:=HL.out;omega
    have hsn:=turnT_snoc (l.take k) t
    rw [← htk] at hsn
    obtain ⟨T,hT⟩:∃ T,ZK (l.take k)=T:=⟨_,rfl⟩
    rw [hT] at hsn hto
    by_cases h0:t=[]
    · subst h0
      rw [if_pos rfl,List.append_nil] at hsn
      have hfin:=As.mk hto.out
      rw [← hsn] at hfin
      clear hto hsn hT hbyt htk
      go_wp2
      go_roundg gp
      case rel=>exact ⟨k+1,u,rfl,⟨by have:=hgk.out;omega⟩,by omega,(by first | rfl | go_num | (congr 1;omega)),hfin,hbel⟩
      case measure=>omega
    · have ct:=As.mk (turn_calls wr A' c' t hbyt (by omega))
      have hpos:0<t.length:=List.length_pos_iff.2 h0
      rw [if_neg h0] at hsn
      replace hsn:=As.mk hsn
      obtain ⟨s,hs⟩:∃ s,t.reverse=s:=⟨_,rfl⟩
      have hsl:s.length=t.length:=by rw [← hs,List.length_reverse]
      rw [hs] at hsn ct
      obtain ⟨m,hm⟩:∃ m,t.length=m:=⟨_,rfl⟩
      rw [hm] at a1 hc' htt ct hpos hsl
      obtain ⟨L0,hL0⟩:∃ L,least T=L:=⟨_,rfl⟩
      obtain ⟨L1,hL1⟩:∃ L,least (T++[s])=L:=⟨_,rfl⟩
      have hLs:(if L0=0 then m else min L0 m)=L1:=by rw [← hL1,least_snoc,hsl,hL0]
      have cc1:=As.mk (fun v=>(by rw [← hLs];exact Zbv v L0 m:Calls Tryz.prog 195 #[.int .i64 (L0:Int),.int .i64 (m:Int)] v fun e w'=>e=.returned (.int .i64 (L1:Int))∧v=w'))
      rw [hL0] at hto
      have hne0:∀ c,near (T++[s.take 0]) c=near T c:=fun c=>by rw [List.take_zero];exact near_empty T c
      have hnT:near T=near (T++[s.take 0]):=(funext hne0).symm
      rw [hnT] at hto
      obtain ⟨hq,vs,hvl,hov,hvb⟩:=hto.out
      obtain ⟨Au,cu,rfl,hcu⟩:=Zk hov
      replace hsl:=As.mk hsl
      replace hL1:=As.mk hL1
      have hm0:((m:Int) == 0)=false:=by simp;omega
      have hgs:gb≤wr.heap.size:=by have:=hbel.out.size;have:=hgb.out;omega
      obtain ⟨tl,htl⟩:∃ k,T.length=k:=⟨_,rfl⟩
      have hTl:T.length≤1000000:=by have:=Zey (l.take k);rw [hT,List.length_take] at this;omega
      rw [htl] at hTl hov hcu hvl ⊢
      replace htl:=As.mk htl
      have hq:=As.mk hq
      have hov:=As.mk hov
      have hvb:=As.mk hvb
      replace hvl:=As.mk hvl
      clear hbyt hs hm h0 htk hne0 hnT hL0 hLs hto hT
      go_wp2_with (first
       | (go_at_call 196;refine Calls.mono ct.out ?_;intro e w1 h1;obtain ⟨vt,he,ho1,hb1⟩:=h1.open_;subst he;obtain ⟨At,ct',rfl,hct',hbt1⟩:=ho1.row;rw [hsl.out] at hct' ⊢;replace hbt1:=As.mk hbt1;replace hb1:=As.mk hb1;have hs1:=hb1.out.size)
       | (at_builtin
          refine ZA _ rfl (.tmp 23) (.tmp 25) 73 rfl gb 22 _ 1 24 Tryz.underlying73 Yt rfl (by decide) _ tl vs rfl (Zo hov.out hb1.out) [.slice At m ct'] rfl (by simp [Value.oneCell']) _ rfl (by simp) (by omega) (by decide) (by omega) ?_
          intro v' w2 ho2 hk2 hat2 hb2
          have hq1:=Zc hb1.out hq.out
          have hq2:=Zd hq1 hk2 (Zy (Zo hov.out hb1.out) hq1 (by decide))
          have e1:w2.cell? ⟨gb,1,none⟩=some (.int .i64 (L0:Int)):=Za hq2 1
          have f1:=Zb hq2 1)
       | (go_at_call 195;refine Calls.mono (cc1.out _) ?_;rintro e w' ⟨rfl,rfl⟩))
      have hk12:Below gb w w2:=(hbel.out.trans (hb1.out.mono hgs)).trans hb2
      have ho1':OwnByt w1 wr.heap.size (.slice At m ct') s:=by rw [← hsl.out];exact ho1
      have hsnoc:=OwnTs.snoc (v':=v') (w':=w2) (T:=T) (x:=s) (hvl.out.trans htl.out.symm) (fun i x hi=>by obtain ⟨u,a,b⟩:=hvb.out i x hi;exact ⟨u,a,Zo b hb1.out⟩) (ZB ho1' hgs) (by rw [htl.out];exact Zo hov.out hb1.out) hk2 (by rw [htl.out];exact ho2)
      have hS3:∀ b c t fr,w2.heap[b]? = some (.cells c t fr)→b=gb→t≠5∧t≠22:=fun b c t fr hb e=>by
       subst e;rw [hq2] at hb;injection hb with hb;injection hb with _ hb;subst hb;exact ⟨by decide,by decide⟩
      have hT3:As (BackTo (w2.setCell ⟨gb,1,none⟩ (.int .i64 (L1:Int))) gb gb L1 (near (T++[s.take 0])) v' (T++[s])):=⟨by have:=Zi hq2 1 (.int .i64 (L1:Int));rw [backL_least] at this;exact this,hsnoc.1.keep (Zm w2 ⟨gb,1,none⟩ _) hS3⟩
      have hs3:As (OwnByt (w2.setCell ⟨gb,1,none⟩ (.int .i64 (L1:Int))) gb (.slice At m ct') s):=⟨Zj hsnoc.2 (Zm w2 ⟨gb,1,none⟩ _) (fun b c _ hb _ e=>(hS3 b c _ _ hb e).1 rfl)⟩
      have hb3:As (Below gb w (w2.setCell ⟨gb,1,none⟩ (.int .i64 (L1:Int)))):=⟨hk12.setCell (Nat.le_refl _) _⟩
      generalize w2.setCell ⟨gb,1,none⟩ (.int .i64 (L1:Int))=w3 at *
      obtain ⟨wo,rfl⟩:∃ wo:World,wo=wr:=⟨_,rfl⟩
      obtain ⟨go,rfl⟩:∃ go:Nat,go=gp:=⟨_,rfl⟩
      clear hk12 hsnoc hS3 hq1 hq2 e1 f1 hk2 ho2 hat2 hb2 ho1 ho1' hbt1 hb1 ct cc1 hov hvb hq hvl hcu
      go_loopg [40] (m+1) (fun g2 j wr2=>∃ q:Nat,As (m+1≤g2+q)∧q≤m∧j=.int .i64 q∧As (BackTo wr2 gb gb L1 (near (T++[s.take q])) v' (T++[s]))∧As (OwnByt wr2 gb (.slice At m ct') s)∧As (Below gb w wr2))
      case atStart=>exact ⟨0,⟨by omega⟩,Nat.zero_le _,rfl,hT3,hs3,hb3⟩
      case round =>
       obtain ⟨q,hgq,hq,rfl,hto,hos,hbel2⟩:=hrel
       by_cases hlq:q<m
       · obtain ⟨gq,rfl⟩:∃ gq,gk=gq+1:=⟨gk - 1,by have:=hgq.out;omega⟩
         obtain ⟨A2,c2,e2,_,hby2⟩:=OwnByt.row hos.out
         injection e2 with e2 e3 e4
         clear e3 e4
         subst e2
         obtain ⟨ad2,rfl,hcm⟩:=Byt.at_ hby2 (i:=q) (by rw [hsl.out];exact hlq)
         obtain ⟨x,hx⟩:∃ x,s.getD q 0=x:=⟨_,rfl⟩
         rw [hx] at hcm
         obtain ⟨v0,hv0⟩:∃ y,near (T++[s.take q]) x=y:=⟨_,rfl⟩
         obtain ⟨v1,hv1⟩:∃ y,(if v0=0 then q+1 else min v0 (q+1))=y:=⟨_,rfl⟩
         have hns:As (∀ c,near (T++[s.take (q+1)]) c=if c=x then v1 else near (T++[s.take q]) c):=⟨fun c=>by
          rw [near_step T s q (by rw [hsl.out];exact hlq) x hx c]
          by_cases e:c=x
          · subst e;rw [if_pos rfl,if_pos rfl,hv0,hv1]
          · rw [if_neg e,if_neg e]⟩
         have cc2:=As.mk (fun v=>(by rw [← hv1];exact Zbv v v0 (q+1):Calls Tryz.prog 195 #[.int .i64 (v0:Int),.int .i64 ((q+1:Nat):Int)] v fun e w'=>e=.returned (.int .i64 (v1:Int))∧v=w'))
         have hxl:=x.toNat_lt
         have hq4:=hto.out.1
         have hcq:=Za hq4 (2+x.toNat)
         rw [Zdu,hv0] at hcq
         have hfq:=Zb hq4 (2+x.toNat)
         replace hq4:=As.mk hq4
         obtain ⟨xn,hxn⟩:∃ k,x.toNat=k:=⟨_,rfl⟩
         rw [hxn] at hcm hcq hfq hxl
         replace hxn:=As.mk hxn
         clear hv0 hv1 hby2 hx
         go_wp2
         go_region_with (go_at_call 195;refine Calls.mono (cc2.out _) ?_;rintro e w' ⟨rfl,rfl⟩)
         all_goals
          go_wp2
          go_roundg gq
          case rel =>
           refine ⟨q+1,⟨by have:=hgq.out;omega⟩,by omega,(by first | rfl | go_num | (congr 1;omega)),⟨?_⟩,⟨?_⟩,⟨(hbel2.out.setCell (Nat.le_refl _) _).drew⟩⟩
           · have hS:∀ b c t fr,wr.heap[b]? = some (.cells c t fr)→b=gb→t≠5∧t≠22:=fun b c t fr hb e=>by
               subst e;rw [hq4.out] at hb;injection hb with hb;injection hb with _ hb;subst hb;exact ⟨by decide,by decide⟩
             refine ⟨?_,(hto.out.2.keep (Zm wr ⟨gb,2+xn,none⟩ _) hS).below (Below.refl _ _).drew⟩
             have:=Zi hq4.out (2+xn) (.int .i64 (v1:Int))
             rw [← hxn.out,backL_set none L1 v1 _ _ x hns.out] at this
             rw [← hxn.out]
             exact this
           · exact Zo (Zj hos.out (Zm wr ⟨gb,2+xn,none⟩ _) (fun b c _ hb _ e=>by
               have e:b=gb:=e
               subst e;rw [hq4.out] at hb;injection hb with hb;injection hb with _ hb;exact absurd hb (by decide))) (Below.refl _ _).drew
          case measure=>omega
       · obtain rfl:q=m:=by omega
         have hto2:=hto.out
         rw [List.take_of_length_le (by rw [hsl.out];omega),← hL1.out,← hsn.out] at hto2
         replace hto2:=As.mk hto2
         go_wp2
         go_roundg go
         case rel=>exact ⟨k+1,v',rfl,⟨by have:=hgk.out;omega⟩,by omega,(by first | rfl | go_num | (congr 1;omega)),hto2,hbel2⟩
         case measure=>omega
  · obtain rfl:k=n:=by omega
    rw [← hn.out,List.take_length] at hto
    obtain ⟨hq,hown⟩:=hto.out
    have hTn:=JL l
    have htot:=J4 l
    have htl:=Zey l
    obtain ⟨T,hT⟩:∃ T,ZK l=T:=⟨_,rfl⟩
    rw [hT] at hto hq hown hTn htot htl
    replace hT:=As.mk hT
    obtain ⟨Ac,cc,rfl,hcc,htx⟩:=hown.row
    have cb:=As.mk (Zaf wr Ac cc T htx (by have:=HL.out;omega) (by have:=hn.out;omega))
    have hgs:gb≤wr.heap.size:=by have:=hbel.out.size;have:=hgb.out;omega
    have hglt:=Zf hq
    replace hq:=As.mk hq
    clear htx hown hto hst
    generalize T.length=tl at *
    go_wp2_with (go_at_call 133;refine Calls.mono cb.out ?_;rintro e w1 ⟨tg,rfl,hT1,hb1⟩;have hq1:=Zc hb1 hq.out;have f1:=Zb hq1 0;have e1:=Za hq1 0)
    go_ret
    rw [hT.out]
    refine ⟨gb,rfl,⟨wr.heap.size,tg,?_,?_⟩,?_⟩
    · have:=Zi hq1 0 (.pointer (some ⟨tg,0,none⟩));rw [backL_ptr] at this;exact this
    · exact hT1.keepOf (Zm w1 ⟨gb,0,none⟩ _) (fun b e=>by
        have e:b=gb:=e
        subst e;exact ⟨_,_,_,hq1,by decide,by decide⟩)
    · rw [hgb.out];exact (hbel.out.trans (hb1.mono hgs)).setCell (Nat.le_refl _) _
end Go.Proofs.YtfdlaomnecjfeaaGreatDoor
end
section
namespace Seine.Cw
open Seine.Trie Seine.Sort
theorem ZZ {q r:Nat→Bool} {b:Nat} (h:∀ j,0<j→q j=r j):ZY q b=ZY r b:=by
 unfold ZY
 congr 2
 funext n
 by_cases hn:0<n
 · rw [h n hn]
 · simp [hn]
theorem ZeA (q r:Nat→Bool) {b:Nat} (hb:0<b):ZY (fun n=>q n || r n) b=min (ZY q b) (ZY r b):=by
 obtain ⟨q1,q2,q3,q4⟩:=Xt q b hb
 obtain ⟨r1,r2,r3,r4⟩:=Xt r b hb
 refine J2 hb (by omega) (by omega) (fun h=>?_) (fun j h0 hj=>?_)
 · rcases Nat.le_total (ZY q b) (ZY r b) with h1 | h1
   · rw [Nat.min_eq_left h1] at h ⊢;simp [q3 h]
   · rw [Nat.min_eq_right h1] at h ⊢;simp [r3 h]
 · rw [q4 j h0 (by omega),r4 j h0 (by omega)];rfl
theorem leastN_one {b m:Nat} (hb:0<b) (hm:0<m):ZY (fun n=>decide (n=m)) b=min b m:=by
 rcases Nat.lt_or_ge m b with h | h
 · rw [Nat.min_eq_right (by omega)]
   exact J2 hb hm (by omega) (fun _=>by simp) (fun j _ hj=>by simp;omega)
 · rw [Nat.min_eq_left h]
   exact J2 hb hb (Nat.le_refl _) (fun h=>absurd h (Nat.lt_irrefl _)) (fun j _ hj=>by simp;omega)
theorem Zcr {b:Nat} (hb:0<b):ZY (fun _=>false) b=b:=J2 hb hb (Nat.le_refl _) (fun h=>absurd h (Nat.lt_irrefl _)) (fun _ _ _=>rfl)
/-- One number more. -/
theorem Zdv {q q':Nat→Bool} {b m:Nat} (hb:0<b) (hm:0<m) (h:∀ j,0<j→q' j=(q j || decide (j=m))):ZY q' b=min (ZY q b) m:=by
 rw [ZZ h,ZeA q _ hb,leastN_one hb hm]
 have:=(Xt q b hb).2.1
 omega
/-- The first of the two numbers behind the nodes ws, and the first m bytes of a node p. -/
def Zz (ws:List Txt) (b:Nat) (p:Txt) (m:Nat) (s:Txt):Nat:=ZY (fun n=>(ws.any fun w=>X6 w s n) || (decide (n≤m) && X6 p s n)) b
def Zw (T ws:List Txt) (b:Nat) (p:Txt) (m:Nat) (s:Txt):Nat:=ZY (fun n=>(ws.any fun w=>decide (w∈T) && X6 w s n) || (decide (p∈T) && (decide (n≤m) && X6 p s n))) b
theorem J5 (p s:Txt) (m:Nat) (hm:m<p.length) (j:Nat):(decide (j≤m+1) && X6 p s j)=((decide (j≤m) && X6 p s j) || decide (j=m+1∧p.drop (m+1)=s)):=by
 rw [Bool.eq_iff_iff]
 simp only [Bool.and_eq_true,Bool.or_eq_true,decide_eq_true_eq,goesB_iff]
 constructor
 · rintro ⟨h1,h2,h3⟩
   by_cases h:j=m+1
   · subst h;exact .inr ⟨rfl,h3⟩
   · exact .inl ⟨by omega,h2,h3⟩
 · rintro (⟨h1,h2,h3⟩ | ⟨h1,h3⟩)
   · exact ⟨by omega,h2,h3⟩
   · subst h1;exact ⟨Nat.le_refl _,by omega,h3⟩
theorem firstTo_step (ws:List Txt) {b:Nat} (hb:0<b) (p:Txt) (m:Nat) (hm:m<p.length) (s:Txt):Zz ws b p (m+1) s=if s=p.drop (m+1) then min (Zz ws b p m s) (m+1) else Zz ws b p m s:=by
 unfold Zz
 by_cases h:s=p.drop (m+1)
 · rw [if_pos h]
   refine Zdv hb (by omega) (fun j hj=>?_)
   rw [J5 p s m hm j,← Bool.or_assoc]
   simp [h]
 · rw [if_neg h]
   refine ZZ (fun j hj=>?_)
   rw [J5 p s m hm j]
   have:¬ (j=m+1∧p.drop (m+1)=s):=fun hh=>h hh.2.symm
   simp [this]
theorem wholeTo_step (T ws:List Txt) {b:Nat} (hb:0<b) (p:Txt) (m:Nat) (hm:m<p.length) (hp:p∈T) (s:Txt):Zw T ws b p (m+1) s=if s=p.drop (m+1) then min (Zw T ws b p m s) (m+1) else Zw T ws b p m s:=by
 unfold Zw
 simp only [decide_eq_true hp,Bool.true_and]
 by_cases h:s=p.drop (m+1)
 · rw [if_pos h]
   refine Zdv hb (by omega) (fun j hj=>?_)
   rw [J5 p s m hm j,← Bool.or_assoc]
   simp [h]
 · rw [if_neg h]
   refine ZZ (fun j hj=>?_)
   rw [J5 p s m hm j]
   have:¬ (j=m+1∧p.drop (m+1)=s):=fun hh=>h hh.2.symm
   simp [this]
theorem wholeTo_none (T ws:List Txt) (b:Nat) (p:Txt) (m k:Nat) (hp:p ∉ T) (s:Txt):Zw T ws b p m s=Zw T ws b p k s:=by
 unfold Zw;simp only [decide_eq_false hp,Bool.false_and]
theorem firstTo_start (ws:List Txt) (b:Nat) (p q:Txt) (s:Txt):Zz ws b p 0 s=Zz ws b q 0 s:=by
 unfold Zz
 refine ZZ (fun j hj=>?_)
 have:decide (j≤0)=false:=by simp;omega
 rw [this];simp
theorem wholeTo_start (T ws:List Txt) (b:Nat) (p q:Txt) (s:Txt):Zw T ws b p 0 s=Zw T ws b q 0 s:=by
 unfold Zw
 refine ZZ (fun j hj=>?_)
 have:decide (j≤0)=false:=by simp;omega
 rw [this];simp
theorem Zbx (ws:List Txt) (b:Nat) (p q:Txt) (s:Txt):Zz ws b p p.length s=Zz (ws++[p]) b q 0 s:=by
 unfold Zz
 refine ZZ (fun j hj=>?_)
 have h0:decide (j≤0)=false:=by simp;omega
 rw [h0,List.any_append]
 simp only [List.any_cons,List.any_nil,Bool.or_false,Bool.false_and]
 congr 1
 rw [Bool.eq_iff_iff]
 simp only [Bool.and_eq_true,decide_eq_true_eq,goesB_iff]
 exact ⟨fun h=>h.2,fun h=>⟨h.1,h⟩⟩
theorem Zby (T ws:List Txt) (b:Nat) (p q:Txt) (s:Txt):Zw T ws b p p.length s=Zw T (ws++[p]) b q 0 s:=by
 unfold Zw
 refine ZZ (fun j hj=>?_)
 have h0:decide (j≤0)=false:=by simp;omega
 rw [h0,List.any_append]
 simp only [List.any_cons,List.any_nil,Bool.or_false,Bool.false_and,Bool.and_false]
 congr 2
 rw [Bool.eq_iff_iff]
 simp only [Bool.and_eq_true,decide_eq_true_eq,goesB_iff]
 exact ⟨fun h=>h.2,fun h=>⟨h.1,h⟩⟩
theorem firstTo_all (T:List Txt) (s:Txt):Zz (Zl T) (least T) [] 0 s=firstF T s:=by
 unfold Zz firstF
 refine ZZ (fun j hj=>?_)
 have h0:decide (j≤0)=false:=by simp;omega
 rw [h0];simp
theorem wholeTo_all (T:List Txt) (s:Txt):Zw T (Zl T) (least T) [] 0 s=YD T s:=by
 unfold Zw YD
 refine ZZ (fun j hj=>?_)
 have h0:decide (j≤0)=false:=by simp;omega
 rw [h0,Bool.false_and,Bool.and_false,Bool.or_false,Bool.eq_iff_iff,List.any_eq_true,List.any_eq_true]
 constructor
 · rintro ⟨w,hw,h⟩
   rw [Bool.and_eq_true,decide_eq_true_eq] at h
   exact ⟨w,h.1,h.2⟩
 · rintro ⟨w,hw,h⟩
   exact ⟨w,Qp hw,by rw [Bool.and_eq_true,decide_eq_true_eq];exact ⟨hw,h⟩⟩
theorem firstTo_first {b:Nat} (hb:0<b) (s:Txt):Zz [] b [] 0 s=b:=by
 unfold Zz
 rw [ZZ (r:=fun _=>false) (fun j hj=>by
  have h0:decide (j≤0)=false:=by simp;omega
  rw [h0];simp),Zcr hb]
theorem wholeTo_first (T:List Txt) {b:Nat} (hb:0<b) (s:Txt):Zw T [] b [] 0 s=b:=by
 unfold Zw
 rw [ZZ (r:=fun _=>false) (fun j hj=>by
  have h0:decide (j≤0)=false:=by simp;omega
  rw [h0];simp),Zcr hb]
theorem second_nil {T:List Txt}:secondF T []=YD T []:=by
 unfold secondF YD
 refine ZZ (fun j hj=>?_)
 simp
theorem second_snoc {T:List Txt} (hb:0<least T) (p:Txt) (c:UInt8):secondF T (p++[c])=min (YD T (p++[c])) (secondF T p):=by
 unfold secondF YD
 rw [← ZeA _ _ hb]
 refine ZZ (fun j hj=>?_)
 rw [List.length_append,List.length_singleton,List.range_succ,List.any_append]
 simp only [List.any_cons,List.any_nil,Bool.or_false]
 rw [List.take_of_length_le (by simp),Bool.or_comm]
 congr 1
 rw [Bool.eq_iff_iff,List.any_eq_true,List.any_eq_true]
 constructor
 · rintro ⟨k,hk,h⟩
   have hk':=List.mem_range.1 hk
   rw [List.take_append_of_le_length (by omega)] at h
   exact ⟨k,hk,h⟩
 · rintro ⟨k,hk,h⟩
   have hk':=List.mem_range.1 hk
   exact ⟨k,hk,by rw [List.take_append_of_le_length (by omega)];exact h⟩
theorem second_up {T:List Txt} (hb:0<least T) (s:Txt) (hs:s≠[]):secondF T s=min (YD T s) (secondF T s.dropLast):=by
 obtain ⟨p,c,rfl⟩:∃ p c,s=p++[c]:=⟨s.dropLast,s.getLast hs,(List.dropLast_concat_getLast hs).symm⟩
 rw [second_snoc hb,List.dropLast_concat]
/-- Each path's beginning of a byte less stands ahead of it. -/
def Up (P:List Txt):Prop:=∀ i p,P[i]? = some p→p≠[]→p.dropLast∈P.take i
theorem Up.put {P:List Txt} (h:Up P) {p:Txt} (hd:p.dropLast∈P):Up (QC P p):=by
 unfold QC
 split
 · exact h
 · intro i q hi hq
   by_cases hil:i<P.length
   · rw [List.getElem?_append_left hil] at hi
     rw [List.take_append_of_le_length (by omega)]
     exact h i q hi hq
   · have hi2:=(List.getElem?_eq_some_iff.1 hi).1
     rw [List.length_append,List.length_singleton] at hi2
     obtain rfl:i=P.length:=by omega
     rw [List.getElem?_append_right (Nat.le_refl _),Nat.sub_self] at hi
     simp at hi;subst hi
     rw [List.take_append_of_le_length (Nat.le_refl _),List.take_length]
     exact hd
theorem Up.to {P:List Txt} (hT:Tree P) (h:Up P) (b:Txt):∀ n,n≤b.length→Up (QH P b n)
 | 0,_=>h
 | n+1,hn=>by
   have h1:=Up.to hT h b n (by omega)
   obtain ⟨_,h2,_⟩:=Jk hT b n (by omega)
   exact h1.put (by rw [Za6 (by omega)];exact h2)
theorem paths_up (l:List Txt):Up (Zl l):=by
 have H:∀ n (l:List Txt),l.length=n→Up (Zl l):=by
  intro n
  induction n with
  | zero =>
    intro l hl
    rw [List.eq_nil_of_length_eq_zero hl]
    intro i p hi hp
    have e:Zl []=[[]]:=rfl
    rw [e] at hi
    cases i with
    | zero=>simp at hi;exact absurd hi hp
    | succ i=>simp at hi
  | succ n ih =>
    intro l hl
    have hne:l≠[]:=by intro h;simp [h] at hl
    obtain ⟨m,x,rfl⟩:∃ m x,l=m++[x]:=⟨l.dropLast,l.getLast hne,(List.dropLast_concat_getLast hne).symm⟩
    rw [Jl]
    exact Up.to (ZC m) (ih m (by simp at hl;omega)) x x.length (Nat.le_refl _)
 exact H _ l rfl
/-- The second number, where the nodes ks have theirs. -/
def Qd (T ks:List Txt) (s:Txt):Nat:=if s∈ks then secondF T s else YD T s
theorem secondTo_step {T ks:List Txt} (hb:0<least T) {s:Txt} (hs:s≠[]) (hn:s ∉ ks) (hp:s.dropLast∈ks) (q:Txt):Qd T (ks++[s]) q=if q=s then min (Qd T ks s) (Qd T ks s.dropLast) else Qd T ks q:=by
 unfold Qd
 by_cases h:q=s
 · subst h
   rw [if_pos (by simp),if_pos rfl,if_neg hn,if_pos hp,second_up hb q hs]
 · rw [if_neg h]
   by_cases hk:q∈ks
   · rw [if_pos (by simp [hk]),if_pos hk]
   · rw [if_neg (by simp [hk,h]),if_neg hk]
theorem secondTo_root (T:List Txt) (q:Txt):Qd T [[]] q=YD T q:=by
 unfold Qd
 by_cases h:q=[]
 · subst h;rw [if_pos (by simp),second_nil]
 · rw [if_neg (by simp [h])]
end Seine.Cw
end
