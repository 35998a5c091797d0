/- Joined texts: RunE. -/
import Derived.Test.YtfdlaomnecjfeaaGreatDoorM16
set_option linter.unusedVariables false
set_option linter.unusedSimpArgs false
section
namespace Go.Proofs.YtfdlaomnecjfeaaGreatDoor
open Go.RowKit Go.Shelf Seine.Trie Seine.Fg Seine.Eng
set_option maxRecDepth 100000 in
set_option maxHeartbeats 6400000 in
theorem run_right (w:World) (hT:Tab w) (A:Option Addr) (n c:Nat) (o:Opt) (tag:Int) (B:Option Addr) (d:Nat) (input:Txt) (hi:Byt w B input) (hil:input.length≤5000) (E:Option Addr) (e:Nat) (cuts:List Int) (hcu:Row w E (Jg cuts)) (hcl:cuts.length≤5000)
    (l:List Txt) (ht:tot l≤60000) (hs:∀ t∈l,t.length≤1100) (hll:l.length≤1000000)
    (hBg:∀ v,Below w.heap.size w v→Calls Tryz.prog 65 #[.agg (Xv (.slice A n c) o tag (.slice B input.length d) (.slice E cuts.length e))] v fun e w'=>∃ w0 rb ob mb eg,e=.returned (.tuple #[.pointer (some ⟨rb,0,none⟩),.int .i64 0])∧Below v.heap.size v w0∧BegAt w0 w' rb ob mb eg o tag l) :
    Calls Tryz.prog 32 #[.agg (Xv (.slice A n c) o tag (.slice B input.length d) (.slice E cuts.length e))] w (RunPost w (okR o tag l input cuts)):=by
 have HI:=As.mk hi
 have HC:=As.mk hcu
 have HT:=As.mk hT
 have cP:=As.mk (fun (v:World) (hv:Below w.heap.size w v)=>pieces_of_calls v B d input (Row.below HI.out hv) (by omega) E e cuts (Row.below HC.out hv) (by omega))
 obtain ⟨i,hin⟩:∃ k,input.length=k:=⟨_,rfl⟩
 obtain ⟨m,hmn⟩:∃ k,cuts.length=k:=⟨_,rfl⟩
 rw [hin] at hil
 rw [hmn] at hcl
 rw [hin,hmn] at cP hBg ⊢
 replace hin:=As.mk hin
 replace hmn:=As.mk hmn
 clear hi hcu hT
 have hbx:=heap_alloc_new w (.cells #[.slice A n c,.bool o.i,.bool o.w,.bool o.x,.bool o.o,.bool o.b,.bool o.v,.bool o.c,.int .i64 tag,.slice B i d,.slice E m e] 49)
 have hB1:=(Below.refl w.heap.size w).alloc (Nat.le_refl _) (.cells #[.slice A n c,.bool o.i,.bool o.w,.bool o.x,.bool o.o,.bool o.b,.bool o.v,.bool o.c,.int .i64 tag,.slice B i d,.slice E m e] 49)
 have hrs:=heap_alloc_new (w.alloc (.cells #[.slice A n c,.bool o.i,.bool o.w,.bool o.x,.bool o.o,.bool o.b,.bool o.v,.bool o.c,.int .i64 tag,.slice B i d,.slice E m e] 49)) (.cells #[.slice none 0 0,.int .i64 0,.int .i64 0,.int .i64 0,.int .i64 0,.int .i64 0,.int .i64 0,.int .i64 0] 31)
 have hB2:=hB1.alloc hB1.size (.cells #[.slice none 0 0,.int .i64 0,.int .i64 0,.int .i64 0,.int .i64 0,.int .i64 0,.int .i64 0,.int .i64 0] 31)
 replace hbx:=Zn (o':=.cells #[.slice none 0 0,.int .i64 0,.int .i64 0,.int .i64 0,.int .i64 0,.int .i64 0,.int .i64 0,.int .i64 0] 31) hbx
 rw [World.size_alloc] at hrs
 obtain ⟨W1,hW1⟩:∃ W,(w.alloc (.cells #[.slice A n c,.bool o.i,.bool o.w,.bool o.x,.bool o.o,.bool o.b,.bool o.v,.bool o.c,.int .i64 tag,.slice B i d,.slice E m e] 49)).alloc (.cells #[.slice none 0 0,.int .i64 0,.int .i64 0,.int .i64 0,.int .i64 0,.int .i64 0,.int .i64 0,.int .i64 0] 31)=W:=⟨_,rfl⟩
 rw [hW1] at hbx hrs hB2
 have cB:=As.mk (hBg W1 hB2)
 unfold Xv
 simp only [Xv] at cB
 have k0:W1.cell? ⟨w.heap.size,0,none⟩=some (.slice A n c):=Za hbx 0
 have k1:W1.cell? ⟨w.heap.size,1,none⟩=some (.bool o.i):=Za hbx 1
 have k2:W1.cell? ⟨w.heap.size,2,none⟩=some (.bool o.w):=Za hbx 2
 have k3:W1.cell? ⟨w.heap.size,3,none⟩=some (.bool o.x):=Za hbx 3
 have k4:W1.cell? ⟨w.heap.size,4,none⟩=some (.bool o.o):=Za hbx 4
 have k5:W1.cell? ⟨w.heap.size,5,none⟩=some (.bool o.b):=Za hbx 5
 have k6:W1.cell? ⟨w.heap.size,6,none⟩=some (.bool o.v):=Za hbx 6
 have k7:W1.cell? ⟨w.heap.size,7,none⟩=some (.bool o.c):=Za hbx 7
 have k8:W1.cell? ⟨w.heap.size,8,none⟩=some (.int .i64 tag):=Za hbx 8
 have k9:W1.cell? ⟨w.heap.size,9,none⟩=some (.slice B i d):=Za hbx 9
 have k10:W1.cell? ⟨w.heap.size,10,none⟩=some (.slice E m e):=Za hbx 10
 replace hW1:=As.mk hW1
 replace hB2:=As.mk hB2
 replace hrs:=As.mk hrs
 replace hbx:=As.mk hbx
 clear hB1 hBg
 have hsz1:=hB2.out.size
 go_enter Tryz.func32,Tryz.ntmps32
 go_wp2_with (first | (rw [hW1.out]))
 go_wp2_with (go_at_call 65;refine Calls.mono cB.out ?_;rintro e2 w2 ⟨w0,rb,ob,mb,eg,rfl,hb0,hbeg⟩
              have hb2:Below W1.heap.size W1 w2:=hb0.trans (hbeg.bel.mono hb0.size)
              have r9:w2.cell? ⟨rb,9,none⟩=some (.pointer (some ⟨mb,0,none⟩)):=Za hbeg.run 9
              have cS:=As.mk (strnew_calls w2 mb)
              replace hbeg:=As.mk hbeg
              replace hb0:=As.mk hb0
              replace hb2:=As.mk hb2)
 refine Calls.mono cS.out ?_
 rintro e3 w3 ⟨gs,gw,rfl,hS3,hW3,hgs,hgw,hb3⟩
 have hb13:=hb2.out.trans (hb3.mono hb2.out.size)
 have hbx3:=Zc hb13 hbx.out
 have k9':w3.cell? ⟨w.heap.size,9,none⟩=some (.slice B i d):=Za hbx3 9
 have k10':w3.cell? ⟨w.heap.size,10,none⟩=some (.slice E m e):=Za hbx3 10
 have hbw3:=As.mk (Ze hB2.out hb13)
 have cP3:=As.mk (cP.out w3 hbw3.out)
 have hz3:=hb3.size
 replace hS3:=As.mk hS3
 replace hW3:=As.mk hW3
 replace hb3:=As.mk hb3
 replace hb13:=As.mk hb13
 replace hbx3:=As.mk hbx3
 clear k0 k1 k2 k3 k4 k5 k6 k7 k8 k9 k10 r9 cS cB cP
 go_wp2_with (go_at_call 67;refine Calls.mono cP3.out ?_;rintro e4 w4 ⟨A4,c4,rfl,hc4,hty4,hb4⟩
              have hI0:=RunI.start (HT.out.below (Ze hB2.out hb0.out)) hbeg.out hb3.out hS3.out hW3.out hgs hgw hb4
              have hps:As ((Zv input cuts).length=m+1):=⟨by unfold Zv;rw [Yd,X8,hmn.out]⟩
              replace hI0:=As.mk hI0
              replace hty4:=As.mk hty4
              have hlt4:=As.mk (show rb<w3.heap.size∧mb<w3.heap.size∧gs<w3.heap.size∧gw<w3.heap.size from ⟨Nat.lt_of_lt_of_le (Zf hbeg.out.run) hz3,Nat.lt_of_lt_of_le (Zf hbeg.out.mt) hz3,Zf hS3.out,Zf hW3.out.1⟩)
              replace hb4:=As.mk hb4)
 clear cP3
 go_loopg [31] (m+2) (fun gk ix wr=>∃ (k:Nat) (v vw:Value),As (m+2≤gk+k)∧k≤m+1∧ix=.int .i64 k∧As (RunI w0 w4 wr rb ob mb eg gs gw o tag l v vw (Qm St.zero ((Zv input cuts).take k)).2 (Qm St.zero ((Zv input cuts).take k)).1 (QI St.zero Wn.zero ((Zv input cuts).take k))))
 case atStart=>exact ⟨0,_,_,⟨by omega⟩,Nat.zero_le _,rfl,⟨by rw [List.take_zero];exact hI0.out⟩⟩
 case round =>
  obtain ⟨k,v,vw,hgk,hk,rfl,hR⟩:=hrel
  by_cases hlt:k<m+1
  · obtain ⟨gp,rfl⟩:∃ gp,gk=gp+1:=⟨gk - 1,by have:=hgk.out;omega⟩
    have hkp:k<(Zv input cuts).length:=by rw [hps.out];exact hlt
    obtain ⟨vs,hvl,hrow,hel⟩:=hty4.out _ wr hR.out.kp (fun b hb1 hb2 hS=>by
     obtain ⟨l1,l2,l3,l4⟩:=hlt4.out
     rcases hS with e | e | e | e | e <;> omega)
    obtain ⟨A',c',hve,hpc,hby,hfr⟩:=hel k hkp
    obtain ⟨ad,rfl,hcell⟩:=Row.at_ hrow (j:=k) (by rw [hvl];exact hkp)
    rw [List.getElem?_eq_getElem (by rw [hvl];exact hkp)] at hve
    injection hve with hve
    rw [hve] at hcell
    have hPL:=piece_le hkp
    rw [hin.out] at hPL
    have hft:=feedP_take St.zero hkp
    have hqt:=feedQ_take St.zero Wn.zero hkp
    have hhk:=Za3 (input:=input) (cuts:=cuts) k
    have hhk1:=Za3 (input:=input) (cuts:=cuts) (k+1)
    have hmk1:=ZdN (input:=input) (cuts:=cuts) (k+1)
    rw [hin.out] at hhk hhk1 hmk1
    have hlo:=feedP_ok (input:=input) (by rw [hin.out];exact hil) (cuts:=cuts) (k+1)
    rw [hft] at hlo
    have cF:=As.mk (feed_any wr w4.heap.size gs gw mb vw _ _ _ _ hR.out.fd (by omega) hR.out.kp.size A' c' _ hby hpc (by omega) (fun hne ad hA e=>by have h1:=(hfr hne ad hA).2;have h2:=hR.out.wf _ e;omega))
    have hpl:((Zv input cuts).getD k []).length≤i:=hPL
    obtain ⟨pl,hple⟩:∃ p,((Zv input cuts).getD k []).length=p:=⟨_,rfl⟩
    rw [hple] at cF hcell hpl
    have hwrp:IntKind.i64.wrap ((k:Int)+1)=(k:Int)+1:=by rw [IntKind.wrap_i64];omega
    clear hvl hrow hel hve hpc hby hfr hple hPL
    obtain ⟨P,hP⟩:∃ P,Qm St.zero ((Zv input cuts).take k)=P:=⟨_,rfl⟩
    obtain ⟨S,hS⟩:∃ S,Zq P.1 ((Zv input cuts).getD k [])=S:=⟨_,rfl⟩
    rw [hP] at hft hqt hhk hlo hR cF
    rw [hS] at hft hlo cF
    rw [hft] at hhk1
    obtain ⟨wn,hwn⟩:∃ x,QI St.zero Wn.zero ((Zv input cuts).take k)=x:=⟨_,rfl⟩
    rw [hwn] at hqt hR cF
    rw [← hqt] at cF
    obtain ⟨wn',hwn'⟩:∃ x,QI St.zero Wn.zero ((Zv input cuts).take (k+1))=x:=⟨_,rfl⟩
    rw [hwn'] at hmk1 cF
    replace hft:=As.mk hft
    replace hwn':=As.mk hwn'
    clear hqt hwn hS hP hkp
    go_wp2_with (first
     | (go_at_call 69;refine Calls.mono cF.out ?_;rintro e5 w5 ⟨vo,vx,rfl,hol,hk5,hf5,hfd5⟩
        obtain ⟨vz,hR5⟩:=hR.out.fed hk5 hf5 hfd5
        obtain ⟨Ao,co,rfl,_⟩:=hol.lns
        have cL:=As.mk (ZcM w0 w5 rb ob mb eg o tag l v _ _ _ hR5.run ht hs hll (by omega) (by omega) (by omega) (by omega) wr.heap.size _ vx _ hol (by have:=hR.out.lt.1;have:=hR.out.kp.size;omega) (by have:=hR.out.lt.2.2.1;have:=hR.out.kp.size;omega) (fun q e=>(ZM hR.out.run.out e).2) hlo.right.len hlo.right.all (Zd5 hlo))
        replace hR5:=As.mk hR5
        clear hol hk5 hf5 hfd5)
     | (go_at_call 68;refine Calls.mono cL.out ?_;rintro e6 w6 ⟨rfl,v6,hr6,hk6,hf6⟩
        have hR6:=As.mk (hR5.out.lined hr6 hk6 hf6)
        clear hr6 hk6 hf6))
    go_roundg gp
    case rel=>exact ⟨k+1,v6,vz,⟨by have:=hgk.out;omega⟩,by omega,(by first | rfl | go_num | (congr 1;omega)),⟨by rw [hft.out,hwn'.out];exact hR6.out⟩⟩
    case measure=>omega
  · obtain rfl:k=m+1:=by omega
    have hfin:Qm St.zero ((Zv input cuts).take (m+1))=Zq St.zero input:=by rw [← hps.out,List.take_length,Js,Ye]
    have hqin:QI St.zero Wn.zero ((Zv input cuts).take (m+1))=QI St.zero Wn.zero (Zv input cuts):=by rw [← hps.out,List.take_length]
    have hmk1:=ZdN (input:=input) (cuts:=cuts) (m+1)
    have hhk1:=Za3 (input:=input) (cuts:=cuts) (m+1)
    rw [hfin] at hhk1
    rw [hqin] at hmk1
    rw [hin.out] at hmk1 hhk1
    rw [hfin,hqin] at hR
    obtain ⟨F,hF⟩:∃ F,Zq St.zero input=F:=⟨_,rfl⟩
    have hal:Qu input=F.2++YR F.1:=by unfold Qu;rw [hF]
    have hok:=ZdM (b:=input) (by rw [hin.out];exact hil)
    obtain ⟨wn,hwn⟩:∃ x,QI St.zero Wn.zero (Zv input cuts)=x:=⟨_,rfl⟩
    rw [hF] at hR hhk1
    rw [hwn] at hR hmk1
    rw [hal] at hok
    replace hF:=As.mk hF
    replace hwn:=As.mk hwn
    replace hal:=As.mk hal
    have cE:=As.mk (end_any wr w4.heap.size gs gw mb vw _ _ _ _ hR.out.fd (by omega) hR.out.kp.size)
    clear hfin hqin
    go_upto_region 11 with (first
     | (go_at_call 70;refine Calls.mono cE.out ?_;rintro e5 w5 ⟨vo,vx,num,off,bad,rfl,hol,hst5,hm5,hk5,hbad1,hbad2⟩
        obtain ⟨Ao,co,rfl,_⟩:=hol.lns
        have hr5:=hR.out.fedAt hk5 hm5
        have cL:=As.mk (ZcM w0 w5 rb ob mb eg o tag l v _ _ _ hr5 ht hs hll (by omega) (by omega) (by omega) (by omega) wr.heap.size _ vx _ hol (by have:=hR.out.lt.1;have:=hR.out.kp.size;omega) (by have:=hR.out.lt.2.2.1;have:=hR.out.kp.size;omega) (fun q e=>(ZM hR.out.run.out e).2) hok.right.len hok.right.all (Zd5 hok))
        have hbads:=As.mk (And.intro hbad1 hbad2)
        have hvf:=As.mk (fun (k:Nat) (e:JR rb mb v k)=>(by
         obtain ⟨n1,n2,n3,n4,n5,n6,n7,n8⟩:=hR.out.ne
         rintro rfl
         rcases e with e | e | e
         · exact n1 e.symm
         · exact n7 e.symm
         · have:=hR.out.vf _ e;have:=hR.out.lt.2.2.2.1;omega:¬ k=gs))
        replace hst5:=As.mk hst5
        clear hol hk5 hm5 hr5 hbad1 hbad2)
     | (go_at_call 68;refine Calls.mono cL.out ?_;rintro e6 w6 ⟨rfl,v6,hr6,hk6,hf6⟩
        rw [← Jf,← hal.out] at hr6
        have hst6:=As.mk (Zd hst5.out hk6 (fun e=>hvf.out gs e rfl))
        clear hk6 hf6))
    obtain ⟨X,hX⟩:∃ X,Zs o tag l Ac.zero (Qu input)=X:=⟨_,rfl⟩
    rw [hX] at hr6
    obtain ⟨Au,cu,rfl,hcu,_⟩:=OwnByt.row hr6.out
    have l9:∀ v,Below w6.heap.size w6 v→v.cell? ⟨rb,9,none⟩=some (.pointer (some ⟨mb,0,none⟩)):=fun v hk=>Za (Zc hk hr6.run) 9
    have l10:∀ v,Below w6.heap.size w6 v→v.cell? ⟨rb,10,none⟩=some (.slice Au X.out.length cu):=fun v hk=>Za (Zc hk hr6.run) 10
    have hX':=As.mk hX
    have hr6':=As.mk hr6
    clear hX hr6 hR cL cE
    go_cut [8] (fun v8 wx=>∃ gl,v8=.pointer (some ⟨gl,0,none⟩)∧As (w6.heap.size≤gl)∧As (wx.heap[gl]? = some (.cells #[.slice Au X.out.length cu,.int .i64 0,.int .i64 0,.int .i64 0,.int .i64 (X.s:Int),.int .i64 (X.k:Int),.int .i64 (F.1.hunt:Int),.int .i64 (wn.move:Int)] 31 (0,0)))∧As (Below w6.heap.size w6 wx))
    case first =>
     have cC:=As.mk (fun (v:World) (hv:Below w6.heap.size w6 v)=>mcounts_calls v mb _ (hr6'.out.mt.below hv))
     simp only [Qr] at cC
     refine wp_region_held_drew (S:=fun v=>Below w6.heap.size w6 v) (by kernel_rfl) (Below.refl _ _).drew (fun hHeld=>?_)
     refine Zg 0 (v:=?_) rfl (by kernel_rfl) (by kernel_rfl) (by kernel_rfl) (fun _ _ _ h=>h) (Or.inl ⟨by rfl,?_⟩) (by assumption) ?_
     rotate_left 1
     · (intro w hSw;(try dsimp only at hSw);first | (go_simp;done) | (go_simp;with_reducible rfl))
     (simp only [Act.put,List.setIfInBounds_toArray,List.set_cons_zero,List.set_cons_succ])
     refine Zg 1 (v:=?_) rfl (by kernel_rfl) (by kernel_rfl) (by kernel_rfl) (fun _ _ _ h=>h) (Or.inl ⟨by rfl,?_⟩) (by assumption) ?_
     rotate_left 1
     · (intro w hSw;(try dsimp only at hSw);first | (go_simp;done) | (go_simp;with_reducible rfl))
     (simp only [Act.put,List.setIfInBounds_toArray,List.set_cons_zero,List.set_cons_succ])
     refine Zg 2 (v:=?_) rfl (by kernel_rfl) (by kernel_rfl) (by kernel_rfl) (fun _ _ _ h=>h) (Or.inl ⟨by rfl,?_⟩) (by assumption) ?_
     rotate_left 1
     · (intro w hSw;(try dsimp only at hSw);first | (go_simp;done) | (go_simp;with_reducible rfl))
     (simp only [Act.put,List.setIfInBounds_toArray,List.set_cons_zero,List.set_cons_succ])
     refine Zg 3 (v:=?_) rfl (by kernel_rfl) (by kernel_rfl) (by kernel_rfl) (fun _ _ _ h=>h) (Or.inl ⟨by rfl,?_⟩) (by assumption) ?_
     rotate_left 1
     · (intro w hSw;(try dsimp only at hSw);first | (go_simp;done) | (go_simp;with_reducible rfl))
     (simp only [Act.put,List.setIfInBounds_toArray,List.set_cons_zero,List.set_cons_succ])
     refine Zg 4 (v:=?_) rfl (by kernel_rfl) (by kernel_rfl) (by kernel_rfl) (fun _ _ _ h=>h) (Or.inl ⟨by rfl,?_⟩) (by assumption) ?_
     rotate_left 1
     · (intro w hSw;(try dsimp only at hSw);first | (go_simp;done) | (go_simp;with_reducible rfl))
     (simp only [Act.put,List.setIfInBounds_toArray,List.set_cons_zero,List.set_cons_succ])
     refine Zg 5 (v:=?_) rfl (by kernel_rfl) (by kernel_rfl) (by kernel_rfl) (fun _ _ _ h=>h) (Or.inl ⟨by rfl,?_⟩) (by assumption) ?_
     rotate_left 1
     · (intro w hSw;(try dsimp only at hSw);first | (go_simp;done) | (go_simp;with_reducible rfl))
     (simp only [Act.put,List.setIfInBounds_toArray,List.set_cons_zero,List.set_cons_succ])
     refine Zg 6 (v:=?_) rfl (by kernel_rfl) (by kernel_rfl) (by kernel_rfl) (fun _ _ _ h=>h) (Or.inl ⟨by rfl,?_⟩) (by assumption) ?_
     rotate_left 1
     · (intro w hSw;(try dsimp only at hSw);first | (go_simp;done) | (go_simp;with_reducible rfl))
     (simp only [Act.put,List.setIfInBounds_toArray,List.set_cons_zero,List.set_cons_succ])
     refine Zg 7 (v:=?_) rfl (by kernel_rfl) (by kernel_rfl) (by kernel_rfl) (fun _ _ _ h=>h) (Or.inl ⟨by rfl,?_⟩) (by assumption) ?_
     rotate_left 1
     · (intro w hSw;(try dsimp only at hSw);first | (go_simp;done) | (go_simp;with_reducible rfl))
     (simp only [Act.put,List.setIfInBounds_toArray,List.set_cons_zero,List.set_cons_succ])
     refine wpAnyH_ready (rs:=[8,10]) (by kernel_rfl) (by simp) ?_
     refine AllReadyH.cons rfl (fun K hK=>?_) (AllReadyH.cons rfl (fun K hK=>?_) AllReadyH.nil)
     · go_simp
       refine Calls.mono (cC.out _ (Below.refl _ _).drew) ?_
       rintro e7 w7 ⟨rfl,hb7⟩
       have hb67:Below w6.heap.size w6 w7:=(Below.refl _ _).drew.trans hb7
       have hs7:=hb67.size
       refine hK.out _ _ hb67 (fun hHeld=>?_)
       clear hK K
       refine Zg 9 (v:=?_) rfl (by kernel_rfl) (by kernel_rfl) (by kernel_rfl) (fun _ _ _ h=>h) (Or.inl ⟨by rfl,?_⟩) (by assumption) ?_
       rotate_left 1
       · (intro w hSw;(try dsimp only at hSw);first | (go_simp;done) | (go_simp;with_reducible rfl))
       (simp only [Act.put,List.setIfInBounds_toArray,List.set_cons_zero,List.set_cons_succ])
       refine wpAnyH_ready (rs:=[10]) (by kernel_rfl) (by simp) ?_
       refine AllReadyH.cons rfl (fun K hK=>?_) AllReadyH.nil
       go_simp
       refine hK.out _ _ (hb67.alloc hb67.size _) (fun hHeld=>?_)
       clear hK K
       refine wpAnyH_ready (rs:=[11]) (by kernel_rfl) (by simp) ?_
       refine AllReadyH.cons rfl (fun K hK=>?_) AllReadyH.nil
       go_simp
       refine hK.out _ _ (hb67.alloc hb67.size _) (fun hHeld=>?_)
       clear hK K
       refine wpAnyH_done (by kernel_rfl) ?_ _
       go_wp2_with fail
       go_meet
       case rel=>exact ⟨_,rfl,⟨hs7⟩,⟨heap_alloc_new _ _⟩,⟨hb67.alloc hs7 _⟩⟩
     · go_simp
       have hba:Below w6.heap.size w6 ((w6.alloc (.cells #[.slice none 0 0,.int .i64 0,.int .i64 0,.int .i64 0,.int .i64 0,.int .i64 0,.int .i64 0,.int .i64 0] 31)).drew):=((Below.refl _ _).alloc (Nat.le_refl _) _).drew
       have hn0:((w6.alloc (.cells #[.slice none 0 0,.int .i64 0,.int .i64 0,.int .i64 0,.int .i64 0,.int .i64 0,.int .i64 0,.int .i64 0] 31)).drew).heap[w6.heap.size]? = some (.cells #[.slice none 0 0,.int .i64 0,.int .i64 0,.int .i64 0,.int .i64 0,.int .i64 0,.int .i64 0,.int .i64 0] 31 (0,0)):=heap_alloc_new w6 _
       refine hK.out _ _ hba (fun hHeld=>?_)
       clear hK K
       obtain ⟨Wb,hWb⟩:∃ W,(w6.alloc (.cells #[.slice none 0 0,.int .i64 0,.int .i64 0,.int .i64 0,.int .i64 0,.int .i64 0,.int .i64 0,.int .i64 0] 31)).drew=W:=⟨_,rfl⟩
       rw [hWb] at hba hn0 ⊢
       clear hWb
       refine wpAnyH_ready (rs:=[8]) (by kernel_rfl) (by simp) ?_
       refine AllReadyH.cons rfl (fun K hK=>?_) AllReadyH.nil
       go_simp
       refine Calls.mono (cC.out _ hba) ?_
       rintro e7 w7 ⟨rfl,hb7⟩
       have hb67:Below w6.heap.size w6 w7:=Ze hba hb7
       have hn1:=Zc hb7 hn0
       refine hK.out _ _ hb67 (fun hHeld=>?_)
       clear hK K
       refine Zg 9 (v:=?_) rfl (by kernel_rfl) (by kernel_rfl) (by kernel_rfl) (fun _ _ _ h=>h) (Or.inl ⟨by rfl,?_⟩) (by assumption) ?_
       rotate_left 1
       · (intro w hSw;(try dsimp only at hSw);first | (go_simp;done) | (go_simp;with_reducible rfl))
       (simp only [Act.put,List.setIfInBounds_toArray,List.set_cons_zero,List.set_cons_succ])
       have r0:w7.cell? ⟨w6.heap.size,0,none⟩=some (.slice none 0 0):=Za hn1 0
       have f0:w7.frozen? ⟨w6.heap.size,0,none⟩=false:=Zb hn1 0
       have r1:w7.cell? ⟨w6.heap.size,1,none⟩=some (.int .i64 0):=Za hn1 1
       have f1:w7.frozen? ⟨w6.heap.size,1,none⟩=false:=Zb hn1 1
       have r2:w7.cell? ⟨w6.heap.size,2,none⟩=some (.int .i64 0):=Za hn1 2
       have f2:w7.frozen? ⟨w6.heap.size,2,none⟩=false:=Zb hn1 2
       have r3:w7.cell? ⟨w6.heap.size,3,none⟩=some (.int .i64 0):=Za hn1 3
       have f3:w7.frozen? ⟨w6.heap.size,3,none⟩=false:=Zb hn1 3
       have r4:w7.cell? ⟨w6.heap.size,4,none⟩=some (.int .i64 0):=Za hn1 4
       have f4:w7.frozen? ⟨w6.heap.size,4,none⟩=false:=Zb hn1 4
       have r5:w7.cell? ⟨w6.heap.size,5,none⟩=some (.int .i64 0):=Za hn1 5
       have f5:w7.frozen? ⟨w6.heap.size,5,none⟩=false:=Zb hn1 5
       have r6:w7.cell? ⟨w6.heap.size,6,none⟩=some (.int .i64 0):=Za hn1 6
       have f6:w7.frozen? ⟨w6.heap.size,6,none⟩=false:=Zb hn1 6
       have r7:w7.cell? ⟨w6.heap.size,7,none⟩=some (.int .i64 0):=Za hn1 7
       have f7:w7.frozen? ⟨w6.heap.size,7,none⟩=false:=Zb hn1 7
       refine wpAnyH_ready (rs:=[11]) (by kernel_rfl) (by simp) ?_
       refine AllReadyH.cons rfl (fun K hK=>?_) AllReadyH.nil
       go_simp
       obtain ⟨q1,q2⟩:=Zc9 (.slice Au X.out.length cu) (.int .i64 0) (.int .i64 0) (.int .i64 0) (.int .i64 (X.s:Int)) (.int .i64 (X.k:Int)) (.int .i64 (F.1.hunt:Int)) (.int .i64 (wn.move:Int)) hn1
       have hb8:=hb67.trans (q2.below (fun k hk e=>by have e:k=w6.heap.size:=e;omega) hb67.size)
       refine hK.out _ _ hb8 (fun hHeld=>?_)
       clear hK K
       refine wpAnyH_done (by kernel_rfl) ?_ _
       go_wp2_with fail
       go_meet
       case rel=>exact ⟨_,rfl,⟨Nat.le_refl _⟩,⟨q1⟩,⟨hb8⟩⟩
    case rest =>
     obtain ⟨gl,rfl,hgl,hgb,hbel⟩:=hcut
     have hr7:=hr6'.out.below hbel.out
     have hst7:Ql wc gs gw mb num off true bad:=Zc hbel.out hst6.out
     have hb0c:Below W1.heap.size W1 wc:=hb0.out.trans (hr7.bel.mono hb0.out.size)
     have hrs7:=Zc hb0c hrs.out
     have hbwc:Below w.heap.size w wc:=Ze hB2.out hb0c
     obtain ⟨rb2,hrb2⟩:∃ b,w.heap.size+1=b:=⟨_,rfl⟩
     rw [hrb2] at hrs7 ⊢
     have hne:¬ gl=rb2:=by have:=Zf hrs.out;have:=hb0.out.size;have:=hr6'.out.bel.size;have:=hgl.out;omega
     have hne2:¬ rb2=gl:=fun e=>hne e.symm
     have hglw:w.heap.size≤gl:=by have:=hb0.out.size;have:=hB2.out.size;have:=hr6'.out.bel.size;have:=hgl.out;omega
     have hrbw:w.heap.size≤rb2:=by omega
     have hown:=As.mk (ZB (base':=w.heap.size) hr7.out (by have:=hb0.out.size;have:=hB2.out.size;omega))
     have hown7:=As.mk (fun (W9:World) (hk:Keeps (fun k=>k=gl∨k=rb2) wc W9)=>(Zj hown.out hk (fun b c _ hb _ h=>h.elim (fun e=>Zp hb hgb.out (by decide) e) (fun e=>Zp hb hrs7 (by decide) e)):OwnByt W9 w.heap.size (.slice Au X.out.length cu) X.out))
     have hbel7:=As.mk (fun (W9:World) (hk:Keeps (fun k=>k=gl∨k=rb2) wc W9)=>(hbwc.trans (hk.below (fun k hk h=>by rcases h with h | h <;> omega) hbwc.size):Below w.heap.size w W9))
     have hbads':=hbads.out
     have hXe:As (Zs o tag l Ac.zero (Qu input)=X):=hX'
     have hXn:X.n≤10000:=by
      have h1:=(ZcN o tag l (Qu input)).2
      have h2:=List.length_filter_le (fun x:Ln=>YT o l x.text) (Qu input)
      have h3:=(ZdM (b:=input) (by rw [hin.out];exact hil)).len
      rw [hXe.out] at h1
      omega
     replace hr7:=As.mk hr7
     replace hst7:=As.mk hst7
     replace hrs7:=As.mk hrs7
     replace hbwc:=As.mk hbwc
     replace hrb2:=As.mk hrb2
     clear hbads hr6' hst6 hbel hty4 hps hI0 hlt4
     obtain ⟨W7,hW7⟩:∃ W,wc=W:=⟨_,rfl⟩
     rw [hW7] at hr7 hst7 hrs7 hbwc hgb hown7 hbel7 hown ⊢
     clear hW7
     cases hov:F.1.over
     · obtain rfl:bad=0:=hbads'.2 hov
       have cEr:=As.mk (serr_none W7 gs gw mb num off true hst7.out)
       have t6:W7.cell? ⟨rb,6,none⟩=some (.bool o.c):=Za hr7.out.run 6
       have t11:W7.cell? ⟨rb,11,none⟩=some (.int .i64 (X.n:Int)):=Za hr7.out.run 11
       obtain ⟨nX,hnX⟩:∃ k,X.n=k:=⟨_,rfl⟩
       rw [hnX] at t11 hXn
       have h11:=As.mk (fun (W8:World) (hb:Below W7.heap.size W7 W8)=>(by rw [← hnX];exact Za (Zc hb hr7.out.run) 11:W8.cell? ⟨rb,11,none⟩=some (.int .i64 (nX:Int))))
       have htb:=As.mk (fun (v:World) (hv:Below W7.heap.size W7 v)=>hr7.out.tabs.below hv)
       have hb7w:=As.mk (fun (W8:World) (hb:Below W7.heap.size W7 W8)=>(Below.trans hbwc.out (hb.mono hbwc.out.size):Below w.heap.size w W8))
       replace hnX:=As.mk hnX
       by_cases hc:o.c=true
       · rw [hc] at t6
         by_cases hn0:nX=0
         · obtain rfl:nX=0:=hn0
           have t11:W7.cell? ⟨rb,11,none⟩=some (.int .i64 0):=t11
           have cN:=As.mk (fun (v:World) (hv:Below W7.heap.size W7 v)=>(Zb8 (0:Int) (by decide) v (htb.out v hv):Calls Tryz.prog 73 #[.int .i64 0] v (RetByt v (dig 0++[10]))))
           have hpick:=As.mk (fun (W8:World) (hb:Below W7.heap.size W7 W8)=>And.intro (h11.out W8 hb:W8.cell? ⟨rb,11,none⟩=some (.int .i64 0)) (hb7w.out W8 hb))
           go_wp2_with (first
            | (go_at_call 72;refine Calls.mono cEr.out ?_;rintro e8 w8 ⟨rfl,rfl⟩)
            | (go_at_call 73;refine Calls.mono (cN.out _ (Below.refl _ _)) ?_;rintro e8 W8 ⟨v8,he8,ho8,hb8⟩
               obtain ⟨A8,c8,rfl,hc8,_⟩:=OwnByt.row ho8
               subst he8
               have hg8:=Zc hb8 hgb.out
               have hr8:=Zc hb8 hrs7.out
               obtain ⟨t11',hbw8⟩:=hpick.out W8 hb8
               obtain ⟨n8,hn8⟩:∃ k,(dig 0++[10]).length=k:=⟨_,rfl⟩
               rw [hn8]
               have g0:W8.cell? ⟨gl,0,none⟩=some (.slice Au X.out.length cu):=Za hg8 0
               have gf0:W8.frozen? ⟨gl,0,none⟩=false:=Zb hg8 0
               have g1:W8.cell? ⟨gl,1,none⟩=some (.int .i64 0):=Za hg8 1
               have gf1:W8.frozen? ⟨gl,1,none⟩=false:=Zb hg8 1
               have g2:W8.cell? ⟨gl,2,none⟩=some (.int .i64 0):=Za hg8 2
               have gf2:W8.frozen? ⟨gl,2,none⟩=false:=Zb hg8 2
               have g3:W8.cell? ⟨gl,3,none⟩=some (.int .i64 0):=Za hg8 3
               have gf3:W8.frozen? ⟨gl,3,none⟩=false:=Zb hg8 3
               have g4:W8.cell? ⟨gl,4,none⟩=some (.int .i64 (X.s:Int)):=Za hg8 4
               have gf4:W8.frozen? ⟨gl,4,none⟩=false:=Zb hg8 4
               have g5:W8.cell? ⟨gl,5,none⟩=some (.int .i64 (X.k:Int)):=Za hg8 5
               have gf5:W8.frozen? ⟨gl,5,none⟩=false:=Zb hg8 5
               have g6:W8.cell? ⟨gl,6,none⟩=some (.int .i64 (F.1.hunt:Int)):=Za hg8 6
               have gf6:W8.frozen? ⟨gl,6,none⟩=false:=Zb hg8 6
               have g7:W8.cell? ⟨gl,7,none⟩=some (.int .i64 (wn.move:Int)):=Za hg8 7
               have gf7:W8.frozen? ⟨gl,7,none⟩=false:=Zb hg8 7
               have r0:W8.cell? ⟨rb2,0,none⟩=some (.slice none 0 0):=Za hr8 0
               have f0:W8.frozen? ⟨rb2,0,none⟩=false:=Zb hr8 0
               have r1:W8.cell? ⟨rb2,1,none⟩=some (.int .i64 0):=Za hr8 1
               have f1:W8.frozen? ⟨rb2,1,none⟩=false:=Zb hr8 1
               have r2:W8.cell? ⟨rb2,2,none⟩=some (.int .i64 0):=Za hr8 2
               have f2:W8.frozen? ⟨rb2,2,none⟩=false:=Zb hr8 2
               have r3:W8.cell? ⟨rb2,3,none⟩=some (.int .i64 0):=Za hr8 3
               have f3:W8.frozen? ⟨rb2,3,none⟩=false:=Zb hr8 3
               have r4:W8.cell? ⟨rb2,4,none⟩=some (.int .i64 0):=Za hr8 4
               have f4:W8.frozen? ⟨rb2,4,none⟩=false:=Zb hr8 4
               have r5:W8.cell? ⟨rb2,5,none⟩=some (.int .i64 0):=Za hr8 5
               have f5:W8.frozen? ⟨rb2,5,none⟩=false:=Zb hr8 5
               have r6:W8.cell? ⟨rb2,6,none⟩=some (.int .i64 0):=Za hr8 6
               have f6:W8.frozen? ⟨rb2,6,none⟩=false:=Zb hr8 6
               have r7:W8.cell? ⟨rb2,7,none⟩=some (.int .i64 0):=Za hr8 7
               have f7:W8.frozen? ⟨rb2,7,none⟩=false:=Zb hr8 7
               replace hg8:=As.mk hg8
               replace hr8:=As.mk hr8
               replace ho8:=As.mk ho8
               replace hn8:=As.mk hn8
               replace hbw8:=As.mk hbw8
               replace hb8:=As.mk hb8))
           have hs8:=hb8.out.size
           have hglb:=Zf hgb.out
           have hrbb:=Zf hrs7.out
           obtain ⟨Wg,hWg⟩:∃ W,((W8.setCell ⟨gl,0,none⟩ (.slice A8 n8 c8)).setCell ⟨gl,1,none⟩ (.int .i64 1))=W:=⟨_,rfl⟩
           have hkg:Keeps (fun k=>k=gl) W8 Wg:=by rw [← hWg];exact (Keeps.trans (Zm W8 ⟨gl,0,none⟩ _) (Zm _ ⟨gl,1,none⟩ _))
           rw [hWg]
           clear hWg
           have hrg:=Zd hr8.out hkg hne2
           obtain ⟨q1,q2⟩:=Zc9 (.slice A8 n8 c8) (.int .i64 1) (.int .i64 0) (.int .i64 0) (.int .i64 (X.s:Int)) (.int .i64 (X.k:Int)) (.int .i64 (F.1.hunt:Int)) (.int .i64 (wn.move:Int)) hrg
           obtain ⟨W9,hW9⟩:∃ W,((((((((Wg.setCell ⟨rb2,0,none⟩ (.slice A8 n8 c8)).setCell ⟨rb2,1,none⟩ (.int .i64 1)).setCell ⟨rb2,2,none⟩ (.int .i64 0)).setCell ⟨rb2,3,none⟩ (.int .i64 0)).setCell ⟨rb2,4,none⟩ (.int .i64 (X.s:Int))).setCell ⟨rb2,5,none⟩ (.int .i64 (X.k:Int))).setCell ⟨rb2,6,none⟩ (.int .i64 (F.1.hunt:Int))).setCell ⟨rb2,7,none⟩ (.int .i64 (wn.move:Int)))=W:=⟨_,rfl⟩
           rw [hW9] at q1 q2 ⊢
           clear hW9
           have z0:=Za q1 0
           have z1:=Za q1 1
           have z2:=Za q1 2
           have z3:=Za q1 3
           have z4:=Za q1 4
           have z5:=Za q1 5
           have z6:=Za q1 6
           have z7:=Za q1 7
           have hk9:Keeps (fun k=>k=gl∨k=rb2) W8 W9:=(hkg.mono (fun _ _ e=>.inl e)).trans (q2.mono (fun _ _ e=>.inr e))
           have hk79:=hk9
           have hown9:OwnByt W9 w.heap.size (.slice A8 n8 c8) (dig 0++[10]):=by
            have h:=ho8.out
            unfold OwnByt at h
            rw [hn8.out] at h
            unfold OwnByt
            rw [hn8.out]
            exact ZB (Zj h hk79 (fun b c hb _ _ h=>by rcases h with h | h <;> omega)) (by have:=hbwc.out.size;omega)
           have hokR:okR o tag l input cuts=⟨dig 0++[10],1,0,0,⟨(X.s:Int),(X.k:Int),(F.1.hunt:Int),(wn.move:Int)⟩⟩:=by unfold okR;rw [hF.out,hwn.out,hXe.out];rw [if_neg (by simp [hov]),if_pos hc,if_pos hnX.out,hnX.out];rfl
           exact bodyPost_ret (v:=.agg #[.slice A8 n8 c8,.int .i64 1,.int .i64 0,.int .i64 0,.int .i64 (X.s:Int),.int .i64 (X.k:Int),.int .i64 (F.1.hunt:Int),.int .i64 (wn.move:Int)]) (by simp [results,Tryz.results32,go_sem,z0,z1,z2,z3,z4,z5,z6,z7]) rfl ⟨.slice A8 n8 c8,by rw [hokR];rfl,by rw [hokR];exact hown9,hbw8.out.trans (hk79.below (fun k hk h=>by rcases h with h | h <;> omega) hbw8.out.size)⟩
         · have hXz:((nX:Int) == 0)=false:=by simp [hn0]
           have cN:=As.mk (fun (v:World) (hv:Below W7.heap.size W7 v)=>(Zb8 (nX:Int) (ZbR (by omega)) v (htb.out v hv):Calls Tryz.prog 73 #[.int .i64 (nX:Int)] v (RetByt v (dig (nX:Int)++[10]))))
           have hpick:=As.mk (fun (W8:World) (hb:Below W7.heap.size W7 W8)=>And.intro (h11.out W8 hb:W8.cell? ⟨rb,11,none⟩=some (.int .i64 (nX:Int))) (hb7w.out W8 hb))
           go_wp2_with (first
            | (go_at_call 72;refine Calls.mono cEr.out ?_;rintro e8 w8 ⟨rfl,rfl⟩)
            | (go_at_call 73;refine Calls.mono (cN.out _ (Below.refl _ _)) ?_;rintro e8 W8 ⟨v8,he8,ho8,hb8⟩
               obtain ⟨A8,c8,rfl,hc8,_⟩:=OwnByt.row ho8
               subst he8
               have hg8:=Zc hb8 hgb.out
               have hr8:=Zc hb8 hrs7.out
               obtain ⟨t11',hbw8⟩:=hpick.out W8 hb8
               obtain ⟨n8,hn8⟩:∃ k,(dig (nX:Int)++[10]).length=k:=⟨_,rfl⟩
               rw [hn8]
               have g0:W8.cell? ⟨gl,0,none⟩=some (.slice Au X.out.length cu):=Za hg8 0
               have gf0:W8.frozen? ⟨gl,0,none⟩=false:=Zb hg8 0
               have g1:W8.cell? ⟨gl,1,none⟩=some (.int .i64 0):=Za hg8 1
               have gf1:W8.frozen? ⟨gl,1,none⟩=false:=Zb hg8 1
               have g2:W8.cell? ⟨gl,2,none⟩=some (.int .i64 0):=Za hg8 2
               have gf2:W8.frozen? ⟨gl,2,none⟩=false:=Zb hg8 2
               have g3:W8.cell? ⟨gl,3,none⟩=some (.int .i64 0):=Za hg8 3
               have gf3:W8.frozen? ⟨gl,3,none⟩=false:=Zb hg8 3
               have g4:W8.cell? ⟨gl,4,none⟩=some (.int .i64 (X.s:Int)):=Za hg8 4
               have gf4:W8.frozen? ⟨gl,4,none⟩=false:=Zb hg8 4
               have g5:W8.cell? ⟨gl,5,none⟩=some (.int .i64 (X.k:Int)):=Za hg8 5
               have gf5:W8.frozen? ⟨gl,5,none⟩=false:=Zb hg8 5
               have g6:W8.cell? ⟨gl,6,none⟩=some (.int .i64 (F.1.hunt:Int)):=Za hg8 6
               have gf6:W8.frozen? ⟨gl,6,none⟩=false:=Zb hg8 6
               have g7:W8.cell? ⟨gl,7,none⟩=some (.int .i64 (wn.move:Int)):=Za hg8 7
               have gf7:W8.frozen? ⟨gl,7,none⟩=false:=Zb hg8 7
               have r0:W8.cell? ⟨rb2,0,none⟩=some (.slice none 0 0):=Za hr8 0
               have f0:W8.frozen? ⟨rb2,0,none⟩=false:=Zb hr8 0
               have r1:W8.cell? ⟨rb2,1,none⟩=some (.int .i64 0):=Za hr8 1
               have f1:W8.frozen? ⟨rb2,1,none⟩=false:=Zb hr8 1
               have r2:W8.cell? ⟨rb2,2,none⟩=some (.int .i64 0):=Za hr8 2
               have f2:W8.frozen? ⟨rb2,2,none⟩=false:=Zb hr8 2
               have r3:W8.cell? ⟨rb2,3,none⟩=some (.int .i64 0):=Za hr8 3
               have f3:W8.frozen? ⟨rb2,3,none⟩=false:=Zb hr8 3
               have r4:W8.cell? ⟨rb2,4,none⟩=some (.int .i64 0):=Za hr8 4
               have f4:W8.frozen? ⟨rb2,4,none⟩=false:=Zb hr8 4
               have r5:W8.cell? ⟨rb2,5,none⟩=some (.int .i64 0):=Za hr8 5
               have f5:W8.frozen? ⟨rb2,5,none⟩=false:=Zb hr8 5
               have r6:W8.cell? ⟨rb2,6,none⟩=some (.int .i64 0):=Za hr8 6
               have f6:W8.frozen? ⟨rb2,6,none⟩=false:=Zb hr8 6
               have r7:W8.cell? ⟨rb2,7,none⟩=some (.int .i64 0):=Za hr8 7
               have f7:W8.frozen? ⟨rb2,7,none⟩=false:=Zb hr8 7
               replace hg8:=As.mk hg8
               replace hr8:=As.mk hr8
               replace ho8:=As.mk ho8
               replace hn8:=As.mk hn8
               replace hbw8:=As.mk hbw8
               replace hb8:=As.mk hb8))
           have hs8:=hb8.out.size
           have hglb:=Zf hgb.out
           have hrbb:=Zf hrs7.out
           obtain ⟨Wg,hWg⟩:∃ W,(W8.setCell ⟨gl,0,none⟩ (.slice A8 n8 c8))=W:=⟨_,rfl⟩
           have hkg:Keeps (fun k=>k=gl) W8 Wg:=by rw [← hWg];exact (Zm W8 ⟨gl,0,none⟩ _)
           rw [hWg]
           clear hWg
           have hrg:=Zd hr8.out hkg hne2
           obtain ⟨q1,q2⟩:=Zc9 (.slice A8 n8 c8) (.int .i64 0) (.int .i64 0) (.int .i64 0) (.int .i64 (X.s:Int)) (.int .i64 (X.k:Int)) (.int .i64 (F.1.hunt:Int)) (.int .i64 (wn.move:Int)) hrg
           obtain ⟨W9,hW9⟩:∃ W,((((((((Wg.setCell ⟨rb2,0,none⟩ (.slice A8 n8 c8)).setCell ⟨rb2,1,none⟩ (.int .i64 0)).setCell ⟨rb2,2,none⟩ (.int .i64 0)).setCell ⟨rb2,3,none⟩ (.int .i64 0)).setCell ⟨rb2,4,none⟩ (.int .i64 (X.s:Int))).setCell ⟨rb2,5,none⟩ (.int .i64 (X.k:Int))).setCell ⟨rb2,6,none⟩ (.int .i64 (F.1.hunt:Int))).setCell ⟨rb2,7,none⟩ (.int .i64 (wn.move:Int)))=W:=⟨_,rfl⟩
           rw [hW9] at q1 q2 ⊢
           clear hW9
           have z0:=Za q1 0
           have z1:=Za q1 1
           have z2:=Za q1 2
           have z3:=Za q1 3
           have z4:=Za q1 4
           have z5:=Za q1 5
           have z6:=Za q1 6
           have z7:=Za q1 7
           have hk9:Keeps (fun k=>k=gl∨k=rb2) W8 W9:=(hkg.mono (fun _ _ e=>.inl e)).trans (q2.mono (fun _ _ e=>.inr e))
           have hk79:=hk9
           have hown9:OwnByt W9 w.heap.size (.slice A8 n8 c8) (dig (nX:Int)++[10]):=by
            have h:=ho8.out
            unfold OwnByt at h
            rw [hn8.out] at h
            unfold OwnByt
            rw [hn8.out]
            exact ZB (Zj h hk79 (fun b c hb _ _ h=>by rcases h with h | h <;> omega)) (by have:=hbwc.out.size;omega)
           have hokR:okR o tag l input cuts=⟨dig (nX:Int)++[10],0,0,0,⟨(X.s:Int),(X.k:Int),(F.1.hunt:Int),(wn.move:Int)⟩⟩:=by unfold okR;rw [hF.out,hwn.out,hXe.out];rw [if_neg (by simp [hov]),if_pos hc,if_neg (by rw [hnX.out];exact hn0),hnX.out]
           exact bodyPost_ret (v:=.agg #[.slice A8 n8 c8,.int .i64 0,.int .i64 0,.int .i64 0,.int .i64 (X.s:Int),.int .i64 (X.k:Int),.int .i64 (F.1.hunt:Int),.int .i64 (wn.move:Int)]) (by simp [results,Tryz.results32,go_sem,z0,z1,z2,z3,z4,z5,z6,z7]) rfl ⟨.slice A8 n8 c8,by rw [hokR];rfl,by rw [hokR];exact hown9,hbw8.out.trans (hk79.below (fun k hk h=>by rcases h with h | h <;> omega) hbw8.out.size)⟩
       · have hcf:o.c=false:=by simpa using hc
         rw [hcf] at t6
         by_cases hn0:nX=0
         · obtain rfl:nX=0:=hn0
           have t11:W7.cell? ⟨rb,11,none⟩=some (.int .i64 0):=t11
           have g0:W7.cell? ⟨gl,0,none⟩=some (.slice Au X.out.length cu):=Za hgb.out 0
           have gf0:W7.frozen? ⟨gl,0,none⟩=false:=Zb hgb.out 0
           have g1:W7.cell? ⟨gl,1,none⟩=some (.int .i64 0):=Za hgb.out 1
           have gf1:W7.frozen? ⟨gl,1,none⟩=false:=Zb hgb.out 1
           have g2:W7.cell? ⟨gl,2,none⟩=some (.int .i64 0):=Za hgb.out 2
           have gf2:W7.frozen? ⟨gl,2,none⟩=false:=Zb hgb.out 2
           have g3:W7.cell? ⟨gl,3,none⟩=some (.int .i64 0):=Za hgb.out 3
           have gf3:W7.frozen? ⟨gl,3,none⟩=false:=Zb hgb.out 3
           have g4:W7.cell? ⟨gl,4,none⟩=some (.int .i64 (X.s:Int)):=Za hgb.out 4
           have gf4:W7.frozen? ⟨gl,4,none⟩=false:=Zb hgb.out 4
           have g5:W7.cell? ⟨gl,5,none⟩=some (.int .i64 (X.k:Int)):=Za hgb.out 5
           have gf5:W7.frozen? ⟨gl,5,none⟩=false:=Zb hgb.out 5
           have g6:W7.cell? ⟨gl,6,none⟩=some (.int .i64 (F.1.hunt:Int)):=Za hgb.out 6
           have gf6:W7.frozen? ⟨gl,6,none⟩=false:=Zb hgb.out 6
           have g7:W7.cell? ⟨gl,7,none⟩=some (.int .i64 (wn.move:Int)):=Za hgb.out 7
           have gf7:W7.frozen? ⟨gl,7,none⟩=false:=Zb hgb.out 7
           have r0:W7.cell? ⟨rb2,0,none⟩=some (.slice none 0 0):=Za hrs7.out 0
           have f0:W7.frozen? ⟨rb2,0,none⟩=false:=Zb hrs7.out 0
           have r1:W7.cell? ⟨rb2,1,none⟩=some (.int .i64 0):=Za hrs7.out 1
           have f1:W7.frozen? ⟨rb2,1,none⟩=false:=Zb hrs7.out 1
           have r2:W7.cell? ⟨rb2,2,none⟩=some (.int .i64 0):=Za hrs7.out 2
           have f2:W7.frozen? ⟨rb2,2,none⟩=false:=Zb hrs7.out 2
           have r3:W7.cell? ⟨rb2,3,none⟩=some (.int .i64 0):=Za hrs7.out 3
           have f3:W7.frozen? ⟨rb2,3,none⟩=false:=Zb hrs7.out 3
           have r4:W7.cell? ⟨rb2,4,none⟩=some (.int .i64 0):=Za hrs7.out 4
           have f4:W7.frozen? ⟨rb2,4,none⟩=false:=Zb hrs7.out 4
           have r5:W7.cell? ⟨rb2,5,none⟩=some (.int .i64 0):=Za hrs7.out 5
           have f5:W7.frozen? ⟨rb2,5,none⟩=false:=Zb hrs7.out 5
           have r6:W7.cell? ⟨rb2,6,none⟩=some (.int .i64 0):=Za hrs7.out 6
           have f6:W7.frozen? ⟨rb2,6,none⟩=false:=Zb hrs7.out 6
           have r7:W7.cell? ⟨rb2,7,none⟩=some (.int .i64 0):=Za hrs7.out 7
           have f7:W7.frozen? ⟨rb2,7,none⟩=false:=Zb hrs7.out 7
           go_wp2_with (go_at_call 72;refine Calls.mono cEr.out ?_;rintro e8 w8 ⟨rfl,rfl⟩)
           obtain ⟨Wg,hWg⟩:∃ W,(W7.setCell ⟨gl,1,none⟩ (.int .i64 1))=W:=⟨_,rfl⟩
           have hkg:Keeps (fun k=>k=gl) W7 Wg:=by rw [← hWg];exact (Zm W7 ⟨gl,1,none⟩ _)
           rw [hWg]
           clear hWg
           have hrg:=Zd hrs7.out hkg hne2
           obtain ⟨q1,q2⟩:=Zc9 (.slice Au X.out.length cu) (.int .i64 1) (.int .i64 0) (.int .i64 0) (.int .i64 (X.s:Int)) (.int .i64 (X.k:Int)) (.int .i64 (F.1.hunt:Int)) (.int .i64 (wn.move:Int)) hrg
           obtain ⟨W9,hW9⟩:∃ W,((((((((Wg.setCell ⟨rb2,0,none⟩ (.slice Au X.out.length cu)).setCell ⟨rb2,1,none⟩ (.int .i64 1)).setCell ⟨rb2,2,none⟩ (.int .i64 0)).setCell ⟨rb2,3,none⟩ (.int .i64 0)).setCell ⟨rb2,4,none⟩ (.int .i64 (X.s:Int))).setCell ⟨rb2,5,none⟩ (.int .i64 (X.k:Int))).setCell ⟨rb2,6,none⟩ (.int .i64 (F.1.hunt:Int))).setCell ⟨rb2,7,none⟩ (.int .i64 (wn.move:Int)))=W:=⟨_,rfl⟩
           rw [hW9] at q1 q2 ⊢
           clear hW9
           have z0:=Za q1 0
           have z1:=Za q1 1
           have z2:=Za q1 2
           have z3:=Za q1 3
           have z4:=Za q1 4
           have z5:=Za q1 5
           have z6:=Za q1 6
           have z7:=Za q1 7
           have hk9:Keeps (fun k=>k=gl∨k=rb2) W7 W9:=(hkg.mono (fun _ _ e=>.inl e)).trans (q2.mono (fun _ _ e=>.inr e))
           have hk79:=hk9
           have hokR:okR o tag l input cuts=⟨X.out,1,0,0,⟨(X.s:Int),(X.k:Int),(F.1.hunt:Int),(wn.move:Int)⟩⟩:=by unfold okR;rw [hF.out,hwn.out,hXe.out];rw [if_neg (by simp [hov]),if_neg hc,if_pos hnX.out]
           exact bodyPost_ret (v:=.agg #[.slice Au X.out.length cu,.int .i64 1,.int .i64 0,.int .i64 0,.int .i64 (X.s:Int),.int .i64 (X.k:Int),.int .i64 (F.1.hunt:Int),.int .i64 (wn.move:Int)]) (by simp [results,Tryz.results32,go_sem,z0,z1,z2,z3,z4,z5,z6,z7]) rfl ⟨.slice Au X.out.length cu,by rw [hokR];rfl,by rw [hokR];exact hown7.out _ hk79,hbel7.out _ hk79⟩
         · have hXz:((nX:Int) == 0)=false:=by simp [hn0]
           have g0:W7.cell? ⟨gl,0,none⟩=some (.slice Au X.out.length cu):=Za hgb.out 0
           have gf0:W7.frozen? ⟨gl,0,none⟩=false:=Zb hgb.out 0
           have g1:W7.cell? ⟨gl,1,none⟩=some (.int .i64 0):=Za hgb.out 1
           have gf1:W7.frozen? ⟨gl,1,none⟩=false:=Zb hgb.out 1
           have g2:W7.cell? ⟨gl,2,none⟩=some (.int .i64 0):=Za hgb.out 2
           have gf2:W7.frozen? ⟨gl,2,none⟩=false:=Zb hgb.out 2
           have g3:W7.cell? ⟨gl,3,none⟩=some (.int .i64 0):=Za hgb.out 3
           have gf3:W7.frozen? ⟨gl,3,none⟩=false:=Zb hgb.out 3
           have g4:W7.cell? ⟨gl,4,none⟩=some (.int .i64 (X.s:Int)):=Za hgb.out 4
           have gf4:W7.frozen? ⟨gl,4,none⟩=false:=Zb hgb.out 4
           have g5:W7.cell? ⟨gl,5,none⟩=some (.int .i64 (X.k:Int)):=Za hgb.out 5
           have gf5:W7.frozen? ⟨gl,5,none⟩=false:=Zb hgb.out 5
           have g6:W7.cell? ⟨gl,6,none⟩=some (.int .i64 (F.1.hunt:Int)):=Za hgb.out 6
           have gf6:W7.frozen? ⟨gl,6,none⟩=false:=Zb hgb.out 6
           have g7:W7.cell? ⟨gl,7,none⟩=some (.int .i64 (wn.move:Int)):=Za hgb.out 7
           have gf7:W7.frozen? ⟨gl,7,none⟩=false:=Zb hgb.out 7
           have r0:W7.cell? ⟨rb2,0,none⟩=some (.slice none 0 0):=Za hrs7.out 0
           have f0:W7.frozen? ⟨rb2,0,none⟩=false:=Zb hrs7.out 0
           have r1:W7.cell? ⟨rb2,1,none⟩=some (.int .i64 0):=Za hrs7.out 1
           have f1:W7.frozen? ⟨rb2,1,none⟩=false:=Zb hrs7.out 1
           have r2:W7.cell? ⟨rb2,2,none⟩=some (.int .i64 0):=Za hrs7.out 2
           have f2:W7.frozen? ⟨rb2,2,none⟩=false:=Zb hrs7.out 2
           have r3:W7.cell? ⟨rb2,3,none⟩=some (.int .i64 0):=Za hrs7.out 3
           have f3:W7.frozen? ⟨rb2,3,none⟩=false:=Zb hrs7.out 3
           have r4:W7.cell? ⟨rb2,4,none⟩=some (.int .i64 0):=Za hrs7.out 4
           have f4:W7.frozen? ⟨rb2,4,none⟩=false:=Zb hrs7.out 4
           have r5:W7.cell? ⟨rb2,5,none⟩=some (.int .i64 0):=Za hrs7.out 5
           have f5:W7.frozen? ⟨rb2,5,none⟩=false:=Zb hrs7.out 5
           have r6:W7.cell? ⟨rb2,6,none⟩=some (.int .i64 0):=Za hrs7.out 6
           have f6:W7.frozen? ⟨rb2,6,none⟩=false:=Zb hrs7.out 6
           have r7:W7.cell? ⟨rb2,7,none⟩=some (.int .i64 0):=Za hrs7.out 7
           have f7:W7.frozen? ⟨rb2,7,none⟩=false:=Zb hrs7.out 7
           go_wp2_with (go_at_call 72;refine Calls.mono cEr.out ?_;rintro e8 w8 ⟨rfl,rfl⟩)
           obtain ⟨Wg,hWg⟩:∃ W,W7=W:=⟨_,rfl⟩
           have hkg:Keeps (fun k=>k=gl) W7 Wg:=by rw [hWg];exact Keeps.refl _ _
           have hrg:=Zd hrs7.out hkg hne2
           rw [hWg]
           clear hWg
           obtain ⟨q1,q2⟩:=Zc9 (.slice Au X.out.length cu) (.int .i64 0) (.int .i64 0) (.int .i64 0) (.int .i64 (X.s:Int)) (.int .i64 (X.k:Int)) (.int .i64 (F.1.hunt:Int)) (.int .i64 (wn.move:Int)) hrg
           obtain ⟨W9,hW9⟩:∃ W,((((((((Wg.setCell ⟨rb2,0,none⟩ (.slice Au X.out.length cu)).setCell ⟨rb2,1,none⟩ (.int .i64 0)).setCell ⟨rb2,2,none⟩ (.int .i64 0)).setCell ⟨rb2,3,none⟩ (.int .i64 0)).setCell ⟨rb2,4,none⟩ (.int .i64 (X.s:Int))).setCell ⟨rb2,5,none⟩ (.int .i64 (X.k:Int))).setCell ⟨rb2,6,none⟩ (.int .i64 (F.1.hunt:Int))).setCell ⟨rb2,7,none⟩ (.int .i64 (wn.move:Int)))=W:=⟨_,rfl⟩
           rw [hW9] at q1 q2 ⊢
           clear hW9
           have z0:=Za q1 0
           have z1:=Za q1 1
           have z2:=Za q1 2
           have z3:=Za q1 3
           have z4:=Za q1 4
           have z5:=Za q1 5
           have z6:=Za q1 6
           have z7:=Za q1 7
           have hk9:Keeps (fun k=>k=gl∨k=rb2) W7 W9:=(hkg.mono (fun _ _ e=>.inl e)).trans (q2.mono (fun _ _ e=>.inr e))
           have hk79:=hk9
           have hokR:okR o tag l input cuts=⟨X.out,0,0,0,⟨(X.s:Int),(X.k:Int),(F.1.hunt:Int),(wn.move:Int)⟩⟩:=by unfold okR;rw [hF.out,hwn.out,hXe.out];rw [if_neg (by simp [hov]),if_neg hc,if_neg (by rw [hnX.out];exact hn0)]
           exact bodyPost_ret (v:=.agg #[.slice Au X.out.length cu,.int .i64 0,.int .i64 0,.int .i64 0,.int .i64 (X.s:Int),.int .i64 (X.k:Int),.int .i64 (F.1.hunt:Int),.int .i64 (wn.move:Int)]) (by simp [results,Tryz.results32,go_sem,z0,z1,z2,z3,z4,z5,z6,z7]) rfl ⟨.slice Au X.out.length cu,by rw [hokR];rfl,by rw [hokR];exact hown7.out _ hk79,hbel7.out _ hk79⟩
     · obtain ⟨rfl,rfl⟩:=hbads'.1 hov
       have cEr:=As.mk (serr_some W7 gs gw mb F.1.num off true hst7.out)
       go_wp2_with (go_at_call 72;refine Calls.mono cEr.out ?_;rintro e8 w8 ⟨rfl,nd,rfl⟩
                    have hg8:(W7.drewN nd).heap[gl]? = _:=hgb.out
                    have hr8:(W7.drewN nd).heap[rb2]? = _:=hrs7.out
                    obtain ⟨W8,hW8⟩:∃ W,W7.drewN nd=W:=⟨_,rfl⟩
                    have hk8:Keeps (fun k=>k=gl∨k=rb2) W7 W8:=by rw [← hW8];exact (Keeps.refl _ _).drewN nd
                    rw [hW8] at hg8 hr8 ⊢
                    clear hW8
                    have g0:W8.cell? ⟨gl,0,none⟩=some (.slice Au X.out.length cu):=Za hg8 0;have gf0:W8.frozen? ⟨gl,0,none⟩=false:=Zb hg8 0;have g1:W8.cell? ⟨gl,1,none⟩=some (.int .i64 0):=Za hg8 1;have gf1:W8.frozen? ⟨gl,1,none⟩=false:=Zb hg8 1;have g2:W8.cell? ⟨gl,2,none⟩=some (.int .i64 0):=Za hg8 2;have gf2:W8.frozen? ⟨gl,2,none⟩=false:=Zb hg8 2;have g3:W8.cell? ⟨gl,3,none⟩=some (.int .i64 0):=Za hg8 3;have gf3:W8.frozen? ⟨gl,3,none⟩=false:=Zb hg8 3;have g4:W8.cell? ⟨gl,4,none⟩=some (.int .i64 (X.s:Int)):=Za hg8 4;have gf4:W8.frozen? ⟨gl,4,none⟩=false:=Zb hg8 4;have g5:W8.cell? ⟨gl,5,none⟩=some (.int .i64 (X.k:Int)):=Za hg8 5;have gf5:W8.frozen? ⟨gl,5,none⟩=false:=Zb hg8 5;have g6:W8.cell? ⟨gl,6,none⟩=some (.int .i64 (F.1.hunt:Int)):=Za hg8 6;have gf6:W8.frozen? ⟨gl,6,none⟩=false:=Zb hg8 6;have g7:W8.cell? ⟨gl,7,none⟩=some (.int .i64 (wn.move:Int)):=Za hg8 7;have gf7:W8.frozen? ⟨gl,7,none⟩=false:=Zb hg8 7;have r0:W8.cell? ⟨rb2,0,none⟩=some (.slice none 0 0):=Za hr8 0;have f0:W8.frozen? ⟨rb2,0,none⟩=false:=Zb hr8 0;have r1:W8.cell? ⟨rb2,1,none⟩=some (.int .i64 0):=Za hr8 1;have f1:W8.frozen? ⟨rb2,1,none⟩=false:=Zb hr8 1;have r2:W8.cell? ⟨rb2,2,none⟩=some (.int .i64 0):=Za hr8 2;have f2:W8.frozen? ⟨rb2,2,none⟩=false:=Zb hr8 2;have r3:W8.cell? ⟨rb2,3,none⟩=some (.int .i64 0):=Za hr8 3;have f3:W8.frozen? ⟨rb2,3,none⟩=false:=Zb hr8 3;have r4:W8.cell? ⟨rb2,4,none⟩=some (.int .i64 0):=Za hr8 4;have f4:W8.frozen? ⟨rb2,4,none⟩=false:=Zb hr8 4;have r5:W8.cell? ⟨rb2,5,none⟩=some (.int .i64 0):=Za hr8 5;have f5:W8.frozen? ⟨rb2,5,none⟩=false:=Zb hr8 5;have r6:W8.cell? ⟨rb2,6,none⟩=some (.int .i64 0):=Za hr8 6;have f6:W8.frozen? ⟨rb2,6,none⟩=false:=Zb hr8 6;have r7:W8.cell? ⟨rb2,7,none⟩=some (.int .i64 0):=Za hr8 7;have f7:W8.frozen? ⟨rb2,7,none⟩=false:=Zb hr8 7;replace hg8:=As.mk hg8;replace hr8:=As.mk hr8;replace hk8:=As.mk hk8)
       obtain ⟨Wg,hWg⟩:∃ W,(((W8.setCell ⟨gl,1,none⟩ (.int .i64 2)).setCell ⟨gl,2,none⟩ (.int .i64 15)).setCell ⟨gl,3,none⟩ (.int .i64 (F.1.num:Int)))=W:=⟨_,rfl⟩
       have hkg:Keeps (fun k=>k=gl) W8 Wg:=by rw [← hWg];exact (Keeps.trans (Keeps.trans (Zm W8 ⟨gl,1,none⟩ _) (Zm _ ⟨gl,2,none⟩ _)) (Zm _ ⟨gl,3,none⟩ _))
       rw [hWg]
       clear hWg
       have hrg:=Zd hr8.out hkg hne2
       obtain ⟨q1,q2⟩:=Zc9 (.slice Au X.out.length cu) (.int .i64 2) (.int .i64 15) (.int .i64 (F.1.num:Int)) (.int .i64 (X.s:Int)) (.int .i64 (X.k:Int)) (.int .i64 (F.1.hunt:Int)) (.int .i64 (wn.move:Int)) hrg
       obtain ⟨W9,hW9⟩:∃ W,((((((((Wg.setCell ⟨rb2,0,none⟩ (.slice Au X.out.length cu)).setCell ⟨rb2,1,none⟩ (.int .i64 2)).setCell ⟨rb2,2,none⟩ (.int .i64 15)).setCell ⟨rb2,3,none⟩ (.int .i64 (F.1.num:Int))).setCell ⟨rb2,4,none⟩ (.int .i64 (X.s:Int))).setCell ⟨rb2,5,none⟩ (.int .i64 (X.k:Int))).setCell ⟨rb2,6,none⟩ (.int .i64 (F.1.hunt:Int))).setCell ⟨rb2,7,none⟩ (.int .i64 (wn.move:Int)))=W:=⟨_,rfl⟩
       rw [hW9] at q1 q2 ⊢
       clear hW9
       have z0:=Za q1 0
       have z1:=Za q1 1
       have z2:=Za q1 2
       have z3:=Za q1 3
       have z4:=Za q1 4
       have z5:=Za q1 5
       have z6:=Za q1 6
       have z7:=Za q1 7
       have hk9:Keeps (fun k=>k=gl∨k=rb2) W8 W9:=(hkg.mono (fun _ _ e=>.inl e)).trans (q2.mono (fun _ _ e=>.inr e))
       have hk79:=hk8.out.trans hk9
       have hokR:okR o tag l input cuts=⟨X.out,2,15,(F.1.num:Int),⟨(X.s:Int),(X.k:Int),(F.1.hunt:Int),(wn.move:Int)⟩⟩:=by unfold okR;rw [hF.out,hwn.out,hXe.out];rw [if_pos hov]
       exact bodyPost_ret (v:=.agg #[.slice Au X.out.length cu,.int .i64 2,.int .i64 15,.int .i64 (F.1.num:Int),.int .i64 (X.s:Int),.int .i64 (X.k:Int),.int .i64 (F.1.hunt:Int),.int .i64 (wn.move:Int)]) (by simp [results,Tryz.results32,go_sem,z0,z1,z2,z3,z4,z5,z6,z7]) rfl ⟨.slice Au X.out.length cu,by rw [hokR];rfl,by rw [hokR];exact hown7.out _ hk79,hbel7.out _ hk79⟩
/-- What comes of a script. -/
theorem Za4 (w:World) (hT:Tab w) (A:Option Addr) (c:Nat) (file:Txt) (hf:Byt w A file) (hc:file.length≤c) (hfl:file.length≤1100) (o:Opt) (tag:Int) (B:Option Addr) (d:Nat) (input:Txt) (hi:Byt w B input) (hil:input.length≤5000) (E:Option Addr) (e:Nat) (cuts:List Int) (hcu:Row w E (Jg cuts)) (hcl:cuts.length≤5000) :
    Calls Tryz.prog 32 #[.agg (Xv (.slice A file.length c) o tag (.slice B input.length d) (.slice E cuts.length e))] w (RunPost w (QG o tag file input cuts)):=by
 by_cases h:Qn o tag file=0
 · rw [runF_ok' o tag file input cuts h]
   obtain ⟨t1,t2,t3⟩:=ZeN o.i file
   refine run_right w hT A _ c o tag B d input hi hil E e cuts hcu hcl (Z6 o.i file) (by omega) (fun t ht=>by have:=t3 t ht;omega) (by omega) (fun v hv=>?_)
   refine (ZcL v A c file (Row.below hf hv) hc hfl o tag _ _).mono ?_
   intro e' w' hp
   exact hp.2.2 h
 · rw [runF_bad o tag file input cuts h]
   refine run_wrong w A _ c o tag B _ d E _ e _ h (fun v hv=>?_)
   refine (ZcL v A c file (Row.below hf hv) hc hfl o tag _ _).mono ?_
   intro e' w' hp
   exact ⟨hp.2.1 h,hp.1⟩
end Go.Proofs.YtfdlaomnecjfeaaGreatDoor
end
