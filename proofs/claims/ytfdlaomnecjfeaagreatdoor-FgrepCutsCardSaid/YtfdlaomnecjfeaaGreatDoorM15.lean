/- Joined texts: LinesSeq, Load, Begin, Cuts, Begin2. -/
import Derived.Test.YtfdlaomnecjfeaaGreatDoorM14
import Derived.Test.YtfdlaomnecjfeaaGreatDoorM1
import Derived.Test.YtfdlaomnecjfeaaGreatDoorM12
import Derived.Test.YtfdlaomnecjfeaaGreatDoorM5
import Derived.Test.YtfdlaomnecjfeaaGreatDoorM8
import Derived.Test.YtfdlaomnecjfeaaGreatDoorM4
import Derived.OwnWalk
set_option linter.unusedVariables false
set_option linter.unusedSimpArgs false
section
namespace Go.Proofs.YtfdlaomnecjfeaaGreatDoor
open Go.RowKit Go.Shelf Seine.Trie Seine.Fg
attribute [local go_sem] Oper.semAt_some
/-- A line that is handed over, and where its bytes lie. -/
abbrev Lv:=Lx × Value
def Zc6 (x:Lv):Array Value:=#[.agg #[.int .i64 (x.1.off:Int),x.2,.bool x.1.ends]]
def Zfr (B:Nat) (x:Lv) (W:World):Prop:=OwnByt W B x.2 x.1.text
set_option maxRecDepth 100000 in
set_option maxHeartbeats 6400000 in
theorem Zfs (w:World) (tb bl:Nat) (A:Option Addr) (c:Nat) (b:Txt) (hbx:w.heap[tb]? = some (.cells #[.slice A b.length c] 22 (0,0))) (hb:Byt w A b) (hc:b.length≤c) (hl:b.length≤1000000) (htb:tb≠bl) (hA:∀ ad,A=some ad→b≠[]→ad.block≠bl) (n:Nat) :
    ZfZ Tryz.prog n 102 #[.pointer (some ⟨tb,0,none⟩)] Zc6 (Zfr (w.heap.size+2)) (XY bl (w.heap.size+1)) (fun xs=>xs.map Prod.fst=QU b) (QU b).length w:=by
 intro l J W hW hW2 hJ hY h0
 have htl:=Zf hbx
 have hK0:Keeps (XY bl (w.heap.size+1)) w W:=(Keeps.of_below hW (fun _=>False)).mono fun _ _ h=>h.elim
 have hbox:=As.mk (fun (wr:World) (hk:Keeps (XY bl (w.heap.size+1)) w wr)=>Zd hbx hk (by unfold XY;omega))
 have hbyt:=As.mk (fun (wr:World) (hk:Keeps (XY bl (w.heap.size+1)) w wr)=>(by
  by_cases h0:b=[]
  · rw [h0];exact .inl rfl
  · exact Row.keep hb hk (fun ad e hlt=>by have:=hA ad e h0;unfold XY;omega):Byt wr A b))
 obtain ⟨nb,hn⟩:∃ n,b.length=n:=⟨_,rfl⟩
 rw [hn] at hbox hc hl
 replace hn:=As.mk hn
 refine callsIn_of_wp Tryz.func102 rfl trivial ?_ rfl
 simp only [Tryz.ntmps102,List.size_toArray,List.length_cons,List.length_nil,Nat.reduceAdd,Nat.reduceSub,Array.replicate_succ,Array.replicate_zero,List.push_toArray,List.append_toArray,List.nil_append,List.cons_append]
 gi_wp2
 gi_loopw [3] (fun p wr=>∃ (k:Nat) (pre:List Lv),p=.int .i64 k∧k≤nb+1∧As (J pre wr)∧As (pre.map Prod.fst++Qg k [] (b.drop k)=QU b)∧As (Keeps (XY bl (w.heap.size+1)) w wr)∧As (w.heap.size+2≤wr.heap.size)) (fun p _=>nb+1 - (intOf p).toNat)
 case atStart=>exact ⟨0,[],rfl,Nat.zero_le _,⟨h0⟩,⟨rfl⟩,⟨hK0⟩,⟨hW2⟩⟩
 case round =>
  obtain ⟨k,pre,rfl,hk,hj,hp,hkp,hsz⟩:=hrel
  have hbx:=hbox.out wr hkp.out
  have hby:=hbyt.out wr hkp.out
  have t0:wr.cell? ⟨tb,0,none⟩=some (.slice A nb c):=Za hbx 0
  by_cases hlt:k<nb
  · obtain ⟨ad,rfl,_⟩:=Byt.at_ hby (i:=k) (by rw [hn.out];exact hlt)
    have hdl:(b.drop k).length=nb - k:=by rw [List.length_drop,hn.out]
    have cX:=As.mk (fun (v:World) (hv:Below wr.heap.size wr v)=>(by have:=index_calls v (some (ad.add k)) (c - k) (b.drop k) (by have:=Byt.piece2 (Row.below hby hv) k (nb - k);rwa [List.take_of_length_le (by omega)] at this) (by omega);rw [hdl] at this;exact this:Calls Tryz.prog 103 #[.slice (some (ad.add k)) (nb - k) (c - k),.int .u8 10] v fun e w'=>e=.returned (.int .i64 (nlI (b.drop k)))∧v=w'))
    have hcf:¬ c=k:=by omega
    cases hnl:XP (b.drop k) with
    | some m =>
      obtain ⟨hml,_,_⟩:=ZeF hnl
      rw [hdl] at hml
      have hsp:=linesX_at hnl
      rw [Zfp hnl] at cX
      have cC:=As.mk (fun (v:World) (hv:Below wr.heap.size wr v)=>(by have:=ZR v (some (ad.add k)) (c - k) ((b.drop k).take m) (Byt.piece2 (Row.below hby hv) k m) (by rw [List.length_take];omega);rw [List.length_take,hdl,Nat.min_eq_left (by omega)] at this;exact this:Calls Tryz.prog 104 #[.slice (some (ad.add k)) m (c - k)] v (RetByt v ((b.drop k).take m))))
      have hml2:(m:Int)≤(nb:Int) - (k:Int):=by omega
      have hw1:IntKind.i64.wrap ((k:Int)+(m:Int))=(k:Int)+(m:Int):=by rw [IntKind.wrap_i64];omega
      have hw2:IntKind.i64.wrap ((m:Int)+1)=(m:Int)+1:=by rw [IntKind.wrap_i64];omega
      have hw3:IntKind.i64.wrap ((k:Int)+((m:Int)+1))=(k:Int)+((m:Int)+1):=by rw [IntKind.wrap_i64];omega
      have hdm:decide ((0:Int)≤(m:Int))=true:=decide_eq_true (by omega)
      have hdm2:decide ((m:Int)<0)=false:=decide_eq_false (by omega)
      have hkm:k+m≤c:=by omega
      gi_wp2
      refine ⟨trivial,fun h=>by simp [Fence.wide] at h,?_⟩
      refine (callsIn_wide.2 (cX.out _ (Below.refl _ _))).mono ?_
      rintro e w1 ⟨rfl,rfl⟩
      obtain ⟨Wa,hWa⟩:∃ W,wr.alloc (.cells #[.int .i64 (k:Int),.slice none 0 0,.bool true] 83)=W:=⟨_,rfl⟩
      have hBa:Below wr.heap.size wr Wa:=by rw [← hWa];exact (Below.refl _ _).alloc (Nat.le_refl _) _
      have hga:Wa.heap[wr.heap.size]? = some (.cells #[.int .i64 (k:Int),.slice none 0 0,.bool true] 83 (0,0)):=by rw [← hWa];exact heap_alloc_new _ _
      have ta:Wa.cell? ⟨tb,0,none⟩=some (.slice (some ad) nb c):=Za (Zc hBa hbx) 0
      replace hWa:=As.mk hWa
      gi_wp2_with (rw [hWa.out])
      refine ⟨trivial,fun h=>by simp [Fence.wide] at h,?_⟩
      refine (callsIn_wide.2 (cC.out _ hBa)).mono ?_
      intro e w2 h2
      obtain ⟨u,he2,ho2,hb2⟩:=h2
      subst he2
      obtain ⟨A2,c2,rfl,hc2⟩:=Zk ho2
      have htk:((b.drop k).take m).length=m:=by rw [List.length_take,hdl];omega
      rw [htk] at ho2 hc2 ⊢
      obtain ⟨gx,hgx⟩:∃ q,wr.heap.size=q:=⟨_,rfl⟩
      rw [hgx] at hga ⊢
      have hg2:=Zc hb2 hga
      have z1:w2.cell? ⟨gx,1,none⟩=some (.slice none 0 0):=Za hg2 1
      have zf:w2.frozen? ⟨gx,1,none⟩=false:=Zb hg2 1
      have hg3:=Zi hg2 1 (.slice A2 m c2)
      have hB2:Below wr.heap.size wr w2:=Ze hBa hb2
      have hB3:Below wr.heap.size wr (w2.setCell ⟨gx,1,none⟩ (.slice A2 m c2)):=hB2.setCell (p:=⟨gx,1,none⟩) (by show wr.heap.size≤gx;omega) _
      have hgW:=Zf hga
      have ho3:=Zj ho2 (Zm w2 ⟨gx,1,none⟩ (.slice A2 m c2)) (fun q _ hq _ _=>by show ¬ q=gx;omega)
      have hs1:=hBa.size
      have hG3:Zfr (w.heap.size+2) (⟨k,(b.drop k).take m,true⟩,.slice A2 m c2) (w2.setCell ⟨gx,1,none⟩ (.slice A2 m c2)):=ZB ho3 (by have:=hsz.out;omega)
      have hJ3:=hJ _ _ _ hj.out hB3
      have hp3:=hp.out
      rw [hsp] at hp3
      have hle:=congrArg List.length hp3
      rw [List.length_append,List.length_map,List.length_cons] at hle
      obtain ⟨W3,hW3⟩:∃ W,w2.setCell ⟨gx,1,none⟩ (.slice A2 m c2)=W:=⟨_,rfl⟩
      rw [hW3] at hg3 hB3 hG3 hJ3
      obtain ⟨fn,tmps,assign,body,hy,hR⟩:=hY pre (⟨k,(b.drop k).take m,true⟩,.slice A2 m c2) W3 hJ3 hG3 (by omega)
      dsimp only [Zc6] at hy
      have y0:W3.cell? ⟨gx,0,none⟩=some (.int .i64 (k:Int)):=by rw [Za hg3];simp
      have y1:W3.cell? ⟨gx,1,none⟩=some (.slice A2 m c2):=by rw [Za hg3];simp
      have y2:W3.cell? ⟨gx,2,none⟩=some (.bool true):=by rw [Za hg3];simp
      replace hW3:=As.mk hW3
      replace hgx:=As.mk hgx
      gi_wp2_with (rw [hW3.out])
      refine ⟨fun h=>by simp [Fence.wide] at h,?_⟩
      refine hR.mono ?_
      rintro e W4 ⟨rfl,hJ4,hk4⟩
      have hkt:=As.mk ((hkp.out.trans (Keeps.of_below hB3 _)).trans hk4)
      have hs4:=As.mk (show w.heap.size+2≤W4.heap.size by have h1:=hk4.size;have h2:=hB3.size;have:=hsz.out;omega)
      have hp4:As ((pre++[((⟨k,(b.drop k).take m,true⟩:Lx),Value.slice A2 m c2)]).map Prod.fst++Qg (k+m+1) [] (b.drop (k+m+1))=QU b):=⟨by rw [List.map_append,List.append_assoc];exact hp3⟩
      replace hJ4:=As.mk hJ4
      clear hk4 hp3 hB3 hy hG3 hJ3 hle
      gi_wp2
      go_roundw
      case rel=>exact ⟨k+m+1,_,(by first | rfl | go_num | (congr 1;omega)),by omega,hJ4,hp4,hkt,hs4⟩
      case measure=>simp [intOf];omega
    | none =>
      obtain ⟨m,hmk⟩:∃ m,nb - k=m:=⟨_,rfl⟩
      have hml:m≤nb - k:=by omega
      have hsp:=linesX_last (by rw [hn.out];exact hlt) hnl
      have htm:(b.drop k).take m=b.drop k:=List.take_of_length_le (by omega)
      rw [← htm] at hsp
      rw [show Qg k [] ((b.drop k).take m)=Qg k [] (b.drop k) by rw [htm]] at hsp
      have hw0:IntKind.i64.wrap ((nb:Int) - (k:Int))=(m:Int):=by rw [IntKind.wrap_i64];omega
      have hd1:decide ((0:Int)≤-1)=false:=rfl
      rw [Zfq hnl] at cX
      have cC:=As.mk (fun (v:World) (hv:Below wr.heap.size wr v)=>(by have:=ZR v (some (ad.add k)) (c - k) ((b.drop k).take m) (Byt.piece2 (Row.below hby hv) k m) (by rw [List.length_take];omega);rw [List.length_take,hdl,Nat.min_eq_left (by omega)] at this;exact this:Calls Tryz.prog 104 #[.slice (some (ad.add k)) m (c - k)] v (RetByt v ((b.drop k).take m))))
      have hml2:(m:Int)≤(nb:Int) - (k:Int):=by omega
      have hw1:IntKind.i64.wrap ((k:Int)+(m:Int))=(k:Int)+(m:Int):=by rw [IntKind.wrap_i64];omega
      have hw2:IntKind.i64.wrap ((m:Int)+1)=(m:Int)+1:=by rw [IntKind.wrap_i64];omega
      have hw3:IntKind.i64.wrap ((k:Int)+((m:Int)+1))=(k:Int)+((m:Int)+1):=by rw [IntKind.wrap_i64];omega
      have hkm:k+m≤c:=by omega
      replace hmk:=As.mk hmk
      gi_wp2
      refine ⟨trivial,fun h=>by simp [Fence.wide] at h,?_⟩
      refine (callsIn_wide.2 (cX.out _ (Below.refl _ _))).mono ?_
      rintro e w1 ⟨rfl,rfl⟩
      obtain ⟨Wa,hWa⟩:∃ W,wr.alloc (.cells #[.int .i64 (k:Int),.slice none 0 0,.bool false] 83)=W:=⟨_,rfl⟩
      have hBa:Below wr.heap.size wr Wa:=by rw [← hWa];exact (Below.refl _ _).alloc (Nat.le_refl _) _
      have hga:Wa.heap[wr.heap.size]? = some (.cells #[.int .i64 (k:Int),.slice none 0 0,.bool false] 83 (0,0)):=by rw [← hWa];exact heap_alloc_new _ _
      have ta:Wa.cell? ⟨tb,0,none⟩=some (.slice (some ad) nb c):=Za (Zc hBa hbx) 0
      replace hWa:=As.mk hWa
      gi_wp2_with (rw [hWa.out])
      refine ⟨trivial,fun h=>by simp [Fence.wide] at h,?_⟩
      refine (callsIn_wide.2 (cC.out _ hBa)).mono ?_
      intro e w2 h2
      obtain ⟨u,he2,ho2,hb2⟩:=h2
      subst he2
      obtain ⟨A2,c2,rfl,hc2⟩:=Zk ho2
      have htk:((b.drop k).take m).length=m:=by rw [List.length_take,hdl];omega
      rw [htk] at ho2 hc2 ⊢
      obtain ⟨gx,hgx⟩:∃ q,wr.heap.size=q:=⟨_,rfl⟩
      rw [hgx] at hga ⊢
      have hg2:=Zc hb2 hga
      have z1:w2.cell? ⟨gx,1,none⟩=some (.slice none 0 0):=Za hg2 1
      have zf:w2.frozen? ⟨gx,1,none⟩=false:=Zb hg2 1
      have hg3:=Zi hg2 1 (.slice A2 m c2)
      have hB2:Below wr.heap.size wr w2:=Ze hBa hb2
      have hB3:Below wr.heap.size wr (w2.setCell ⟨gx,1,none⟩ (.slice A2 m c2)):=hB2.setCell (p:=⟨gx,1,none⟩) (by show wr.heap.size≤gx;omega) _
      have hgW:=Zf hga
      have ho3:=Zj ho2 (Zm w2 ⟨gx,1,none⟩ (.slice A2 m c2)) (fun q _ hq _ _=>by show ¬ q=gx;omega)
      have hs1:=hBa.size
      have hG3:Zfr (w.heap.size+2) (⟨k,(b.drop k).take m,false⟩,.slice A2 m c2) (w2.setCell ⟨gx,1,none⟩ (.slice A2 m c2)):=ZB ho3 (by have:=hsz.out;omega)
      have hJ3:=hJ _ _ _ hj.out hB3
      have hp3:=hp.out
      rw [hsp] at hp3
      have hle:=congrArg List.length hp3
      rw [List.length_append,List.length_map,List.length_cons] at hle
      obtain ⟨W3,hW3⟩:∃ W,w2.setCell ⟨gx,1,none⟩ (.slice A2 m c2)=W:=⟨_,rfl⟩
      rw [hW3] at hg3 hB3 hG3 hJ3
      obtain ⟨fn,tmps,assign,body,hy,hR⟩:=hY pre (⟨k,(b.drop k).take m,false⟩,.slice A2 m c2) W3 hJ3 hG3 (by omega)
      dsimp only [Zc6] at hy
      have y0:W3.cell? ⟨gx,0,none⟩=some (.int .i64 (k:Int)):=by rw [Za hg3];simp
      have y1:W3.cell? ⟨gx,1,none⟩=some (.slice A2 m c2):=by rw [Za hg3];simp
      have y2:W3.cell? ⟨gx,2,none⟩=some (.bool false):=by rw [Za hg3];simp
      replace hW3:=As.mk hW3
      replace hgx:=As.mk hgx
      gi_wp2_with (rw [hW3.out])
      refine ⟨fun h=>by simp [Fence.wide] at h,?_⟩
      refine hR.mono ?_
      rintro e W4 ⟨rfl,hJ4,hk4⟩
      have hkt:=As.mk ((hkp.out.trans (Keeps.of_below hB3 _)).trans hk4)
      have hs4:=As.mk (show w.heap.size+2≤W4.heap.size by have h1:=hk4.size;have h2:=hB3.size;have:=hsz.out;omega)
      have hp4:As ((pre++[((⟨k,(b.drop k).take m,false⟩:Lx),Value.slice A2 m c2)]).map Prod.fst++Qg (k+m+1) [] (b.drop (k+m+1))=QU b):=⟨by rw [List.drop_eq_nil_of_le (show b.length≤k+m+1 by rw [hn.out];have:=hmk.out;omega),show Qg (k+m+1) [] []=[] from rfl,List.append_nil,List.map_append];exact hp3⟩
      replace hJ4:=As.mk hJ4
      clear hk4 hp3 hB3 hy hG3 hJ3 hle
      gi_wp2
      go_roundw
      case rel=>exact ⟨k+m+1,_,(by first | rfl | go_num | (congr 1;omega)),by omega,hJ4,hp4,hkt,hs4⟩
      case measure=>simp [intOf];omega
  · have hfin:As (∃ xs:List Lv,xs.map Prod.fst=QU b∧J xs wr):=⟨pre,by have:=hp.out;rwa [List.drop_eq_nil_of_le (by rw [hn.out];omega),show Qg k [] []=[] from rfl,List.append_nil] at this,hj.out⟩
    gi_wp2
    go_end0
    exact ⟨⟨_,rfl⟩,hfin.out⟩
end Go.Proofs.YtfdlaomnecjfeaaGreatDoor
end
section
namespace Go.Proofs.YtfdlaomnecjfeaaGreatDoor
open Go.RowKit Go.Shelf Seine.Trie Seine.Fg Seine.Eng
attribute [local go_sem] Oper.semAt_some
theorem load_long (w:World) (A:Option Addr) (c:Nat) (b:Txt) (f:Bool) (hl:1024<b.length):Calls Tryz.prog 44 #[.slice A b.length c,.bool f] w fun e w'=>e=.returned (.tuple #[.agg #[.slice none 0 0,.map none,.bool false],.int .i64 12])∧Below w.heap.size w w':=by
 have hd:decide ((1024:Int)<(b.length:Int))=true:=decide_eq_true (by omega)
 go_enter Tryz.func44,Tryz.ntmps44
 go_wp2
 have hn:=heap_alloc_new w (.cells #[.slice none 0 0,.map none,.bool false] 76)
 have r0:=Za hn 0
 have r1:=Za hn 1
 have r2:=Za hn 2
 simp at r0 r1 r2
 refine bodyPost_ret (v:=.tuple #[.agg #[.slice none 0 0,.map none,.bool false],.int .i64 12]) (by simp [results,Tryz.results44,go_sem,r0,r1,r2]) rfl ⟨rfl,(Below.refl _ _).alloc (Nat.le_refl _) _⟩
theorem OwnPs.keep2 {S:Nat→Prop} {base:Nat} {w w':World} {v:Value} {ls:List Txt} (h:OwnPs base w v ls) (hk:Keeps S w w') (hS:∀ b,base≤b→b<w.heap.size→¬ S b):OwnPs base w' v ls:=by
 obtain ⟨vs,h1,h2,h3⟩:=h
 exact ⟨vs,h1,Zj h2 hk (fun b c hb hh _=>hS b hb (Zf hh)),fun i hi=>by obtain ⟨u,a,b⟩:=h3 i hi;exact ⟨u,a,Zj b hk (fun b c hb hh _=>hS b hb (Zf hh))⟩⟩
theorem PsAt.keep2 {S:Nat→Prop} {w w':World} {base base':Nat} {V:Value} {l:List Txt} (h:PsAt w base V l) (hk:Keeps S w w') (hS:∀ b,base≤b→b<w.heap.size→¬ S b) (hm:∀ b es cl,w.heap[b]? = some (.map es cl)→¬ S b) (hb:base'≤base):PsAt w' base' V l:=by
 obtain ⟨v,mb,n,f,h1,h2,h3,h4⟩:=h
 obtain ⟨es,cl,hmb⟩:=h3.is_map
 obtain ⟨vs,a1,a2,a3⟩:=h2.keep2 hk hS
 exact ⟨v,mb,n,f,h1,⟨vs,a1,ZB a2 hb,fun i hi=>by obtain ⟨u,a,b⟩:=a3 i hi;exact ⟨u,a,ZB b hb⟩⟩,h3.keep hk (hm mb es cl hmb),h4⟩
/-- What Load's loop holds on to. -/
def LoadI (w:World) (n0 rb bl:Nat) (pre:List Lv) (W:World):Prop :=
 (∃ v,W.heap[bl]? = some (.cells #[v] 73 (0,0))∧OwnPs (n0+2) W v (pre.map fun x=>x.1.text))∧Below w.heap.size w W∧W.heap[rb]? = some (.cells #[.slice none 0 0,.map none,.bool false] 76 (0,0))
theorem LoadI.steady {w:World} {n0 rb bl:Nat} (hrb:rb<n0) (hbl:bl<n0) (hw:w.heap.size≤n0) (s:List Lv) (A B:World) (h:LoadI w n0 rb bl s A) (hk:Keeps (fun k=>k=n0∨k=n0+1∨A.heap.size≤k) A B):LoadI w n0 rb bl s B:=by
 obtain ⟨⟨v,h1,h2⟩,h3,h4⟩:=h
 have l1:=Zf h1
 have l4:=Zf h4
 refine ⟨⟨v,Zd h1 hk (by omega),h2.keep2 hk (fun b hb hl=>by omega)⟩,h3.trans (hk.below (fun k hk=>by have:=h3.size;omega) h3.size),Zd h4 hk (by omega)⟩
set_option maxRecDepth 100000 in
set_option maxHeartbeats 3200000 in
theorem load_plain (w:World) (A:Option Addr) (c:Nat) (bt:Txt) (hb:Byt w A bt) (hc:bt.length≤c) (hl:bt.length≤1024) :
    Calls Tryz.prog 44 #[.slice A bt.length c,.bool false] w fun e w'=>∃ V,e=.returned (.tuple #[V,.int .i64 0])∧PsAt w' w.heap.size V (Z0 bt)∧Below w.heap.size w w':=by
 refine (callsIn_wide (n:=3)).1 ?_
 have hd:¬ (1024:Int)<(bt.length:Int):=by omega
 have hla:=As.mk (fun (v:World)=>callsIn_wide (n:=2).2 (ZdJ v (.slice A bt.length c) rfl A bt.length c rfl))
 refine callsIn_of_wp_marks Tryz.func44 rfl trivial ?_ rfl
 simp only [Tryz.ntmps44,List.size_toArray,List.length_cons,List.length_nil,Nat.reduceAdd,Nat.reduceSub,Array.replicate_succ,Array.replicate_zero,List.push_toArray,List.append_toArray,List.nil_append,List.cons_append]
 gi_wp2
 refine ⟨trivial,?_⟩
 refine (hla.out _).mono ?_
 rintro e w1 ⟨rfl,rfl⟩
 obtain ⟨z,hz⟩:∃ z,w.heap.size=z:=⟨_,rfl⟩
 have hBL:Below w.heap.size w (((w.alloc (.cells #[.slice none 0 0,.map none,.bool false] 76)).alloc (.cells #[.slice none 0 0] 73)).alloc (.cells #[.slice A bt.length c] 22)):=(((Below.refl _ _).alloc (Nat.le_refl _) _).alloc (by simp) _).alloc (by simp;omega) _
 have hr0:=Zn (o':=.cells #[.slice A bt.length c] 22) (Zn (o':=.cells #[.slice none 0 0] 73) (heap_alloc_new w (.cells #[.slice none 0 0,.map none,.bool false] 76)))
 have hl0:=Zn (o':=.cells #[.slice A bt.length c] 22) (Q8 w (.cells #[.slice none 0 0,.map none,.bool false] 76) (.cells #[.slice none 0 0] 73))
 have ht0:=Yo (w:=(w.alloc (.cells #[.slice none 0 0,.map none,.bool false] 76)).alloc (.cells #[.slice none 0 0] 73)) (o:=.cells #[.slice A bt.length c] 22) (b:=w.heap.size+1+1) (by simp)
 have hnL:(((w.alloc (.cells #[.slice none 0 0,.map none,.bool false] 76)).alloc (.cells #[.slice none 0 0] 73)).alloc (.cells #[.slice A bt.length c] 22)).heap.size=w.heap.size+3:=by simp
 have hn2:((w.alloc (.cells #[.slice none 0 0,.map none,.bool false] 76)).alloc (.cells #[.slice none 0 0] 73)).heap.size=w.heap.size+1+1:=by simp
 rw [hn2]
 obtain ⟨WL,hWL⟩:∃ W,((w.alloc (.cells #[.slice none 0 0,.map none,.bool false] 76)).alloc (.cells #[.slice none 0 0] 73)).alloc (.cells #[.slice A bt.length c] 22)=W:=⟨_,rfl⟩
 rw [hWL] at hBL hr0 hl0 ht0 hnL ⊢
 have hbyL:=Row.below hb hBL
 have hAl:∀ ad,A=some ad→ad.block<w.heap.size∨bt=[]:=fun ad e=>by
  rcases hb with h | ⟨ad',e',hlt,_⟩
  · exact .inr (List.eq_nil_of_length_eq_zero (by have:=congrArg List.length h;rw [Zt] at this;exact this))
  · rw [e] at e';injection e' with e';subst e';exact .inl hlt
 rw [hz] at hBL hr0 hl0 ht0 hnL hAl
 obtain ⟨q,hq⟩:∃ q,z+1=q:=⟨_,rfl⟩
 have hzq:z<q:=by omega
 have hnL':WL.heap.size=q+2:=by omega
 clear hnL
 have hnL:=hnL'
 clear hnL'
 rw [hq] at hl0 ht0
 have hAq:∀ ad,A=some ad→bt≠[]→ad.block≠q:=fun ad e hne=>by rcases hAl ad e with h | h;omega;exact absurd h hne
 have hcX:=hc
 replace hWL:=As.mk hWL
 replace hn2:=As.mk hn2
 rw [hz,hq]
 gi_wp2
 obtain ⟨i0,hi,hz0,hz1,hz2⟩:=info_parts Yt
 have hsum:=Xg bt []
 have hlx:=Xr bt 0 []
 refine ZeI (gf:=102) (lb:=#[.pointer (some ⟨q+1,0,none⟩)]) rfl (enters_of Tryz.func102 (by kernel_rfl) rfl) (encs:=Zc6) (G:=Zfr (WL.heap.size+2)) (R:=fun xs=>xs.map Prod.fst=QU bt) (N:=(QU bt).length) (bl:=q) (by omega)
  (Zfs WL (q+1) q A c bt ht0 hbyL hcX (by omega) (by omega) hAq 2) (fun _=>rfl)
  (fun x A2 B h hk=>Zj h hk (fun q c hq hh _=>by have:=Zf hh;omega))
  (LoadI w WL.heap.size z (q)) (LoadI.steady (by omega) (by omega) (by omega)) ⟨⟨_,hl0,OwnPs.nil _ _⟩,by rw [hz];exact hBL,hr0⟩
  (fun x a₁ W=>∃ bx,WL.heap.size+2≤bx∧W.heap[bx]? = some (.cells #[.int .i64 (x.1.off:Int),x.2,.bool x.1.ends] 83 (0,0))∧a₁={ tmps:=#[.slice A bt.length c,.bool false,undef,undef,.pointer (some ⟨z,0,none⟩),.int .i64 0,.pointer (some ⟨q,0,none⟩),.pointer (some ⟨bx,0,none⟩),.slice A bt.length c,.int .i64 (bt.length:Int),.bool false,undef,.bool false,undef,undef,.slice A bt.length c,.func (.func 102) #[] #[.pointer (some ⟨q+1,0,none⟩)],.agg #[.int .i64 (x.1.off:Int),x.2,.bool x.1.ends],undef,undef,undef,undef,undef,undef,undef],defers:=[] })
  (fun x a A2 B ⟨bx,h1,h2,h3⟩ hk=>⟨bx,h1,Zd h2 hk (by have:=Zf h2;omega),h3⟩)
  ?assign ?body ?done
 case assign =>
  rintro l pre ⟨⟨off,text,ends⟩,u⟩ W K hI hG hsz hK
  obtain ⟨Au,cu,hu,hcu⟩:=Zk hG
  simp only at hu
  subst hu
  dsimp only [Zc6]
  gi_wp2
  exact hK _ _ ⟨W.heap.size,hsz,heap_alloc_new _ _,rfl⟩ ((Below.refl _ _).alloc (Nat.le_refl _) _)
 case body =>
  rintro l pre ⟨⟨off,text,ends⟩,u⟩ a₁ W ⟨⟨v,hv1,hv2⟩,hB,hrz⟩ hG ⟨bx,hbx1,hbx2,rfl⟩ hlt hsz
  obtain ⟨Au,cu,hu,hcu⟩:=Zk hG
  simp only at hu
  subst hu
  obtain ⟨vs,hvl,hvo,hvb⟩:=hv2
  obtain ⟨Av,cv,rfl,hcv⟩:=Zk hvo
  have b0:W.cell? ⟨q,0,none⟩=some (.slice Av (pre.map fun x=>x.1.text).length cv):=Za hv1 0
  have b1:W.cell? ⟨bx,1,none⟩=some (.slice Au text.length cu):=Za hbx2 1
  have hpl:(pre.map fun x=>x.1.text).length=pre.length:=List.length_map ..
  have hxl:(QU bt).length≤1025:=by have:(QU bt).length≤bt.length+1:=Xr bt 0 [];omega
  rw [hpl] at hvl hvo b0
  have hrow:=hvo.alloc (.cells #[.slice Au text.length cu] 22)
  have hv1':=Zn (o':=.cells #[.slice Au text.length cu] 22) hv1
  have hfar:=Zy hrow hv1' (by decide)
  have hzl:=Zf hv1
  gi_wp2_with (gi_at_builtin
               refine wpListIn_append_own _ rfl (.tmp 18) (.tmp 21) 73 rfl (WL.heap.size+2) 22 i0 (.slice none 0 0) 1 24 Tryz.underlying73 hi hz0 hz1 hz2 rfl (by decide) _ _ _ rfl hrow ⟨W.heap.size,0,none⟩ 1 1 [.slice Au text.length cu] rfl rfl (cell_one_new _ _ _) (by simp [Value.oneCell']) (by unfold maxLen;omega) (by omega) (by simp;omega) ?_
               intro v' w1 hown' hgrow _
               obtain ⟨A6,c6,rfl,hc6⟩:=Zk hown'
               have hk1:=Keeps.of_grown hgrow
               have hv6:=Zd hv1' hk1 hfar
               have x0:w1.cell? ⟨q,0,none⟩=some (.slice Av pre.length cv):=(by rw [hpl] at hv6;exact Za hv6 0)
               have xf:w1.frozen? ⟨q,0,none⟩=false:=Zb hv6 0)
  have hkk:Keeps (XY (q) (q+2+2)) W (w1.setCell ⟨q,0,none⟩ (.slice A6 (pre.length+1) c6)) :=
   ((Keeps.of_below ((Below.refl _ W).alloc (Nat.le_refl _) _) _).trans (hk1.mono fun k _ h=>.inr (by have:=(ZM hrow h.symm.symm).1;omega))).trans ((Zm w1 ⟨q,0,none⟩ _).mono fun k _ h=>.inl h)
  have hsn:=OwnPs.snoc (ls:=pre.map fun x=>x.1.text) (t:=text) (by rw [hpl];exact hvl) (fun i hi=>by obtain ⟨u,a,bb⟩:=hvb i hi;exact ⟨u,a,bb.alloc (.cells #[.slice Au text.length cu] 22)⟩) (Zo hG ((Below.refl _ W).alloc (Nat.le_refl _) _)) (by rw [hpl];exact hrow) hk1 (by rw [hpl];exact hown')
  refine ⟨hkk,⟨⟨_,by rw [Zi hv6 0];simp;rfl,?_⟩,hB.trans (hkk.below (fun k hk=>by unfold XY;omega) (by have:=hB.size;omega)),Zd hrz hkk (by unfold XY;omega)⟩⟩
  rw [List.map_append]
  have h9:=hsn.keep2 (Zm w1 ⟨q,0,none⟩ (.slice A6 (pre.length+1) c6)) (fun r hr _=>by show ¬ r=q;omega)
  rw [hnL] at h9
  exact h9
 case done =>
  rintro D xs W hD hR ⟨⟨v,hv1,hv2⟩,hB,hrz⟩ hK
  have hls:(xs.map fun x=>x.1.text)=Z0 bt:=by
   have:=congrArg (List.map Lx.text) hR
   rw [Yf,List.map_map] at this
   exact this
  rw [hls] at hv2
  obtain ⟨Av,cv,rfl,hcv,htx⟩:=hv2.txts
  have hll:(Z0 bt).length≤1025:=by rw [← Yf,List.length_map];have:(QU bt).length≤bt.length+1:=Xr bt 0 [];omega
  have hlt:∀ t∈Z0 bt,t.length≤1000000:=fun t ht=>by
   have h1:((Z0 bt).map List.length).sum≤([]:Txt).length+bt.length:=Xg bt []
   have h2:t.length≤((Z0 bt).map List.length).sum:=X7 ht
   simp only [List.length_nil] at h1
   omega
  have b0:W.cell? ⟨q,0,none⟩=some (.slice Av (Z0 bt).length cv):=Za hv1 0
  have cO:=As.mk (Zep W Av cv (Z0 bt) htx hlt (by omega))
  generalize (Z0 bt).length=nl at *
  gi_wp2
  refine ⟨trivial,?_⟩
  refine (callsIn_wide.2 cO.out).mono ?_
  rintro e w1 ⟨V,rfl,hP,hb1⟩
  have hP':=hP
  obtain ⟨vp,mb,np,fp,rfl,hp2,hp3,hp4⟩:=hP
  obtain ⟨Ap,cp,rfl,hcp,htp⟩:=hp2.txts
  have hz1b:=Zc hb1 hrz
  have hK1:=Zc hb1 hK
  have p0:w1.cell? ⟨z,0,none⟩=some (.slice none 0 0):=Za hz1b 0
  have p1:w1.cell? ⟨z,1,none⟩=some (.map none):=Za hz1b 1
  have p2:w1.cell? ⟨z,2,none⟩=some (.bool false):=Za hz1b 2
  have pf0:=Zb hz1b 0
  have pf1:=Zb hz1b 1
  have pf2:=Zb hz1b 2
  gi_wp2
  obtain ⟨v1,hv1e⟩:∃ v,Value.slice Ap (ZH (Z0 bt)).length cp=v:=⟨_,rfl⟩
  obtain ⟨v2,hv2e⟩:∃ v,Value.map (some mb)=v:=⟨_,rfl⟩
  obtain ⟨v3,hv3e⟩:∃ v,Value.bool (decide (([]:Txt)∈Z0 bt))=v:=⟨_,rfl⟩
  rw [hv1e,hv2e,hv3e] at hP' ⊢
  have hk3:Keeps (fun k=>k=z) w1 (((w1.setCell ⟨z,0,none⟩ v1).setCell ⟨z,1,none⟩ v2).setCell ⟨z,2,none⟩ v3):=((Zm _ ⟨z,0,none⟩ _).trans (Zm _ ⟨z,1,none⟩ _)).trans (Zm _ ⟨z,2,none⟩ _)
  have hz3:=Zi (Zi (Zi hz1b 0 v1) 1 v2) 2 v3
  obtain ⟨W2,hW2⟩:∃ W,((w1.setCell ⟨z,0,none⟩ v1).setCell ⟨z,1,none⟩ v2).setCell ⟨z,2,none⟩ v3=W:=⟨_,rfl⟩
  rw [hW2] at hk3 hz3 ⊢
  have hK2:=Zd hK1 hk3 (by rw [hD];omega)
  rw [hD,hnL] at hK2 hK1
  have hk4:=XZ W2 (q+2) (.deferred none)
  have hz4:=Zd hz3 hk4 (by omega)
  have r0:=Za hz4 0
  have r1:=Za hz4 1
  have r2:=Za hz4 2
  simp at r0 r1 r2
  have hk5:Keeps (fun k=>k=z∨k=q+2) w1 (W2.putObj (q+2) (.deferred none)):=(hk3.mono fun _ _ h=>.inl h).trans (hk4.mono fun _ _ h=>.inr h)
  have hWs:=Zf hK
  rw [hD,hnL] at hWs
  have hP5:=hP'.keep2 (base':=w.heap.size) hk5 (fun q hq _=>by omega) (fun q es cl hq e=>by
   rcases e with e | e
   · rw [e,hz1b] at hq;injection hq with hq;cases hq
   · rw [e,hK1] at hq;injection hq with hq;cases hq) (by omega)
  refine ⟨by simp,.inl ⟨_,_,rfl,run_takeDeferred hK2,?_⟩⟩
  exact ⟨.tuple #[.agg #[v1,v2,v3],.int .i64 0],by simp [results,Tryz.results44,go_sem,r0,r1,r2],_,rfl,hP5,hB.trans ((hb1.mono hB.size).trans (hk5.below (fun k hk=>by omega) (by have:=hB.size;have:=hb1.size;omega)))⟩
set_option maxRecDepth 100000 in
set_option maxHeartbeats 3200000 in
theorem load_fold (w:World) (A:Option Addr) (c:Nat) (b:Txt) (hb:Byt w A b) (hc:b.length≤c) (hl:b.length≤1024) :
    Calls Tryz.prog 44 #[.slice A b.length c,.bool true] w fun e w'=>∃ V,e=.returned (.tuple #[V,.int .i64 0])∧PsAt w' w.heap.size V (Z0 (low b))∧Below w.heap.size w w':=by
 refine (callsIn_wide (n:=3)).1 ?_
 have cF:=As.mk (fun (v:World) (hv:Below w.heap.size w v)=>callsIn_wide (n:=2).2 (ZbJ v A c b (Row.below hb hv) (by omega)))
 have hbl:b.length=(low b).length:=(XK b).symm
 rw [hbl] at cF hc hl ⊢
 obtain ⟨bt,hbt⟩:∃ t,low b=t:=⟨_,rfl⟩
 rw [hbt] at cF hc hl ⊢
 have hd:¬ (1024:Int)<(bt.length:Int):=by omega
 have hla:=As.mk (fun (v:World) (A1:Option Addr) (c1:Nat)=>callsIn_wide (n:=2).2 (ZdJ v (.slice A1 bt.length c1) rfl A1 bt.length c1 rfl))
 have hB0:Below w.heap.size w (w.alloc (.cells #[.slice none 0 0,.map none,.bool false] 76)):=(Below.refl _ _).alloc (Nat.le_refl _) _
 have hr00:=heap_alloc_new w (.cells #[.slice none 0 0,.map none,.bool false] 76)
 replace hbl:=As.mk hbl
 clear hbt
 refine callsIn_of_wp_marks Tryz.func44 rfl trivial ?_ rfl
 simp only [Tryz.ntmps44,List.size_toArray,List.length_cons,List.length_nil,Nat.reduceAdd,Nat.reduceSub,Array.replicate_succ,Array.replicate_zero,List.push_toArray,List.append_toArray,List.nil_append,List.cons_append]
 gi_wp2
 refine ⟨trivial,?_⟩
 refine (cF.out _ hB0).mono ?_
 intro e w1 h1
 obtain ⟨u1,he1,ho1,hb1⟩:=h1
 subst he1
 obtain ⟨A1,c1,rfl,hc1⟩:=Zk ho1
 have hby1:=Row.of_own ho1
 have hBw:Below w.heap.size w w1:=Ze hB0 hb1
 have hr1:=Zc hb1 hr00
 gi_wp2
 refine ⟨trivial,?_⟩
 refine (hla.out _ _ _).mono ?_
 rintro e w2 ⟨rfl,rfl⟩
 obtain ⟨z,hz⟩:∃ z,w.heap.size=z:=⟨_,rfl⟩
 obtain ⟨q,hq⟩:∃ q,w1.heap.size=q:=⟨_,rfl⟩
 have hBL:Below w.heap.size w ((w1.alloc (.cells #[.slice none 0 0] 73)).alloc (.cells #[.slice A1 bt.length c1] 22)):=(hBw.alloc hBw.size _).alloc (by have:=hBw.size;simp;omega) _
 have hr0:=Zn (o':=.cells #[.slice A1 bt.length c1] 22) (Zn (o':=.cells #[.slice none 0 0] 73) hr1)
 have hl0:=Zn (o':=.cells #[.slice A1 bt.length c1] 22) (heap_alloc_new w1 (.cells #[.slice none 0 0] 73))
 have ht0:=Yo (w:=w1.alloc (.cells #[.slice none 0 0] 73)) (o:=.cells #[.slice A1 bt.length c1] 22) (b:=w1.heap.size+1) (by simp)
 have hnL:((w1.alloc (.cells #[.slice none 0 0] 73)).alloc (.cells #[.slice A1 bt.length c1] 22)).heap.size=w1.heap.size+2:=by simp
 have hn2:(w1.alloc (.cells #[.slice none 0 0] 73)).heap.size=w1.heap.size+1:=by simp
 have hbyL:Byt ((w1.alloc (.cells #[.slice none 0 0] 73)).alloc (.cells #[.slice A1 bt.length c1] 22)) A1 bt:=(hby1.alloc _).alloc _
 rw [hn2]
 obtain ⟨WL,hWL⟩:∃ W,(w1.alloc (.cells #[.slice none 0 0] 73)).alloc (.cells #[.slice A1 bt.length c1] 22)=W:=⟨_,rfl⟩
 rw [hWL] at hBL hr0 hl0 ht0 hnL hbyL ⊢
 have hAq:∀ ad,A1=some ad→bt≠[]→ad.block≠q:=fun ad e hne=>by
  rcases hby1 with h | ⟨ad',e',hlt,_⟩
  · exact absurd (List.eq_nil_of_length_eq_zero (by have:=congrArg List.length h;rw [Zt] at this;exact this)) hne
  · rw [e] at e';injection e' with e';subst e';omega
 have hzq:z<q:=by have:=Zf hr1;omega
 rw [hz] at hBL hr0
 rw [hq] at hl0 ht0 hnL
 have hcX:=hc1
 replace hWL:=As.mk hWL
 replace hn2:=As.mk hn2
 rw [hz,hq]
 gi_wp2
 obtain ⟨i0,hi,hz0,hz1,hz2⟩:=info_parts Yt
 have hsum:=Xg bt []
 have hlx:=Xr bt 0 []
 refine ZeI (gf:=102) (lb:=#[.pointer (some ⟨q+1,0,none⟩)]) rfl (enters_of Tryz.func102 (by kernel_rfl) rfl) (encs:=Zc6) (G:=Zfr (WL.heap.size+2)) (R:=fun xs=>xs.map Prod.fst=QU bt) (N:=(QU bt).length) (bl:=q) (by omega)
  (Zfs WL (q+1) q A1 c1 bt ht0 hbyL hcX (by omega) (by omega) hAq 2) (fun _=>rfl)
  (fun x A2 B h hk=>Zj h hk (fun q c hq hh _=>by have:=Zf hh;omega))
  (LoadI w WL.heap.size z (q)) (LoadI.steady (by omega) (by omega) (by omega)) ⟨⟨_,hl0,OwnPs.nil _ _⟩,by rw [hz];exact hBL,hr0⟩
  (fun x a₁ W=>∃ bx,WL.heap.size+2≤bx∧W.heap[bx]? = some (.cells #[.int .i64 (x.1.off:Int),x.2,.bool x.1.ends] 83 (0,0))∧a₁={ tmps:=#[.slice A1 bt.length c1,.bool true,undef,undef,.pointer (some ⟨z,0,none⟩),.int .i64 0,.pointer (some ⟨q,0,none⟩),.pointer (some ⟨bx,0,none⟩),.slice A bt.length c,.int .i64 (bt.length:Int),.bool false,undef,.bool true,.slice A bt.length c,.slice A1 bt.length c1,.slice A1 bt.length c1,.func (.func 102) #[] #[.pointer (some ⟨q+1,0,none⟩)],.agg #[.int .i64 (x.1.off:Int),x.2,.bool x.1.ends],undef,undef,undef,undef,undef,undef,undef],defers:=[] })
  (fun x a A2 B ⟨bx,h1,h2,h3⟩ hk=>⟨bx,h1,Zd h2 hk (by have:=Zf h2;omega),h3⟩)
  ?assign ?body ?done
 case assign =>
  rintro l pre ⟨⟨off,text,ends⟩,u⟩ W K hI hG hsz hK
  obtain ⟨Au,cu,hu,hcu⟩:=Zk hG
  simp only at hu
  subst hu
  dsimp only [Zc6]
  gi_wp2
  exact hK _ _ ⟨W.heap.size,hsz,heap_alloc_new _ _,rfl⟩ ((Below.refl _ _).alloc (Nat.le_refl _) _)
 case body =>
  rintro l pre ⟨⟨off,text,ends⟩,u⟩ a₁ W ⟨⟨v,hv1,hv2⟩,hB,hrz⟩ hG ⟨bx,hbx1,hbx2,rfl⟩ hlt hsz
  obtain ⟨Au,cu,hu,hcu⟩:=Zk hG
  simp only at hu
  subst hu
  obtain ⟨vs,hvl,hvo,hvb⟩:=hv2
  obtain ⟨Av,cv,rfl,hcv⟩:=Zk hvo
  have b0:W.cell? ⟨q,0,none⟩=some (.slice Av (pre.map fun x=>x.1.text).length cv):=Za hv1 0
  have b1:W.cell? ⟨bx,1,none⟩=some (.slice Au text.length cu):=Za hbx2 1
  have hpl:(pre.map fun x=>x.1.text).length=pre.length:=List.length_map ..
  have hxl:(QU bt).length≤1025:=by have:(QU bt).length≤bt.length+1:=Xr bt 0 [];omega
  rw [hpl] at hvl hvo b0
  have hrow:=hvo.alloc (.cells #[.slice Au text.length cu] 22)
  have hv1':=Zn (o':=.cells #[.slice Au text.length cu] 22) hv1
  have hfar:=Zy hrow hv1' (by decide)
  have hzl:=Zf hv1
  gi_wp2_with (gi_at_builtin
               refine wpListIn_append_own _ rfl (.tmp 18) (.tmp 21) 73 rfl (WL.heap.size+2) 22 i0 (.slice none 0 0) 1 24 Tryz.underlying73 hi hz0 hz1 hz2 rfl (by decide) _ _ _ rfl hrow ⟨W.heap.size,0,none⟩ 1 1 [.slice Au text.length cu] rfl rfl (cell_one_new _ _ _) (by simp [Value.oneCell']) (by unfold maxLen;omega) (by omega) (by simp;omega) ?_
               intro v' w1 hown' hgrow _
               obtain ⟨A6,c6,rfl,hc6⟩:=Zk hown'
               have hk1:=Keeps.of_grown hgrow
               have hv6:=Zd hv1' hk1 hfar
               have x0:w1.cell? ⟨q,0,none⟩=some (.slice Av pre.length cv):=(by rw [hpl] at hv6;exact Za hv6 0)
               have xf:w1.frozen? ⟨q,0,none⟩=false:=Zb hv6 0)
  have hkk:Keeps (XY (q) (q+2+2)) W (w1.setCell ⟨q,0,none⟩ (.slice A6 (pre.length+1) c6)) :=
   ((Keeps.of_below ((Below.refl _ W).alloc (Nat.le_refl _) _) _).trans (hk1.mono fun k _ h=>.inr (by have:=(ZM hrow h.symm.symm).1;omega))).trans ((Zm w1 ⟨q,0,none⟩ _).mono fun k _ h=>.inl h)
  have hsn:=OwnPs.snoc (ls:=pre.map fun x=>x.1.text) (t:=text) (by rw [hpl];exact hvl) (fun i hi=>by obtain ⟨u,a,bb⟩:=hvb i hi;exact ⟨u,a,bb.alloc (.cells #[.slice Au text.length cu] 22)⟩) (Zo hG ((Below.refl _ W).alloc (Nat.le_refl _) _)) (by rw [hpl];exact hrow) hk1 (by rw [hpl];exact hown')
  refine ⟨hkk,⟨⟨_,by rw [Zi hv6 0];simp;rfl,?_⟩,hB.trans (hkk.below (fun k hk=>by unfold XY;omega) (by have:=hB.size;omega)),Zd hrz hkk (by unfold XY;omega)⟩⟩
  rw [List.map_append]
  have h9:=hsn.keep2 (Zm w1 ⟨q,0,none⟩ (.slice A6 (pre.length+1) c6)) (fun r hr _=>by show ¬ r=q;omega)
  rw [hnL] at h9
  exact h9
 case done =>
  rintro D xs W hD hR ⟨⟨v,hv1,hv2⟩,hB,hrz⟩ hK
  have hls:(xs.map fun x=>x.1.text)=Z0 bt:=by
   have:=congrArg (List.map Lx.text) hR
   rw [Yf,List.map_map] at this
   exact this
  rw [hls] at hv2
  obtain ⟨Av,cv,rfl,hcv,htx⟩:=hv2.txts
  have hll:(Z0 bt).length≤1025:=by rw [← Yf,List.length_map];have:(QU bt).length≤bt.length+1:=Xr bt 0 [];omega
  have hlt:∀ t∈Z0 bt,t.length≤1000000:=fun t ht=>by
   have h1:((Z0 bt).map List.length).sum≤([]:Txt).length+bt.length:=Xg bt []
   have h2:t.length≤((Z0 bt).map List.length).sum:=X7 ht
   simp only [List.length_nil] at h1
   omega
  have b0:W.cell? ⟨q,0,none⟩=some (.slice Av (Z0 bt).length cv):=Za hv1 0
  have cO:=As.mk (Zep W Av cv (Z0 bt) htx hlt (by omega))
  generalize (Z0 bt).length=nl at *
  gi_wp2
  refine ⟨trivial,?_⟩
  refine (callsIn_wide.2 cO.out).mono ?_
  rintro e w1 ⟨V,rfl,hP,hb1⟩
  have hP':=hP
  obtain ⟨vp,mb,np,fp,rfl,hp2,hp3,hp4⟩:=hP
  obtain ⟨Ap,cp,rfl,hcp,htp⟩:=hp2.txts
  have hz1b:=Zc hb1 hrz
  have hK1:=Zc hb1 hK
  have p0:w1.cell? ⟨z,0,none⟩=some (.slice none 0 0):=Za hz1b 0
  have p1:w1.cell? ⟨z,1,none⟩=some (.map none):=Za hz1b 1
  have p2:w1.cell? ⟨z,2,none⟩=some (.bool false):=Za hz1b 2
  have pf0:=Zb hz1b 0
  have pf1:=Zb hz1b 1
  have pf2:=Zb hz1b 2
  gi_wp2
  obtain ⟨v1,hv1e⟩:∃ v,Value.slice Ap (ZH (Z0 bt)).length cp=v:=⟨_,rfl⟩
  obtain ⟨v2,hv2e⟩:∃ v,Value.map (some mb)=v:=⟨_,rfl⟩
  obtain ⟨v3,hv3e⟩:∃ v,Value.bool (decide (([]:Txt)∈Z0 bt))=v:=⟨_,rfl⟩
  rw [hv1e,hv2e,hv3e] at hP' ⊢
  have hk3:Keeps (fun k=>k=z) w1 (((w1.setCell ⟨z,0,none⟩ v1).setCell ⟨z,1,none⟩ v2).setCell ⟨z,2,none⟩ v3):=((Zm _ ⟨z,0,none⟩ _).trans (Zm _ ⟨z,1,none⟩ _)).trans (Zm _ ⟨z,2,none⟩ _)
  have hz3:=Zi (Zi (Zi hz1b 0 v1) 1 v2) 2 v3
  obtain ⟨W2,hW2⟩:∃ W,((w1.setCell ⟨z,0,none⟩ v1).setCell ⟨z,1,none⟩ v2).setCell ⟨z,2,none⟩ v3=W:=⟨_,rfl⟩
  rw [hW2] at hk3 hz3 ⊢
  have hK2:=Zd hK1 hk3 (by rw [hD];omega)
  rw [hD,hnL] at hK2 hK1
  have hk4:=XZ W2 (q+2) (.deferred none)
  have hz4:=Zd hz3 hk4 (by omega)
  have r0:=Za hz4 0
  have r1:=Za hz4 1
  have r2:=Za hz4 2
  simp at r0 r1 r2
  have hk5:Keeps (fun k=>k=z∨k=q+2) w1 (W2.putObj (q+2) (.deferred none)):=(hk3.mono fun _ _ h=>.inl h).trans (hk4.mono fun _ _ h=>.inr h)
  have hWs:=Zf hK
  rw [hD,hnL] at hWs
  have hP5:=hP'.keep2 (base':=w.heap.size) hk5 (fun q hq _=>by omega) (fun q es cl hq e=>by
   rcases e with e | e
   · rw [e,hz1b] at hq;injection hq with hq;cases hq
   · rw [e,hK1] at hq;injection hq with hq;cases hq) (by omega)
  refine ⟨by simp,.inl ⟨_,_,rfl,run_takeDeferred hK2,?_⟩⟩
  exact ⟨.tuple #[.agg #[v1,v2,v3],.int .i64 0],by simp [results,Tryz.results44,go_sem,r0,r1,r2],_,rfl,hP5,hB.trans ((hb1.mono hB.size).trans (hk5.below (fun k hk=>by omega) (by have:=hB.size;have:=hb1.size;omega)))⟩
end Go.Proofs.YtfdlaomnecjfeaaGreatDoor
end
section
namespace Go.Proofs.YtfdlaomnecjfeaaGreatDoor
open Go.RowKit Go.Shelf Seine.Trie Seine.Fg Seine.Eng
/-- A script's cells: its file, options, way, input and cuts. -/
def Xv (F:Value) (o:Opt) (tag:Int) (I C:Value):Array Value:=#[F,.bool o.i,.bool o.w,.bool o.x,.bool o.o,.bool o.b,.bool o.v,.bool o.c,.int .i64 tag,I,C]
/-- A run's cells. -/
def Zc7 (o:Opt) (eg:Nat) (pv:Value) (mb:Nat) (out:Value) (n:Nat):Array Value :=
 #[.bool o.i,.bool o.w,.bool o.x,.bool o.o,.bool o.b,.bool o.v,.bool o.c,.func (.func 105) #[.pointer (some ⟨eg,0,none⟩)] #[],pv,.pointer (some ⟨mb,0,none⟩),out,.int .i64 (n:Int)]
/-- A run that begins. -/
structure BegAt (w0 W:World) (rb ob mb eg:Nat) (o:Opt) (tag:Int) (l:List Txt):Prop where
 run:W.heap[rb]? = some (.cells (Zc7 o eg (ZbP o ob) mb (.slice none 0 0) 0) 124 (0,0))
 box:W.heap[ob]? = some (.cells (Q0 o) 24 (0,0))
 mt:MtAt W mb Cn.zero
 rbl:w0.heap.size≤rb
 obl:w0.heap.size≤ob
 mbl:w0.heap.size≤mb
 bel:Below w0.heap.size w0 W
 eng:EngAt w0 eg tag l
def BegPost (w:World) (o:Opt) (tag:Int) (file:Txt) (e:Ending) (w':World):Prop :=
 Below w.heap.size w w'∧((Qn o tag file≠0→e=.returned (.tuple #[.pointer none,.int .i64 (Qn o tag file)])) ∧
  (Qn o tag file=0→∃ w0 rb ob mb eg,e=.returned (.tuple #[.pointer (some ⟨rb,0,none⟩),.int .i64 0])∧Below w.heap.size w w0∧BegAt w0 w' rb ob mb eg o tag (Z6 o.i file)))
theorem BegPost.bad {w w':World} {o:Opt} {tag:Int} {file:Txt} {x:Int} (hx:Qn o tag file=x) (h0:x≠0) (hb:Below w.heap.size w w'):BegPost w o tag file (.returned (.tuple #[.pointer none,.int .i64 x])) w':=by
 subst hx;exact ⟨hb,fun _=>rfl,fun h=>absurd h h0⟩
theorem BegPost.ok {w w' w0:World} {rb ob mb eg:Nat} {o:Opt} {tag:Int} {file:Txt} (hx:Qn o tag file=0) (hb:Below w.heap.size w w0) (h:BegAt w0 w' rb ob mb eg o tag (Z6 o.i file)):BegPost w o tag file (.returned (.tuple #[.pointer (some ⟨rb,0,none⟩),.int .i64 0])) w' :=
 ⟨hb.trans (h.bel.mono hb.size),fun h=>absurd hx h,fun _=>⟨w0,rb,ob,mb,eg,rfl,hb,h⟩⟩
section
variable (w:World) (A:Option Addr) (n c:Nat) (o:Opt) (tag:Int) (I C:Value) (post:Ending→World→Prop)
theorem begin_bad (hbad:ZaY o=true) (hp:∀ w',Below w.heap.size w w'→post (.returned (.tuple #[.pointer none,.int .i64 10])) w') :
    Calls Tryz.prog 65 #[.agg (Xv (.slice A n c) o tag I C)] w post:=by
 have hp:=As.mk hp
 obtain ⟨oi,ow,ox,oo,ob,ov,oc⟩:=o
 have hbx:=heap_alloc_new w (.cells #[.slice A n c,.bool oi,.bool ow,.bool ox,.bool oo,.bool ob,.bool ov,.bool oc,.int .i64 tag,I,C] 49)
 have hB:=(Below.refl w.heap.size w).alloc (Nat.le_refl _) (.cells #[.slice A n c,.bool oi,.bool ow,.bool ox,.bool oo,.bool ob,.bool ov,.bool oc,.int .i64 tag,I,C] 49)
 obtain ⟨W1,hW1⟩:∃ W,w.alloc (.cells #[.slice A n c,.bool oi,.bool ow,.bool ox,.bool oo,.bool ob,.bool ov,.bool oc,.int .i64 tag,I,C] 49)=W:=⟨_,rfl⟩
 rw [hW1] at hbx hB
 have cC:=As.mk (fun (v:World)=>Yh v ⟨oi,ow,ox,oo,ob,ov,oc⟩)
 have cI:=As.mk (fun (v:World)=>YG v tag)
 unfold Xv
 simp only [Q0] at cC ⊢
 have hz:=As.mk (fun (v:World) (hv:Below W1.heap.size W1 v)=>(⟨Za (Zc hv hbx) 0,Za (Zc hv hbx) 1,Za (Zc hv hbx) 2,Za (Zc hv hbx) 3,Za (Zc hv hbx) 4,Za (Zc hv hbx) 5,Za (Zc hv hbx) 6,Za (Zc hv hbx) 7,Za (Zc hv hbx) 8⟩ :
  v.cell? ⟨w.heap.size,0,none⟩=some (.slice A n c)∧v.cell? ⟨w.heap.size,1,none⟩=some (.bool oi)∧v.cell? ⟨w.heap.size,2,none⟩=some (.bool ow)∧v.cell? ⟨w.heap.size,3,none⟩=some (.bool ox)∧v.cell? ⟨w.heap.size,4,none⟩=some (.bool oo)∧v.cell? ⟨w.heap.size,5,none⟩=some (.bool ob)∧v.cell? ⟨w.heap.size,6,none⟩=some (.bool ov)∧v.cell? ⟨w.heap.size,7,none⟩=some (.bool oc)∧v.cell? ⟨w.heap.size,8,none⟩=some (.int .i64 tag)))
 obtain ⟨y0,y1,y2,y3,y4,y5,y6,y7,y8⟩:=hz.out W1 (Below.refl _ _)
 replace hW1:=As.mk hW1
 replace hB:=As.mk hB
 clear hbx
 rw [hbad,if_pos rfl] at cC
 go_enter Tryz.func65,Tryz.ntmps65
 go_wp2_with (go_at_call 42;refine Calls.mono (cC.out _) ?_;rintro e w2 ⟨rfl,hb2⟩;rw [hW1.out] at hb2;replace hb2:=As.mk hb2)
 exact Ze hB.out hb2.out
theorem begin_tag (hbad:ZaY o=false) (ht:¬ (0≤tag∧tag≤3)) (hp:∀ w',Below w.heap.size w w'→post (.returned (.tuple #[.pointer none,.int .i64 11])) w') :
    Calls Tryz.prog 65 #[.agg (Xv (.slice A n c) o tag I C)] w post:=by
 have hp:=As.mk hp
 obtain ⟨oi,ow,ox,oo,ob,ov,oc⟩:=o
 have hbx:=heap_alloc_new w (.cells #[.slice A n c,.bool oi,.bool ow,.bool ox,.bool oo,.bool ob,.bool ov,.bool oc,.int .i64 tag,I,C] 49)
 have hB:=(Below.refl w.heap.size w).alloc (Nat.le_refl _) (.cells #[.slice A n c,.bool oi,.bool ow,.bool ox,.bool oo,.bool ob,.bool ov,.bool oc,.int .i64 tag,I,C] 49)
 obtain ⟨W1,hW1⟩:∃ W,w.alloc (.cells #[.slice A n c,.bool oi,.bool ow,.bool ox,.bool oo,.bool ob,.bool ov,.bool oc,.int .i64 tag,I,C] 49)=W:=⟨_,rfl⟩
 rw [hW1] at hbx hB
 have cC:=As.mk (fun (v:World)=>Yh v ⟨oi,ow,ox,oo,ob,ov,oc⟩)
 have cI:=As.mk (fun (v:World)=>YG v tag)
 unfold Xv
 simp only [Q0] at cC ⊢
 have hz:=As.mk (fun (v:World) (hv:Below W1.heap.size W1 v)=>(⟨Za (Zc hv hbx) 0,Za (Zc hv hbx) 1,Za (Zc hv hbx) 2,Za (Zc hv hbx) 3,Za (Zc hv hbx) 4,Za (Zc hv hbx) 5,Za (Zc hv hbx) 6,Za (Zc hv hbx) 7,Za (Zc hv hbx) 8⟩ :
  v.cell? ⟨w.heap.size,0,none⟩=some (.slice A n c)∧v.cell? ⟨w.heap.size,1,none⟩=some (.bool oi)∧v.cell? ⟨w.heap.size,2,none⟩=some (.bool ow)∧v.cell? ⟨w.heap.size,3,none⟩=some (.bool ox)∧v.cell? ⟨w.heap.size,4,none⟩=some (.bool oo)∧v.cell? ⟨w.heap.size,5,none⟩=some (.bool ob)∧v.cell? ⟨w.heap.size,6,none⟩=some (.bool ov)∧v.cell? ⟨w.heap.size,7,none⟩=some (.bool oc)∧v.cell? ⟨w.heap.size,8,none⟩=some (.int .i64 tag)))
 obtain ⟨y0,y1,y2,y3,y4,y5,y6,y7,y8⟩:=hz.out W1 (Below.refl _ _)
 replace hW1:=As.mk hW1
 replace hB:=As.mk hB
 clear hbx
 rw [hbad,if_neg (by simp)] at cC
 rw [decide_eq_false ht] at cI
 clear ht
 go_enter Tryz.func65,Tryz.ntmps65
 go_wp2_with (first
  | (go_at_call 42;refine Calls.mono (cC.out _) ?_;rintro e w2 ⟨rfl,hb2⟩;rw [hW1.out] at hb2;obtain ⟨y0,y1,y2,y3,y4,y5,y6,y7,y8⟩:=hz.out w2 hb2;replace hb2:=As.mk hb2)
  | (go_at_call 43;refine Calls.mono (cI.out _) ?_;rintro e w3 ⟨rfl,rfl⟩))
 exact Ze hB.out hb2.out
theorem begin_long (hbad:ZaY o=false) (ht:0≤tag∧tag≤3) (hL:∀ v,Below w.heap.size w v→Calls Tryz.prog 44 #[.slice A n c,.bool o.i] v fun e w'=>e=.returned (.tuple #[.agg #[.slice none 0 0,.map none,.bool false],.int .i64 12])∧Below v.heap.size v w')
    (hp:∀ w',Below w.heap.size w w'→post (.returned (.tuple #[.pointer none,.int .i64 12])) w') :
    Calls Tryz.prog 65 #[.agg (Xv (.slice A n c) o tag I C)] w post:=by
 have hp:=As.mk hp
 have cL:=As.mk hL
 obtain ⟨oi,ow,ox,oo,ob,ov,oc⟩:=o
 have hbx:=heap_alloc_new w (.cells #[.slice A n c,.bool oi,.bool ow,.bool ox,.bool oo,.bool ob,.bool ov,.bool oc,.int .i64 tag,I,C] 49)
 have hB:=(Below.refl w.heap.size w).alloc (Nat.le_refl _) (.cells #[.slice A n c,.bool oi,.bool ow,.bool ox,.bool oo,.bool ob,.bool ov,.bool oc,.int .i64 tag,I,C] 49)
 obtain ⟨W1,hW1⟩:∃ W,w.alloc (.cells #[.slice A n c,.bool oi,.bool ow,.bool ox,.bool oo,.bool ob,.bool ov,.bool oc,.int .i64 tag,I,C] 49)=W:=⟨_,rfl⟩
 rw [hW1] at hbx hB
 have cC:=As.mk (fun (v:World)=>Yh v ⟨oi,ow,ox,oo,ob,ov,oc⟩)
 have cI:=As.mk (fun (v:World)=>YG v tag)
 unfold Xv
 simp only [Q0] at cC ⊢
 have hz:=As.mk (fun (v:World) (hv:Below W1.heap.size W1 v)=>(⟨Za (Zc hv hbx) 0,Za (Zc hv hbx) 1,Za (Zc hv hbx) 2,Za (Zc hv hbx) 3,Za (Zc hv hbx) 4,Za (Zc hv hbx) 5,Za (Zc hv hbx) 6,Za (Zc hv hbx) 7,Za (Zc hv hbx) 8⟩ :
  v.cell? ⟨w.heap.size,0,none⟩=some (.slice A n c)∧v.cell? ⟨w.heap.size,1,none⟩=some (.bool oi)∧v.cell? ⟨w.heap.size,2,none⟩=some (.bool ow)∧v.cell? ⟨w.heap.size,3,none⟩=some (.bool ox)∧v.cell? ⟨w.heap.size,4,none⟩=some (.bool oo)∧v.cell? ⟨w.heap.size,5,none⟩=some (.bool ob)∧v.cell? ⟨w.heap.size,6,none⟩=some (.bool ov)∧v.cell? ⟨w.heap.size,7,none⟩=some (.bool oc)∧v.cell? ⟨w.heap.size,8,none⟩=some (.int .i64 tag)))
 obtain ⟨y0,y1,y2,y3,y4,y5,y6,y7,y8⟩:=hz.out W1 (Below.refl _ _)
 replace hW1:=As.mk hW1
 replace hB:=As.mk hB
 clear hbx
 simp only at cL
 rw [hbad,if_neg (by simp)] at cC
 rw [decide_eq_true ht] at cI
 clear ht hL
 go_enter Tryz.func65,Tryz.ntmps65
 go_wp2_with (first
  | (go_at_call 42;refine Calls.mono (cC.out _) ?_;rintro e w2 ⟨rfl,hb2⟩;rw [hW1.out] at hb2;obtain ⟨y0,y1,y2,y3,y4,y5,y6,y7,y8⟩:=hz.out w2 hb2;replace hb2:=As.mk hb2)
  | (go_at_call 43;refine Calls.mono (cI.out _) ?_;rintro e w3 ⟨rfl,rfl⟩)
  | (go_at_call 44;refine Calls.mono (cL.out w2 (Ze hB.out hb2.out)) ?_;rintro e w4 ⟨rfl,hb4⟩;have hb24:=hb2.out.trans (hb4.mono hb2.out.size);clear y0 y1 y2 y3 y4 y5 y6 y7 y8;obtain ⟨y0,y1,y2,y3,y4,y5,y6,y7,y8⟩:=hz.out w4 hb24;replace hb24:=As.mk hb24;clear hb4))
 exact Ze hB.out (hb24.out.alloc hb24.out.size _)
theorem ZeJ (o:Opt) (ob:Nat):∃ F X Y,ZbP o ob=.func F X Y:=by
 unfold ZbP
 split
 · exact ⟨_,_,_,rfl⟩
 · split <;> exact ⟨_,_,_,rfl⟩
variable (l:List Txt) (hbad:ZaY o=false) (ht:0≤tag∧tag≤3) (hL:∀ v,Below w.heap.size w v→Calls Tryz.prog 44 #[.slice A n c,.bool o.i] v fun e w'=>∃ V,e=.returned (.tuple #[V,.int .i64 0])∧PsAt w' v.heap.size V l∧Below v.heap.size v w') (htot:tot l≤60000) (hll:l.length≤1000000)
include hbad ht hL htot hll
theorem begin_wrong (hw:¬ Qe tag l=0) (hp:∀ w',Below w.heap.size w w'→post (.returned (.tuple #[.pointer none,.int .i64 (Qe tag l)])) w') :
    Calls Tryz.prog 65 #[.agg (Xv (.slice A n c) o tag I C)] w post:=by
 have hp:=As.mk hp
 have cL:=As.mk hL
 have cN:=As.mk (fun (v:World) (V:Value) (base:Nat) (h:PsAt v base V l)=>Zcy v tag V base l h htot hll)
 obtain ⟨oi,ow,ox,oo,ob,ov,oc⟩:=o
 have hbx:=heap_alloc_new w (.cells #[.slice A n c,.bool oi,.bool ow,.bool ox,.bool oo,.bool ob,.bool ov,.bool oc,.int .i64 tag,I,C] 49)
 have hB:=(Below.refl w.heap.size w).alloc (Nat.le_refl _) (.cells #[.slice A n c,.bool oi,.bool ow,.bool ox,.bool oo,.bool ob,.bool ov,.bool oc,.int .i64 tag,I,C] 49)
 obtain ⟨W1,hW1⟩:∃ W,w.alloc (.cells #[.slice A n c,.bool oi,.bool ow,.bool ox,.bool oo,.bool ob,.bool ov,.bool oc,.int .i64 tag,I,C] 49)=W:=⟨_,rfl⟩
 rw [hW1] at hbx hB
 have cC:=As.mk (fun (v:World)=>Yh v ⟨oi,ow,ox,oo,ob,ov,oc⟩)
 have cI:=As.mk (fun (v:World)=>YG v tag)
 unfold Xv
 simp only [Q0] at cC ⊢
 have hz:=As.mk (fun (v:World) (hv:Below W1.heap.size W1 v)=>(⟨Za (Zc hv hbx) 0,Za (Zc hv hbx) 1,Za (Zc hv hbx) 2,Za (Zc hv hbx) 3,Za (Zc hv hbx) 4,Za (Zc hv hbx) 5,Za (Zc hv hbx) 6,Za (Zc hv hbx) 7,Za (Zc hv hbx) 8⟩ :
  v.cell? ⟨w.heap.size,0,none⟩=some (.slice A n c)∧v.cell? ⟨w.heap.size,1,none⟩=some (.bool oi)∧v.cell? ⟨w.heap.size,2,none⟩=some (.bool ow)∧v.cell? ⟨w.heap.size,3,none⟩=some (.bool ox)∧v.cell? ⟨w.heap.size,4,none⟩=some (.bool oo)∧v.cell? ⟨w.heap.size,5,none⟩=some (.bool ob)∧v.cell? ⟨w.heap.size,6,none⟩=some (.bool ov)∧v.cell? ⟨w.heap.size,7,none⟩=some (.bool oc)∧v.cell? ⟨w.heap.size,8,none⟩=some (.int .i64 tag)))
 obtain ⟨y0,y1,y2,y3,y4,y5,y6,y7,y8⟩:=hz.out W1 (Below.refl _ _)
 replace hW1:=As.mk hW1
 replace hB:=As.mk hB
 clear hbx
 simp only at cL
 rw [hbad,if_neg (by simp)] at cC
 rw [decide_eq_true ht] at cI
 have hwn:(Qe tag l != 0)=true:=by simpa using hw
 clear ht hL htot hll
 go_enter Tryz.func65,Tryz.ntmps65
 go_wp2_with (first
  | (go_at_call 42;refine Calls.mono (cC.out _) ?_;rintro e w2 ⟨rfl,hb2⟩;rw [hW1.out] at hb2;obtain ⟨y0,y1,y2,y3,y4,y5,y6,y7,y8⟩:=hz.out w2 hb2;replace hb2:=As.mk hb2)
  | (go_at_call 43;refine Calls.mono (cI.out _) ?_;rintro e w3 ⟨rfl,rfl⟩)
  | (go_at_call 44;refine Calls.mono (cL.out w2 (Ze hB.out hb2.out)) ?_;rintro e w4 ⟨V,rfl,hps,hb4⟩;obtain ⟨vx,mbx,nx,fx,rfl,hpo,hpx⟩:=id hps;obtain ⟨vsx,hvs1,hvs2,hvs3⟩:=hpo;obtain ⟨Ax,cx,rfl,hcx⟩:=Zk hvs2;clear hpx hvs1 hvs2 hvs3 hcx;obtain ⟨bE,hbE⟩:∃ b,decide ([]∈l)=b:=⟨_,rfl⟩;rw [hbE] at hps ⊢;replace hbE:=As.mk hbE;replace hps:=As.mk hps;have hb24:=hb2.out.trans (hb4.mono hb2.out.size);have hb44:Below w4.heap.size w4 (w4.alloc (.cells #[.slice Ax (ZH l).length cx,.map (some mbx),.bool bE] 76)):=(Below.refl _ _).alloc (Nat.le_refl _) _;have hps4:=As.mk (hps.out.below hb44);have hb25:=hb24.trans (hb44.mono hb24.size);clear y0 y1 y2 y3 y4 y5 y6 y7 y8;obtain ⟨y0,y1,y2,y3,y4,y5,y6,y7,y8⟩:=hz.out w4 hb24;obtain ⟨u0,u1,u2,u3,u4,u5,u6,u7,u8⟩:=hz.out _ hb25;replace hb25:=As.mk hb25;clear hb4 hb24 hb44)
  | (go_at_call 45;refine Calls.mono (cN.out _ _ _ hps4.out) ?_;rintro e w5 ⟨hne,hb5⟩;rw [if_neg hw] at hne;subst hne;replace hb5:=As.mk hb5))
 exact (hb25.out.trans (hb5.out.mono hb25.out.size)) |> fun h=>Ze hB.out h
set_option maxRecDepth 100000 in
set_option maxHeartbeats 3200000 in
theorem begin_right (hw:Qe tag l=0) (hp:∀ w0 W rb ob mb eg,Below w.heap.size w w0→BegAt w0 W rb ob mb eg o tag l→post (.returned (.tuple #[.pointer (some ⟨rb,0,none⟩),.int .i64 0])) W) :
    Calls Tryz.prog 65 #[.agg (Xv (.slice A n c) o tag I C)] w post:=by
 have hp:=As.mk hp
 have cL:=As.mk hL
 have cN:=As.mk (fun (v:World) (V:Value) (base:Nat) (h:PsAt v base V l)=>Zcy v tag V base l h htot hll)
 have cP:=As.mk (fun (v:World)=>printer_calls v o)
 have hmf:∀ (fn:Fn) (first cap:Array Value) (w:World),(Instr.makeFunc fn first cap).run Tryz.prog w=.ok (.func fn first cap) w:=fun _ _ _ _=>rfl
 obtain ⟨oi,ow,ox,oo,ob,ov,oc⟩:=o
 have hbx:=heap_alloc_new w (.cells #[.slice A n c,.bool oi,.bool ow,.bool ox,.bool oo,.bool ob,.bool ov,.bool oc,.int .i64 tag,I,C] 49)
 have hB:=(Below.refl w.heap.size w).alloc (Nat.le_refl _) (.cells #[.slice A n c,.bool oi,.bool ow,.bool ox,.bool oo,.bool ob,.bool ov,.bool oc,.int .i64 tag,I,C] 49)
 obtain ⟨W1,hW1⟩:∃ W,w.alloc (.cells #[.slice A n c,.bool oi,.bool ow,.bool ox,.bool oo,.bool ob,.bool ov,.bool oc,.int .i64 tag,I,C] 49)=W:=⟨_,rfl⟩
 rw [hW1] at hbx hB
 have cC:=As.mk (fun (v:World)=>Yh v ⟨oi,ow,ox,oo,ob,ov,oc⟩)
 have cI:=As.mk (fun (v:World)=>YG v tag)
 unfold Xv
 simp only [Q0] at cC ⊢
 have hz:=As.mk (fun (v:World) (hv:Below W1.heap.size W1 v)=>(⟨Za (Zc hv hbx) 0,Za (Zc hv hbx) 1,Za (Zc hv hbx) 2,Za (Zc hv hbx) 3,Za (Zc hv hbx) 4,Za (Zc hv hbx) 5,Za (Zc hv hbx) 6,Za (Zc hv hbx) 7,Za (Zc hv hbx) 8⟩ :
  v.cell? ⟨w.heap.size,0,none⟩=some (.slice A n c)∧v.cell? ⟨w.heap.size,1,none⟩=some (.bool oi)∧v.cell? ⟨w.heap.size,2,none⟩=some (.bool ow)∧v.cell? ⟨w.heap.size,3,none⟩=some (.bool ox)∧v.cell? ⟨w.heap.size,4,none⟩=some (.bool oo)∧v.cell? ⟨w.heap.size,5,none⟩=some (.bool ob)∧v.cell? ⟨w.heap.size,6,none⟩=some (.bool ov)∧v.cell? ⟨w.heap.size,7,none⟩=some (.bool oc)∧v.cell? ⟨w.heap.size,8,none⟩=some (.int .i64 tag)))
 obtain ⟨y0,y1,y2,y3,y4,y5,y6,y7,y8⟩:=hz.out W1 (Below.refl _ _)
 replace hW1:=As.mk hW1
 replace hB:=As.mk hB
 clear hbx
 simp only at cL
 simp only [Q0] at cP
 rw [hbad,if_neg (by simp)] at cC
 rw [decide_eq_true ht] at cI
 clear ht hL htot hll
 go_enter Tryz.func65,Tryz.ntmps65
 go_wp2_with (first
  | (go_at_call 42;refine Calls.mono (cC.out _) ?_;rintro e w2 ⟨rfl,hb2⟩;rw [hW1.out] at hb2;obtain ⟨y0,y1,y2,y3,y4,y5,y6,y7,y8⟩:=hz.out w2 hb2;replace hb2:=As.mk hb2)
  | (go_at_call 43;refine Calls.mono (cI.out _) ?_;rintro e w3 ⟨rfl,rfl⟩)
  | (go_at_call 44;refine Calls.mono (cL.out w2 (Ze hB.out hb2.out)) ?_;rintro e w4 ⟨V,rfl,hps,hb4⟩;obtain ⟨vx,mbx,nx,fx,rfl,hpo,hpx⟩:=id hps;obtain ⟨vsx,hvs1,hvs2,hvs3⟩:=hpo;obtain ⟨Ax,cx,rfl,hcx⟩:=Zk hvs2;clear hpx hvs1 hvs2 hvs3 hcx;obtain ⟨bE,hbE⟩:∃ b,decide ([]∈l)=b:=⟨_,rfl⟩;rw [hbE] at hps ⊢;replace hbE:=As.mk hbE;replace hps:=As.mk hps;have hb24:=hb2.out.trans (hb4.mono hb2.out.size);have hb44:Below w4.heap.size w4 (w4.alloc (.cells #[.slice Ax (ZH l).length cx,.map (some mbx),.bool bE] 76)):=(Below.refl _ _).alloc (Nat.le_refl _) _;have hps4:=As.mk (hps.out.below hb44);have hb25:=hb24.trans (hb44.mono hb24.size);clear y0 y1 y2 y3 y4 y5 y6 y7 y8;obtain ⟨y0,y1,y2,y3,y4,y5,y6,y7,y8⟩:=hz.out w4 hb24;obtain ⟨u0,u1,u2,u3,u4,u5,u6,u7,u8⟩:=hz.out _ hb25;replace hb25:=As.mk hb25;clear hb4 hb24 hb44)
  | (go_at_call 45;refine Calls.mono (cN.out _ _ _ hps4.out) ?_;rintro e w5 ⟨hne,hb5⟩;rw [if_pos hw] at hne;obtain ⟨eg,rfl,heg⟩:=hne;have hb15:=hb25.out.trans (hb5.mono hb25.out.size);clear y0 y1 y2 y3 y4 y5 y6 y7 y8;obtain ⟨y0,y1,y2,y3,y4,y5,y6,y7,y8⟩:=hz.out w5 hb15;replace heg:=As.mk heg;replace hb15:=As.mk hb15;clear hb5))
 go_region_law (first
  | (refine Xq (by rfl) ?ho (cP.out w5.drew) ?_;(case ho=>go_simp);rintro e w6 ⟨rfl,hw6⟩;obtain ⟨F,X,Y,hF⟩:=ZeJ ⟨oi,ow,ox,oo,ob,ov,oc⟩ w5.drew.heap.size;have hb6:Below w5.heap.size w5 w6:=(by rw [hw6];exact ((Below.refl w5.heap.size w5).drew).alloc (Nat.le_refl _) _);have ho6:w6.heap[w5.drew.heap.size]? = some (.cells (Q0 ⟨oi,ow,ox,oo,ob,ov,oc⟩) 24 (0,0)):=(by rw [hw6];exact heap_alloc_new _ _);obtain ⟨z0,z1,z2,z3,z4,z5,z6,z7,z8⟩:=hz.out w6 (hb15.out.trans (hb6.mono hb15.out.size));replace hb6:=As.mk hb6;replace ho6:=As.mk ho6;clear hw6;refine ⟨_,rfl,?_⟩;rw [hF];replace hF:=As.mk hF)
  | (refine Xq (by rfl) ?ho (mnew_calls w6) ?_;(case ho=>go_simp);rintro e w7 ⟨rfl,hm7,hb7⟩;obtain ⟨x0,x1,x2,x3,x4,x5,x6,x7,x8⟩:=hz.out w7 ((hb15.out.trans (hb6.out.mono hb15.out.size)).trans (hb7.mono (Nat.le_trans hb15.out.size hb6.out.size)));replace hb7:=As.mk hb7;replace hm7:=As.mk hm7;have hst:=As.mk (And.intro hF.out ho6.out);refine ⟨_,rfl,?_⟩))
 all_goals
  go_wp2
  go_ret2
  have hb67:Below w5.heap.size w5 w7:=hb6.out.trans (hb7.out.mono hb6.out.size)
  exact hp.out w5 _ w7.heap.size w5.drew.heap.size w6.heap.size eg (Ze hB.out hb15.out) ⟨by rw [hF.out];exact heap_alloc_new _ _,Zn (Zc hb7.out ho6.out),hm7.out.below ((Below.refl _ _).alloc (Nat.le_refl _) _),hb67.size,Nat.le_refl _,hb6.out.size,hb67.alloc hb67.size _,heg.out⟩
end
end Go.Proofs.YtfdlaomnecjfeaaGreatDoor
end
section
namespace Go.Proofs.YtfdlaomnecjfeaaGreatDoor
open Go.RowKit Seine.Trie Seine.Fg
attribute [local go_sem high] Xn XT QM Q9
/-- Numbers' cells. -/
def Jg (l:List Int):List Value:=l.map fun n=>.int .i64 n
theorem ZcI (l:List Int):(Jg l).length=l.length:=by simp [Jg]
theorem intL_get (l:List Int) (i:Nat) (h:i<l.length):(Jg l)[i]? = some (.int .i64 (l.getD i 0)):=by simp [Jg,h]
def Jh (l:List Nat):List Value:=l.map fun n:Nat=>.int .i64 (n:Int)
theorem ZcJ (l:List Nat):(Jh l).length=l.length:=by simp [Jh]
theorem ZeK (l:List Nat) (n:Nat):Jh (l++[n])=Jh l++[.int .i64 (n:Int)]:=by simp [Jh]
theorem take_snoc_int (l:List Int) (k:Nat) (h:k<l.length):l.take (k+1)=l.take k++[l.getD k 0]:=by
 rw [List.take_succ_eq_append_getElem h];simp [h]
set_option maxRecDepth 100000 in
theorem places_calls (w:World) (n:Nat) (A:Option Addr) (c:Nat) (cs:List Int) (h:Row w A (Jg cs)) (hn:n≤1000000) (hl:cs.length≤1000000) :
    Calls Tryz.prog 110 #[.int .i64 (n:Int),.slice A cs.length c] w fun e w'=>∃ v,e=.returned v∧w'.ownsRow w.heap.size 3 1 v cs.length (Jh (placesF n 0 cs))∧Below w.heap.size w w':=by
 have HX:=As.mk h
 have hfin:=As.mk (List.take_length (l:=cs))
 have hsn:=As.mk (fun k (h:k<cs.length)=>take_snoc_int cs k h)
 obtain ⟨m,hm⟩:∃ m,cs.length=m:=⟨_,rfl⟩
 have hm':=As.mk hm
 rw [hm] at hfin hsn hl ⊢
 clear h hm
 go_enter Tryz.func110,Tryz.ntmps110
 go_wp2
 go_loopg [5,6,11] (m+1) (fun gk v q i wr=>∃ (k:Nat) (u:Value),u=v∧As (m+1≤gk+k)∧k≤m∧i=.int .i64 k∧q=.int .i64 (YF n 0 (cs.take k):Int)∧As (wr.ownsRow w.heap.size 3 1 u k (Jh (placesF n 0 (cs.take k))))∧As (Below w.heap.size w wr))
 case atStart=>exact ⟨0,_,rfl,⟨by omega⟩,Nat.zero_le _,rfl,rfl,⟨by rw [List.take_zero];exact World.ownsRow_nil _ _ _ _⟩,⟨Below.refl _ _⟩⟩
 case round =>
  obtain ⟨k,u,rfl,hgk,hk,rfl,rfl,hown,hbel⟩:=hrel
  by_cases hlt:k<m
  · obtain ⟨gp,rfl⟩:∃ gp,gk=gp+1:=⟨gk - 1,by have:=hgk.out;omega⟩
    obtain ⟨ad,rfl,hc⟩:=Row.at_ (Row.below HX.out hbel.out) (j:=k) (by rw [ZcI,hm'.out];exact hlt)
    have hc2:wr.cell? (ad.add k)=some (.int .i64 (cs.getD k 0)):=by
     rw [hc];have:=intL_get cs k (by rw [hm'.out];exact hlt);rw [List.getElem?_eq_getElem (by rw [ZcI,hm'.out];exact hlt)] at this;exact this
    have h1:=hsn.out k hlt
    obtain ⟨x,hx⟩:∃ x,cs.getD k 0=x:=⟨_,rfl⟩
    rw [hx] at h1 hc2
    have hle:=(Zfk (n:=n) (cs.take k) (Nat.zero_le n)).2
    have hls:=lastF_snoc n 0 (cs.take k) x
    have hps:=ZbH n (cs.take k) 0 x
    rw [← h1] at hls hps
    obtain ⟨L,hL⟩:∃ L,YF n 0 (cs.take k)=L:=⟨_,rfl⟩
    obtain ⟨L',hL'⟩:∃ L,YF n 0 (cs.take (k+1))=L:=⟨_,rfl⟩
    rw [hL'] at hls hps
    rw [hL] at hls hle ⊢
    have hmm:min (max x (L:Int)) (n:Int)=(L':Int):=by omega
    have hpl:(placesF n 0 (cs.take k)).length=k:=by rw [X8,List.length_take];have:=hm'.out;omega
    replace hps:=As.mk hps
    replace hL':=As.mk hL'
    have ho:=hown.out
    generalize placesF n 0 (cs.take k)=p at *
    clear hc hx hls h1 hL
    obtain ⟨L0,hL0⟩:∃ L:Int,L=(L':Int):=⟨_,rfl⟩
    rw [← hL0] at hmm
    replace hL0:=As.mk hL0
    replace ho:=As.mk ho
    go_wp2_with (at_builtin
                 refine ZA _ rfl (.tmp 21) (.tmp 23) 45 rfl w.heap.size 3 _ 1 8 Tryz.underlying45 XF rfl (by decide) u k (Jh p) rfl ho.out [.int .i64 L0] rfl (by simp [Value.oneCell']) _ rfl (by simp) (by omega) (by decide) hbel.out.size ?_
                 intro v' w2 ho2 hk2 hat2 hb2
                 have hb3:=As.mk (hbel.out.trans hb2)
                 replace ho2:=As.mk ho2
                 clear hk2 hat2 hb2)
    go_roundg gp
    case rel=>exact ⟨k+1,v',rfl,⟨by have:=hgk.out;omega⟩,by omega,(by first | rfl | go_num | (congr 1;omega)),by rw [hL0.out,hL'.out],⟨by rw [hps.out,ZeK,← hL0.out];exact ho2.out⟩,hb3⟩
    case measure=>omega
  · obtain rfl:k=m:=by omega
    rw [hfin.out] at hown
    go_wp2
    go_ret
    exact ⟨_,rfl,hown.out,hbel.out⟩
/-- The bytes of a text between places, and none behind. -/
def JQ (t:Txt) (last:Nat):List Nat→List Txt
 | []=>[]
 | p::r=>(t.drop last).take (p - last)::JQ t p r
theorem ZfE (t:Txt):∀ (ps:List Nat) (last:Nat),JQ t last (ps++[t.length])=YS t last ps
 | [],last=>by
   show [(t.drop last).take (t.length - last)]=[t.drop last]
   rw [List.take_of_length_le (by rw [List.length_drop];omega)]
 | p::r,last=>by
   show _::JQ t p (r++[t.length])=_::YS t p r
   rw [ZfE t r]
theorem ZeL (t:Txt):∀ (qs:List Nat) (last p:Nat),JQ t last (qs++[p])=JQ t last qs++[(t.drop (qs.getLastD last)).take (p - qs.getLastD last)]
 | [],last,p=>rfl
 | q::r,last,p=>by
   show _::JQ t q (r++[p])=_::JQ t q r++_
   rw [ZeL t r,List.getLastD_cons]
   rfl
theorem ZcK (t:Txt):∀ (qs:List Nat) (last:Nat),(JQ t last qs).length=qs.length
 | [],_=>rfl
 | q::r,last=>by show (JQ t q r).length+1=_;rw [ZcK t r];rfl
theorem Zft {n:Nat}:∀ {qs:List Nat} {last:Nat} (k:Nat),ZaZ n last qs→k<qs.length→(qs.take k).getLastD last≤qs.getD k 0∧qs.getD k 0≤n
 | [],_,k,_,h=>absurd h (Nat.not_lt_zero _)
 | q::r,last,0,h,_=>by simpa using ⟨h.1,h.2.1⟩
 | q::r,last,k+1,h,hk=>by
   have:=Zft (last:=q) k h.2.2 (by simpa using hk)
   rw [List.take_succ_cons,List.getLastD_cons]
   simpa using this
theorem ZdK {n:Nat}:∀ {qs:List Nat} {last:Nat},last≤n→ZaZ n last qs→ZaZ n last (qs++[n])
 | [],last,h,_=>⟨h,Nat.le_refl _,trivial⟩
 | q::r,last,h,⟨a,b,c⟩=>⟨a,b,ZdK b c⟩
theorem take_snoc_nat (l:List Nat) (k:Nat) (h:k<l.length):l.take (k+1)=l.take k++[l.getD k 0]:=by
 rw [List.take_succ_eq_append_getElem h];simp [h]
theorem natL_get (l:List Nat) (i:Nat) (h:i<l.length):(Jh l)[i]? = some (.int .i64 (l.getD i 0:Int)):=by simp [Jh,h]
set_option maxRecDepth 100000 in
theorem between_calls (w:World) (base:Nat) (hbase:base≤w.heap.size) (A:Option Addr) (c:Nat) (t:Txt) (wE:World) (hE:Byt wE A t) (htc:t.length≤c) (htl:t.length≤1000000) (v:Value) (ps:List Nat) (ho:w.ownsRow base 3 1 v ps.length (Jh ps)) (hps:ZaZ t.length 0 ps) (hl:ps.length≤1000000) :
    Calls Tryz.prog 109 #[.slice A t.length c,v] w fun e w'=>∃ A' c',e=.returned (.slice A' (ps.length+1) c')∧OwnTx wE base w' (.slice A' (ps.length+1) c') (YS t 0 ps)∧Below base w w':=by
 have hR:=As.mk (ZdK (Nat.zero_le _) hps)
 have hG:=ZfE t ps 0
 have hbyt:=As.mk hE
 have Ho:=As.mk ho
 obtain ⟨Av,cv,rfl,hcv⟩:=Zk ho
 obtain ⟨n,hn⟩:∃ n,t.length=n:=⟨_,rfl⟩
 obtain ⟨m,hm⟩:∃ m,ps.length=m:=⟨_,rfl⟩
 rw [hn] at hR hG htc htl ⊢
 rw [hm] at Ho hcv hl ⊢
 have hql:As ((ps++[n]).length=m+1):=⟨by rw [List.length_append,hm];rfl⟩
 have hqc:=ZeK ps n
 have hfl:As ((YS t 0 ps).length=m+1):=⟨by rw [Yd,hm]⟩
 obtain ⟨qs,hqs⟩:∃ q,ps++[n]=q:=⟨_,rfl⟩
 rw [hqs] at hql hR hG hqc
 replace hG:=As.mk hG
 replace hqc:=As.mk hqc
 replace hn:=As.mk hn
 clear hE ho hps hm hqs
 go_enter Tryz.func109,Tryz.ntmps109
 go_wp2_with (at_builtin
              refine ZA _ rfl (.tmp 9) (.tmp 12) 45 rfl base 3 _ 1 8 Tryz.underlying45 XF rfl (by decide) (.slice Av m cv) m (Jh ps) rfl Ho.out [.int .i64 (n:Int)] rfl (by simp [Value.oneCell']) _ rfl (by simp) (by omega) (by decide) hbase ?_
              intro v2 wx ho2 hk2 hat2 hb2
              obtain ⟨A2,c2,rfl,hc2⟩:=Zk ho2
              have hrow:=Row.of_own ho2
              rw [← hqc.out] at hrow
              have HQ:=As.mk hrow
              have hb2:=As.mk hb2
              clear hk2 hat2 ho2 hrow)
 go_loopg [5,6,15] (m+2) (fun gk v q i wr=>∃ (k:Nat) (u:Value),u=v∧As (m+2≤gk+k)∧k≤m+1∧i=.int .i64 k∧q=.int .i64 ((qs.take k).getLastD 0:Int)∧As (OwnTx wE wx.heap.size wr u (JQ t 0 (qs.take k)))∧As (Below wx.heap.size wx wr))
 case atStart=>exact ⟨0,_,rfl,⟨by omega⟩,Nat.zero_le _,rfl,rfl,⟨OwnTx.nil _ _ _⟩,⟨Below.refl _ _⟩⟩
 case round =>
  obtain ⟨k,u,rfl,hgk,hk,rfl,rfl,hownt,hbel⟩:=hrel
  by_cases hlt:k<m+1
  · obtain ⟨gp,rfl⟩:∃ gp,gk=gp+1:=⟨gk - 1,by have:=hgk.out;omega⟩
    have hkq:k<qs.length:=by rw [hql.out];exact hlt
    obtain ⟨ad,rfl,hc⟩:=Row.at_ (Row.below HQ.out hbel.out) (j:=k) (by rw [ZcJ];exact hkq)
    have hc2:wr.cell? (ad.add k)=some (.int .i64 (qs.getD k 0:Int)):=by
     rw [hc];have:=natL_get qs k hkq;rw [List.getElem?_eq_getElem (by rw [ZcJ];exact hkq)] at this;exact this
    have hst:=take_snoc_nat qs k hkq
    have hra:=Zft k hR.out hkq
    have hsuc:=ZeL t (qs.take k) 0 (qs.getD k 0)
    rw [← hst] at hsuc
    have hL':(qs.take (k+1)).getLastD 0=qs.getD k 0:=by rw [hst];simp
    have hcl:As ((JQ t 0 (qs.take k)).length=k):=⟨by rw [ZcK,List.length_take];omega⟩
    obtain ⟨vs,hvl,hown,hvb⟩:=hownt.out
    rw [hcl.out] at hown hvl
    obtain ⟨a,ha⟩:∃ a,(qs.take k).getLastD 0=a:=⟨_,rfl⟩
    obtain ⟨b,hb⟩:∃ a,qs.getD k 0=a:=⟨_,rfl⟩
    rw [ha] at hsuc hra ⊢
    rw [hb] at hsuc hra hc2 hL'
    obtain ⟨h1,h2⟩:=hra
    have hpl:((t.drop a).take (b - a)).length=b - a:=by rw [List.length_take,List.length_drop,hn.out];omega
    replace hL':=As.mk hL'
    replace hsuc:=As.mk hsuc
    replace hown:=As.mk hown
    replace hvl:=As.mk hvl
    replace hvb:=As.mk hvb
    clear hc hst hkq ha hb
    have e1:a≤b:=h1
    cases A with
    | none =>
      have hx0:t=[]:=by
       rcases hbyt.out with h | ⟨ad',e,_⟩
       · have:=congrArg List.length h;rw [Zt] at this;exact List.eq_nil_of_length_eq_zero this
       · cases e
      have hby:As (Byt wE none ((t.drop a).take (b - a))):=⟨.inl (by rw [hx0];simp [Zh])⟩
      obtain rfl:b=0:=by
       have hz:n=0:=by rw [← hn.out,hx0];rfl
       omega
      obtain rfl:a=0:=by omega
      rw [Nat.sub_self] at hpl
      replace hpl:=As.mk hpl
      clear hx0
      go_wp2_with (at_builtin
                   refine ZA _ rfl (.tmp 19) (.tmp 25) 73 rfl wx.heap.size 22 _ 1 24 Tryz.underlying73 Yt rfl (by decide) u k vs rfl hown.out [.slice none 0 0] rfl (by simp [Value.oneCell']) _ rfl (by simp) (by omega) (by decide) hbel.out.size ?_
                   intro v' w2 ho2 hk2 hat2 hb2
                   have hb3:=As.mk (hbel.out.trans hb2)
                   replace ho2:=As.mk ho2
                   clear hk2 hat2 hb2)
      go_roundg gp
      case rel=>exact ⟨k+1,v',rfl,⟨by have:=hgk.out;omega⟩,by omega,(by first | rfl | go_num | (congr 1;omega)),by rw [hL'.out];rfl,⟨by rw [hsuc.out];exact OwnTx.snoc (hvl.out.trans hcl.out.symm) hvb.out (Nat.le_of_eq hpl.out) hby.out (by rw [hcl.out,hpl.out];exact ho2.out)⟩,hb3⟩
      case measure=>omega
    | some adx =>
      by_cases hcs:b=a
      · subst hcs
        have hby:As (Byt wE (some adx) ((t.drop b).take (b - b))):=⟨.inl (by rw [Nat.sub_self];simp [Zh])⟩
        have hpl:=hpl.trans (Nat.sub_self b)
        replace hpl:=As.mk hpl
        go_wp2_with (at_builtin
                     refine ZA _ rfl (.tmp 19) (.tmp 25) 73 rfl wx.heap.size 22 _ 1 24 Tryz.underlying73 Yt rfl (by decide) u k vs rfl hown.out [.slice (some adx) 0 0] rfl (by simp [Value.oneCell']) _ rfl (by simp) (by omega) (by decide) hbel.out.size ?_
                     intro v' w2 ho2 hk2 hat2 hb2
                     have hb3:=As.mk (hbel.out.trans hb2)
                     replace ho2:=As.mk ho2
                     clear hk2 hat2 hb2)
        go_roundg gp
        case rel=>exact ⟨k+1,v',rfl,⟨by have:=hgk.out;omega⟩,by omega,(by first | rfl | go_num | (congr 1;omega)),by rw [hL'.out],⟨by rw [hsuc.out];exact OwnTx.snoc (hvl.out.trans hcl.out.symm) hvb.out (Nat.le_of_eq hpl.out) hby.out (by rw [hcl.out,hpl.out];exact ho2.out)⟩,hb3⟩
        case measure=>omega
      · have hby:=As.mk (Byt.piece2 hbyt.out a (b - a))
        replace hpl:=As.mk hpl
        have hlt2:a<b:=by omega
        go_wp2_with (at_builtin
                     refine ZA _ rfl (.tmp 19) (.tmp 25) 73 rfl wx.heap.size 22 _ 1 24 Tryz.underlying73 Yt rfl (by decide) u k vs rfl hown.out [.slice (some (adx.add a)) (b - a) (b - a)] rfl (by simp [Value.oneCell']) _ rfl (by simp) (by omega) (by decide) hbel.out.size ?_
                     intro v' w2 ho2 hk2 hat2 hb2
                     have hb3:=As.mk (hbel.out.trans hb2)
                     replace ho2:=As.mk ho2
                     clear hk2 hat2 hb2)
        go_roundg gp
        case rel=>exact ⟨k+1,v',rfl,⟨by have:=hgk.out;omega⟩,by omega,(by first | rfl | go_num | (congr 1;omega)),by rw [hL'.out],⟨by rw [hsuc.out];exact OwnTx.snoc (hvl.out.trans hcl.out.symm) hvb.out (Nat.le_of_eq hpl.out) hby.out (by rw [hcl.out,hpl.out];exact ho2.out)⟩,hb3⟩
        case measure=>omega
  · obtain rfl:k=m+1:=by omega
    rw [← hql.out,List.take_length,hG.out] at hownt
    obtain ⟨vs,hvl,hown,hvb⟩:=hownt.out
    obtain ⟨A',c',rfl,hcc⟩:=Zk hown
    have hox:OwnTx wE base wr (.slice A' (YS t 0 ps).length c') (YS t 0 ps):=⟨vs,hvl,ZB hown (Nat.le_trans hbase hb2.out.size),hvb⟩
    rw [hfl.out] at hox ⊢
    replace hox:=As.mk hox
    clear hown hvb hvl
    go_wp2
    go_ret
    exact ⟨_,_,rfl,hox.out,hb2.out.trans (hbel.out.mono (Nat.le_trans hbase hb2.out.size))⟩
/-- A world's young blocks alone. -/
def X0 (w:World) (base:Nat):World:={ w with heap:=w.heap.mapIdx fun k o=>if k<base then .cells #[] 0 (0,0) else o }
theorem youngW_old (w:World) (base:Nat) {p:Addr} (h:p.block<base):(X0 w base).cell? p=none:=by
 unfold World.cell? X0
 simp only [Array.getElem?_mapIdx]
 cases hq:w.heap[p.block]? with
 | none=>rfl
 | some o=>simp [h]
theorem ZeM (w:World) (base:Nat) {p:Addr} (h:¬ p.block<base):(X0 w base).cell? p=w.cell? p:=by
 unfold World.cell? X0
 simp only [Array.getElem?_mapIdx]
 cases hq:w.heap[p.block]? with
 | none=>rfl
 | some o=>simp [h]
/-- Bytes of young blocks. -/
theorem byt_young {w:World} {base:Nat} {A:Option Addr} {b:Txt} (h:Byt w A b) (hA:∀ ad,A=some ad→base≤ad.block):Byt (X0 w base) A b:=by
 rcases h with h | ⟨ad,e,hlt,hc⟩
 · exact .inl h
 · refine .inr ⟨ad,e,by simpa [X0] using hlt,fun j u hu=>?_⟩
   rw [ZeM _ _ (by rw [Addr.block_add];have:=hA ad e;omega)]
   exact hc j u hu
theorem young_byt {w wv w':World} {base:Nat} {A:Option Addr} {b:Txt} {S:Nat→Prop} (h:Byt (X0 w base) A b) (hb:Below w.heap.size w wv) (hk:Keeps S wv w') (hS:∀ k,base≤k→k<wv.heap.size→¬ S k):Byt w' A b∧(b≠[]→∀ ad,A=some ad→base≤ad.block∧ad.block<w.heap.size):=by
 by_cases hn:b=[]
 · subst hn;exact ⟨.inl rfl,fun h=>absurd rfl h⟩
 · rcases h with h | ⟨ad,e,hlt,hc⟩
   · exact absurd (List.eq_nil_of_length_eq_zero (by have:=congrArg List.length h;rw [Zt] at this;exact this)) hn
   · have hlt':ad.block<w.heap.size:=by simpa [X0] using hlt
     have hbase:base≤ad.block:=by
      refine Nat.le_of_not_lt fun hl=>?_
      obtain ⟨ad',e',hz⟩:=Byt.at_ (w:=X0 w base) (A:=A) (b:=b) (.inr ⟨ad,e,hlt,hc⟩) (i:=0) (List.length_pos_iff.2 hn)
      rw [e] at e';injection e' with e';subst e'
      rw [youngW_old _ _ (by rw [Addr.block_add];exact hl)] at hz
      cases hz
     refine ⟨.inr ⟨ad,e,Nat.lt_of_lt_of_le hlt' (Nat.le_trans hb.size hk.size),fun j u hu=>?_⟩,fun _ ad' e'=>by rw [e] at e';injection e' with e';subst e';exact ⟨hbase,hlt'⟩⟩
     have h1:=hc j u hu
     rw [ZeM _ _ (by rw [Addr.block_add];omega)] at h1
     have h2:wv.cell? (ad.add j)=some u:=(hb.cell (p:=ad.add j) (by rw [Addr.block_add];exact hlt')).trans h1
     exact (hk.cell (p:=ad.add j) (by rw [Addr.block_add];exact Nat.lt_of_lt_of_le hlt' hb.size) (by rw [Addr.block_add];exact hS _ hbase (Nat.lt_of_lt_of_le hlt' hb.size))).trans h2
/-- Texts in young blocks, which stay while none of these is turned. -/
def TxtsY (base:Nat) (w:World) (A:Option Addr) (l:List Txt):Prop:=∀ (S:Nat→Prop) (w':World),Keeps S w w'→(∀ k,base≤k→k<w.heap.size→¬ S k) →
 ∃ vs:List Value,vs.length=l.length∧Row w' A vs∧∀ i,i<l.length→∃ A' c',vs[i]? = some (.slice A' (l.getD i []).length c')∧(l.getD i []).length≤c'∧Byt w' A' (l.getD i [])∧(l.getD i []≠[]→∀ ad,A'=some ad→base≤ad.block∧ad.block<w.heap.size)
theorem TxtsY.of {w w1:World} {base:Nat} {A:Option Addr} {n c:Nat} {l:List Txt} (h:OwnTx (X0 w base) base w1 (.slice A n c) l) (hl:l.length=n) (hb:Below w.heap.size w w1):TxtsY base w1 A l:=fun S w' hk hS=>by
 subst hl
 obtain ⟨vs,h1,h2,h3⟩:=h
 refine ⟨vs,h1,Row.of_own (Zj h2 hk (fun b c hb _ _=>?_)),fun i hi=>?_⟩
 · rename_i hq _
   exact hS b hb (Zf hq)
 · obtain ⟨A',c',a,b,d⟩:=h3 i hi
   obtain ⟨e,f⟩:=young_byt d hb hk hS
   exact ⟨A',c',a,b,e,fun hn ad hA=>⟨(f hn ad hA).1,Nat.lt_of_lt_of_le (f hn ad hA).2 hb.size⟩⟩
theorem pieces_of_calls (w:World) (A:Option Addr) (c:Nat) (t:Txt) (h:Byt w A t) (htl:t.length≤1000000) (B:Option Addr) (d:Nat) (cs:List Int) (hc:Row w B (Jg cs)) (hl:cs.length≤1000000) :
    Calls Tryz.prog 67 #[.slice A t.length c,.slice B cs.length d] w fun e w'=>∃ A' c',e=.returned (.slice A' (cs.length+1) c')∧cs.length+1≤c'∧TxtsY w.heap.size w' A' (Zv t cs)∧Below w.heap.size w w':=by
 have cc:=As.mk (ZR w A c t h htl)
 have HC:=As.mk hc
 have hpr:=As.mk (JO cs (Nat.zero_le t.length))
 have hpl:=As.mk (X8 t.length cs 0)
 unfold Zv
 obtain ⟨ps,hps⟩:∃ p,placesF t.length 0 cs=p:=⟨_,rfl⟩
 have cp:=As.mk (fun (v:World) (hv:Below w.heap.size w v)=>places_calls v t.length B d cs (Row.below HC.out hv) htl hl)
 rw [hps] at hpr hpl cp ⊢
 obtain ⟨n,hn⟩:∃ n,t.length=n:=⟨_,rfl⟩
 obtain ⟨m,hm⟩:∃ n,cs.length=n:=⟨_,rfl⟩
 rw [hn] at cc cp hpr htl ⊢
 rw [hm] at cp hpl hl ⊢
 replace hn:=As.mk hn
 clear hc h hps hm
 go_enter Tryz.func67,Tryz.ntmps67
 go_wp2_with fail
 refine Calls.mono cc.out ?_
 intro e w1 h1
 obtain ⟨v1,he,ho1,hb1⟩:=h1
 subst he
 obtain ⟨A1,c1,rfl,hc1⟩:=Zk ho1
 rw [hn.out] at hc1 ⊢
 have hby:=As.mk (Row.of_own ho1)
 have ho1':=As.mk ho1
 clear ho1
 replace hb1:=As.mk hb1
 go_wp2_with fail
 refine Calls.mono (cp.out w1 hb1.out) ?_
 rintro e w2 ⟨v2,he,ho2,hb2⟩
 subst he
 have hA1:∀ ad,A1=some ad→w.heap.size≤ad.block:=fun ad hA=>by
  rcases own_addr (by have h:=ho1'.out;unfold OwnByt at h;rw [hn.out] at h;exact h) with h | ⟨g,h,hg⟩
  · rw [h] at hA;cases hA
  · rw [h] at hA;injection hA with hA;subst hA;exact hg
 have cb:=As.mk (between_calls w2 w1.heap.size hb2.size A1 c1 t (X0 w1 w.heap.size) (byt_young hby.out hA1) (by rw [hn.out];exact hc1) (by rw [hn.out];exact htl) v2 ps (by rw [hpl.out];exact ho2) (by rw [hn.out];exact hpr.out) (by rw [hpl.out];exact hl))
 rw [hn.out,hpl.out] at cb
 replace hb2:=As.mk hb2
 clear ho2
 go_wp2_with (go_at_call 109
              refine Calls.mono cb.out ?_
              rintro e w3 ⟨A3,c3,rfl,ht3,hb3⟩
              obtain ⟨c3a,c3b⟩:m+1≤c3∧True:=⟨by obtain ⟨_,_,q,_⟩:=ht3;obtain ⟨Aq,cq,e,hq⟩:=Zk q;injection e with e1 e2 e3;rw [Yd,hpl.out] at e2 hq;omega,trivial⟩
              have hty:=As.mk (fun hb=>TxtsY.of (base:=w.heap.size) (by obtain ⟨vs,q1,q2,q3⟩:=ht3;exact ⟨vs,q1,ZB q2 hb1.out.size,q3⟩) (by rw [Yd,hpl.out]) hb)
              clear ht3)
 go_ret
 exact ⟨_,_,rfl,c3a,hty.out (hb2.out.trans hb3),hb1.out.trans ((hb2.out.trans hb3).mono hb1.out.size)⟩
end Go.Proofs.YtfdlaomnecjfeaaGreatDoor
end
section
namespace Go.Proofs.YtfdlaomnecjfeaaGreatDoor
open Go.RowKit Go.Shelf Seine.Trie Seine.Fg Seine.Eng
theorem ZeN (i:Bool) (file:Txt):tot (Z6 i file)≤file.length∧(Z6 i file).length≤file.length+1∧∀ t∈Z6 i file,t.length≤file.length:=by
 have H:∀ b:Txt,tot (Z0 b)≤b.length∧(Z0 b).length≤b.length+1:=fun b=>by
  constructor
  · have:=Xg b []
    unfold tot Z0
    simpa using this
  · rw [← Yf,List.length_map]
    exact Xr b 0 []
 have h2:tot (Z6 i file)≤file.length∧(Z6 i file).length≤file.length+1:=by
  unfold Z6
  split
  · have:=H (low file);rw [XK] at this;exact this
  · exact H file
 exact ⟨h2.1,h2.2,fun t ht=>Nat.le_trans (X7 ht) h2.1⟩
theorem ZcL (w:World) (A:Option Addr) (c:Nat) (file:Txt) (hf:Byt w A file) (hc:file.length≤c) (hfl:file.length≤1100) (o:Opt) (tag:Int) (I C:Value) :
    Calls Tryz.prog 65 #[.agg (Xv (.slice A file.length c) o tag I C)] w (BegPost w o tag file):=by
 by_cases h1:ZaY o=true
 · have he:Qn o tag file=10:=by unfold Qn;rw [if_pos h1]
   exact begin_bad w A _ c o tag I C _ h1 (fun w' hb=>BegPost.bad he (by decide) hb)
 · have h1f:ZaY o=false:=by simpa using h1
   by_cases h2:0≤tag∧tag≤3
   · by_cases h3:1024<file.length
     · have he:Qn o tag file=12:=by unfold Qn;rw [if_neg h1,if_neg (by omega),if_pos h3]
       exact begin_long w A _ c o tag I C _ h1f h2 (fun v hv=>load_long v A c file o.i h3) (fun w' hb=>BegPost.bad he (by decide) hb)
     · have he:Qn o tag file=Qe tag (Z6 o.i file):=by unfold Qn;rw [if_neg h1,if_neg (by omega),if_neg h3]
       obtain ⟨t1,t2,t3⟩:=ZeN o.i file
       have hL:∀ v,Below w.heap.size w v→Calls Tryz.prog 44 #[.slice A file.length c,.bool o.i] v fun e w'=>∃ V,e=.returned (.tuple #[V,.int .i64 0])∧PsAt w' v.heap.size V (Z6 o.i file)∧Below v.heap.size v w':=fun v hv=>by
        unfold Z6
        cases hi:o.i
        · simp only [Bool.false_eq_true,if_false]
          exact load_plain v A c file (Row.below hf hv) hc (by omega)
        · simp only [if_true]
          exact load_fold v A c file (Row.below hf hv) hc (by omega)
       by_cases h4:Qe tag (Z6 o.i file)=0
       · exact begin_right w A _ c o tag I C _ (Z6 o.i file) h1f h2 hL (by omega) (by omega) h4 (fun w0 W rb ob mb eg hb h=>BegPost.ok (by rw [he,h4]) hb h)
       · exact begin_wrong w A _ c o tag I C _ (Z6 o.i file) h1f h2 hL (by omega) (by omega) h4 (fun w' hb=>BegPost.bad he h4 hb)
   · have he:Qn o tag file=11:=by unfold Qn;rw [if_neg h1,if_pos (by omega)]
     exact begin_tag w A _ c o tag I C _ h1f h2 (fun w' hb=>BegPost.bad he (by decide) hb)
end Go.Proofs.YtfdlaomnecjfeaaGreatDoor
end
