/- Joined texts: Awake25, Law25, Door, Joined. -/
import Derived.Test.YtfdlaomnecjfeaaGreatDoorM17
import Derived.Lib.SlBytesConst
import Derived.Test.YtfdlaomnecjfeaaGreatDoorM16
import Derived.Test.YtfdlaomnecjfeaaGreatDoorRows
import Derived.Test.YtfdlaomnecjfeaaGreatDoorTie
import Derived.Test.YtfdlaomnecjfeaaGreatDoorCards
import Derived.Test.YtfdlaomnecjfeaaGreatDoorM1
import Derived.LaidMore
import Derived.LaidHandle
import Derived.MakeChecks
import Derived.Lib.LaidTab
import Derived.Stop.LaidErr
import Derived.Stop.Joined
import Derived.SevenTiedAt
import Derived.ProofKit
set_option linter.unusedVariables false
set_option linter.unusedSimpArgs false
section
namespace Go.Proofs.YtfdlaomnecjfeaaGreatDoor
open Go.RowKit Go.Shelf Seine.Trie Seine.Fg Seine.Eng
theorem ZfU {w:World} {rb t:Nat} {c0 c1 c2 c3 c4 c5 c6 c7 c8 c9 c10:Value} (b1 b2 b3 b4 b5 b6 b7:Value) (h:w.heap[rb]? = some (.cells #[c0,c1,c2,c3,c4,c5,c6,c7,c8,c9,c10] t (0,0))):(((((((w.setCell ⟨rb,1,none⟩ (b1)).setCell ⟨rb,2,none⟩ (b2)).setCell ⟨rb,3,none⟩ (b3)).setCell ⟨rb,4,none⟩ (b4)).setCell ⟨rb,5,none⟩ (b5)).setCell ⟨rb,6,none⟩ (b6)).setCell ⟨rb,7,none⟩ (b7)).heap[rb]? = some (.cells #[c0,b1,b2,b3,b4,b5,b6,b7,c8,c9,c10] t (0,0))∧Keeps (fun k=>k=rb) w (((((((w.setCell ⟨rb,1,none⟩ (b1)).setCell ⟨rb,2,none⟩ (b2)).setCell ⟨rb,3,none⟩ (b3)).setCell ⟨rb,4,none⟩ (b4)).setCell ⟨rb,5,none⟩ (b5)).setCell ⟨rb,6,none⟩ (b6)).setCell ⟨rb,7,none⟩ (b7)):=by
 have h1:(w.setCell ⟨rb,1,none⟩ (b1)).heap[rb]? = some (.cells #[c0,b1,c2,c3,c4,c5,c6,c7,c8,c9,c10] t (0,0)):=Zi h 1 b1
 have h2:((w.setCell ⟨rb,1,none⟩ (b1)).setCell ⟨rb,2,none⟩ (b2)).heap[rb]? = some (.cells #[c0,b1,b2,c3,c4,c5,c6,c7,c8,c9,c10] t (0,0)):=Zi h1 2 b2
 have h3:(((w.setCell ⟨rb,1,none⟩ (b1)).setCell ⟨rb,2,none⟩ (b2)).setCell ⟨rb,3,none⟩ (b3)).heap[rb]? = some (.cells #[c0,b1,b2,b3,c4,c5,c6,c7,c8,c9,c10] t (0,0)):=Zi h2 3 b3
 have h4:((((w.setCell ⟨rb,1,none⟩ (b1)).setCell ⟨rb,2,none⟩ (b2)).setCell ⟨rb,3,none⟩ (b3)).setCell ⟨rb,4,none⟩ (b4)).heap[rb]? = some (.cells #[c0,b1,b2,b3,b4,c5,c6,c7,c8,c9,c10] t (0,0)):=Zi h3 4 b4
 have h5:(((((w.setCell ⟨rb,1,none⟩ (b1)).setCell ⟨rb,2,none⟩ (b2)).setCell ⟨rb,3,none⟩ (b3)).setCell ⟨rb,4,none⟩ (b4)).setCell ⟨rb,5,none⟩ (b5)).heap[rb]? = some (.cells #[c0,b1,b2,b3,b4,b5,c6,c7,c8,c9,c10] t (0,0)):=Zi h4 5 b5
 have h6:((((((w.setCell ⟨rb,1,none⟩ (b1)).setCell ⟨rb,2,none⟩ (b2)).setCell ⟨rb,3,none⟩ (b3)).setCell ⟨rb,4,none⟩ (b4)).setCell ⟨rb,5,none⟩ (b5)).setCell ⟨rb,6,none⟩ (b6)).heap[rb]? = some (.cells #[c0,b1,b2,b3,b4,b5,b6,c7,c8,c9,c10] t (0,0)):=Zi h5 6 b6
 have h7:(((((((w.setCell ⟨rb,1,none⟩ (b1)).setCell ⟨rb,2,none⟩ (b2)).setCell ⟨rb,3,none⟩ (b3)).setCell ⟨rb,4,none⟩ (b4)).setCell ⟨rb,5,none⟩ (b5)).setCell ⟨rb,6,none⟩ (b6)).setCell ⟨rb,7,none⟩ (b7)).heap[rb]? = some (.cells #[c0,b1,b2,b3,b4,b5,b6,b7,c8,c9,c10] t (0,0)):=Zi h6 7 b7
 exact ⟨h7,(Keeps.trans (Keeps.trans (Keeps.trans (Keeps.trans (Keeps.trans (Keeps.trans (Zm w ⟨rb,1,none⟩ b1) (Zm _ ⟨rb,2,none⟩ b2)) (Zm _ ⟨rb,3,none⟩ b3)) (Zm _ ⟨rb,4,none⟩ b4)) (Zm _ ⟨rb,5,none⟩ b5)) (Zm _ ⟨rb,6,none⟩ b6)) (Zm _ ⟨rb,7,none⟩ b7))⟩
def awA:Rs:=QG ⟨false,false,false,false,false,false,false⟩ 0 [97,98,10,98] [120,97,98,10,99] []
theorem awA_o:awA.out=[120,97,98,10]:=by decide +kernel
def awB:Rs:=QG ⟨false,false,false,true,false,false,false⟩ 0 [97,98,10,98] [120,97,98,10,99] []
theorem awB_o:awB.out=[97,98,10]:=by decide +kernel
def awC:Rs:=QG ⟨false,false,false,false,false,true,false⟩ 0 [97,98,10,98] [120,97,98,10,99] []
theorem awC_o:awC.out=[99,10]:=by decide +kernel
def awD:Rs:=QG ⟨false,true,false,false,false,false,true⟩ 0 [97,98,10,98] [120,97,98,10,99] []
theorem awD_o:awD.out=[48,10]:=by decide +kernel
theorem awA_s:awA.status=0:=by decide +kernel
theorem awD_s:awD.status=1:=by decide +kernel
theorem awA_h:awA.cn.h=5:=by decide +kernel
set_option maxRecDepth 100000 in
set_option maxHeartbeats 3200000 in
theorem awake25_calls (w:World) (hT:Tab w):Calls Tryz.prog 30 #[] w fun e w'=>e=.returned (.bool true)∧Below w.heap.size w w':=by
 have kc:∀ (W:World) (C:Array Value) (n c b:Nat),b=W.heap.size→(convert 22 22 (.slice (some ⟨b,0,none⟩) n c)).run Tryz.prog (W.alloc (.cells C 5))=.ok (.slice (some ⟨b,0,none⟩) n c) (W.alloc (.cells C 5 (C.size,C.size+1))):=fun W C n c b h=>by
  subst h;exact Lib.run_convert_bytes_const (P:=Tryz.prog) W 22 5 C n c Tryz.underlying22 Tryz.underlying5
 have cR:=As.mk (fun (v:World) (hv:Below w.heap.size w v) (fb ib:Nat) (hf:Byt v (some ⟨fb,0,none⟩) [97,98,10,98]) (hi:Byt v (some ⟨ib,0,none⟩) [120,97,98,10,99]) (o:Opt)=>Za4 v (hT.below hv) (some ⟨fb,0,none⟩) 4 [97,98,10,98] hf (by decide) (by decide) o 0 (some ⟨ib,0,none⟩) 5 [120,97,98,10,99] hi (by decide) none 0 [] (.inl rfl) (by decide))
 go_enter Tryz.func30,Tryz.ntmps30
 have hlit1:Byt ((w.alloc (.cells #[.int .u8 97,.int .u8 98,.int .u8 10,.int .u8 98] 5 (4,5)))) (some ⟨w.heap.size,0,none⟩) [97,98,10,98]:=ZfN [97,98,10,98] [.int .u8 97,.int .u8 98,.int .u8 10,.int .u8 98] rfl (by (repeat (first | (with_reducible assumption) | (with_reducible exact heap_alloc_new _ _) | (exact Yo (by (first | omega | (simp only [World.size_alloc,World.size_drew];done) | (simp only [World.size_alloc,World.size_drew];omega)))) | (with_reducible refine ZdS ?_) | (with_reducible refine Zn ?_) | (refine Zc (by with_reducible assumption) ?_))))
 go_upto_region 2 with fail
 obtain ⟨W1,hW1⟩:∃ W,(((w.alloc (.cells #[.int .u8 97,.int .u8 98,.int .u8 10,.int .u8 98] 5 (4,5))).alloc (.cells #[.int .u8 120,.int .u8 97,.int .u8 98,.int .u8 10,.int .u8 99] 5 (5,6))).alloc (.cells #[.slice (some ⟨w.heap.size,0,none⟩) 4 4,.bool false,.bool false,.bool false,.bool false,.bool false,.bool false,.bool false,.int .i64 0,.slice (some ⟨w.heap.size+1,0,none⟩) 5 5,.slice none 0 0] 49))=W:=⟨_,rfl⟩
 have hf1:Byt W1 (some ⟨w.heap.size,0,none⟩) [97,98,10,98]:=by rw [← hW1];exact Row.alloc (Row.alloc hlit1 _) _
 have hi1:Byt W1 (some ⟨w.heap.size+1,0,none⟩) [120,97,98,10,99]:=by rw [← hW1];exact ZfN [120,97,98,10,99] [.int .u8 120,.int .u8 97,.int .u8 98,.int .u8 10,.int .u8 99] rfl (by (repeat (first | (with_reducible assumption) | (with_reducible exact heap_alloc_new _ _) | (exact Yo (by (first | omega | (simp only [World.size_alloc,World.size_drew];done) | (simp only [World.size_alloc,World.size_drew];omega)))) | (with_reducible refine ZdS ?_) | (with_reducible refine Zn ?_) | (refine Zc (by with_reducible assumption) ?_))))
 have hs1:W1.heap[w.heap.size+1+1]? = some (.cells #[.slice (some ⟨w.heap.size,0,none⟩) 4 4,.bool false,.bool false,.bool false,.bool false,.bool false,.bool false,.bool false,.int .i64 0,.slice (some ⟨w.heap.size+1,0,none⟩) 5 5,.slice none 0 0] 49 (0,0)):=by rw [← hW1];(repeat (first | (with_reducible assumption) | (with_reducible exact heap_alloc_new _ _) | (exact Yo (by (first | omega | (simp only [World.size_alloc,World.size_drew];done) | (simp only [World.size_alloc,World.size_drew];omega)))) | (with_reducible refine ZdS ?_) | (with_reducible refine Zn ?_) | (refine Zc (by with_reducible assumption) ?_)))
 have hb1:Below w.heap.size w W1:=by rw [← hW1];(repeat (first | (with_reducible assumption) | (with_reducible exact Below.refl _ _) | (with_reducible refine Below.drew ?_) | (with_reducible refine ZF ?_ _) | (with_reducible refine Below.alloc ?_ (by (first | omega | (simp only [World.size_alloc,World.size_drew];done) | (simp only [World.size_alloc,World.size_drew];omega))) _) | (refine Below.trans ?_ (Below.mono (by with_reducible assumption) (by (first | omega | (simp only [World.size_alloc,World.size_drew];done) | (simp only [World.size_alloc,World.size_drew];omega)))))))
 rw [hW1]
 clear hW1 hlit1
 obtain ⟨fb,hfb⟩:∃ k,w.heap.size=k:=⟨_,rfl⟩
 obtain ⟨ib,hib⟩:∃ k,w.heap.size+1=k:=⟨_,rfl⟩
 obtain ⟨sb,hsb⟩:∃ k,w.heap.size+1+1=k:=⟨_,rfl⟩
 have hz0:=As.mk (show w.heap.size≤sb by omega)
 rw [hsb,hib,hfb] at hs1 ⊢
 rw [hfb] at hf1
 rw [hib] at hi1
 replace hfb:=As.mk hfb
 replace hib:=As.mk hib
 replace hsb:=As.mk hsb
 have x0:W1.cell? ⟨sb,0,none⟩=some (.slice (some ⟨fb,0,none⟩) 4 4):=Za hs1 0
 have y0:W1.frozen? ⟨sb,0,none⟩=false:=Zb hs1 0
 have x1:W1.cell? ⟨sb,1,none⟩=some (.bool false):=Za hs1 1
 have y1:W1.frozen? ⟨sb,1,none⟩=false:=Zb hs1 1
 have x2:W1.cell? ⟨sb,2,none⟩=some (.bool false):=Za hs1 2
 have y2:W1.frozen? ⟨sb,2,none⟩=false:=Zb hs1 2
 have x3:W1.cell? ⟨sb,3,none⟩=some (.bool false):=Za hs1 3
 have y3:W1.frozen? ⟨sb,3,none⟩=false:=Zb hs1 3
 have x4:W1.cell? ⟨sb,4,none⟩=some (.bool false):=Za hs1 4
 have y4:W1.frozen? ⟨sb,4,none⟩=false:=Zb hs1 4
 have x5:W1.cell? ⟨sb,5,none⟩=some (.bool false):=Za hs1 5
 have y5:W1.frozen? ⟨sb,5,none⟩=false:=Zb hs1 5
 have x6:W1.cell? ⟨sb,6,none⟩=some (.bool false):=Za hs1 6
 have y6:W1.frozen? ⟨sb,6,none⟩=false:=Zb hs1 6
 have x7:W1.cell? ⟨sb,7,none⟩=some (.bool false):=Za hs1 7
 have y7:W1.frozen? ⟨sb,7,none⟩=false:=Zb hs1 7
 have x8:W1.cell? ⟨sb,8,none⟩=some (.int .i64 0):=Za hs1 8
 have y8:W1.frozen? ⟨sb,8,none⟩=false:=Zb hs1 8
 have x9:W1.cell? ⟨sb,9,none⟩=some (.slice (some ⟨ib,0,none⟩) 5 5):=Za hs1 9
 have y9:W1.frozen? ⟨sb,9,none⟩=false:=Zb hs1 9
 have x10:W1.cell? ⟨sb,10,none⟩=some (.slice none 0 0):=Za hs1 10
 have y10:W1.frozen? ⟨sb,10,none⟩=false:=Zb hs1 10
 have cR1:=As.mk (by have:=cR.out W1 hb1 fb ib hf1 hi1 ⟨false,false,false,false,false,false,false⟩;exact this:Calls Tryz.prog 32 #[.agg #[.slice (some ⟨fb,0,none⟩) 4 4,.bool false,.bool false,.bool false,.bool false,.bool false,.bool false,.bool false,.int .i64 0,.slice (some ⟨ib,0,none⟩) 5 5,.slice none 0 0]] W1 (RunPost W1 awA))
 replace hf1:=As.mk hf1
 replace hi1:=As.mk hi1
 replace hs1:=As.mk hs1
 replace hb1:=As.mk hb1
 go_wp2_with fail
 refine Calls.mono cR1.out ?_
 rintro e v2 ⟨u,rfl,ho,hb⟩
 obtain ⟨AA,cA,rfl,hc,_⟩:=OwnByt.row ho
 unfold Ji
 rw [awA_o] at ho ⊢
 rw [show List.length [(120:UInt8),97,98,10]=4 from rfl]
 rw [awA_s,awA_h]
 clear x0 y0 x1 y1 x2 y2 x3 y3 x4 y4 x5 y5 x6 y6 x7 y7 x8 y8 x9 y9 x10 y10
 replace ho:=As.mk ho
 replace hb:=As.mk hb
 go_upto_region 3 with fail
 have hbA:Below W1.heap.size W1 (v2.alloc (.cells #[.slice AA 4 cA,.int .i64 0,.int .i64 awA.err,.int .i64 awA.line,.int .i64 awA.cn.s,.int .i64 awA.cn.l,.int .i64 5,.int .i64 awA.cn.m] 31)):=hb.out.alloc hb.out.size _
 have hrA:=heap_alloc_new v2 (.cells #[.slice AA 4 cA,.int .i64 0,.int .i64 awA.err,.int .i64 awA.line,.int .i64 awA.cn.s,.int .i64 awA.cn.l,.int .i64 5,.int .i64 awA.cn.m] 31)
 have hoA:=ho.out.alloc (.cells #[.slice AA 4 cA,.int .i64 0,.int .i64 awA.err,.int .i64 awA.line,.int .i64 awA.cn.s,.int .i64 awA.cn.l,.int .i64 5,.int .i64 awA.cn.m] 31)
 have hltA:sb<W1.heap.size:=Nat.lt_of_lt_of_le (Zf hs1.out) (Nat.le_refl _)
 obtain ⟨V2,hV⟩:∃ W,v2.alloc (.cells #[.slice AA 4 cA,.int .i64 0,.int .i64 awA.err,.int .i64 awA.line,.int .i64 awA.cn.s,.int .i64 awA.cn.l,.int .i64 5,.int .i64 awA.cn.m] 31)=W:=⟨_,rfl⟩
 obtain ⟨rA,hrr⟩:∃ k,v2.heap.size=k:=⟨_,rfl⟩
 rw [hV] at hbA hrA hoA ⊢
 rw [hrr] at hrA ⊢
 clear hV hrr hb ho cR1 hc
 have hf2:=Row.below hf1.out hbA
 have hi2:=Row.below hi1.out hbA
 have hs2:=Zc hbA hs1.out
 have hb2:=Ze hb1.out hbA
 clear hbA hf1 hi1 hs1 hb1
 have x0:V2.cell? ⟨sb,0,none⟩=some (.slice (some ⟨fb,0,none⟩) 4 4):=Za hs2 0
 have y0:V2.frozen? ⟨sb,0,none⟩=false:=Zb hs2 0
 have x1:V2.cell? ⟨sb,1,none⟩=some (.bool false):=Za hs2 1
 have y1:V2.frozen? ⟨sb,1,none⟩=false:=Zb hs2 1
 have x2:V2.cell? ⟨sb,2,none⟩=some (.bool false):=Za hs2 2
 have y2:V2.frozen? ⟨sb,2,none⟩=false:=Zb hs2 2
 have x3:V2.cell? ⟨sb,3,none⟩=some (.bool false):=Za hs2 3
 have y3:V2.frozen? ⟨sb,3,none⟩=false:=Zb hs2 3
 have x4:V2.cell? ⟨sb,4,none⟩=some (.bool false):=Za hs2 4
 have y4:V2.frozen? ⟨sb,4,none⟩=false:=Zb hs2 4
 have x5:V2.cell? ⟨sb,5,none⟩=some (.bool false):=Za hs2 5
 have y5:V2.frozen? ⟨sb,5,none⟩=false:=Zb hs2 5
 have x6:V2.cell? ⟨sb,6,none⟩=some (.bool false):=Za hs2 6
 have y6:V2.frozen? ⟨sb,6,none⟩=false:=Zb hs2 6
 have x7:V2.cell? ⟨sb,7,none⟩=some (.bool false):=Za hs2 7
 have y7:V2.frozen? ⟨sb,7,none⟩=false:=Zb hs2 7
 have x8:V2.cell? ⟨sb,8,none⟩=some (.int .i64 0):=Za hs2 8
 have y8:V2.frozen? ⟨sb,8,none⟩=false:=Zb hs2 8
 have x9:V2.cell? ⟨sb,9,none⟩=some (.slice (some ⟨ib,0,none⟩) 5 5):=Za hs2 9
 have y9:V2.frozen? ⟨sb,9,none⟩=false:=Zb hs2 9
 have x10:V2.cell? ⟨sb,10,none⟩=some (.slice none 0 0):=Za hs2 10
 have y10:V2.frozen? ⟨sb,10,none⟩=false:=Zb hs2 10
 go_upto_region 4 with fail
 obtain ⟨hs1,hk1⟩:=ZfU (.bool false) (.bool false) (.bool false) (.bool true) (.bool false) (.bool false) (.bool false) hs2
 obtain ⟨W2,hW⟩:∃ W,(((((((V2.setCell ⟨sb,1,none⟩ (.bool false)).setCell ⟨sb,2,none⟩ (.bool false)).setCell ⟨sb,3,none⟩ (.bool false)).setCell ⟨sb,4,none⟩ (.bool true)).setCell ⟨sb,5,none⟩ (.bool false)).setCell ⟨sb,6,none⟩ (.bool false)).setCell ⟨sb,7,none⟩ (.bool false))=W:=⟨_,rfl⟩
 rw [hW] at hs1 hk1 ⊢
 clear hW
 clear x0 y0 x1 y1 x2 y2 x3 y3 x4 y4 x5 y5 x6 y6 x7 y7 x8 y8 x9 y9 x10 y10
 have hf1:=Row.keep hf2 hk1 (fun ad e _ h=>by injection e with e;subst e;have h:fb=sb:=h;have:=hfb.out;have:=hsb.out;omega)
 have hi1:=Row.keep hi2 hk1 (fun ad e _ h=>by injection e with e;subst e;have h:ib=sb:=h;have:=hib.out;have:=hsb.out;omega)
 have hb1:=hb2.trans (hk1.below (fun k hk h=>by have h:k=sb:=h;have:=hz0.out;omega) hb2.size)
 have hrA:=As.mk (Zd hrA hk1 (fun e=>Zp hrA hs2 (by decide) e))
 have hoA:=As.mk (Zj hoA hk1 (fun b c hb _ _ h=>by have h:b=sb:=h;omega))
 clear hf2 hi2 hs2 hb2 hk1
 have x0:W2.cell? ⟨sb,0,none⟩=some (.slice (some ⟨fb,0,none⟩) 4 4):=Za hs1 0
 have y0:W2.frozen? ⟨sb,0,none⟩=false:=Zb hs1 0
 have x1:W2.cell? ⟨sb,1,none⟩=some (.bool false):=Za hs1 1
 have y1:W2.frozen? ⟨sb,1,none⟩=false:=Zb hs1 1
 have x2:W2.cell? ⟨sb,2,none⟩=some (.bool false):=Za hs1 2
 have y2:W2.frozen? ⟨sb,2,none⟩=false:=Zb hs1 2
 have x3:W2.cell? ⟨sb,3,none⟩=some (.bool false):=Za hs1 3
 have y3:W2.frozen? ⟨sb,3,none⟩=false:=Zb hs1 3
 have x4:W2.cell? ⟨sb,4,none⟩=some (.bool true):=Za hs1 4
 have y4:W2.frozen? ⟨sb,4,none⟩=false:=Zb hs1 4
 have x5:W2.cell? ⟨sb,5,none⟩=some (.bool false):=Za hs1 5
 have y5:W2.frozen? ⟨sb,5,none⟩=false:=Zb hs1 5
 have x6:W2.cell? ⟨sb,6,none⟩=some (.bool false):=Za hs1 6
 have y6:W2.frozen? ⟨sb,6,none⟩=false:=Zb hs1 6
 have x7:W2.cell? ⟨sb,7,none⟩=some (.bool false):=Za hs1 7
 have y7:W2.frozen? ⟨sb,7,none⟩=false:=Zb hs1 7
 have x8:W2.cell? ⟨sb,8,none⟩=some (.int .i64 0):=Za hs1 8
 have y8:W2.frozen? ⟨sb,8,none⟩=false:=Zb hs1 8
 have x9:W2.cell? ⟨sb,9,none⟩=some (.slice (some ⟨ib,0,none⟩) 5 5):=Za hs1 9
 have y9:W2.frozen? ⟨sb,9,none⟩=false:=Zb hs1 9
 have x10:W2.cell? ⟨sb,10,none⟩=some (.slice none 0 0):=Za hs1 10
 have y10:W2.frozen? ⟨sb,10,none⟩=false:=Zb hs1 10
 have cR1:=As.mk (by have:=cR.out W2 hb1 fb ib hf1 hi1 ⟨false,false,false,true,false,false,false⟩;exact this:Calls Tryz.prog 32 #[.agg #[.slice (some ⟨fb,0,none⟩) 4 4,.bool false,.bool false,.bool false,.bool true,.bool false,.bool false,.bool false,.int .i64 0,.slice (some ⟨ib,0,none⟩) 5 5,.slice none 0 0]] W2 (RunPost W2 awB))
 replace hf1:=As.mk hf1
 replace hi1:=As.mk hi1
 replace hs1:=As.mk hs1
 replace hb1:=As.mk hb1
 go_wp2_with fail
 refine Calls.mono cR1.out ?_
 rintro e v3 ⟨u,rfl,ho,hb⟩
 obtain ⟨AB,cB,rfl,hc,_⟩:=OwnByt.row ho
 unfold Ji
 rw [awB_o] at ho ⊢
 rw [show List.length [(97:UInt8),98,10]=3 from rfl]
 clear x0 y0 x1 y1 x2 y2 x3 y3 x4 y4 x5 y5 x6 y6 x7 y7 x8 y8 x9 y9 x10 y10
 replace ho:=As.mk ho
 replace hb:=As.mk hb
 go_upto_region 5 with fail
 have hbA:Below W2.heap.size W2 (v3.alloc (.cells #[.slice AB 3 cB,.int .i64 awB.status,.int .i64 awB.err,.int .i64 awB.line,.int .i64 awB.cn.s,.int .i64 awB.cn.l,.int .i64 awB.cn.h,.int .i64 awB.cn.m] 31)):=hb.out.alloc hb.out.size _
 have hrB:=heap_alloc_new v3 (.cells #[.slice AB 3 cB,.int .i64 awB.status,.int .i64 awB.err,.int .i64 awB.line,.int .i64 awB.cn.s,.int .i64 awB.cn.l,.int .i64 awB.cn.h,.int .i64 awB.cn.m] 31)
 have hoB:=ho.out.alloc (.cells #[.slice AB 3 cB,.int .i64 awB.status,.int .i64 awB.err,.int .i64 awB.line,.int .i64 awB.cn.s,.int .i64 awB.cn.l,.int .i64 awB.cn.h,.int .i64 awB.cn.m] 31)
 have hltB:sb<W2.heap.size:=Nat.lt_of_lt_of_le (Zf hs1.out) (Nat.le_refl _)
 obtain ⟨V3,hV⟩:∃ W,v3.alloc (.cells #[.slice AB 3 cB,.int .i64 awB.status,.int .i64 awB.err,.int .i64 awB.line,.int .i64 awB.cn.s,.int .i64 awB.cn.l,.int .i64 awB.cn.h,.int .i64 awB.cn.m] 31)=W:=⟨_,rfl⟩
 obtain ⟨rB,hrr⟩:∃ k,v3.heap.size=k:=⟨_,rfl⟩
 rw [hV] at hbA hrB hoB ⊢
 rw [hrr] at hrB ⊢
 clear hV hrr hb ho cR1 hc
 have hrA:=Zc hbA hrA.out
 have hoA:=Zo hoA.out hbA
 have hf2:=Row.below hf1.out hbA
 have hi2:=Row.below hi1.out hbA
 have hs2:=Zc hbA hs1.out
 have hb2:=Ze hb1.out hbA
 clear hbA hf1 hi1 hs1 hb1
 have x0:V3.cell? ⟨sb,0,none⟩=some (.slice (some ⟨fb,0,none⟩) 4 4):=Za hs2 0
 have y0:V3.frozen? ⟨sb,0,none⟩=false:=Zb hs2 0
 have x1:V3.cell? ⟨sb,1,none⟩=some (.bool false):=Za hs2 1
 have y1:V3.frozen? ⟨sb,1,none⟩=false:=Zb hs2 1
 have x2:V3.cell? ⟨sb,2,none⟩=some (.bool false):=Za hs2 2
 have y2:V3.frozen? ⟨sb,2,none⟩=false:=Zb hs2 2
 have x3:V3.cell? ⟨sb,3,none⟩=some (.bool false):=Za hs2 3
 have y3:V3.frozen? ⟨sb,3,none⟩=false:=Zb hs2 3
 have x4:V3.cell? ⟨sb,4,none⟩=some (.bool true):=Za hs2 4
 have y4:V3.frozen? ⟨sb,4,none⟩=false:=Zb hs2 4
 have x5:V3.cell? ⟨sb,5,none⟩=some (.bool false):=Za hs2 5
 have y5:V3.frozen? ⟨sb,5,none⟩=false:=Zb hs2 5
 have x6:V3.cell? ⟨sb,6,none⟩=some (.bool false):=Za hs2 6
 have y6:V3.frozen? ⟨sb,6,none⟩=false:=Zb hs2 6
 have x7:V3.cell? ⟨sb,7,none⟩=some (.bool false):=Za hs2 7
 have y7:V3.frozen? ⟨sb,7,none⟩=false:=Zb hs2 7
 have x8:V3.cell? ⟨sb,8,none⟩=some (.int .i64 0):=Za hs2 8
 have y8:V3.frozen? ⟨sb,8,none⟩=false:=Zb hs2 8
 have x9:V3.cell? ⟨sb,9,none⟩=some (.slice (some ⟨ib,0,none⟩) 5 5):=Za hs2 9
 have y9:V3.frozen? ⟨sb,9,none⟩=false:=Zb hs2 9
 have x10:V3.cell? ⟨sb,10,none⟩=some (.slice none 0 0):=Za hs2 10
 have y10:V3.frozen? ⟨sb,10,none⟩=false:=Zb hs2 10
 go_upto_region 6 with fail
 obtain ⟨hs1,hk1⟩:=ZfU (.bool false) (.bool false) (.bool false) (.bool false) (.bool false) (.bool true) (.bool false) hs2
 obtain ⟨W3,hW⟩:∃ W,(((((((V3.setCell ⟨sb,1,none⟩ (.bool false)).setCell ⟨sb,2,none⟩ (.bool false)).setCell ⟨sb,3,none⟩ (.bool false)).setCell ⟨sb,4,none⟩ (.bool false)).setCell ⟨sb,5,none⟩ (.bool false)).setCell ⟨sb,6,none⟩ (.bool true)).setCell ⟨sb,7,none⟩ (.bool false))=W:=⟨_,rfl⟩
 rw [hW] at hs1 hk1 ⊢
 clear hW
 clear x0 y0 x1 y1 x2 y2 x3 y3 x4 y4 x5 y5 x6 y6 x7 y7 x8 y8 x9 y9 x10 y10
 have hf1:=Row.keep hf2 hk1 (fun ad e _ h=>by injection e with e;subst e;have h:fb=sb:=h;have:=hfb.out;have:=hsb.out;omega)
 have hi1:=Row.keep hi2 hk1 (fun ad e _ h=>by injection e with e;subst e;have h:ib=sb:=h;have:=hib.out;have:=hsb.out;omega)
 have hb1:=hb2.trans (hk1.below (fun k hk h=>by have h:k=sb:=h;have:=hz0.out;omega) hb2.size)
 have hrA:=As.mk (Zd hrA hk1 (fun e=>Zp hrA hs2 (by decide) e))
 have hoA:=As.mk (Zj hoA hk1 (fun b c hb _ _ h=>by have h:b=sb:=h;omega))
 have hrB:=As.mk (Zd hrB hk1 (fun e=>Zp hrB hs2 (by decide) e))
 have hoB:=As.mk (Zj hoB hk1 (fun b c hb _ _ h=>by have h:b=sb:=h;omega))
 clear hf2 hi2 hs2 hb2 hk1
 have x0:W3.cell? ⟨sb,0,none⟩=some (.slice (some ⟨fb,0,none⟩) 4 4):=Za hs1 0
 have y0:W3.frozen? ⟨sb,0,none⟩=false:=Zb hs1 0
 have x1:W3.cell? ⟨sb,1,none⟩=some (.bool false):=Za hs1 1
 have y1:W3.frozen? ⟨sb,1,none⟩=false:=Zb hs1 1
 have x2:W3.cell? ⟨sb,2,none⟩=some (.bool false):=Za hs1 2
 have y2:W3.frozen? ⟨sb,2,none⟩=false:=Zb hs1 2
 have x3:W3.cell? ⟨sb,3,none⟩=some (.bool false):=Za hs1 3
 have y3:W3.frozen? ⟨sb,3,none⟩=false:=Zb hs1 3
 have x4:W3.cell? ⟨sb,4,none⟩=some (.bool false):=Za hs1 4
 have y4:W3.frozen? ⟨sb,4,none⟩=false:=Zb hs1 4
 have x5:W3.cell? ⟨sb,5,none⟩=some (.bool false):=Za hs1 5
 have y5:W3.frozen? ⟨sb,5,none⟩=false:=Zb hs1 5
 have x6:W3.cell? ⟨sb,6,none⟩=some (.bool true):=Za hs1 6
 have y6:W3.frozen? ⟨sb,6,none⟩=false:=Zb hs1 6
 have x7:W3.cell? ⟨sb,7,none⟩=some (.bool false):=Za hs1 7
 have y7:W3.frozen? ⟨sb,7,none⟩=false:=Zb hs1 7
 have x8:W3.cell? ⟨sb,8,none⟩=some (.int .i64 0):=Za hs1 8
 have y8:W3.frozen? ⟨sb,8,none⟩=false:=Zb hs1 8
 have x9:W3.cell? ⟨sb,9,none⟩=some (.slice (some ⟨ib,0,none⟩) 5 5):=Za hs1 9
 have y9:W3.frozen? ⟨sb,9,none⟩=false:=Zb hs1 9
 have x10:W3.cell? ⟨sb,10,none⟩=some (.slice none 0 0):=Za hs1 10
 have y10:W3.frozen? ⟨sb,10,none⟩=false:=Zb hs1 10
 have cR1:=As.mk (by have:=cR.out W3 hb1 fb ib hf1 hi1 ⟨false,false,false,false,false,true,false⟩;exact this:Calls Tryz.prog 32 #[.agg #[.slice (some ⟨fb,0,none⟩) 4 4,.bool false,.bool false,.bool false,.bool false,.bool false,.bool true,.bool false,.int .i64 0,.slice (some ⟨ib,0,none⟩) 5 5,.slice none 0 0]] W3 (RunPost W3 awC))
 replace hf1:=As.mk hf1
 replace hi1:=As.mk hi1
 replace hs1:=As.mk hs1
 replace hb1:=As.mk hb1
 go_wp2_with fail
 refine Calls.mono cR1.out ?_
 rintro e v4 ⟨u,rfl,ho,hb⟩
 obtain ⟨AC,cC,rfl,hc,_⟩:=OwnByt.row ho
 unfold Ji
 rw [awC_o] at ho ⊢
 rw [show List.length [(99:UInt8),10]=2 from rfl]
 clear x0 y0 x1 y1 x2 y2 x3 y3 x4 y4 x5 y5 x6 y6 x7 y7 x8 y8 x9 y9 x10 y10
 replace ho:=As.mk ho
 replace hb:=As.mk hb
 go_upto_region 7 with fail
 have hbA:Below W3.heap.size W3 (v4.alloc (.cells #[.slice AC 2 cC,.int .i64 awC.status,.int .i64 awC.err,.int .i64 awC.line,.int .i64 awC.cn.s,.int .i64 awC.cn.l,.int .i64 awC.cn.h,.int .i64 awC.cn.m] 31)):=hb.out.alloc hb.out.size _
 have hrC:=heap_alloc_new v4 (.cells #[.slice AC 2 cC,.int .i64 awC.status,.int .i64 awC.err,.int .i64 awC.line,.int .i64 awC.cn.s,.int .i64 awC.cn.l,.int .i64 awC.cn.h,.int .i64 awC.cn.m] 31)
 have hoC:=ho.out.alloc (.cells #[.slice AC 2 cC,.int .i64 awC.status,.int .i64 awC.err,.int .i64 awC.line,.int .i64 awC.cn.s,.int .i64 awC.cn.l,.int .i64 awC.cn.h,.int .i64 awC.cn.m] 31)
 have hltC:sb<W3.heap.size:=Nat.lt_of_lt_of_le (Zf hs1.out) (Nat.le_refl _)
 obtain ⟨V4,hV⟩:∃ W,v4.alloc (.cells #[.slice AC 2 cC,.int .i64 awC.status,.int .i64 awC.err,.int .i64 awC.line,.int .i64 awC.cn.s,.int .i64 awC.cn.l,.int .i64 awC.cn.h,.int .i64 awC.cn.m] 31)=W:=⟨_,rfl⟩
 obtain ⟨rC,hrr⟩:∃ k,v4.heap.size=k:=⟨_,rfl⟩
 rw [hV] at hbA hrC hoC ⊢
 rw [hrr] at hrC ⊢
 clear hV hrr hb ho cR1 hc
 have hrA:=Zc hbA hrA.out
 have hoA:=Zo hoA.out hbA
 have hrB:=Zc hbA hrB.out
 have hoB:=Zo hoB.out hbA
 have hf2:=Row.below hf1.out hbA
 have hi2:=Row.below hi1.out hbA
 have hs2:=Zc hbA hs1.out
 have hb2:=Ze hb1.out hbA
 clear hbA hf1 hi1 hs1 hb1
 have x0:V4.cell? ⟨sb,0,none⟩=some (.slice (some ⟨fb,0,none⟩) 4 4):=Za hs2 0
 have y0:V4.frozen? ⟨sb,0,none⟩=false:=Zb hs2 0
 have x1:V4.cell? ⟨sb,1,none⟩=some (.bool false):=Za hs2 1
 have y1:V4.frozen? ⟨sb,1,none⟩=false:=Zb hs2 1
 have x2:V4.cell? ⟨sb,2,none⟩=some (.bool false):=Za hs2 2
 have y2:V4.frozen? ⟨sb,2,none⟩=false:=Zb hs2 2
 have x3:V4.cell? ⟨sb,3,none⟩=some (.bool false):=Za hs2 3
 have y3:V4.frozen? ⟨sb,3,none⟩=false:=Zb hs2 3
 have x4:V4.cell? ⟨sb,4,none⟩=some (.bool false):=Za hs2 4
 have y4:V4.frozen? ⟨sb,4,none⟩=false:=Zb hs2 4
 have x5:V4.cell? ⟨sb,5,none⟩=some (.bool false):=Za hs2 5
 have y5:V4.frozen? ⟨sb,5,none⟩=false:=Zb hs2 5
 have x6:V4.cell? ⟨sb,6,none⟩=some (.bool true):=Za hs2 6
 have y6:V4.frozen? ⟨sb,6,none⟩=false:=Zb hs2 6
 have x7:V4.cell? ⟨sb,7,none⟩=some (.bool false):=Za hs2 7
 have y7:V4.frozen? ⟨sb,7,none⟩=false:=Zb hs2 7
 have x8:V4.cell? ⟨sb,8,none⟩=some (.int .i64 0):=Za hs2 8
 have y8:V4.frozen? ⟨sb,8,none⟩=false:=Zb hs2 8
 have x9:V4.cell? ⟨sb,9,none⟩=some (.slice (some ⟨ib,0,none⟩) 5 5):=Za hs2 9
 have y9:V4.frozen? ⟨sb,9,none⟩=false:=Zb hs2 9
 have x10:V4.cell? ⟨sb,10,none⟩=some (.slice none 0 0):=Za hs2 10
 have y10:V4.frozen? ⟨sb,10,none⟩=false:=Zb hs2 10
 go_upto_region 8 with fail
 obtain ⟨hs1,hk1⟩:=ZfU (.bool false) (.bool true) (.bool false) (.bool false) (.bool false) (.bool false) (.bool true) hs2
 obtain ⟨W4,hW⟩:∃ W,(((((((V4.setCell ⟨sb,1,none⟩ (.bool false)).setCell ⟨sb,2,none⟩ (.bool true)).setCell ⟨sb,3,none⟩ (.bool false)).setCell ⟨sb,4,none⟩ (.bool false)).setCell ⟨sb,5,none⟩ (.bool false)).setCell ⟨sb,6,none⟩ (.bool false)).setCell ⟨sb,7,none⟩ (.bool true))=W:=⟨_,rfl⟩
 rw [hW] at hs1 hk1 ⊢
 clear hW
 clear x0 y0 x1 y1 x2 y2 x3 y3 x4 y4 x5 y5 x6 y6 x7 y7 x8 y8 x9 y9 x10 y10
 have hf1:=Row.keep hf2 hk1 (fun ad e _ h=>by injection e with e;subst e;have h:fb=sb:=h;have:=hfb.out;have:=hsb.out;omega)
 have hi1:=Row.keep hi2 hk1 (fun ad e _ h=>by injection e with e;subst e;have h:ib=sb:=h;have:=hib.out;have:=hsb.out;omega)
 have hb1:=hb2.trans (hk1.below (fun k hk h=>by have h:k=sb:=h;have:=hz0.out;omega) hb2.size)
 have hrA:=As.mk (Zd hrA hk1 (fun e=>Zp hrA hs2 (by decide) e))
 have hoA:=As.mk (Zj hoA hk1 (fun b c hb _ _ h=>by have h:b=sb:=h;omega))
 have hrB:=As.mk (Zd hrB hk1 (fun e=>Zp hrB hs2 (by decide) e))
 have hoB:=As.mk (Zj hoB hk1 (fun b c hb _ _ h=>by have h:b=sb:=h;omega))
 have hrC:=As.mk (Zd hrC hk1 (fun e=>Zp hrC hs2 (by decide) e))
 have hoC:=As.mk (Zj hoC hk1 (fun b c hb _ _ h=>by have h:b=sb:=h;omega))
 clear hf2 hi2 hs2 hb2 hk1
 have x0:W4.cell? ⟨sb,0,none⟩=some (.slice (some ⟨fb,0,none⟩) 4 4):=Za hs1 0
 have y0:W4.frozen? ⟨sb,0,none⟩=false:=Zb hs1 0
 have x1:W4.cell? ⟨sb,1,none⟩=some (.bool false):=Za hs1 1
 have y1:W4.frozen? ⟨sb,1,none⟩=false:=Zb hs1 1
 have x2:W4.cell? ⟨sb,2,none⟩=some (.bool true):=Za hs1 2
 have y2:W4.frozen? ⟨sb,2,none⟩=false:=Zb hs1 2
 have x3:W4.cell? ⟨sb,3,none⟩=some (.bool false):=Za hs1 3
 have y3:W4.frozen? ⟨sb,3,none⟩=false:=Zb hs1 3
 have x4:W4.cell? ⟨sb,4,none⟩=some (.bool false):=Za hs1 4
 have y4:W4.frozen? ⟨sb,4,none⟩=false:=Zb hs1 4
 have x5:W4.cell? ⟨sb,5,none⟩=some (.bool false):=Za hs1 5
 have y5:W4.frozen? ⟨sb,5,none⟩=false:=Zb hs1 5
 have x6:W4.cell? ⟨sb,6,none⟩=some (.bool false):=Za hs1 6
 have y6:W4.frozen? ⟨sb,6,none⟩=false:=Zb hs1 6
 have x7:W4.cell? ⟨sb,7,none⟩=some (.bool true):=Za hs1 7
 have y7:W4.frozen? ⟨sb,7,none⟩=false:=Zb hs1 7
 have x8:W4.cell? ⟨sb,8,none⟩=some (.int .i64 0):=Za hs1 8
 have y8:W4.frozen? ⟨sb,8,none⟩=false:=Zb hs1 8
 have x9:W4.cell? ⟨sb,9,none⟩=some (.slice (some ⟨ib,0,none⟩) 5 5):=Za hs1 9
 have y9:W4.frozen? ⟨sb,9,none⟩=false:=Zb hs1 9
 have x10:W4.cell? ⟨sb,10,none⟩=some (.slice none 0 0):=Za hs1 10
 have y10:W4.frozen? ⟨sb,10,none⟩=false:=Zb hs1 10
 have cR1:=As.mk (by have:=cR.out W4 hb1 fb ib hf1 hi1 ⟨false,true,false,false,false,false,true⟩;exact this:Calls Tryz.prog 32 #[.agg #[.slice (some ⟨fb,0,none⟩) 4 4,.bool false,.bool true,.bool false,.bool false,.bool false,.bool false,.bool true,.int .i64 0,.slice (some ⟨ib,0,none⟩) 5 5,.slice none 0 0]] W4 (RunPost W4 awD))
 replace hf1:=As.mk hf1
 replace hi1:=As.mk hi1
 replace hs1:=As.mk hs1
 replace hb1:=As.mk hb1
 go_wp2_with fail
 refine Calls.mono cR1.out ?_
 rintro e v5 ⟨u,rfl,ho,hb⟩
 obtain ⟨AD,cD,rfl,hc,_⟩:=OwnByt.row ho
 unfold Ji
 rw [awD_o] at ho ⊢
 rw [show List.length [(48:UInt8),10]=2 from rfl]
 rw [awD_s]
 clear x0 y0 x1 y1 x2 y2 x3 y3 x4 y4 x5 y5 x6 y6 x7 y7 x8 y8 x9 y9 x10 y10
 replace ho:=As.mk ho
 replace hb:=As.mk hb
 go_upto_region 9 with fail
 have hbA:Below W4.heap.size W4 (v5.alloc (.cells #[.slice AD 2 cD,.int .i64 1,.int .i64 awD.err,.int .i64 awD.line,.int .i64 awD.cn.s,.int .i64 awD.cn.l,.int .i64 awD.cn.h,.int .i64 awD.cn.m] 31)):=hb.out.alloc hb.out.size _
 have hrD:=heap_alloc_new v5 (.cells #[.slice AD 2 cD,.int .i64 1,.int .i64 awD.err,.int .i64 awD.line,.int .i64 awD.cn.s,.int .i64 awD.cn.l,.int .i64 awD.cn.h,.int .i64 awD.cn.m] 31)
 have hoD:=ho.out.alloc (.cells #[.slice AD 2 cD,.int .i64 1,.int .i64 awD.err,.int .i64 awD.line,.int .i64 awD.cn.s,.int .i64 awD.cn.l,.int .i64 awD.cn.h,.int .i64 awD.cn.m] 31)
 have hltD:sb<W4.heap.size:=Nat.lt_of_lt_of_le (Zf hs1.out) (Nat.le_refl _)
 obtain ⟨V5,hV⟩:∃ W,v5.alloc (.cells #[.slice AD 2 cD,.int .i64 1,.int .i64 awD.err,.int .i64 awD.line,.int .i64 awD.cn.s,.int .i64 awD.cn.l,.int .i64 awD.cn.h,.int .i64 awD.cn.m] 31)=W:=⟨_,rfl⟩
 obtain ⟨rD,hrr⟩:∃ k,v5.heap.size=k:=⟨_,rfl⟩
 rw [hV] at hbA hrD hoD ⊢
 rw [hrr] at hrD ⊢
 clear hV hrr hb ho cR1 hc
 have hrA:=Zc hbA hrA.out
 have hoA:=Zo hoA.out hbA
 have hrB:=Zc hbA hrB.out
 have hoB:=Zo hoB.out hbA
 have hrC:=Zc hbA hrC.out
 have hoC:=Zo hoC.out hbA
 have hf2:=Row.below hf1.out hbA
 have hi2:=Row.below hi1.out hbA
 have hs2:=Zc hbA hs1.out
 have hb2:=Ze hb1.out hbA
 clear hbA hf1 hi1 hs1 hb1
 have kA:=ZeR (c:=cA) (Row.of_own hoA) (by decide) (s:=⟨#[120,97,98,10]⟩) (by decide)
 rw [show List.length [(120:UInt8),97,98,10]=4 from rfl] at kA
 have kB:=ZeR (c:=cB) (Row.of_own hoB) (by decide) (s:=⟨#[97,98,10]⟩) (by decide)
 rw [show List.length [(97:UInt8),98,10]=3 from rfl] at kB
 have kC:=ZeR (c:=cC) (Row.of_own hoC) (by decide) (s:=⟨#[99,10]⟩) (by decide)
 rw [show List.length [(99:UInt8),10]=2 from rfl] at kC
 have kD:=ZeR (c:=cD) (Row.of_own hoD) (by decide) (s:=⟨#[48,10]⟩) (by decide)
 rw [show List.length [(48:UInt8),10]=2 from rfl] at kD
 have qA0:=Za hrA 0
 have qB0:=Za hrB 0
 have qC0:=Za hrC 0
 have qD0:=Za hrD 0
 have qA1:=Za hrA 1
 have qA6:=Za hrA 6
 have qD1:=Za hrD 1
 replace hb2:=As.mk hb2
 clear hrA hrB hrC hrD hoA hoB hoC hoD hf2 hi2 hs2
 go_wp2
 go_ret
 exact ⟨rfl,hb2.out⟩
end Go.Proofs.YtfdlaomnecjfeaaGreatDoor
end
section
namespace Go.Proofs.YtfdlaomnecjfeaaGreatDoor
open Go.RowKit Go.Shelf Seine.Trie Seine.Fg Seine.Eng
set_option maxRecDepth 100000 in
theorem ZcO (w:World) (A:Option Addr) (n c:Nat) (B:Option Addr) (i d:Nat) (E:Option Addr) (m e:Nat) :
    Calls Tryz.prog 36 #[.slice A n c,.slice B i d,.slice E m e] w fun e w'=>e=.returned (.bool (decide (n≤1100∧i≤900∧m≤60)))∧w=w':=by
 by_cases h1:n≤1100
 · have g1:decide ((n:Int)≤1100)=true:=decide_eq_true (by omega)
   by_cases h2:i≤900
   · have g2:decide ((i:Int)≤900)=true:=decide_eq_true (by omega)
     by_cases h3:m≤60
     · have g3:decide ((m:Int)≤60)=true:=decide_eq_true (by omega)
       rw [decide_eq_true (show n≤1100∧i≤900∧m≤60 from ⟨h1,h2,h3⟩)]
       go_enter Tryz.func36,Tryz.ntmps36
       go_wp2
       go_ret
       exact ⟨rfl,rfl⟩
     · have g3:decide ((m:Int)≤60)=false:=decide_eq_false (by omega)
       rw [decide_eq_false (show ¬ (n≤1100∧i≤900∧m≤60) from fun h=>h3 h.2.2)]
       go_enter Tryz.func36,Tryz.ntmps36
       go_wp2
       go_ret
       exact ⟨rfl,rfl⟩
   · have g2:decide ((i:Int)≤900)=false:=decide_eq_false (by omega)
     rw [decide_eq_false (show ¬ (n≤1100∧i≤900∧m≤60) from fun h=>h2 h.2.1)]
     go_enter Tryz.func36,Tryz.ntmps36
     go_wp2
     go_ret
     exact ⟨rfl,rfl⟩
 · have g1:decide ((n:Int)≤1100)=false:=decide_eq_false (by omega)
   rw [decide_eq_false (show ¬ (n≤1100∧i≤900∧m≤60) from fun h=>h1 h.1)]
   go_enter Tryz.func36,Tryz.ntmps36
   go_wp2
   go_ret
   exact ⟨rfl,rfl⟩
/-- A result as a value, its bytes as a slice. -/
def Za5 (A:Option Addr) (c:Nat) (r:Rs):Value:=.agg (Ji (.slice A r.out.length c) r)
def ZeU (x y:Rs):Bool:=decide (x.out=y.out) && decide (x.status=y.status) && decide (x.err=y.err) && decide (x.line=y.line)
theorem ZdQ {x y:Rs} (h:Zb3 x y):ZeU x y=true:=by
 obtain ⟨a,b,c,d⟩:=h
 simp [ZeU,a,b,c,d]
theorem bb_eq (a b:Txt):((bb a).toList == (bb b).toList)=decide (a=b):=by
 rw [JT,JT,Bool.eq_iff_iff]
 simp
set_option maxRecDepth 100000 in
theorem ZbT (w:World) (A:Option Addr) (c:Nat) (x:Rs) (hx:Byt w A x.out) (hxl:x.out.length≤1000000000000) (B:Option Addr) (d:Nat) (y:Rs) (hy:Byt w B y.out) (hyl:y.out.length≤1000000000000) :
    Calls Tryz.prog 37 #[Za5 A c x,Za5 B d y] w fun e w'=>e=.returned (.bool (ZeU x y))∧Below w.heap.size w w':=by
 unfold Za5 Ji ZeU
 have HB:Below w.heap.size w ((w.alloc (.cells #[.slice A x.out.length c,.int .i64 x.status,.int .i64 x.err,.int .i64 x.line,.int .i64 x.cn.s,.int .i64 x.cn.l,.int .i64 x.cn.h,.int .i64 x.cn.m] 31)).alloc (.cells #[.slice B y.out.length d,.int .i64 y.status,.int .i64 y.err,.int .i64 y.line,.int .i64 y.cn.s,.int .i64 y.cn.l,.int .i64 y.cn.h,.int .i64 y.cn.m] 31)):=by (repeat (first | (with_reducible assumption) | (with_reducible exact Below.refl _ _) | (with_reducible refine Below.drew ?_) | (with_reducible refine ZF ?_ _) | (with_reducible refine Below.alloc ?_ (by (first | omega | (simp only [World.size_alloc,World.size_drew];done) | (simp only [World.size_alloc,World.size_drew];omega))) _) | (refine Below.trans ?_ (Below.mono (by with_reducible assumption) (by (first | omega | (simp only [World.size_alloc,World.size_drew];done) | (simp only [World.size_alloc,World.size_drew];omega)))))))
 have h1:=Yk (src:=22) (c:=c) Tryz.underlying22 (Row.below hx HB) (by omega)
 have h2:=Yk (src:=22) (c:=d) Tryz.underlying22 (Row.below hy HB) (by omega)
 have he:=bb_eq x.out y.out
 obtain ⟨xo,xs,xe,xl,xc⟩:=x
 obtain ⟨yo,ys,ye,yl,yc⟩:=y
 simp only at *
 by_cases g1:xo=yo
 · rw [decide_eq_true g1] at he ⊢
   by_cases g2:xs=ys
   · have e2:(xs == ys)=true:=by simpa using g2
     rw [decide_eq_true g2]
     by_cases g3:xe=ye
     · have e3:(xe == ye)=true:=by simpa using g3
       rw [decide_eq_true g3]
       by_cases g4:xl=yl
       · have e4:(xl == yl)=true:=by simpa using g4
         rw [decide_eq_true g4]
         clear g1 g2 g3 g4
         go_enter Tryz.func37,Tryz.ntmps37
         go_wp2
         go_ret
         exact ⟨rfl,HB⟩
       · have e4:(xl == yl)=false:=by simpa using g4
         rw [decide_eq_false g4]
         clear g1 g2 g3 g4
         go_enter Tryz.func37,Tryz.ntmps37
         go_wp2
         go_ret
         exact ⟨rfl,HB⟩
     · have e3:(xe == ye)=false:=by simpa using g3
       rw [decide_eq_false g3]
       clear g1 g2 g3
       go_enter Tryz.func37,Tryz.ntmps37
       go_wp2
       go_ret
       exact ⟨rfl,HB⟩
   · have e2:(xs == ys)=false:=by simpa using g2
     rw [decide_eq_false g2]
     clear g1 g2
     go_enter Tryz.func37,Tryz.ntmps37
     go_wp2
     go_ret
     exact ⟨rfl,HB⟩
 · rw [decide_eq_false g1] at he ⊢
   clear g1
   go_enter Tryz.func37,Tryz.ntmps37
   go_wp2
   go_ret
   exact ⟨rfl,HB⟩
end Go.Proofs.YtfdlaomnecjfeaaGreatDoor
end
section
namespace Go.Proofs.YtfdlaomnecjfeaaGreatDoor
abbrev ZdR : List (String × DataW Unit) := [("math/bits.deBruijn32tab", Rows.laid_math_bits_deBruijn32tab), ("math/bits.deBruijn64tab", Rows.laid_math_bits_deBruijn64tab), ("internal/strconv.uint64pow10", Rows.laid_internal_strconv_uint64pow10)]
theorem door_met (os:Os) (args:Array Value):laidMetH Tryz.prog ZdR ((World.doorLaid Tryz.prog 24 os).forCall (fun _ _=>0) ⟨#[],args,[]⟩).memory :=
 laidMetH_of_parts3 (fuel:=8) (laidMet_of_run' 8 (by kernel_rfl) (by kernel_rfl)) (by kernel_rfl) (by kernel_rfl)
theorem tab_of_laid {W:World} (h:laidMetH Tryz.prog ZdR W):Tab W:=by
 rw [MakeChecks.laidMetH_plain _ _ _ (by kernel_rfl)] at h
 have hg:=Classical.choose_spec ZfW
 exact Lib.tabIs_of_head (rest:=[]) (k:=.u64) (zs:=Lib.pow10Tab) hg (t:=344) (n:=20) (e:=96) (by
  have : (Tryz.prog.globalNamed "internal/strconv.uint64pow10").bind (fun g => (Tryz.prog.globals[g]?).map (·.type)) = some 344 := by kernel_rfl
  rw [hg] at this;exact this) (by kernel_rfl) Tryz.underlying96 (by kernel_rfl) (by kernel_rfl) h.tail.tail
end Go.Proofs.YtfdlaomnecjfeaaGreatDoor
end
section
set_option maxRecDepth 100000
namespace Go.Proofs.YtfdlaomnecjfeaaGreatDoor
open Go.RowKit
theorem jp_laid:laidOutB Tryz.pinned.checked.prog=true:=by kernel_rfl
theorem jp_maps:mapsRowed Tryz.pinned.checked.prog=true:=by kernel_rfl
theorem jp_keys:(false == Tryz.pinned.checked.prog.plainKeys)=true:=by kernel_rfl
theorem jp_heard:Tryz.pinned.checked.prog.stopsHeard=true:=by kernel_rfl
theorem jp_enter:Tryz.pinned.checked.prog.mayEnter=true:=by kernel_rfl
theorem jp_lifts:(Rows.fgrepCutsRow.lifted == Tryz.pinned.checked.prog.liftsFinal)=true:=by kernel_rfl
end Go.Proofs.YtfdlaomnecjfeaaGreatDoor
end
