/- The walk of the law FgrepCuts. -/
import Derived.Test.YtfdlaomnecjfeaaGreatDoorM18
set_option linter.unusedVariables false
set_option linter.unusedSimpArgs false
namespace Go.Proofs.YtfdlaomnecjfeaaGreatDoor
open Go.RowKit Go.Shelf Seine.Trie Seine.Fg Seine.Eng
/-- What comes of a run, as a call leaves it: its bytes, and what was counted. -/
theorem RunPost.open_ {w w':World} {r:Rs} {e:Ending} (h:RunPost w r e w'):∃ A c,e=.returned (Za5 A c r)∧OwnByt w' w.heap.size (.slice A r.out.length c) r.out∧Below w.heap.size w w':=by
 obtain ⟨v,he,ho,hb⟩:=h
 obtain ⟨A,c,rfl,_,_⟩:=OwnByt.row ho
 exact ⟨A,c,he,ho,hb⟩
theorem Zda (o:Opt) (t:Int) (f i:Txt) (c:List Int) (hl:i.length≤5000):(QG o t f i c).out.length≤100000000000:=by
 have hk:=Zd5 (o:=o) (tag:=t) (l:=Z6 o.i f) (L:=Qu i) (ls:=[]) (by rw [List.append_nil];exact ZdM hl)
 have h1:=hk.out
 have h2:=(ZcN o t (Z6 o.i f) (Qu i)).2
 have h3:=List.length_filter_le (fun x:Ln=>YT o (Z6 o.i f) x.text) (Qu i)
 have h4:=(ZdM hl).len
 unfold QG
 split
 · simp
 · split
   · simp only;simp at h1;omega
   · simp only
     split
     · have:=Jm (ZbR (n:=(Zs o t (Z6 o.i f) Ac.zero (Qu i)).n) (by omega))
       rw [List.length_append];simp;omega
     · simp at h1;omega
set_option maxRecDepth 100000 in
set_option maxHeartbeats 6400000 in
theorem cuts_walk (A:Option Addr) (c:Nat) (file:Txt) (o:Opt) (a b:Int) (B:Option Addr) (d:Nat) (input:Txt) (E:Option Addr) (e:Nat) (cuts:List Int) (G:Option Addr) (g:Nat) (other:List Int) (w:World)
    (hf:Byt w A file) (hc:file.length≤c) (ha0:0≤a) (ha1:a≤255) (hb0:0≤b) (hb1:b≤255) (hi:Byt w B input) (hE:Row w E (Jg cuts)) (hG:Row w G (Jg other)) (hT:Tab w) :
    Calls Tryz.prog 8 #[.slice A file.length c,.agg (Q0 o),.int .u8 a,.int .u8 b,.slice B input.length d,.slice E cuts.length e,.slice G other.length g] w fun e w'=>e=.returned (.bool true)∧Below w.heap.size w w':=by
 have cAw:=As.mk (fun (v:World) (hv:Below w.heap.size w v)=>awake25_calls v (hT.below hv))
 have HF:=As.mk hf
 have HI:=As.mk hi
 have HE:=As.mk hE
 have HG:=As.mk hG
 have HT:=As.mk hT
 have hm1:As (0≤a % 4∧a % 4≤3):=⟨by omega⟩
 have hm2:As (0≤b % 4∧b % 4≤3):=⟨by omega⟩
 clear hf hi hE hG hT
 by_cases hfew:file.length≤1100∧input.length≤900∧cuts.length≤60
 · have cF:=As.mk (fun (v:World)=>(by have:=ZcO v A file.length c B input.length d E cuts.length e;rw [decide_eq_true hfew] at this;exact this:Calls Tryz.prog 36 #[.slice A file.length c,.slice B input.length d,.slice E cuts.length e] v fun e w'=>e=.returned (.bool true)∧v=w'))
   by_cases ho:other.length≤60
   · have cR:=As.mk (fun (v:World) (hv:Below w.heap.size w v) (t:Int)=>Za4 v (HT.out.below hv) A c file (Row.below HF.out hv) hc hfew.1 o t B d input (Row.below HI.out hv) (by omega) E e cuts (Row.below HE.out hv) (by omega))
     have cQ:=As.mk (fun (v:World) (hv:Below w.heap.size w v) (t:Int)=>Za4 v (HT.out.below hv) A c file (Row.below HF.out hv) hc hfew.1 o t B d input (Row.below HI.out hv) (by omega) G g other (Row.below HG.out hv) (by omega))
     have hnl:decide ((60:Int)<(other.length:Int))=false:=decide_eq_false (by omega)
     unfold Xv at cR cQ
     unfold Q0
     have hB1:=(Below.refl w.heap.size w).alloc (Nat.le_refl _) (.cells #[.bool o.i,.bool o.w,.bool o.x,.bool o.o,.bool o.b,.bool o.v,.bool o.c] 24)
     have hbx:=heap_alloc_new w (.cells #[.bool o.i,.bool o.w,.bool o.x,.bool o.o,.bool o.b,.bool o.v,.bool o.c] 24)
     obtain ⟨nf,hnf⟩:∃ k,file.length=k:=⟨_,rfl⟩
     obtain ⟨ni,hni⟩:∃ k,input.length=k:=⟨_,rfl⟩
     obtain ⟨nc,hnc⟩:∃ k,cuts.length=k:=⟨_,rfl⟩
     obtain ⟨no,hno⟩:∃ k,other.length=k:=⟨_,rfl⟩
     rw [hnf,hni,hnc] at cR cF
     rw [hnf,hni,hno] at cQ
     rw [hno] at hnl
     rw [hnf,hni,hnc,hno]
     replace hni:=As.mk hni
     replace hB1:=As.mk hB1
     replace hbx:=As.mk hbx
     have hi900:As (ni≤900):=⟨by rw [← hni.out];exact hfew.2.1⟩
     clear hfew hc hnf hnc hno ho
     go_enter Tryz.func8,Tryz.ntmps8
     go_wp2_with (first
      | (go_at_call 30;refine Calls.mono (cAw.out _ hB1.out) ?_;rintro e1 w1 ⟨rfl,hb1⟩
         have hbx1:=Zc hb1 hbx.out
         have p0:=Za hbx1 0
         have p1:=Za hbx1 1
         have p2:=Za hbx1 2
         have p3:=Za hbx1 3
         have p4:=Za hbx1 4
         have p5:=Za hbx1 5
         have p6:=Za hbx1 6
         have hbw1:=As.mk (Ze hB1.out hb1)
         replace hbx1:=As.mk hbx1
         clear hb1)
      | (go_at_call 36;refine Calls.mono (cF.out _) ?_;rintro e2 w2 ⟨rfl,rfl⟩))
     --BODY
     have hni9:ni≤900:=hi900.out
     have hs1:=runF_cuts o (a % 4) file input cuts other
     have hs2:=As.mk (fun h1 h2=>runF_tags (o:=o) (s:=a % 4) (t:=b % 4) (f:=file) (i:=input) (c:=cuts) h1 h2)
     have he1:=As.mk (fun h=>ZeQ (o:=o) (t:=a % 4) (f:=file) (i:=input) (c:=cuts) h)
     have he2:=As.mk (fun h=>ZeQ (o:=o) (t:=b % 4) (f:=file) (i:=input) (c:=cuts) h)
     obtain ⟨X,hX⟩:∃ r,QG o (a % 4) file input cuts=r:=⟨_,rfl⟩
     obtain ⟨Y,hY⟩:∃ r,QG o (a % 4) file input other=r:=⟨_,rfl⟩
     obtain ⟨Z,hZ⟩:∃ r,QG o (b % 4) file input cuts=r:=⟨_,rfl⟩
     rw [hX,hY] at hs1
     rw [hX,hZ] at hs2
     rw [hX] at he1
     rw [hZ] at he2
     replace hX:=As.mk hX
     replace hY:=As.mk hY
     replace hZ:=As.mk hZ
     have hsXY:=As.mk hs1.1
     have hsS:=As.mk hs1.2.1
     have hsL:=As.mk hs1.2.2
     clear hs1
     refine Calls.mono (cR.out w1 hbw1.out (a % 4)) ?_
     rintro e v0 hp
     obtain ⟨Ax,cx,rfl,ho,hb⟩:=hp.open_
     rw [hX.out] at ho ⊢
     unfold Za5 Ji
     have hlenX:=(by have:=Zda o (a % 4) file input cuts (by rw [hni.out];omega);rw [hX.out] at this;exact this:X.out.length≤100000000000)
     clear p0 p1 p2 p3 p4 p5 p6 hp
     replace ho:=As.mk ho
     replace hb:=As.mk hb
     go_upto_region 8 with fail
     have hbA:Below w1.heap.size w1 (v0.alloc (.cells #[.slice Ax X.out.length cx,.int .i64 X.status,.int .i64 X.err,.int .i64 X.line,.int .i64 X.cn.s,.int .i64 X.cn.l,.int .i64 X.cn.h,.int .i64 X.cn.m] 31)):=hb.out.alloc hb.out.size _
     have hrX:=heap_alloc_new v0 (.cells #[.slice Ax X.out.length cx,.int .i64 X.status,.int .i64 X.err,.int .i64 X.line,.int .i64 X.cn.s,.int .i64 X.cn.l,.int .i64 X.cn.h,.int .i64 X.cn.m] 31)
     have hoX:=Row.alloc (Row.of_own ho.out) (.cells #[.slice Ax X.out.length cx,.int .i64 X.status,.int .i64 X.err,.int .i64 X.line,.int .i64 X.cn.s,.int .i64 X.cn.l,.int .i64 X.cn.h,.int .i64 X.cn.m] 31)
     obtain ⟨U0,hV⟩:∃ W,v0.alloc (.cells #[.slice Ax X.out.length cx,.int .i64 X.status,.int .i64 X.err,.int .i64 X.line,.int .i64 X.cn.s,.int .i64 X.cn.l,.int .i64 X.cn.h,.int .i64 X.cn.m] 31)=W:=⟨_,rfl⟩
     obtain ⟨rX,hrr⟩:∃ k,v0.heap.size=k:=⟨_,rfl⟩
     rw [hV] at hbA hrX hoX ⊢
     rw [hrr] at hrX ⊢
     clear hV hrr hb ho
     have hbx2:=Zc hbA hbx1.out
     have p0:=Za hbx2 0
     have p1:=Za hbx2 1
     have p2:=Za hbx2 2
     have p3:=Za hbx2 3
     have p4:=Za hbx2 4
     have p5:=Za hbx2 5
     have p6:=Za hbx2 6
     replace hbx2:=As.mk hbx2
     have hbw2:=As.mk (Ze hbw1.out hbA)
     replace hrX:=As.mk hrX
     replace hoX:=As.mk hoX
     clear hbA
     go_wp2_with fail
     refine Calls.mono (cQ.out U0 hbw2.out (a % 4)) ?_
     rintro e v1 hp
     obtain ⟨Ay,cy,rfl,ho,hb⟩:=hp.open_
     rw [hY.out] at ho ⊢
     unfold Za5 Ji
     have hlenY:=(by have:=Zda o (a % 4) file input other (by rw [hni.out];omega);rw [hY.out] at this;exact this:Y.out.length≤100000000000)
     clear p0 p1 p2 p3 p4 p5 p6 hp
     replace ho:=As.mk ho
     replace hb:=As.mk hb
     go_upto_region 9 with fail
     have hbA:Below U0.heap.size U0 (v1.alloc (.cells #[.slice Ay Y.out.length cy,.int .i64 Y.status,.int .i64 Y.err,.int .i64 Y.line,.int .i64 Y.cn.s,.int .i64 Y.cn.l,.int .i64 Y.cn.h,.int .i64 Y.cn.m] 31)):=hb.out.alloc hb.out.size _
     have hrY:=heap_alloc_new v1 (.cells #[.slice Ay Y.out.length cy,.int .i64 Y.status,.int .i64 Y.err,.int .i64 Y.line,.int .i64 Y.cn.s,.int .i64 Y.cn.l,.int .i64 Y.cn.h,.int .i64 Y.cn.m] 31)
     have hoY:=Row.alloc (Row.of_own ho.out) (.cells #[.slice Ay Y.out.length cy,.int .i64 Y.status,.int .i64 Y.err,.int .i64 Y.line,.int .i64 Y.cn.s,.int .i64 Y.cn.l,.int .i64 Y.cn.h,.int .i64 Y.cn.m] 31)
     obtain ⟨U1,hV⟩:∃ W,v1.alloc (.cells #[.slice Ay Y.out.length cy,.int .i64 Y.status,.int .i64 Y.err,.int .i64 Y.line,.int .i64 Y.cn.s,.int .i64 Y.cn.l,.int .i64 Y.cn.h,.int .i64 Y.cn.m] 31)=W:=⟨_,rfl⟩
     obtain ⟨rY,hrr⟩:∃ k,v1.heap.size=k:=⟨_,rfl⟩
     rw [hV] at hbA hrY hoY ⊢
     rw [hrr] at hrY ⊢
     clear hV hrr hb ho
     have hrX:=Zc hbA hrX.out
     have hoX:=Row.below hoX.out hbA
     have hbx3:=Zc hbA hbx2.out
     have p0:=Za hbx3 0
     have p1:=Za hbx3 1
     have p2:=Za hbx3 2
     have p3:=Za hbx3 3
     have p4:=Za hbx3 4
     have p5:=Za hbx3 5
     have p6:=Za hbx3 6
     replace hbx3:=As.mk hbx3
     have hbw3:=As.mk (Ze hbw2.out hbA)
     replace hrX:=As.mk hrX
     replace hoX:=As.mk hoX
     replace hrY:=As.mk hrY
     replace hoY:=As.mk hoY
     clear hbA
     go_wp2_with fail
     refine Calls.mono (cR.out U1 hbw3.out (b % 4)) ?_
     rintro e v2 hp
     obtain ⟨Az,cz,rfl,ho,hb⟩:=hp.open_
     rw [hZ.out] at ho ⊢
     unfold Za5 Ji
     have hlenZ:=(by have:=Zda o (b % 4) file input cuts (by rw [hni.out];omega);rw [hZ.out] at this;exact this:Z.out.length≤100000000000)
     clear p0 p1 p2 p3 p4 p5 p6 hp
     replace ho:=As.mk ho
     replace hb:=As.mk hb
     go_upto_region 10 with fail
     have hbA:Below U1.heap.size U1 (v2.alloc (.cells #[.slice Az Z.out.length cz,.int .i64 Z.status,.int .i64 Z.err,.int .i64 Z.line,.int .i64 Z.cn.s,.int .i64 Z.cn.l,.int .i64 Z.cn.h,.int .i64 Z.cn.m] 31)):=hb.out.alloc hb.out.size _
     have hrZ:=heap_alloc_new v2 (.cells #[.slice Az Z.out.length cz,.int .i64 Z.status,.int .i64 Z.err,.int .i64 Z.line,.int .i64 Z.cn.s,.int .i64 Z.cn.l,.int .i64 Z.cn.h,.int .i64 Z.cn.m] 31)
     have hoZ:=Row.alloc (Row.of_own ho.out) (.cells #[.slice Az Z.out.length cz,.int .i64 Z.status,.int .i64 Z.err,.int .i64 Z.line,.int .i64 Z.cn.s,.int .i64 Z.cn.l,.int .i64 Z.cn.h,.int .i64 Z.cn.m] 31)
     obtain ⟨U2,hV⟩:∃ W,v2.alloc (.cells #[.slice Az Z.out.length cz,.int .i64 Z.status,.int .i64 Z.err,.int .i64 Z.line,.int .i64 Z.cn.s,.int .i64 Z.cn.l,.int .i64 Z.cn.h,.int .i64 Z.cn.m] 31)=W:=⟨_,rfl⟩
     obtain ⟨rZ,hrr⟩:∃ k,v2.heap.size=k:=⟨_,rfl⟩
     rw [hV] at hbA hrZ hoZ ⊢
     rw [hrr] at hrZ ⊢
     clear hV hrr hb ho
     have hrX:=Zc hbA hrX.out
     have hoX:=Row.below hoX.out hbA
     have hrY:=Zc hbA hrY.out
     have hoY:=Row.below hoY.out hbA
     have hbw4:=As.mk (Ze hbw3.out hbA)
     replace hrX:=As.mk hrX
     replace hoX:=As.mk hoX
     replace hrY:=As.mk hrY
     replace hoY:=As.mk hoY
     replace hrZ:=As.mk hrZ
     replace hoZ:=As.mk hoZ
     clear hbA
     have cXY:=As.mk (fun (v:World) (hv:Below U2.heap.size U2 v)=>(by have:=ZbT v Ax cx X (Row.below hoX.out hv) (by omega) Ay cy Y (Row.below hoY.out hv) (by omega);rw [ZdQ hsXY.out] at this;unfold Za5 Ji at this;exact this))
     have cXZ:=As.mk (fun (v:World) (hv:Below U2.heap.size U2 v) (hs:Zb3 X Z)=>(by have:=ZbT v Ax cx X (Row.below hoX.out hv) (by omega) Az cz Z (Row.below hoZ.out hv) (by omega);rw [ZdQ hs] at this;unfold Za5 Ji at this;exact this))
     have hsSb:(X.cn.s == Y.cn.s)=true:=by simpa using hsS.out
     have hsLb:(X.cn.l == Y.cn.l)=true:=by simpa using hsL.out
     have hfin:=As.mk (fun (v:World) (hv:Below U2.heap.size U2 v)=>(⟨Za (Zc hv hrX.out) 0,Za (Zc hv hrX.out) 1,Za (Zc hv hrX.out) 2,Za (Zc hv hrX.out) 3,Za (Zc hv hrX.out) 4,Za (Zc hv hrX.out) 5,Za (Zc hv hrX.out) 6,Za (Zc hv hrX.out) 7,Za (Zc hv hrY.out) 0,Za (Zc hv hrY.out) 1,Za (Zc hv hrY.out) 2,Za (Zc hv hrY.out) 3,Za (Zc hv hrY.out) 4,Za (Zc hv hrY.out) 5,Za (Zc hv hrY.out) 6,Za (Zc hv hrY.out) 7,Za (Zc hv hrZ.out) 0,Za (Zc hv hrZ.out) 1,Za (Zc hv hrZ.out) 2,Za (Zc hv hrZ.out) 3,Za (Zc hv hrZ.out) 4,Za (Zc hv hrZ.out) 5,Za (Zc hv hrZ.out) 6,Za (Zc hv hrZ.out) 7⟩:v.cell? ⟨rX,0,none⟩=some (.slice Ax X.out.length cx)∧v.cell? ⟨rX,1,none⟩=some (.int .i64 X.status)∧v.cell? ⟨rX,2,none⟩=some (.int .i64 X.err)∧v.cell? ⟨rX,3,none⟩=some (.int .i64 X.line)∧v.cell? ⟨rX,4,none⟩=some (.int .i64 X.cn.s)∧v.cell? ⟨rX,5,none⟩=some (.int .i64 X.cn.l)∧v.cell? ⟨rX,6,none⟩=some (.int .i64 X.cn.h)∧v.cell? ⟨rX,7,none⟩=some (.int .i64 X.cn.m)∧v.cell? ⟨rY,0,none⟩=some (.slice Ay Y.out.length cy)∧v.cell? ⟨rY,1,none⟩=some (.int .i64 Y.status)∧v.cell? ⟨rY,2,none⟩=some (.int .i64 Y.err)∧v.cell? ⟨rY,3,none⟩=some (.int .i64 Y.line)∧v.cell? ⟨rY,4,none⟩=some (.int .i64 Y.cn.s)∧v.cell? ⟨rY,5,none⟩=some (.int .i64 Y.cn.l)∧v.cell? ⟨rY,6,none⟩=some (.int .i64 Y.cn.h)∧v.cell? ⟨rY,7,none⟩=some (.int .i64 Y.cn.m)∧v.cell? ⟨rZ,0,none⟩=some (.slice Az Z.out.length cz)∧v.cell? ⟨rZ,1,none⟩=some (.int .i64 Z.status)∧v.cell? ⟨rZ,2,none⟩=some (.int .i64 Z.err)∧v.cell? ⟨rZ,3,none⟩=some (.int .i64 Z.line)∧v.cell? ⟨rZ,4,none⟩=some (.int .i64 Z.cn.s)∧v.cell? ⟨rZ,5,none⟩=some (.int .i64 Z.cn.l)∧v.cell? ⟨rZ,6,none⟩=some (.int .i64 Z.cn.h)∧v.cell? ⟨rZ,7,none⟩=some (.int .i64 Z.cn.m)))
     have x0:U2.cell? ⟨rX,0,none⟩=some (.slice Ax X.out.length cx):=Za hrX.out 0
     have x1:U2.cell? ⟨rX,1,none⟩=some (.int .i64 X.status):=Za hrX.out 1
     have x2:U2.cell? ⟨rX,2,none⟩=some (.int .i64 X.err):=Za hrX.out 2
     have x3:U2.cell? ⟨rX,3,none⟩=some (.int .i64 X.line):=Za hrX.out 3
     have x4:U2.cell? ⟨rX,4,none⟩=some (.int .i64 X.cn.s):=Za hrX.out 4
     have x5:U2.cell? ⟨rX,5,none⟩=some (.int .i64 X.cn.l):=Za hrX.out 5
     have x6:U2.cell? ⟨rX,6,none⟩=some (.int .i64 X.cn.h):=Za hrX.out 6
     have x7:U2.cell? ⟨rX,7,none⟩=some (.int .i64 X.cn.m):=Za hrX.out 7
     have y0:U2.cell? ⟨rY,0,none⟩=some (.slice Ay Y.out.length cy):=Za hrY.out 0
     have y1:U2.cell? ⟨rY,1,none⟩=some (.int .i64 Y.status):=Za hrY.out 1
     have y2:U2.cell? ⟨rY,2,none⟩=some (.int .i64 Y.err):=Za hrY.out 2
     have y3:U2.cell? ⟨rY,3,none⟩=some (.int .i64 Y.line):=Za hrY.out 3
     have y4:U2.cell? ⟨rY,4,none⟩=some (.int .i64 Y.cn.s):=Za hrY.out 4
     have y5:U2.cell? ⟨rY,5,none⟩=some (.int .i64 Y.cn.l):=Za hrY.out 5
     have y6:U2.cell? ⟨rY,6,none⟩=some (.int .i64 Y.cn.h):=Za hrY.out 6
     have y7:U2.cell? ⟨rY,7,none⟩=some (.int .i64 Y.cn.m):=Za hrY.out 7
     have z0:U2.cell? ⟨rZ,0,none⟩=some (.slice Az Z.out.length cz):=Za hrZ.out 0
     have z1:U2.cell? ⟨rZ,1,none⟩=some (.int .i64 Z.status):=Za hrZ.out 1
     have z2:U2.cell? ⟨rZ,2,none⟩=some (.int .i64 Z.err):=Za hrZ.out 2
     have z3:U2.cell? ⟨rZ,3,none⟩=some (.int .i64 Z.line):=Za hrZ.out 3
     have z4:U2.cell? ⟨rZ,4,none⟩=some (.int .i64 Z.cn.s):=Za hrZ.out 4
     have z5:U2.cell? ⟨rZ,5,none⟩=some (.int .i64 Z.cn.l):=Za hrZ.out 5
     have z6:U2.cell? ⟨rZ,6,none⟩=some (.int .i64 Z.cn.h):=Za hrZ.out 6
     have z7:U2.cell? ⟨rZ,7,none⟩=some (.int .i64 Z.cn.m):=Za hrZ.out 7
     by_cases hZe:Z.err≠0∧Z.err≠15
     · have n0:(Z.err != 0)=true:=by simpa using hZe.1
       have n1:(Z.err != 15)=true:=by simpa using hZe.2
       clear hZe
       go_wp2_with (first
        | (go_at_call 37;with_reducible refine Calls.mono (cXY.out _ (Below.refl _ _)) ?_;rintro e3 w3 ⟨rfl,hb3⟩;obtain ⟨x0',x1',x2',x3',x4',x5',x6',x7',y0',y1',y2',y3',y4',y5',y6',y7',z0',z1',z2',z3',z4',z5',z6',z7'⟩:=hfin.out w3 hb3;replace hb3:=As.mk hb3)
        | (go_at_call 37;with_reducible refine Calls.mono (cXZ.out _ hb3.out (hs2.out trivial trivial)) ?_;rintro e4 w4 ⟨rfl,hb4⟩;have hb34:=hb3.out.trans (hb4.mono hb3.out.size);obtain ⟨x0'',x1'',x2'',x3'',x4'',x5'',x6'',x7'',y0'',y1'',y2'',y3'',y4'',y5'',y6'',y7'',z0'',z1'',z2'',z3'',z4'',z5'',z6'',z7''⟩:=hfin.out w4 hb34;replace hb34:=As.mk hb34;clear hb4))
       go_ret
       exact ⟨rfl,hbw4.out.trans (hb3.out.mono hbw4.out.size)⟩
     · have hzl:=he2.out hZe
       have hZ2:Z.err=0∨Z.err=15:=by omega
       by_cases hXe:X.err≠0∧X.err≠15
       · have m0:(X.err != 0)=true:=by simpa using hXe.1
         have m1:(X.err != 15)=true:=by simpa using hXe.2
         clear hXe hZe hzl
         rcases hZ2 with hZ2 | hZ2
         · have n0:(Z.err != 0)=false:=by simp [hZ2]
           clear hZ2
           go_wp2_with (first
            | (go_at_call 37;with_reducible refine Calls.mono (cXY.out _ (Below.refl _ _)) ?_;rintro e3 w3 ⟨rfl,hb3⟩;obtain ⟨x0',x1',x2',x3',x4',x5',x6',x7',y0',y1',y2',y3',y4',y5',y6',y7',z0',z1',z2',z3',z4',z5',z6',z7'⟩:=hfin.out w3 hb3;replace hb3:=As.mk hb3)
            | (go_at_call 37;with_reducible refine Calls.mono (cXZ.out _ hb3.out (hs2.out trivial trivial)) ?_;rintro e4 w4 ⟨rfl,hb4⟩;have hb34:=hb3.out.trans (hb4.mono hb3.out.size);obtain ⟨x0'',x1'',x2'',x3'',x4'',x5'',x6'',x7'',y0'',y1'',y2'',y3'',y4'',y5'',y6'',y7'',z0'',z1'',z2'',z3'',z4'',z5'',z6'',z7''⟩:=hfin.out w4 hb34;replace hb34:=As.mk hb34;clear hb4))
           go_ret
           exact ⟨rfl,hbw4.out.trans (hb3.out.mono hbw4.out.size)⟩
         · have n0:(Z.err != 0)=true:=by simp [hZ2]
           have n1:(Z.err != 15)=false:=by simp [hZ2]
           clear hZ2
           go_wp2_with (first
            | (go_at_call 37;with_reducible refine Calls.mono (cXY.out _ (Below.refl _ _)) ?_;rintro e3 w3 ⟨rfl,hb3⟩;obtain ⟨x0',x1',x2',x3',x4',x5',x6',x7',y0',y1',y2',y3',y4',y5',y6',y7',z0',z1',z2',z3',z4',z5',z6',z7'⟩:=hfin.out w3 hb3;replace hb3:=As.mk hb3)
            | (go_at_call 37;with_reducible refine Calls.mono (cXZ.out _ hb3.out (hs2.out trivial trivial)) ?_;rintro e4 w4 ⟨rfl,hb4⟩;have hb34:=hb3.out.trans (hb4.mono hb3.out.size);obtain ⟨x0'',x1'',x2'',x3'',x4'',x5'',x6'',x7'',y0'',y1'',y2'',y3'',y4'',y5'',y6'',y7'',z0'',z1'',z2'',z3'',z4'',z5'',z6'',z7''⟩:=hfin.out w4 hb34;replace hb34:=As.mk hb34;clear hb4))
           go_ret
           exact ⟨rfl,hbw4.out.trans (hb3.out.mono hbw4.out.size)⟩
       · have hSZ:=As.mk (hs2.out (he1.out hXe) hzl)
         have hex:X.err=Z.err:=hSZ.out.2.2.1
         clear hXe hZe hzl
         rcases hZ2 with hZ2 | hZ2
         · have n0:(Z.err != 0)=false:=by simp [hZ2]
           have m0:(X.err != 0)=false:=by simp [hex,hZ2]
           clear hZ2 hex
           go_wp2_with (first
            | (go_at_call 37;with_reducible refine Calls.mono (cXY.out _ (Below.refl _ _)) ?_;rintro e3 w3 ⟨rfl,hb3⟩;obtain ⟨x0',x1',x2',x3',x4',x5',x6',x7',y0',y1',y2',y3',y4',y5',y6',y7',z0',z1',z2',z3',z4',z5',z6',z7'⟩:=hfin.out w3 hb3;replace hb3:=As.mk hb3)
            | (go_at_call 37;with_reducible refine Calls.mono (cXZ.out _ hb3.out hSZ.out) ?_;rintro e4 w4 ⟨rfl,hb4⟩;have hb34:=hb3.out.trans (hb4.mono hb3.out.size);obtain ⟨x0'',x1'',x2'',x3'',x4'',x5'',x6'',x7'',y0'',y1'',y2'',y3'',y4'',y5'',y6'',y7'',z0'',z1'',z2'',z3'',z4'',z5'',z6'',z7''⟩:=hfin.out w4 hb34;replace hb34:=As.mk hb34;clear hb4))
           go_ret
           exact ⟨rfl,hbw4.out.trans (hb34.out.mono hbw4.out.size)⟩
         · have n0:(Z.err != 0)=true:=by simp [hZ2]
           have n1:(Z.err != 15)=false:=by simp [hZ2]
           have m0:(X.err != 0)=true:=by simp [hex,hZ2]
           have m1:(X.err != 15)=false:=by simp [hex,hZ2]
           clear hZ2 hex
           go_wp2_with (first
            | (go_at_call 37;with_reducible refine Calls.mono (cXY.out _ (Below.refl _ _)) ?_;rintro e3 w3 ⟨rfl,hb3⟩;obtain ⟨x0',x1',x2',x3',x4',x5',x6',x7',y0',y1',y2',y3',y4',y5',y6',y7',z0',z1',z2',z3',z4',z5',z6',z7'⟩:=hfin.out w3 hb3;replace hb3:=As.mk hb3)
            | (go_at_call 37;with_reducible refine Calls.mono (cXZ.out _ hb3.out hSZ.out) ?_;rintro e4 w4 ⟨rfl,hb4⟩;have hb34:=hb3.out.trans (hb4.mono hb3.out.size);obtain ⟨x0'',x1'',x2'',x3'',x4'',x5'',x6'',x7'',y0'',y1'',y2'',y3'',y4'',y5'',y6'',y7'',z0'',z1'',z2'',z3'',z4'',z5'',z6'',z7''⟩:=hfin.out w4 hb34;replace hb34:=As.mk hb34;clear hb4))
           go_ret
           exact ⟨rfl,hbw4.out.trans (hb34.out.mono hbw4.out.size)⟩
   · have hnl:decide ((60:Int)<(other.length:Int))=true:=decide_eq_true (by omega)
     clear ho
     unfold Q0
     have hB1:=As.mk ((Below.refl w.heap.size w).alloc (Nat.le_refl _) (.cells #[.bool o.i,.bool o.w,.bool o.x,.bool o.o,.bool o.b,.bool o.v,.bool o.c] 24))
     obtain ⟨nf,hnf⟩:∃ k,file.length=k:=⟨_,rfl⟩
     obtain ⟨ni,hni⟩:∃ k,input.length=k:=⟨_,rfl⟩
     obtain ⟨nc,hnc⟩:∃ k,cuts.length=k:=⟨_,rfl⟩
     obtain ⟨no,hno⟩:∃ k,other.length=k:=⟨_,rfl⟩
     rw [hnf,hni,hnc] at cF
     rw [hno] at hnl
     rw [hnf,hni,hnc,hno]
     clear hfew hc hnf hnc hno hni
     go_enter Tryz.func8,Tryz.ntmps8
     go_wp2_with (first
      | (go_at_call 30;refine Calls.mono (cAw.out _ hB1.out) ?_;rintro e1 w1 ⟨rfl,hb1⟩;have hbw1:=As.mk (Ze hB1.out hb1);clear hb1)
      | (go_at_call 36;refine Calls.mono (cF.out _) ?_;rintro e2 w2 ⟨rfl,rfl⟩))
     go_ret
     exact ⟨rfl,hbw1.out⟩
 · have cF:=As.mk (fun (v:World)=>(by have:=ZcO v A file.length c B input.length d E cuts.length e;rw [decide_eq_false hfew] at this;exact this:Calls Tryz.prog 36 #[.slice A file.length c,.slice B input.length d,.slice E cuts.length e] v fun e w'=>e=.returned (.bool false)∧v=w'))
   unfold Q0
   have hB1:=As.mk ((Below.refl w.heap.size w).alloc (Nat.le_refl _) (.cells #[.bool o.i,.bool o.w,.bool o.x,.bool o.o,.bool o.b,.bool o.v,.bool o.c] 24))
   obtain ⟨nf,hnf⟩:∃ k,file.length=k:=⟨_,rfl⟩
   obtain ⟨ni,hni⟩:∃ k,input.length=k:=⟨_,rfl⟩
   obtain ⟨nc,hnc⟩:∃ k,cuts.length=k:=⟨_,rfl⟩
   obtain ⟨no,hno⟩:∃ k,other.length=k:=⟨_,rfl⟩
   rw [hnf,hni,hnc] at cF
   rw [hnf,hni,hnc,hno]
   clear hfew hc hnf hnc hno hni
   go_enter Tryz.func8,Tryz.ntmps8
   go_wp2_with (first
    | (go_at_call 30;refine Calls.mono (cAw.out _ hB1.out) ?_;rintro e1 w1 ⟨rfl,hb1⟩;have hbw1:=As.mk (Ze hB1.out hb1);clear hb1)
    | (go_at_call 36;refine Calls.mono (cF.out _) ?_;rintro e2 w2 ⟨rfl,rfl⟩))
   go_ret
   exact ⟨rfl,hbw1.out⟩
theorem J7 {a:Int} (h:(Lit.int .u8 a).wf=true):0≤a∧a≤255:=by
 simpa [Lit.wf,IntKind.min,IntKind.max,IntKind.signed,IntKind.bits] using h
theorem cuts_said (A:Option Addr) (c:Nat) (file:Txt) (o:Opt) (a b:Int) (B:Option Addr) (d:Nat) (input:Txt) (E:Option Addr) (e:Nat) (cuts:List Int) (G:Option Addr) (g:Nat) (other:List Int) (w:World)
    (hf:Byt w A file) (hc:file.length≤c) (_:c≤maxLen) (ha:(Lit.int .u8 a).wf=true) (hb:(Lit.int .u8 b).wf=true) (hi:Byt w B input) (_:input.length≤d) (_:d≤maxLen) (hE:Row w E (Jg cuts)) (_:cuts.length≤e) (_:e≤maxLen) (_:∀ x∈cuts,(Lit.int .i64 x).wf=true) (hG:Row w G (Jg other)) (_:other.length≤g) (_:g≤maxLen) (_:∀ x∈other,(Lit.int .i64 x).wf=true) (hT:Tab w) :
    Calls Tryz.prog 8 #[.slice A file.length c,.agg (Q0 o),.int .u8 a,.int .u8 b,.slice B input.length d,.slice E cuts.length e,.slice G other.length g] w fun e w'=>e=.returned (.bool true)∧Below w.heap.size w w' :=
 cuts_walk A c file o a b B d input E e cuts G g other w hf hc (J7 ha).1 (J7 ha).2 (J7 hb).1 (J7 hb).2 hi hE hG hT
end Go.Proofs.YtfdlaomnecjfeaaGreatDoor
