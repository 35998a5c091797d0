/- Joined texts: Repeat, LinksWalk3, LinksWalk4, SparsePure, Sparse. -/
import Derived.Test.YtfdlaomnecjfeaaGreatDoorM3
import Derived.Laws.CopyOwn
import Derived.Laws.Bits64b
import Derived.Laws.MakeOwn
import Derived.Deep.RegionHeld3
import Derived.Deep.LoopGhost
import Derived.Test.YtfdlaomnecjfeaaGreatDoorM1
import Derived.Deep.RegionLaw
import Derived.Deep.AppendLies
set_option linter.unusedVariables false
set_option linter.unusedSimpArgs false
section
namespace Go.Proofs.YtfdlaomnecjfeaaGreatDoor
open Go.RowKit Go.Maps
section
variable (w:World) (n:Nat) (hn:n≤1000000)
include hn
theorem mul64_calls:Calls Tryz.prog 233 #[.int .u64 1,.int .u64 (n:Int)] w fun e w'=>e=.returned (.tuple #[.int .u64 0,.int .u64 (n:Int)])∧w=w':=by
 have h1:bits BinOp.and IntKind.u64 1 4294967295=1:=by decide
 have h0:bits BinOp.and IntKind.u64 0 4294967295=0:=by decide
 have h2:bits BinOp.and IntKind.u64 (n:Int) 4294967295=(n:Int):=by
  have h:=bits_and_u64_nat n 4294967295 (by omega) (by omega)
  have e:n &&& 4294967295=n % 4294967296:=Nat.and_two_pow_sub_one_eq_mod n 32
  rw [e,Nat.mod_eq_of_lt (by omega)] at h
  exact h
 have h3:(n:Int) / 4294967296=0:=by omega
 have h4:IntKind.u64.wrap (n:Int)=n:=by rw [IntKind.wrap_u64];omega
 have h5:IntKind.u64.wrap 0=0:=by decide
 go_enter Tryz.func233,Tryz.ntmps233
 go_wp2
 go_ret2
 simp [h1,h2,h3,h4,h5,h0]
theorem mul_calls:Calls Tryz.prog 209 #[.int .u64 1,.int .u64 (n:Int)] w fun e w'=>e=.returned (.tuple #[.int .u64 0,.int .u64 (n:Int)])∧w=w':=by
 have hc:=As.mk (mul64_calls w n hn)
 go_enter Tryz.func209,Tryz.ntmps209
 go_wp2_with (go_at_call 233;refine hc.out.mono ?_;rintro e w' ⟨rfl,rfl⟩)
 go_ret2
 exact ⟨rfl,rfl⟩
end
set_option maxRecDepth 100000 in
theorem Zbn (n:Nat) (hn:n≤1000000):∃ Z:List Value,Z=List.replicate n (.int .i64 0)∧∀ w:World,(Instr.makeSlice 45 (.int .i64 (n:Int)) (.int .i64 (n:Int))).run Tryz.prog w=.ok (.slice (some ⟨w.heap.size,0,none⟩) n n) (w.alloc (.cells Z.toArray 3)):=by
 refine ⟨_,rfl,fun w=>?_⟩
 have hi:(Tryz.prog.info? 3).map (fun i=>(i.zero,i.size,i.bytes))=some (some (.int .i64 0),1,8):=by kernel_rfl
 obtain ⟨i,hi0,hz0,hz1,hz2⟩:=info_parts hi
 have h:=run_make (P:=Tryz.prog) w 45 3 i _ Tryz.underlying45 hi0 hz0 .i64 .i64 (n:Int) (n:Int) (by omega) (Int.le_refl _) (by rw [hz2];omega) (by omega)
 rw [h,hz1]
 congr 3
 simp only [Int.toNat_natCast,Nat.mul_one]
 apply Array.ext
 · simp [madeCells]
 · intro j h1 h2
   simp [madeCells,Value.cells,Nat.mod_one]
def Qy (u:Value) (n k:Nat):List Value:=List.replicate k u++List.replicate (n - k) (.int .i64 0)
theorem Zba (u:Value) (n k m:Nat) (h:k+m≤n):splice (Qy u n k) k (List.replicate m u)=Qy u n (k+m):=by
 unfold splice Qy
 rw [List.take_left' (by simp),List.length_replicate,List.drop_append,List.drop_of_length_le (by simp),List.nil_append,List.length_replicate,← List.append_assoc,List.replicate_append_replicate,List.drop_replicate]
 congr 2
 omega
theorem repRow_start (u:Value) (n:Nat) (h:1≤n):splice (List.replicate n (.int .i64 0)) 0 [u]=Qy u n 1:=by
 have:=Zba u n 0 1 (by omega)
 unfold Qy at this
 simpa [Qy] using this
set_option maxRecDepth 100000 in
set_option maxHeartbeats 1600000 in
theorem repeat_calls (w:World) (ad:Addr) (c:Nat) (u:Int) (hx:w.cell? (ad.add 0)=some (.int .i64 u)) (n:Nat) (hn:1≤n) (hn2:n≤1000000) :
    Calls Tryz.prog 177 #[.slice (some ad) 1 c,.int .i64 (n:Int)] w fun e w'=>∃ b,e=.returned (.slice (some ⟨b,0,none⟩) n n)∧w.heap.size≤b∧w'.heap[b]? = some (.cells (Qy (.int .i64 u) n n).toArray 3 (0,0))∧Below w.heap.size w w':=by
 have hmu:=As.mk (fun w=>mul_calls w n hn2)
 obtain ⟨Z,hZ,hmk⟩:=Zbn n hn2
 have hst:=repRow_start (.int .i64 u) n hn
 rw [← hZ] at hst
 have hZl:Z.length=n:=by rw [hZ];simp
 have hst:=As.mk hst
 have hZl:=As.mk hZl
 clear hZ
 have hx:=As.mk hx
 go_enter Tryz.func177,Tryz.ntmps177
 have hsz:(Tryz.prog.info? 3).map (·.size)=some 1:=by kernel_rfl
 go_wp2_with (first
  | (go_at_call 209;refine (hmu.out _).mono ?_;rintro e w' ⟨rfl,rfl⟩)
  | (refine wpList_copy_splice rfl (.tmp 31) (.tmp 32) 45 45 rfl 3 Tryz.underlying45 hsz (some ⟨w.heap.size,0,none⟩) (some ad) n n 1 c rfl rfl w.heap.size 0 Z 3 (heap_alloc_new w _) [.int .i64 u] (by show 1=min 1 n;omega)
       (fun _=>⟨rfl,ad,rfl,fun j v hj=>by
        have hj0:j=0:=by
         have:=(List.getElem?_eq_some_iff.1 hj).1
         simpa using this
        subst hj0
        simp at hj
        subst hj
        exact (Below.cell ((Below.refl w.heap.size w).alloc (Nat.le_refl _) _) (World.block_lt_of_cell? w _ hx.out)).trans hx.out⟩)
       (by show 0+1≤Z.length;have:=hZl.out;omega) (by simp [Value.oneCell']) w.heap.size w ((Below.refl _ _).alloc (Nat.le_refl _) _) (Nat.le_refl _) ?_
     intro w2 hg2 hb2))
 have hg2:=As.mk (show w2.heap[w.heap.size]? = some (.cells (Qy (.int .i64 u) n 1).toArray 3 (0,0)) by rw [← hst.out];exact hg2.out)
 go_loopw [8] (fun i wr=>∃ k:Nat,1≤k∧k≤n∧i=.int .i64 k∧As (wr.heap[w.heap.size]? = some (.cells (Qy (.int .i64 u) n k).toArray 3 (0,0)))∧As (Below w.heap.size w wr)) (fun i _=>n - (intOf i).toNat)
 case atStart=>exact ⟨1,Nat.le_refl _,hn,rfl,hg2,⟨hb2⟩⟩
 case round =>
  obtain ⟨k,hk1,hk,rfl,hrow,hbel⟩:=hrel
  by_cases hlt:k<n
  · have hnk:¬ n=k:=by omega
    obtain ⟨m,hm⟩:∃ m,min k (n - k)=m:=⟨_,rfl⟩
    have hm1:m≤k:=by omega
    have hm2:k+m≤n:=by omega
    have hm3:0<m:=by omega
    have hms:m=Nat.min k (n - k):=hm.symm
    replace hms:=As.mk hms
    have hwr:IntKind.i64.wrap ((k:Int)+(m:Int))=(k:Int)+(m:Int):=IntWalk.i64_in _ (by omega)
    have hspl:=As.mk (Zba (.int .i64 u) n k m hm2)
    have hkw:=As.mk hk
    clear hm
    have hcs:As (∀ j v,(List.replicate m (Value.int .i64 u))[j]? = some v→wr.cell? ((⟨w.heap.size,0,none⟩:Addr).add j)=some v):=⟨fun j v hj=>by
     have hjm:j<m:=by
      have:=(List.getElem?_eq_some_iff.1 hj).1
      simpa using this
     rw [List.getElem?_replicate,if_pos hjm] at hj
     rw [← hj]
     refine World.news_of_block hrow.out j _ ?_
     unfold Qy
     rw [List.getElem?_append_left (by simp;omega),List.getElem?_replicate,if_pos (by omega)]⟩
    have hlen:As (k+m≤(Qy (.int .i64 u) n k).length):=⟨by unfold Qy;simp;omega⟩
    go_wp2
    go_region_law (refine step_copy_splice rfl (.tmp 41) (.tmp 44) 45 45 rfl 3 Tryz.underlying45 hsz (some ⟨w.heap.size,k,none⟩) (some ⟨w.heap.size,0,none⟩) (n - k) (n - k) k n (by simp [Act.eval,Act.put,hnk]) (by simp [Act.eval,Act.put,hnk]) w.heap.size k (Qy (.int .i64 u) n k) 3 hrow.out (List.replicate m (.int .i64 u)) (by rw [List.length_replicate];exact hms.out) (fun _=>⟨rfl,_,rfl,hcs.out⟩) (by rw [List.length_replicate];exact hlen.out) (by intro v hv;rw [List.eq_of_mem_replicate hv];rfl) w.heap.size w (Below.drew hbel.out) (Nat.le_refl _) ?_
                   intro w4 hg4 hb4)
    all_goals
     go_wp2
     refine ⟨?_,?measure⟩
     · (repeat apply Exists.intro)
       refine ⟨?rel,?eq⟩
       case eq=>(simp only [Act.put];rfl)
       case rel=>exact ⟨k+m,by omega,hm2,by go_num,⟨by rw [← hspl.out];exact hg4.out⟩,⟨hb4⟩⟩
     case measure=>simp [intOf,Act.put,hwr];omega
  · obtain rfl:k=n:=by omega
    go_wp2
    go_ret
    exact ⟨w.heap.size,rfl,Nat.le_refl _,hrow.out,hbel.out⟩
end Go.Proofs.YtfdlaomnecjfeaaGreatDoor
end
section
namespace Go.Proofs.YtfdlaomnecjfeaaGreatDoor
open Go.RowKit Go.Maps Seine.Trie Seine.Links
theorem Zbd {w w':World} {b:Nat} {o:Obj} (hb:Below w.heap.size w w') (h:w.heap[b]? = some o):w'.heap[b]? = some o:=(hb.block b (Zf h)).trans h
theorem Xd {w:World} {base b n:Nat} {cs:List Value} {t:TypeId} (h:w.heap[b]? = some (.cells cs.toArray t (0,0))) (hl:cs.length=n) (hb:base≤b) (hn:n≤maxLen):w.ownsRow base t 1 (.slice (some ⟨b,0,none⟩) n n) n cs:=by
 refine ⟨by omega,.inr ⟨b,n,cs.toArray,rfl,hb,h,Nat.le_refl _,hn,by simp [hl],by rw [Nat.mul_one];exact List.take_of_length_le (by simp;omega)⟩⟩
theorem new_zero {w:World} {cs:Array Value} {t:TypeId} {b:Nat} (h:w.heap[b]? = some (.cells cs t (0,0))):w.cell? ((⟨b,0,none⟩:Addr).add 0)=cs[0]?:=by
 have:(⟨b,0,none⟩:Addr).add 0=⟨b,0,none⟩:=by unfold Addr.add;split <;> simp_all
 rw [this];exact Za h 0
theorem Zch {w:World} {o:Obj} {b:Nat} (h:b=w.heap.size):(w.alloc o).heap[b]? = some o:=by rw [h];exact heap_alloc_new _ _
theorem YM (P:List Txt) (x:Int):ZX P (fun _=>x)=List.replicate P.length (.int .i64 x):=by simp [ZX,List.map_const']
theorem Zci (u:Value) (n:Nat):Qy u n n=List.replicate n u:=by simp [Qy]
theorem linksAt_new {w:World} {base g n bf bo bu:Nat} {P:List Txt} {Z:List Value} (hn:P.length=n) (hl:n≤1000000) (hZ:Z=List.replicate n (.int .i64 0))
    (h0:w.heap[g]? = some (.cells #[.slice (some ⟨bf,0,none⟩) n n,.slice (some ⟨bo,0,none⟩) n n,.slice (some ⟨bu,0,none⟩) n n,.slice none 0 0] 287 (0,0))) (hg:base≤g)
    (hf:w.heap[bf]? = some (.cells (Qy (.int .i64 (-1)) n n).toArray 3 (0,0))) (ho:w.heap[bo]? = some (.cells (Qy (.int .i64 (-1)) n n).toArray 3 (0,0))) (hu:w.heap[bu]? = some (.cells Z.toArray 3 (0,0)))
    (b1:base≤bf) (b2:base≤bo) (b3:base≤bu) (n1:bf≠bo) (n2:bf≠bu) (n3:bo≠bu):LinksAt w base g P (fun _=>-1) (fun _=>-1) (fun _=>0) []:=by
 subst hn
 have hm:P.length≤maxLen:=by simp only [maxLen];omega
 refine ⟨⟨bf,P.length,bo,P.length,bu,P.length,.slice none 0 0⟩,h0,hg,?_,?_,?_,n1,n2,n3,World.ownsRow_nil _ _ _ _,by simp [Value.ownBlock],by simp [Value.ownBlock],by simp [Value.ownBlock]⟩
 · unfold IntRow;rw [YM,← Zci];exact Xd hf (by simp [Qy]) b1 hm
 · unfold IntRow;rw [YM,← Zci];exact Xd ho (by simp [Qy]) b2 hm
 · unfold IntRow;rw [YM,← hZ];exact Xd hu (by rw [hZ];simp) b3 hm
theorem LinksIn.order {w w2:World} {base g:Nat} {P:List Txt} {F O U:Txt→Int} {o o':List Txt} {B:LB} (h:LinksIn w base g P F O U o B) (hk:Keeps (fun k=>some k=B.vr.ownBlock) w w2) {v':Value}
    (hown:w2.ownsRow base 3 1 v' o'.length (ZX o' (place P))) (hv:v'.ownBlock=B.vr.ownBlock∨∃ k,v'.ownBlock=some k∧w.heap.size≤k):LinksIn (w2.setCell ⟨g,3,none⟩ v') base g P F O U o' { B with vr:=v' }:=by
 obtain ⟨hg,h0,h1,h2,h3,h4,h5,h6,h7,h8,h9,h10⟩:=h
 have b1:=h1.base.2
 have b2:=h2.base.2
 have b3:=h3.base.2
 have hgv:some g≠B.vr.ownBlock:=Zy h7 hg (by decide)
 have hg2:w2.heap[g]? = _:=(hk.block g (Zf hg) hgv).trans hg
 have hs:=XB w2 ⟨g,3,none⟩ v'
 have hne:∀ b,b<w.heap.size→B.vr.ownBlock≠some b→v'.ownBlock≠some b:=fun b hb hn e=>by
  rcases hv with hv | ⟨k,hv,hk⟩
  · exact hn (hv ▸ e)
  · rw [hv] at e;injection e;omega
 refine ⟨?_,h0,(h1.keep hk (fun e=>h8 e.symm)).keep hs ?_,(h2.keep hk (fun e=>h9 e.symm)).keep hs ?_,(h3.keep hk (fun e=>h10 e.symm)).keep hs ?_,h4,h5,h6,Zj hown hs (fun b c' _ hb e he=>?_),hne _ b1 h8,hne _ b2 h9,hne _ b3 h10⟩
 · exact Zi hg2 3 v'
 · exact fun e=>h1.other hg (by decide) e.symm
 · exact fun e=>h2.other hg (by decide) e.symm
 · exact fun e=>h3.other hg (by decide) e.symm
 · subst he
   rw [hg2] at hb
   injection hb with hb
   injection hb with _ hb
   exact absurd hb (by decide)
/-- What the links' rows hold of the nodes that were gone through. -/
def Xw (D:List Txt) (f:Txt→Int) (d:Int) (x:Txt):Int:=if x∈D then f x else d
theorem Yz {D:List Txt} {s:Txt} (f:Txt→Int) (d:Int):Xw (D++[s]) f d s=f s:=by simp [Xw]
theorem XE {D:List Txt} {s y:Txt} (f:Txt→Int) (d:Int) (h:y≠s):Xw (D++[s]) f d y=Xw D f d y:=by simp [Xw,h]
/-- The links of the tree, k nodes having been gone through. -/
def LinksTo (w:World) (base g:Nat) (P l:List Txt) (D o:List Txt):Prop:=LinksAt w base g P (Xw D (ZN P) (-1)) (Xw D (outF P l) (-1)) (Xw D (Qw l) 0) o
theorem take_snoc_op {P:List Txt} {k:Nat} {s:Txt} (h:(op P k)[k]? = some s):(op P (k+1)).take (k+1)=(op P k).take k++[s]:=by
 obtain ⟨hl,hs⟩:=List.getElem?_eq_some_iff.1 h
 rw [Ys h,List.take_append_of_le_length (by omega),List.take_succ_eq_append_getElem hl,hs]
theorem ZcU {P:List Txt} {a:Nat} {s:Txt} (h:P[a]? = some s):kidsF P (a:Int) 256=Qf P s:=by
 unfold kidsF Qf
 refine List.filter_congr fun c _=>?_
 rw [JD h,decide_eq_decide]
 exact place_mem
theorem LinksAt.order {w:World} {base g:Nat} {P:List Txt} {F O U:Txt→Int} {o:List Txt} (h:LinksAt w base g P F O U o):∃ v,w.cell? ⟨g,3,none⟩=some v∧w.frozen? ⟨g,3,none⟩=false∧g<w.heap.size∧base≤g∧w.ownsRow base 3 1 v o.length (ZX o (place P))∧some g≠v.ownBlock ∧
    ∀ w2 v' o',Keeps (fun k=>some k=v.ownBlock) w w2→w2.ownsRow base 3 1 v' o'.length (ZX o' (place P))→(v'.ownBlock=v.ownBlock∨∃ k,v'.ownBlock=some k∧w.heap.size≤k)→LinksAt (w2.setCell ⟨g,3,none⟩ v') base g P F O U o':=by
 obtain ⟨B,h⟩:=h
 obtain ⟨q0,q1,q2,q3,q4⟩:=h.heads
 have h2:=h
 obtain ⟨hg,h0,h1,_,h3,h4,h5,h6,h7,h8⟩:=h2
 exact ⟨B.vr,q3,q4,Zf hg,h0,h7,Zy h7 hg (by decide),fun w2 v' o' a b c=>⟨_,h.order a b c⟩⟩
theorem XF:(Tryz.prog.info? 3).map (fun i=>(i.zero,i.size,i.bytes))=some (some (.int .i64 0),1,8):=by kernel_rfl
theorem JE {P:Program} {ops:Array Oper} {o:Oper} {a:Act} {w:World} {K:Act→World→Prop} {Q:Exit→Act→World→Prop} {E:Prop} (hg:o.guard=none) {f:FuncId} {vals:Array Value} {v:Value}
    (ho:(execOp a.eval o).run P w=.ok (.enter f vals) w) (hc:Calls P f vals w fun e w'=>e=.returned v∧w=w') (h:K (a.put o.dst v) w) :
    if Region.wanted o (yielded ops a.tmps)=true then Oper.wp P o a w K Q else E:=by
 have hw:Region.wanted o (yielded ops a.tmps)=true:=by simp [Region.wanted,hg]
 rw [if_pos hw]
 unfold Oper.wp
 rw [ho,Oper.upon_enter]
 refine hc.mono ?_
 rintro e w' ⟨rfl,rfl⟩
 exact h
theorem LinksTo.root {w:World} {base g:Nat} {P l D o:List Txt} (h:LinksTo w base g P l D o):LinksTo w base g P l (D++[[]]) o:=by
 obtain ⟨B,h⟩:=h
 have key:∀ (f:Txt→Int) (d:Int),f []=d→∀ x,x∈P→Xw D f d x=Xw (D++[[]]) f d x:=fun f d hf x _=>by
  by_cases hx:x=[]
  · subst hx;simp [Xw,hf]
  · rw [XE f d hx]
 exact ⟨B,h.congr (key _ _ (failF_nil P)) (key _ _ (outF_nil P l)) (key _ _ (Ze4 l))⟩
theorem LinksTo.full {w:World} {base g:Nat} {P l D o:List Txt} (h:LinksTo w base g P l D o) (hD:∀ x,x∈P→x∈D):LinksAt w base g P (ZN P) (outF P l) (Qw l) o:=by
 obtain ⟨B,h⟩:=h
 exact ⟨B,h.congr (fun x hx=>if_pos (hD x hx)) (fun x hx=>if_pos (hD x hx)) (fun x hx=>if_pos (hD x hx))⟩
theorem kidsT_take {P:List Txt} {s:Txt} {m:Nat} (h:m<(Qf P s).length):(Xj P s).take (m+1)=(Xj P s).take m++[s++[(Qf P s).getD m 0]]:=by
 unfold Xj
 rw [List.take_succ_eq_append_getElem (by simpa using h)]
 simp [h]
theorem intCells_snoc (P:List Txt) (F:Txt→Int) (x:Txt):ZX (P++[x]) F=ZX P F++[.int .i64 (F x)]:=by simp [ZX]
set_option maxRecDepth 100000 in
set_option maxHeartbeats 1600000 in
theorem Zbo (w:World) (base tg:Nat) (P l:List Txt) (ht:TrieAt w base tg P (place l)) (hl:P.length≤1000000) (hd:∀ p∈P,p.length≤100000) (hlP:∀ x,x∈l→x∈P) :
    Calls Tryz.prog 134 #[.pointer (some ⟨tg,0,none⟩)] w fun e w'=>∃ g,e=.returned (.pointer (some ⟨g,0,none⟩))∧LinksAt w' w.heap.size g P (ZN P) (outF P l) (Qw l) (op P P.length)∧Below w.heap.size w w':=by
 have hT:=As.mk ht.tree
 have HT:=As.mk ht
 have hnod:=As.mk (fun v hv=>Qv v base tg P (place l) (HT.out.below hv))
 have hPl:=hT.out.len
 obtain ⟨n,hn⟩:∃ n,P.length=n:=⟨_,rfl⟩
 rw [hn] at hnod hl hPl
 obtain ⟨Z,hZ,hmk⟩:=Zbn n hl
 replace hZ:=As.mk hZ
 have hrep:=As.mk (fun (v:World) (ad:Addr) (c:Nat) (h:v.cell? (ad.add 0)=some (.int .i64 (-1)))=>repeat_calls v ad c (-1) h n hPl hl)
 go_enter Tryz.func134,Tryz.ntmps134
 go_wp2
 go_step3
 go_upto_region 2 with (go_at_call 135;refine (hnod.out _ (Below.refl _ _)).mono ?_;rintro e w' ⟨rfl,rfl⟩)
 go_cut [4] from 11 to 20 (fun v4 wx=>∃ g,v4=.pointer (some ⟨g,0,none⟩)∧As (LinksAt wx w.heap.size g P (fun _=>-1) (fun _=>-1) (fun _=>0) [])∧As (Below w.heap.size w wx))
 case first =>
  go_region_with (go_at_call 177;refine (hrep.out _ _ _ ?hc).mono ?_;(case hc=>exact (new_zero (cs:=#[.int .i64 (-1)]) (t:=3) (by (repeat (first | (with_reducible assumption) | (with_reducible exact heap_alloc_new _ _) | (exact Zch (by (first | omega | (simp only [World.size_alloc,World.size_drew];done) | (simp only [World.size_alloc,World.size_drew];omega)))) | (with_reducible refine ZaG ?_) | (with_reducible refine Zn ?_) | (refine Zbd (by with_reducible assumption) ?_))))).trans rfl);rintro e w' ⟨b,rfl,hb,hc,hbel⟩;have hs:=hbel.size;have hlt:=Zf hc;(try simp only [World.size_alloc,World.size_drew] at hs hb))
  all_goals
   go_wp2_with fail
   go_meet
   case rel =>
    refine ⟨_,rfl,⟨?_⟩,⟨?_⟩⟩
    · apply linksAt_new hn hl hZ.out
      all_goals (first | ((repeat (first | (with_reducible assumption) | (with_reducible exact heap_alloc_new _ _) | (exact Zch (by (first | omega | (simp only [World.size_alloc,World.size_drew];done) | (simp only [World.size_alloc,World.size_drew];omega)))) | (with_reducible refine ZaG ?_) | (with_reducible refine Zn ?_) | (refine Zbd (by with_reducible assumption) ?_)));done) | (first | omega | (simp only [World.size_alloc,World.size_drew];done) | (simp only [World.size_alloc,World.size_drew];omega)))
    · (repeat (first | (with_reducible assumption) | (with_reducible exact Below.refl _ _) | (with_reducible refine Below.drew ?_) | (with_reducible refine Below.alloc ?_ (by (first | omega | (simp only [World.size_alloc,World.size_drew];done) | (simp only [World.size_alloc,World.size_drew];omega))) _) | (refine Below.trans ?_ (Below.mono (by with_reducible assumption) (by (first | omega | (simp only [World.size_alloc,World.size_drew];done) | (simp only [World.size_alloc,World.size_drew];omega)))))))
 case rest =>
  obtain ⟨g,rfl,hk0,hb0⟩:=hcut
  have hn0:((n:Int) == 0)=false:=by simp;omega
  obtain ⟨v0,q3,q4,hgl,hgb,ho0,hne0,hset⟩:=hk0.out.order
  have hbs:=hb0.out.size
  have hsl:((wc.alloc (.cells #[.int .i64 0] 3)).ownsRow w.heap.size 3 1 (.slice (some ⟨wc.heap.size,0,none⟩) 1 1) 1 [.int .i64 0]):=Xd (heap_alloc_new wc _) rfl hbs (by unfold maxLen;omega)
  have hp0:place P []=0:=ZO hT.out.nodup hT.out.root
  have hk1:=hset (wc.alloc (.cells #[.int .i64 0] 3)) (.slice (some ⟨wc.heap.size,0,none⟩) 1 1) [[]] (Keeps.of_below ((Below.refl _ _).alloc (Nat.le_refl _) _) _) (by simpa [ZX,hp0] using hsl) (.inr ⟨wc.heap.size,rfl,Nat.le_refl _⟩)
  have hb1:=(hb0.out.alloc (by omega) (.cells #[.int .i64 0] 3)).setCell (p:=⟨g,3,none⟩) (by show w.heap.size≤g;omega) (.slice (some ⟨wc.heap.size,0,none⟩) 1 1)
  rw [World.setCell_alloc_past _ _ _ _ hgl] at hk1 hb1
  have hdn:∀ (f:Txt→Int) (d:Int),Xw [] f d=fun _=>d:=fun f d=>by funext x;simp [Xw]
  have hk1:As (LinksTo ((wc.setCell ⟨g,3,none⟩ (.slice (some ⟨wc.heap.size,0,none⟩) 1 1)).alloc (.cells #[.int .i64 0] 3)) w.heap.size g P l ((op P 0).take 0) (op P 0)):=⟨by
   unfold LinksTo
   rw [List.take_zero,hdn,hdn,hdn]
   exact hk1⟩
  have hb1:=As.mk hb1
  have hopl:=As.mk (fun k=>Zay hT.out k)
  clear hsl hp0 hb0 hset ho0 hne0 hdn
  go_wp2
  go_step3
  go_wp2
  go_loopg [5] (n+1) (fun gk i wr=>∃ k:Nat,As (gk+k=n+1)∧As (k≤(op P k).length)∧i=.int .i64 k∧As (LinksTo wr w.heap.size g P l ((op P k).take k) (op P k))∧As (Below w.heap.size w wr))
  case atStart=>exact ⟨0,⟨rfl⟩,⟨Nat.zero_le _⟩,rfl,hk1,hb1⟩
  case round =>
   obtain ⟨k,hgk,hkl,rfl,hto,hbel⟩:=hrel
   obtain ⟨v3,q3,q4,hgl,hgb,ho3,hne3,hset⟩:=hto.out.order
   obtain ⟨ln,hln⟩:∃ ln,(op P k).length=ln:=⟨_,rfl⟩
   have hlnn:ln≤n:=by have:=hopl.out k;omega
   have hk':=hkl.out
   rw [hln] at hk'
   by_cases hlt:k<ln
   · obtain ⟨s,hs⟩:∃ s,(op P k)[k]? = some s:=⟨_,List.getElem?_eq_getElem (by omega)⟩
     have hsP:=Zdl hT.out (List.mem_of_getElem? hs)
     obtain ⟨a,ha1,ha2⟩:=Qs hsP
     obtain ⟨vb,cp,hv3,hvb1,hvb2⟩:=ho3.form (by omega)
     have hcell:=World.ownsRow.cellAt (hv3 ▸ ho3) k (by omega)
     rw [Zcg hs,ha1] at hcell
     rw [hln] at hv3
     subst hv3
     obtain ⟨kl,hkl2⟩:∃ kl,(Qf P s).length=kl:=⟨_,rfl⟩
     have hkle:kl≤256:=by
      have:=Zbf P (a:Int) 256
      rw [ZcU ha2,hkl2] at this
      exact this
     have hks:=As.mk hkl2
     have hPn:P.length≤1000000:=by omega
     have hs':=As.mk hs
     have hsP:=As.mk hsP
     have ha1':=As.mk ha1
     have ha2':=As.mk ha2
     have hkd:=As.mk (ZcU ha2)
     have hto2:=hto
     have halt:=(List.getElem?_eq_some_iff.1 ha2).1
     clear hkl2 hs ha1 ha2 hset ho3 hne3
     have hln:=As.mk hln
     have hto0:∀ {v},Below wr.heap.size wr v→LinksTo v w.heap.size g P l ((op P k).take k) (op P k):=fun h=>LinksAt.below hto2.out h
     have hto0:=As.mk @hto0
     go_wp2_with (go_at_call 178;refine (Zdg _ base tg P (place l) (HT.out.below hbel.out) (by omega) (a:Int)).mono ?_;intro e w1 hr;rw [hkd.out] at hr;obtain ⟨vk,rfl,hok,hbk⟩:=hr;obtain ⟨Ak,ck,hvk,hck,hbyt⟩:=hok.row;rw [hks.out] at hvk hck;subst hvk;replace hok:=As.mk hok;replace hbyt:=As.mk hbyt;replace hbk:=As.mk hbk)
     have hst:=As.mk (fun (v:World) (h:Below w.heap.size w v) (c:UInt8) (y:Int) (hy:place P (s++[c])=y)=>(by
      rw [← hy,← JD ha2'.out c];exact XC v base tg P (place l) (HT.out.below h) hPn (a:Int) _ c rfl:Calls Tryz.prog 179 #[.pointer (some ⟨tg,0,none⟩),.int .i64 (a:Int),.int .u8 (c.toNat:Int)] v fun e w'=>e=.returned (.int .i64 y)∧v=w'))
     obtain ⟨wo,rfl⟩:∃ wo:World,wo=wr:=⟨_,rfl⟩
     obtain ⟨go,rfl⟩:∃ go:Nat,go=gk:=⟨_,rfl⟩
     go_loopg [48] (kl+1) (fun g2 j wr2=>∃ m:Nat,As (g2+m=kl+1)∧As (m≤kl)∧j=.int .i64 m∧As (LinksTo wr2 w.heap.size g P l ((op P k).take k) (op P k++(Xj P s).take m))∧As (OwnByt wr2 wo.heap.size (.slice Ak kl ck) (Qf P s))∧As (Below w.heap.size w wr2))
     case atStart=>exact ⟨0,⟨rfl⟩,⟨Nat.zero_le _⟩,rfl,⟨by rw [List.take_zero,List.append_nil];exact hto0.out hbk.out⟩,hok,⟨below_next' hbel.out hbk.out⟩⟩
     case round =>
      obtain ⟨m,hgm,hml,rfl,hto3,hok2,hbel2⟩:=hrel
      have hml':=hml.out
      obtain ⟨gp,rfl⟩:∃ gp,gk=gp+1:=⟨gk - 1,by have:=hgm.out;omega⟩
      by_cases hmlt:m<kl
      · obtain ⟨v3,q3,q4,hgl,hgb,ho3,hne3,hset⟩:=hto3.out.order
        have hl2:(op P k++(Xj P s).take m).length=ln+m:=by
         rw [List.length_append,hln.out,List.length_take,Xj,List.length_map,hks.out];omega
        have hl3:ln+kl≤n:=by
         have:=hopl.out (k+1)
         rw [Ys hs'.out,List.length_append,hln.out,Xj,List.length_map,hks.out] at this
         omega
        rw [hl2] at ho3
        obtain ⟨vb2,cp2,hv3,hvb3,hvb4⟩:=ho3.form (by omega)
        subst hv3
        obtain ⟨A2,c2,e2,_,hby2⟩:=OwnByt.row hok2.out
        injection e2 with e2 e3 e4
        clear e3 e4
        subst e2
        obtain ⟨ad,rfl,hcm⟩:=Byt.at_ hby2 (i:=m) (by rw [hks.out];exact hmlt)
        have htk:=kidsT_take (P:=P) (s:=s) (m:=m) (by rw [hks.out];exact hmlt)
        obtain ⟨x,hx⟩:∃ x,(Qf P s).getD m 0=x:=⟨_,rfl⟩
        rw [hx] at hcm htk
        obtain ⟨y,hy⟩:∃ y,place P (s++[x])=y:=⟨_,rfl⟩
        obtain ⟨i0,hi,hz0,hz1,hz2⟩:=info_parts XF
        have hst2:=As.mk (hst.out _ hbel2.out.drew x y hy)
        have hy':=As.mk hy
        have htk':=As.mk htk
        have hset':=As.mk hset
        have hown':=As.mk ho3
        have hown2:=As.mk ((ho3.alloc (.cells #[.int .i64 y] 3)).drew)
        have hfar:g≠vb2:=fun e=>hne3 (by rw [e];rfl)
        clear hl2 hset ho3 hne3 hby2 htk hx hy
        have K2:=(Below.frozen (p:=⟨g,3,none⟩) ((Below.alloc (Below.refl wr.heap.size wr) (Nat.le_refl _) (.cells #[.int .i64 y] 3)).drew) hgl).trans q4
        have K1:=(Below.cell (p:=⟨g,3,none⟩) ((Below.alloc (Below.refl wr.heap.size wr) (Nat.le_refl _) (.cells #[.int .i64 y] 3)).drew) hgl).trans q3
        replace K1:=As.mk K1
        replace K2:=As.mk K2
        have hsz1:wr.heap.size<(wr.alloc (.cells #[.int .i64 y] 3)).drew.heap.size:=by simp
        replace hsz1:=As.mk hsz1
        go_wp2_with fail
        go_region_law (first
         | (refine step_append_lies _ (by rfl) _ _ _ (by rfl) w.heap.size 3 i0 _ 1 8 Tryz.underlying45 hi hz0 hz1 hz2 rfl (by omega) (.slice (some ⟨vb2,0,none⟩) (ln+m) cp2) (ln+m) _ (by rfl) hown2.out
                ⟨wr.heap.size,0,none⟩ 1 1 [.int .i64 y] (by rfl) (by rfl) (World.news_of_block (cs:=#[.int .i64 y]) (t:=3) (fr:=(0,0)) (heap_alloc_new wr _)) (by simp [Value.oneCell'])
                (by omega) (by unfold maxLen;omega) (by omega) (by simp;omega) (wr.heap.size+1) (by simp) ?_
            intro gg cap w4 hown4 hgrow hat hlt4
            have e0:=(hgrow.cell_far ⟨g,3,none⟩ (by have:=hsz1.out;show g<_;omega) (by show some g≠some vb2;simpa using hfar)).trans K1.out
            have e1:=(hgrow.frozen_far ⟨g,3,none⟩ (by have:=hsz1.out;show g<_;omega) (by show some g≠some vb2;simpa using hfar)).trans K2.out
            replace hgrow:=As.mk hgrow
            replace hown4:=As.mk hown4)
         | (refine JE (by rfl) ?ho hst2.out ?_;(case ho=>go_simp)))
        all_goals
         go_wp2_with fail
         have hkp:Keeps (fun k=>some k=(Value.slice (some ⟨vb2,0,none⟩) (ln+m) cp2).ownBlock) wr w4:=(Keeps.of_below (((Below.refl _ _).alloc (Nat.le_refl _) _).drew) _).trans ((Keeps.of_grown hgrow.out).mono (fun _ _ h=>h))
         have hks5:=(hkp.mono (T:=fun k=>some k=(Value.slice (some ⟨vb2,0,none⟩) (ln+m) cp2).ownBlock∨k=g) (fun _ _ h=>.inl h)).trans ((XB w4 ⟨g,3,none⟩ (.slice (some ⟨gg,0,none⟩) (ln+m+1) cap)).mono (fun _ _ h=>.inr h))
         have hto5:LinksTo (w4.setCell ⟨g,3,none⟩ (.slice (some ⟨gg,0,none⟩) (ln+m+1) cap)) w.heap.size g P l ((op P k).take k) (op P k++(Xj P s).take (m+1)):=by
          refine hset'.out w4 (.slice (some ⟨gg,0,none⟩) (ln+m+1) cap) _ hkp ?_ ?_
          · have hlo:(op P k++(Xj P s).take (m+1)).length=ln+m+1:=by
              rw [List.length_append,hln.out,List.length_take,Xj,List.length_map,hks.out];omega
            rw [hlo,htk'.out,← List.append_assoc,intCells_snoc,hy'.out]
            exact hown4.out
          · rcases hat with h | h
            · exact .inl h.symm
            · exact .inr ⟨gg,rfl,by omega⟩
         have hok5:OwnByt (w4.setCell ⟨g,3,none⟩ (.slice (some ⟨gg,0,none⟩) (ln+m+1) cap)) wo.heap.size (.slice (some ad) kl ck) (Qf P s) :=
          Zj hok2.out hks5 (fun b c' _ hb _ hS=>by
           rcases hS with hS | hS
           · exact Zy hown'.out hb (by decide) hS
           · obtain ⟨B5,hin5⟩:=hto3.out
             have:=hin5.1
             subst hS
             rw [this] at hb
             injection hb with hb
             injection hb with _ hb
             exact absurd hb (by decide))
         have hbel5:Below w.heap.size w (w4.setCell ⟨g,3,none⟩ (.slice (some ⟨gg,0,none⟩) (ln+m+1) cap)) :=
          hbel2.out.trans (hks5.below (fun k hk hS=>by
           rcases hS with hS | hS
           · have hS:k=vb2:=Option.some.inj hS
             omega
           · omega) hbel2.out.size)
         go_roundg gp
         case rel=>exact ⟨m+1,⟨by have:=hgm.out;omega⟩,⟨by omega⟩,by go_num,⟨hto5⟩,⟨hok5⟩,⟨hbel5⟩⟩
         case measure=>omega
      · obtain rfl:m=kl:=by omega
        have hk1:k+1≤(op P (k+1)).length:=by rw [Ys hs'.out,List.length_append,hln.out];omega
        have hnx:op P k++(Xj P s).take m=op P (k+1):=by
         rw [Ys hs'.out,List.take_of_length_le (by rw [Xj,List.length_map,hks.out];omega)]
        have hto6:=hto3.out
        rw [hnx] at hto6
        replace hto6:=As.mk hto6
        replace hk1:=As.mk hk1
        have htk6:=As.mk (take_snoc_op hs'.out)
        obtain ⟨gq,rfl⟩:∃ gq,go=gq+1:=⟨go - 1,by have:=hgk.out;omega⟩
        clear hnx
        by_cases ha0:a=0
        · have hsn:s=[]:=by
            have:=ha2'.out
            rw [ha0,hT.out.root] at this
            injection this with this
            exact this.symm
          subst ha0
          go_wp2_with fail
          go_roundg gq
          case rel=>exact ⟨k+1,⟨by have:=hgk.out;omega⟩,hk1,by go_num,⟨by rw [htk6.out,hsn];exact hto6.out.root⟩,hbel2⟩
          case measure=>omega
        · have hsn:s≠[]:=fun e=>by
            have h1:=ha1'.out
            rw [e,ZO hT.out.nodup hT.out.root] at h1
            omega
          obtain ⟨B6,hin6⟩:=hto6.out
          have hlk:=link_calls w wr w.heap.size g base tg P l _ _ _ (Xw ((op P k).take k++[s]) (ZN P) (-1)) (Xw ((op P k).take k++[s]) (outF P l) (-1)) (Xw ((op P k).take k++[s]) (Qw l) 0) (op P (k+1)) rfl HT.out hbel2.out B6 hin6 hPn hd hlP a s ha2'.out hsn
           (fun x hx hxl=>by
            obtain ⟨j,hj,hjx⟩:=Zen hT.out k hs'.out x hx hxl
            have hm:x∈(op P k).take k:=List.mem_of_getElem? (i:=j) (by rw [List.getElem?_take_of_lt hj];exact hjx)
            exact ⟨if_pos hm,if_pos hm,if_pos hm⟩)
           (by
            have:s ∉ (op P k).take k:=fun hm=>by
             obtain ⟨j,hj⟩:=List.mem_iff_getElem?.1 hm
             have hjk:j<k:=by
              have:=(List.getElem?_eq_some_iff.1 hj).1
              rw [List.length_take] at this;omega
             rw [List.getElem?_take_of_lt hjk] at hj
             have:=Y4 (JC P k) hj hs'.out
             omega
            exact if_neg this)
           ⟨Yz _ _,fun y hy=>XE _ _ hy⟩ ⟨Yz _ _,fun y hy=>XE _ _ hy⟩ ⟨Yz _ _,fun y hy=>XE _ _ hy⟩
          replace hlk:=As.mk hlk
          have ha0':((a:Int) == 0)=false:=by simpa using ha0
          clear hin6
          go_wp2_with (go_at_call 180;refine hlk.out.mono ?_;rintro e w7 ⟨rfl,hin7,hb7⟩;replace hin7:=As.mk hin7;replace hb7:=As.mk hb7)
          go_roundg gq
          case rel=>exact ⟨k+1,⟨by have:=hgk.out;omega⟩,hk1,by go_num,⟨by rw [htk6.out];exact ⟨_,hin7.out⟩⟩,⟨hbel2.out.trans hb7.out⟩⟩
          case measure=>omega
   · obtain rfl:k=ln:=by omega
     have hfull:op P k=op P P.length:=op_full hT.out (by omega)
     have hto8:=hto.out.full (fun x hx=>by rw [List.take_of_length_le (by omega),hfull];exact Ze5 hT.out _ x rfl hx)
     rw [hfull] at hto8
     replace hto8:=As.mk hto8
     clear hset hne3 hfull
     rw [hln] at ho3
     obtain ⟨Av,cv,rfl,hcv⟩:=Zk ho3
     replace ho3:=As.mk ho3
     replace hln:=As.mk hln
     go_wp2
     try rw [Exit.noGoto_ret]
     go_ret
     exact ⟨g,rfl,hto8.out,hbel.out⟩
end Go.Proofs.YtfdlaomnecjfeaaGreatDoor
end
section
namespace Go.Proofs.YtfdlaomnecjfeaaGreatDoor
open Go.RowKit Go.Maps Seine.Trie Seine.Links
abbrev OwnInts (w:World) (base:Nat) (v:Value) (xs:List Int):Prop:=w.ownsRow base 3 1 v xs.length (Z9 xs)
theorem Ints.at_ {w:World} {A:Option Addr} {xs:List Int} (h:Ints w A xs) {i:Nat} (hi:i<xs.length):∃ ad,A=some ad∧w.cell? (ad.add i)=some (.int .i64 (xs.getD i 0)):=by
 obtain ⟨ad,h1,h2⟩:=Row.at_ h (j:=i) (by rw [Zat];exact hi)
 exact ⟨ad,h1,by rw [h2];simp [Z9,hi]⟩
theorem OwnInts.row {w:World} {base:Nat} {v:Value} {xs:List Int} (h:OwnInts w base v xs):∃ A c,v=.slice A xs.length c∧xs.length≤c∧Ints w A xs:=by
 obtain ⟨A,c,rfl,hc⟩:=Zk h
 exact ⟨A,c,rfl,hc,Row.of_own h⟩
/-- A row of whole numbers in new memory. -/
def RetInts (w:World) (xs:List Int) (e:Ending) (w':World):Prop:=∃ v,e=.returned v∧OwnInts w' w.heap.size v xs∧Below w.heap.size w w'
theorem RetInts.row {w w':World} {xs:List Int} {e:Ending} (h:RetInts w xs e w'):∃ A c,e=.returned (.slice A xs.length c)∧xs.length≤c∧Ints w' A xs∧Below w.heap.size w w':=by
 obtain ⟨v,rfl,ho,hb⟩:=h
 obtain ⟨A,c,rfl,hc,hr⟩:=OwnInts.row ho
 exact ⟨A,c,rfl,hc,hr,hb⟩
section
variable (w:World) (base g:Nat) (P:List Txt) (F O U:Txt→Int) (o:List Txt)
theorem Zeo (h:LinksAt w base g P F O U o) (n:Int) (b:Bool) (hb:b=true↔0≤n∧n<P.length):Calls Tryz.prog 215 #[.pointer (some ⟨g,0,none⟩),.int .i64 n] w fun e w'=>e=.returned (.bool b)∧w=w':=by
 obtain ⟨B,h⟩:=h
 obtain ⟨q0,q1,q2,q3,q4⟩:=h.heads
 clear q1 q2 q3 q4 h
 by_cases h0:0≤n
 · have h0b:decide (0≤n)=true:=decide_eq_true h0
   by_cases h1:n<P.length
   · obtain rfl:b=true:=hb.2 ⟨h0,h1⟩
     clear hb
     go_enter Tryz.func215,Tryz.ntmps215
     go_wp2
     go_ret
     exact ⟨rfl,rfl⟩
   · obtain rfl:b=false:=by cases b with
       | false=>rfl
       | true=>exact absurd (hb.1 rfl).2 h1
     clear hb
     have h1b:decide (n<(P.length:Int))=false:=decide_eq_false h1
     go_enter Tryz.func215,Tryz.ntmps215
     go_wp2
     go_ret
     exact ⟨rfl,rfl⟩
 · obtain rfl:b=false:=by cases b with
     | false=>rfl
     | true=>exact absurd (hb.1 rfl).1 h0
   clear hb
   have h0b:decide (0≤n)=false:=decide_eq_false h0
   go_enter Tryz.func215,Tryz.ntmps215
   go_wp2
   go_ret
   exact ⟨rfl,rfl⟩
theorem Zag (h:LinksAt w base g P F O U o) (n:Int):Calls Tryz.prog 189 #[.pointer (some ⟨g,0,none⟩),.int .i64 n] w fun e w'=>e=.returned (.int .i64 (askF P F (-1) n))∧w=w':=by
 have his:=As.mk (Zeo w base g P F O U o h n)
 obtain ⟨B,h⟩:=h
 obtain ⟨c1,c2,c3⟩:=h.caps
 obtain ⟨q0,q1,q2,q3,q4⟩:=h.heads
 clear q1 q2 q3 q4 c2 c3
 by_cases hn:0≤n∧n<P.length
 · have hi:=As.mk (his.out true (by simp [hn]))
   have hask:askF P F (-1) n=F (P.getD n.toNat []):=if_pos hn
   obtain ⟨m,rfl⟩:∃ m:Nat,n=m:=⟨n.toNat,by omega⟩
   have hml:m<P.length:=by omega
   obtain ⟨r1,r2,r3,_⟩:=h.rows (Xo hml)
   rw [Int.toNat_natCast] at hask
   rw [hask]
   clear r2 r3 hask hn h
   generalize F (P.getD m [])=fv at *
   go_enter Tryz.func189,Tryz.ntmps189
   go_wp2_with (go_at_call 215;refine hi.out.mono ?_;rintro e w' ⟨rfl,rfl⟩)
   go_ret
   exact ⟨rfl,rfl⟩
 · have hi:=As.mk (his.out false (by simp;omega))
   have hask:askF P F (-1) n = -1:=if_neg hn
   rw [hask]
   clear hask hn h
   go_enter Tryz.func189,Tryz.ntmps189
   go_wp2_with (go_at_call 215;refine hi.out.mono ?_;rintro e w' ⟨rfl,rfl⟩)
   go_ret
   exact ⟨rfl,rfl⟩
end
/-- The links of a tree, whole. -/
def YN (w:World) (base g:Nat) (P l:List Txt):Prop:=LinksAt w base g P (ZN P) (outF P l) (Qw l) (op P P.length)
def Yb (P l:List Txt) (n:Int):List Int:=if 0≤n∧n<P.length then endsF l (P.getD n.toNat []) else []
theorem JF {P l:List Txt} (hT:Tree P) {a:Nat} {s:Txt} (h:P[a]? = some s):Yb P l (a:Int)=endsF l s:=by
 have hl:=(List.getElem?_eq_some_iff.1 h).1
 unfold Yb
 rw [if_pos (by omega),Int.toNat_natCast,List.getD_eq_getElem?_getD,h];rfl
theorem endsF_length (l:List Txt) (s:Txt):(endsF l s).length≤s.length:=by
 unfold endsF
 rw [List.length_map]
 exact Nat.le_trans (List.length_filter_le _ _) (by simp)
/-- A round of Ends. -/
theorem ends_round {P l:List Txt} (hT:Tree P) (hlP:∀ x,x∈l→x∈P) {a:Nat} {s:Txt} (h:P[a]? = some s):endsF l s=(if 0<Qw l s then [Qw l s] else [])++Yb P l (outF P l s)∧(0≤outF P l s→outF P l s<P.length∧(P.getD (outF P l s).toNat []).length<s.length):=by
 rw [ends_rec]
 unfold outF
 cases ho:Jb l s with
 | none =>
   refine ⟨?_,fun h0=>by simp at h0⟩
   simp [Yb]
 | some n =>
   obtain ⟨h1,h2,h3,_⟩:=Zbg ho
   obtain ⟨b,hb1,hb2⟩:=Qs (hlP _ h3)
   have hbl:=(List.getElem?_eq_some_iff.1 hb2).1
   simp only [hb1]
   refine ⟨by rw [JF hT hb2],fun _=>⟨by omega,?_⟩⟩
   rw [Int.toNat_natCast,List.getD_eq_getElem?_getD,hb2]
   show (s.drop n).length<_
   rw [List.length_drop];omega
theorem Ze6 {P:List Txt} {t:Int} {s:Txt} (h:0≤t→(P.getD t.toNat []).length<s.length):Yy P (.int .i64 t)<s.length+1:=by
 unfold Yy
 show (if 0≤t then (P.getD t.toNat []).length+1 else 0)<s.length+1
 by_cases h0:0≤t
 · rw [if_pos h0];have:=h h0;omega
 · rw [if_neg h0];omega
theorem JG {w:World} {base:Nat} {v:Value} {xs:List Int} {x:Int} (h:w.ownsRow base 3 1 v (xs.length+1) (Z9 xs++[.int .i64 x])):OwnInts w base v (xs++[x]):=by
 unfold OwnInts
 rw [List.length_append,show Z9 (xs++[x])=Z9 xs++[.int .i64 x] by simp [Z9]]
 exact h
set_option maxHeartbeats 800000 in
theorem Zcj (w:World) (base g:Nat) (P l:List Txt) (hT:Tree P) (hlP:∀ x,x∈l→x∈P) (hd:∀ p∈P,p.length≤100000) (h:YN w base g P l) (n:Int) :
    Calls Tryz.prog 271 #[.pointer (some ⟨g,0,none⟩),.int .i64 n] w (RetInts w (Yb P l n)):=by
 obtain ⟨R,hR⟩:∃ R,Yb P l n=R:=⟨_,rfl⟩
 rw [hR]
 have hR:=As.mk hR
 have HT:=As.mk hT
 have HP:=As.mk hlP
 have HD:=As.mk hd
 obtain ⟨B,hB⟩:=h
 have HL:=As.mk hB
 have hRl:As (R.length≤100000):=⟨by
  rw [← hR.out]
  unfold Yb
  split
  · refine Nat.le_trans (endsF_length _ _) (hd _ ?_)
    rw [List.getD_eq_getElem?_getD,List.getElem?_eq_getElem (by omega)]
    exact List.getElem_mem _
  · simp⟩
 clear hT hlP hd hB
 obtain ⟨i0,hi,hz0,hz1,hz2⟩:=info_parts XF
 go_enter Tryz.func271,Tryz.ntmps271
 go_wp2
 go_loopw [1,5] (fun i v wr=>∃ (m:Int) (acc:List Int),i=.int .i64 m∧As (acc++Yb P l m=R)∧As (OwnInts wr w.heap.size v acc)∧As (Below w.heap.size w wr)) (fun i _ _=>Yy P i)
 case atStart=>exact ⟨n,[],rfl,hR,⟨World.ownsRow_nil _ _ _ _⟩,⟨Below.refl _ _⟩⟩
 case round =>
  obtain ⟨m,acc,rfl,hacc,hown,hbel⟩:=hrel
  have hin:=HL.out.below hbel.out
  have his:=As.mk (Zeo wr base g P _ _ _ _ ⟨B,hin⟩ m)
  obtain ⟨c1,c2,c3⟩:=hin.caps
  obtain ⟨q0,q1,q2,q3,q4⟩:=hin.heads
  clear q0 q3 q4 c1
  have haccl:As (acc.length≤100000):=⟨by have:=hRl.out;rw [← hacc.out,List.length_append] at this;omega⟩
  by_cases hm:0≤m∧m<P.length
  · have hi1:=As.mk (his.out true (by simp [hm]))
    obtain ⟨a,rfl⟩:∃ a:Nat,m=a:=⟨m.toNat,by omega⟩
    have hal:a<P.length:=by omega
    have hs:=Xo hal
    obtain ⟨s,hs2⟩:∃ s,P.getD a []=s:=⟨_,rfl⟩
    rw [hs2] at hs
    obtain ⟨r1,r2,r3,_⟩:=hin.rows hs
    obtain ⟨e1,e2⟩:=ends_round HT.out HP.out (l:=l) hs
    have hea:=JF (l:=l) HT.out hs
    obtain ⟨u,hu⟩:∃ u,Qw l s=u:=⟨_,rfl⟩
    obtain ⟨t,ht⟩:∃ t,outF P l s=t:=⟨_,rfl⟩
    rw [hu] at r3 e1
    rw [ht] at r2 e1 e2
    have hnext:As (∀ v,Below w.heap.size w v→v.cell? ⟨g,1,none⟩=some (.slice (some ⟨B.bo,0,none⟩) P.length B.co)∧v.cell? ⟨B.bo,a,none⟩=some (.int .i64 t)):=⟨fun v hv=>by
     have hin2:=HL.out.below hv
     refine ⟨hin2.heads.2.1,?_⟩
     rw [← ht];exact (hin2.rows hs).2.1⟩
    rw [hea,e1] at hacc
    have e2:=As.mk e2
    have hs2:=As.mk hs2
    replace hin:=As.mk hin
    clear r1 e1 hea hu ht hm hs
    by_cases hu0:0<u
    · have hu1:decide (0<u)=true:=decide_eq_true hu0
      rw [if_pos hu0] at hacc
      go_wp2_with (first
       | (go_at_call 215;refine hi1.out.mono ?_;rintro e w' ⟨rfl,rfl⟩)
       | (at_builtin
          refine ZA _ rfl (.tmp 17) (.tmp 25) 45 rfl w.heap.size 3 _ 1 8 Tryz.underlying45 XF rfl (by decide) _ acc.length (Z9 acc) rfl hown.out [.int .i64 u] rfl (by simp [Value.oneCell']) _ rfl (by simp) (by have:=haccl.out;omega) (by decide) hbel.out.size ?_
          intro v' w2 hown2 hk2 hat2 hb2
          obtain ⟨n1,n2⟩:=hnext.out w2 (hbel.out.trans hb2)))
      go_roundw
      case rel=>exact ⟨t,acc++[u],rfl,⟨by rw [← hacc.out,List.append_assoc]⟩,⟨JG hown2⟩,⟨hbel.out.trans hb2⟩⟩
      case measure =>
       show Yy P (.int .i64 t)<Yy P (.int .i64 (a:Int))
       rw [Zbm,hs2.out]
       exact Ze6 (fun h0=>(e2.out h0).2)
    · have hu1:decide (0<u)=false:=decide_eq_false hu0
      rw [if_neg hu0] at hacc
      go_wp2_with (go_at_call 215;refine hi1.out.mono ?_;rintro e w' ⟨rfl,rfl⟩)
      go_roundw
      case rel=>exact ⟨t,acc,rfl,⟨by rw [← hacc.out,List.nil_append]⟩,hown,hbel⟩
      case measure =>
       show Yy P (.int .i64 t)<Yy P (.int .i64 (a:Int))
       rw [Zbm,hs2.out]
       exact Ze6 (fun h0=>(e2.out h0).2)
  · have hi1:=As.mk (his.out false (by simp;omega))
    have hfin:As (acc=R):=⟨by rw [← hacc.out];unfold Yb;rw [if_neg hm,List.append_nil]⟩
    clear hm
    go_wp2_with (go_at_call 215;refine hi1.out.mono ?_;rintro e w' ⟨rfl,rfl⟩)
    go_ret
    exact ⟨_,rfl,hfin.out ▸ hown.out,hbel.out⟩
end Go.Proofs.YtfdlaomnecjfeaaGreatDoor
end
section
namespace Seine.Sparse
open Seine.Trie Seine.Links Seine.Sort
/-- The longest end of a text that is a node's path. -/
def lng (P:List Txt) (t:Txt):Txt:=match Q1 (fun n=>decide (t.drop n∈P)) 0 t.length with | some n=>t.drop n | none=>[]
theorem XX {P:List Txt} (hT:Tree P) (t:Txt):∃ n,n≤t.length∧lng P t=t.drop n∧t.drop n∈P∧∀ j,j<n→t.drop j ∉ P:=by
 unfold lng
 cases h:Q1 (fun n=>decide (t.drop n∈P)) 0 t.length with
 | some n =>
   obtain ⟨_,h2,h3,h4⟩:=XO h
   exact ⟨n,by omega,rfl,of_decide_eq_true h3,fun j hj=>of_decide_eq_false (h4 j (Nat.zero_le _) hj)⟩
 | none =>
   refine ⟨t.length,Nat.le_refl _,by simp,by simp;exact hT.nil_mem,fun j hj=>of_decide_eq_false (Ya h j (Nat.zero_le _) (by omega))⟩
theorem Zbp {P:List Txt} (hT:Tree P) {t:Txt} {n:Nat} (h1:n≤t.length) (h2:t.drop n∈P) (h3:∀ j,j<n→t.drop j ∉ P):lng P t=t.drop n:=by
 obtain ⟨m,a,b,c,d⟩:=XX hT t
 rcases Nat.lt_trichotomy m n with e | e | e
 · exact absurd c (h3 m e)
 · rw [b,e]
 · exact absurd h2 (d n e)
theorem Jt {P:List Txt} (hT:Tree P) (t:Txt):lng P t∈P:=by obtain ⟨n,_,b,c,_⟩:=XX hT t;rw [b];exact c
theorem ZdZ (P:List Txt):lng P []=[]:=rfl
theorem lng_self {P:List Txt} (hT:Tree P) {t:Txt} (h:t∈P):lng P t=t:=by
 have:=Zbp hT (n:=0) (t:=t) (Nat.zero_le _) (by simpa using h) (fun j hj=>by omega)
 simpa using this
/-- The state behind a byte hangs on the state alone. -/
theorem ZcV {P:List Txt} (hT:Tree P) (t:Txt) (c:UInt8):lng P (t++[c])=lng P (lng P t++[c]):=by
 obtain ⟨m,a,b,hm,d⟩:=XX hT (t++[c])
 rw [b]
 obtain ⟨n,a',b',hn,d'⟩:=XX hT t
 rw [b']
 symm
 by_cases hml:m≤t.length
 · rw [Qc hml] at hm ⊢
   have hnm:n≤m:=by
    rcases Nat.lt_or_ge m n with e | e
    · exact absurd (ZbV hT hm) (d' m e)
    · exact e
   have:=Zbp hT (t:=t.drop n++[c]) (n:=m - n) (by simp;omega) (by rw [Qc (by rw [List.length_drop];omega),List.drop_drop,show n+(m - n)=m by omega];exact hm) (fun j hj=>by
    rw [Qc (by rw [List.length_drop];omega),List.drop_drop,← Qc (by omega)]
    exact d _ (by omega))
   rw [this,Qc (by rw [List.length_drop];omega),List.drop_drop,show n+(m - n)=m by omega]
 · have hml2:m=t.length+1:=by simp at a;omega
   subst hml2
   have:=Zbp hT (t:=t.drop n++[c]) (n:=(t.drop n++[c]).length) (Nat.le_refl _) (by rw [List.drop_length];exact hT.nil_mem) (fun j hj=>by
    rw [List.length_append,List.length_drop,List.length_singleton] at hj
    rw [Qc (by rw [List.length_drop];omega),List.drop_drop,← Qc (by omega)]
    exact d _ (by omega))
   rw [this]
   simp
theorem Zfx {P:List Txt} (hT:Tree P) (t:Txt):(lng P t).length≤t.length:=by
 obtain ⟨n,a,b,_,_⟩:=XX hT t
 rw [b,List.length_drop];omega
/-- How many look-ups a byte takes, from a state. -/
def QS (P:List Txt) (c:UInt8):Nat→Txt→Nat
 | 0,_=>1
 | f+1,s=>if s++[c]∈P then 1 else match Xi P s with | some n=>1+QS P c f (s.drop n) | none=>1
def Qi (P:List Txt) (s:Txt) (c:UInt8):Nat:=QS P c s.length s
theorem Zdm (P:List Txt) (c:UInt8):∀ (f g:Nat) (s:Txt),s.length≤f→s.length≤g→QS P c f s=QS P c g s
 | 0,0,_,_,_=>rfl
 | 0,g+1,s,h,_=>by
   have:s=[]:=List.eq_nil_of_length_eq_zero (by omega)
   subst this
   simp [QS,Xi,Q1]
 | f+1,0,s,_,h=>by
   have:s=[]:=List.eq_nil_of_length_eq_zero (by omega)
   subst this
   simp [QS,Xi,Q1]
 | f+1,g+1,s,h,k=>by
   unfold QS
   split
   · rfl
   · cases hf:Xi P s with
     | none=>rfl
     | some n =>
       obtain ⟨h1,h2,_,_⟩:=Qx hf
       simp only
       rw [Zdm P c f g (s.drop n) (by rw [List.length_drop];omega) (by rw [List.length_drop];omega)]
theorem ZaO {P:List Txt} {s:Txt} {c:UInt8} (h:s++[c]∈P):Qi P s c=1:=by
 unfold Qi
 cases hs:s.length with
 | zero=>rfl
 | succ k=>unfold QS;rw [if_pos h]
theorem Zah {P:List Txt} (c:UInt8):Qi P [] c=1:=rfl
theorem Zai {P:List Txt} {s:Txt} {c:UInt8} {n:Nat} (h:s++[c] ∉ P) (hf:Xi P s=some n):Qi P s c=1+Qi P (s.drop n) c:=by
 obtain ⟨h1,h2,_,_⟩:=Qx hf
 unfold Qi
 obtain ⟨k,hk⟩:∃ k,s.length=k+1:=⟨s.length - 1,by omega⟩
 rw [hk,QS,if_neg h,hf]
 simp only
 rw [Zdm P c k (s.drop n).length (s.drop n) (by rw [List.length_drop];omega) (Nat.le_refl _)]
theorem ZaP (P:List Txt) (s:Txt) (c:UInt8):1≤Qi P s c:=by
 unfold Qi
 cases s.length with
 | zero=>exact Nat.le_refl _
 | succ k=>unfold QS;split
           · exact Nat.le_refl _
           · split <;> omega
/-- The state behind a byte: on, or from where the state falls to, or the root. -/
theorem JH {P:List Txt} (hT:Tree P) {s:Txt} {c:UInt8} (h:s++[c]∈P):lng P (s++[c])=s++[c]:=lng_self hT h
theorem JV {P:List Txt} (hT:Tree P) {c:UInt8} (h:[c] ∉ P):lng P [c]=[]:=by
 have:=Zbp hT (t:=[c]) (n:=1) (by simp) (by simp;exact hT.nil_mem) (fun j hj=>by
  have:j=0:=by omega
  subst this;simpa using h)
 simpa using this
theorem JW {P:List Txt} (hT:Tree P) {s:Txt} {c:UInt8} {n:Nat} (h:s++[c] ∉ P) (hf:Xi P s=some n):lng P (s++[c])=lng P (s.drop n++[c]):=by
 obtain ⟨h1,h2,h3,h4⟩:=Qx hf
 obtain ⟨m,a,b,hm,d⟩:=XX hT (s++[c])
 have hnm:n≤m:=by
  rcases Nat.lt_or_ge m n with e | e
  · rcases Nat.eq_zero_or_pos m with z | z
    · subst z;simp at hm;exact absurd hm h
    · rw [Qc (by omega)] at hm
      exact absurd (ZbV hT hm) (h4 m z e)
  · exact e
 rw [b,← Qc h2]
 symm
 have:=Zbp hT (t:=(s++[c]).drop n) (n:=m - n) (by rw [List.length_drop];omega) (by rw [List.drop_drop,show n+(m - n)=m by omega];exact hm) (fun j hj=>by
  rw [List.drop_drop];exact d _ (by omega))
 rw [this,List.drop_drop,show n+(m - n)=m by omega]
/-- Each look-up but one costs a byte of the path. -/
theorem looks1_cost {P:List Txt} (hT:Tree P) (c:UInt8):∀ (k:Nat) (s:Txt),s.length=k→Qi P s c+(lng P (s++[c])).length≤s.length+2:=by
 intro k
 induction k using Nat.strongRecOn with
 | _ k ih =>
   intro s hk
   by_cases h:s++[c]∈P
   · rw [ZaO h,JH hT h];simp;omega
   · by_cases hs:s=[]
     · subst hs
       rw [Zah,List.nil_append,JV hT (by simpa using h)];simp
     · obtain ⟨n,hf⟩:=Y3 hT hs
       obtain ⟨h1,h2,_,_⟩:=Qx hf
       rw [Zai h hf,JW hT h hf]
       have:=ih (s.drop n).length (by rw [List.length_drop];omega) (s.drop n) rfl
       rw [List.length_drop] at this
       omega
/-- How many look-ups a line's first bytes take. -/
def ZU (P:List Txt) (L:Txt):Nat→Nat
 | 0=>0
 | i+1=>ZU P L i+Qi P (lng P (L.take i)) (L.getD i 0)
theorem ZaQ (L:Txt) (i:Nat) (h:i<L.length):L.take (i+1)=L.take i++[L.getD i 0]:=by
 rw [List.take_succ_eq_append_getElem h,List.getD_eq_getElem?_getD,List.getElem?_eq_getElem h];rfl
theorem looksTo_cost {P:List Txt} (hT:Tree P) (L:Txt):∀ i,i≤L.length→i≤ZU P L i∧ZU P L i+(lng P (L.take i)).length≤2 * i
 | 0,_=>⟨Nat.le_refl _,by simp [ZU,ZdZ]⟩
 | i+1,h=>by
   obtain ⟨h1,h2⟩:=looksTo_cost hT L i (by omega)
   have h3:=ZaP P (lng P (L.take i)) (L.getD i 0)
   have h4:=looks1_cost hT (L.getD i 0) _ (lng P (L.take i)) rfl
   rw [ZaQ L i (by omega),ZcV hT,ZU]
   omega
/-- The pieces that end behind a line's first bytes, by the state there. -/
def ZeS (l:List Txt) (s:Txt) (i:Nat):List Pr:=(endsF l s).map fun n=>((i:Int) - n,(i:Int))
def Z1 (P l:List Txt) (L:Txt):Nat→List Pr
 | 0=>[]
 | i+1=>Z1 P l L i++ZeS l (lng P (L.take (i+1))) (i+1)
theorem mem_endsF {l:List Txt} {s:Txt} {n:Int}:n∈endsF l s↔∃ k:Nat,k<s.length∧s.drop k∈l∧n=((s.length - k:Nat):Int):=by
 unfold endsF
 simp only [List.mem_map,List.mem_filter,List.mem_range,decide_eq_true_eq]
 constructor
 · rintro ⟨k,⟨h1,h2⟩,rfl⟩;exact ⟨k,h1,h2,rfl⟩
 · rintro ⟨k,h1,h2,rfl⟩;exact ⟨k,⟨h1,h2⟩,rfl⟩
theorem mem_endsP {P l:List Txt} (hT:Tree P) (hlP:∀ x,x∈l→x∈P) {L:Txt} {i:Nat} (hi:i≤L.length) {p:Pr}:p∈ZeS l (lng P (L.take i)) i↔∃ k:Nat,p=((k:Int),(i:Int))∧k<i∧(L.drop k).take (i - k)∈l:=by
 obtain ⟨n,a,b,c,d⟩:=XX hT (L.take i)
 rw [List.length_take,Nat.min_eq_left hi] at a
 have hlen:(lng P (L.take i)).length=i - n:=by rw [b,List.length_drop,List.length_take];omega
 have key:∀ k,(L.take i).drop k=(L.drop k).take (i - k):=fun k=>by rw [List.drop_take]
 unfold ZeS
 rw [List.mem_map]
 constructor
 · rintro ⟨z,hz,rfl⟩
   obtain ⟨k,h1,h2,rfl⟩:=mem_endsF.1 hz
   rw [hlen] at h1 ⊢
   rw [b,List.drop_drop,key] at h2
   exact ⟨n+k,by simp;omega,by omega,h2⟩
 · rintro ⟨k,rfl,h1,h2⟩
   rw [← key] at h2
   have hP:=hlP _ h2
   have hnk:n≤k:=by
    rcases Nat.lt_or_ge k n with e | e
    · exact absurd hP (d k e)
    · exact e
   refine ⟨((i - k:Nat):Int),mem_endsF.2 ⟨k - n,by rw [hlen];omega,by rw [b,List.drop_drop,show n+(k - n)=k by omega];exact h2,by rw [hlen];omega⟩,?_⟩
   simp;omega
theorem Zdn {P l:List Txt} (hT:Tree P) (hlP:∀ x,x∈l→x∈P) {L:Txt}:∀ {i:Nat},i≤L.length→∀ {p:Pr},p∈Z1 P l L i↔∃ k j:Nat,p=((k:Int),(j:Int))∧k<j∧j≤i∧(L.drop k).take (j - k)∈l
 | 0,_,p=>by
   simp only [Z1,List.not_mem_nil,false_iff]
   rintro ⟨k,j,_,h1,h2,_⟩;omega
 | i+1,h,p=>by
   rw [Z1,List.mem_append,Zdn hT hlP (by omega),mem_endsP hT hlP h]
   constructor
   · rintro (⟨k,j,rfl,h1,h2,h3⟩ | ⟨k,rfl,h1,h2⟩)
     · exact ⟨k,j,rfl,h1,by omega,h3⟩
     · exact ⟨k,i+1,rfl,h1,Nat.le_refl _,h2⟩
   · rintro ⟨k,j,rfl,h1,h2,h3⟩
     by_cases e:j=i+1
     · subst e;exact .inr ⟨k,rfl,h1,h3⟩
     · exact .inl ⟨k,j,rfl,h1,by omega,h3⟩
theorem ZaR {P l:List Txt} (hT:Tree P) (hlP:∀ x,x∈l→x∈P) (L:Txt):sortP (Z1 P l L L.length)=occ l L :=
 ZcT (rise_occ l L) fun p=>by
  rw [Zdn hT hlP (Nat.le_refl _),mem_occ];rfl
theorem Zbq (l:List Txt) (s:Txt):(endsF l s).length≤s.length:=by
 unfold endsF
 rw [List.length_map]
 exact Nat.le_trans (List.length_filter_le _ _) (by simp)
theorem YA {P l:List Txt} (hT:Tree P) (L:Txt) (m:Nat) (hm:∀ p∈P,p.length≤m):∀ i,(Z1 P l L i).length≤i * m
 | 0=>by simp [Z1]
 | i+1=>by
   rw [Z1,List.length_append]
   have h1:=YA (l:=l) hT L m hm i
   have h2:=Zbq l (lng P (L.take (i+1)))
   have h3:=hm _ (Jt hT (L.take (i+1)))
   unfold ZeS
   rw [List.length_map,Nat.succ_mul];omega
end Seine.Sparse
end
section
namespace Go.Proofs.YtfdlaomnecjfeaaGreatDoor
open Go.RowKit Go.Maps Seine.Trie Seine.Links
theorem TrieAt.keepOf {S:Nat→Prop} {w w':World} {base g:Nat} {P:List Txt} {W:Txt→Int} (h:TrieAt w base g P W) (hk:Keeps S w w')
    (hS:∀ b,S b→∃ cs t fr,w.heap[b]? = some (.cells cs t fr)∧t≠283∧t≠279):TrieAt w' base g P W:=by
 obtain ⟨v,mb,hg,h1,h2,ho,hm,hT⟩:=h
 have blk:∀ b cs t fr,w.heap[b]? = some (.cells cs t fr)→(t=283∨t=279)→¬ S b:=fun b cs t fr hb ht hs=>by
  obtain ⟨cs',t',fr',h3,h4,h5⟩:=hS b hs
  rw [hb] at h3
  injection h3 with h3
  injection h3 with _ h3
  subst h3
  rcases ht with e | e
  · exact h4 e
  · exact h5 e
 refine ⟨v,mb,Zd hg hk (blk _ _ _ _ hg (.inl rfl)),h1,h2,Zj ho hk (fun b c _ hb _=>blk _ _ _ _ hb (.inr rfl)),hm.keep hk (fun hs=>?_),hT⟩
 obtain ⟨es,cl,h4⟩:=hm.is_map
 obtain ⟨cs',t',fr',h3,_⟩:=hS mb hs
 rw [h4] at h3
 injection h3 with h3
 cases h3
theorem LinksAt.keepOf {S:Nat→Prop} {w w':World} {base g:Nat} {P:List Txt} {F O U:Txt→Int} {o:List Txt} (h:LinksAt w base g P F O U o) (hk:Keeps S w w')
    (hS:∀ b,S b→∃ cs t fr,w.heap[b]? = some (.cells cs t fr)∧t≠287∧t≠3):LinksAt w' base g P F O U o:=by
 obtain ⟨B,hg,h0,h1,h2,h3,h4,h5,h6,h7,h8⟩:=h
 have blk:∀ b cs t fr,w.heap[b]? = some (.cells cs t fr)→(t=287∨t=3)→¬ S b:=fun b cs t fr hb ht hs=>by
  obtain ⟨cs',t',fr',k3,k4,k5⟩:=hS b hs
  rw [hb] at k3
  injection k3 with k3
  injection k3 with _ k3
  subst k3
  rcases ht with e | e
  · exact k4 e
  · exact k5 e
 exact ⟨B,Zd hg hk (blk _ _ _ _ hg (.inl rfl)),h0,Zj h1 hk (fun b c _ hb _=>blk _ _ _ _ hb (.inr rfl)),Zj h2 hk (fun b c _ hb _=>blk _ _ _ _ hb (.inr rfl)),Zj h3 hk (fun b c _ hb _=>blk _ _ _ _ hb (.inr rfl)),h4,h5,h6,Zj h7 hk (fun b c _ hb _=>blk _ _ _ _ hb (.inr rfl)),h8⟩
theorem JX {w:World} {mo:Option Nat} {c:Cn} (hm:Mo w mo c):∀ b,Zu mo b→w.heap[b]? = some (.cells (Qr c) 213 (0,0)):=fun b h=>hm b h
theorem TrieAt.keepM {w w':World} {base g:Nat} {P:List Txt} {W:Txt→Int} {mo:Option Nat} {c:Cn} (h:TrieAt w base g P W) (hm:Mo w mo c) (hk:Keeps (Zu mo) w w'):TrieAt w' base g P W :=
 h.keepOf hk (fun b hb=>⟨_,_,_,JX hm b hb,by decide,by decide⟩)
theorem LinksAt.keepM {w w':World} {base g:Nat} {P:List Txt} {F O U:Txt→Int} {o:List Txt} {mo:Option Nat} {c:Cn} (h:LinksAt w base g P F O U o) (hm:Mo w mo c) (hk:Keeps (Zu mo) w w'):LinksAt w' base g P F O U o :=
 h.keepOf hk (fun b hb=>⟨_,_,_,JX hm b hb,by decide,by decide⟩)
theorem QE {w:World} {base e size n b:Nat} {v:Value} {cs:List Value} (h:w.ownsRow base e size v n cs) (hb:some b=v.ownBlock):∃ c,w.heap[b]? = some (.cells c e (0,0)):=by
 rcases h.2 with ⟨rfl,_⟩ | ⟨g,cap,cur,rfl,_,hh,_⟩
 · simp [Value.ownBlock] at hb
 · simp [Value.ownBlock] at hb;subst hb;exact ⟨_,hh⟩
theorem last_get {p:Txt} (h:0<p.length):p.getD (p.length - 1) 0=lastB p:=by
 unfold lastB
 rw [List.getLast?_eq_getElem?,List.getD_eq_getElem?_getD]
theorem len_tot {l:List Txt}:∀ b∈l,b.length≤tot l:=by
 induction l with
 | nil=>simp
 | cons x l ih =>
   intro b hb
   have e:tot (x::l)=x.length+tot l:=by simp [tot]
   rcases List.mem_cons.1 hb with rfl | hb
   · omega
   · have:=ih b hb;omega
theorem JI {l:List Txt} {n:Nat} (h:tot l≤n):∀ p∈Zl l,p.length≤n:=fun p hp=>by
 rcases mem_paths.1 hp with rfl | ⟨b,hb,k,hk,rfl⟩
 · simp
 · have:=len_tot b hb;rw [List.length_take];omega
/-- Where an automaton's parts lie. -/
structure SB where
 tb:Nat
 tg:Nat
 lb:Nat
 lg:Nat
 v:Value
def AutoIn (w:World) (g:Nat) (P l:List Txt) (B:SB):Prop :=
 w.heap[g]? = some (.cells #[.pointer (some ⟨B.tg,0,none⟩),.pointer (some ⟨B.lg,0,none⟩),B.v] 234 (0,0))∧TrieAt w B.tb B.tg P (place l)∧YN w B.lb B.lg P l∧w.ownsRow 0 237 3 B.v (P.length - 1) (XD P (P.length - 1))
def AutoAt (w:World) (g:Nat) (P l:List Txt):Prop:=∃ B,AutoIn w g P l B
theorem AutoAt.below {w w':World} {g:Nat} {P l:List Txt} (h:AutoAt w g P l) (hb:Below w.heap.size w w'):AutoAt w' g P l:=by
 obtain ⟨B,h1,h2,h3,h4⟩:=h
 exact ⟨B,Zc hb h1,h2.below hb,LinksAt.below h3 hb,Zo h4 hb⟩
theorem AutoIn.keepM {w w':World} {g:Nat} {P l:List Txt} {B:SB} {mo:Option Nat} {c:Cn} (h:AutoIn w g P l B) (hm:Mo w mo c) (hk:Keeps (Zu mo) w w'):AutoIn w' g P l B:=by
 obtain ⟨h1,h2,h3,h4⟩:=h
 exact ⟨Zd h1 hk (hm.far h1 (.inl (by simp))),h2.keepM hm hk,LinksAt.keepM h3 hm hk,Zj h4 hk (fun b c _ hb _=>hm.far hb (.inr (by decide)))⟩
theorem AutoAt.keepM {w w':World} {g:Nat} {P l:List Txt} {mo:Option Nat} {c:Cn} (h:AutoAt w g P l) (hm:Mo w mo c) (hk:Keeps (Zu mo) w w'):AutoAt w' g P l:=by
 obtain ⟨B,h⟩:=h
 exact ⟨B,h.keepM hm hk⟩
theorem info_row:(Tryz.prog.info? 237).map (fun i=>(i.zero,i.size,i.bytes))=some (some (.agg #[(.int .i64 0),(.int .u8 0),(.int .i64 0)]),3,24):=by kernel_rfl
/-- An automaton that is being made: k rows are there. -/
def Zdo (w0 w:World) (g tg lg:Nat) (P:List Txt) (k:Nat) (v:Value):Prop :=
 w.heap[g]? = some (.cells #[.pointer (some ⟨tg,0,none⟩),.pointer (some ⟨lg,0,none⟩),v] 234 (0,0))∧w.ownsRow w0.heap.size 237 3 v k (XD P k)
set_option maxRecDepth 100000 in
set_option maxHeartbeats 1600000 in
theorem snew_calls (w:World) (A:Option Addr) (c:Nat) (l:List Txt) (hx:Txts w A l) (hl:tot l≤100000) (hll:l.length≤1000000) :
    Calls Tryz.prog 89 #[.slice A l.length c] w fun e w'=>∃ g,e=.returned (.pointer (some ⟨g,0,none⟩))∧AutoAt w' g (Zl l) l∧Below w.heap.size w w':=by
 have cb:=As.mk (Zaf w A c l hx (by omega) hll)
 have hTr:=As.mk (ZC l)
 have hPl:=Yq l
 have hlP:=As.mk (fun x (hx:x∈l)=>Qp hx)
 have hd:As (∀ p∈Zl l,p.length≤100000):=⟨fun p hp=>JI hl p hp⟩
 obtain ⟨P,hP⟩:∃ P,Zl l=P:=⟨_,rfl⟩
 rw [hP] at cb hTr hPl hlP hd ⊢
 obtain ⟨n,hn⟩:∃ n,P.length=n:=⟨_,rfl⟩
 rw [hn] at hPl
 have hn0:=hTr.out.len
 rw [hn] at hn0
 replace hn:=As.mk hn
 obtain ⟨i0,hi,hz0,hz1,hz2⟩:=info_parts info_row
 clear hx hP
 go_enter Tryz.func89,Tryz.ntmps89
 go_wp2_with fail
 refine Calls.mono cb.out ?_
 rintro e w1 ⟨tg,rfl,hT,hb1⟩
 have cl:=As.mk (Zbo w1 _ tg P l hT (by have:=hn.out;omega) hd.out hlP.out)
 replace hT:=As.mk hT
 replace hb1:=As.mk hb1
 go_wp2_with fail
 refine Calls.mono cl.out ?_
 rintro e w2 ⟨lg,rfl,hL,hb2⟩
 replace hT:=As.mk (hT.out.below hb2)
 replace hL:=As.mk hL
 have hB2:=As.mk (Ze hb1.out hb2)
 have s2:=hB2.out.size
 have hT3:=As.mk (hT.out.below ((Below.refl _ _).alloc (Nat.le_refl _) (.cells #[.pointer (some ⟨tg,0,none⟩),.pointer (some ⟨lg,0,none⟩),.slice none 0 0] 234)))
 have hL3:=As.mk (LinksAt.below hL.out ((Below.refl _ _).alloc (Nat.le_refl _) (.cells #[.pointer (some ⟨tg,0,none⟩),.pointer (some ⟨lg,0,none⟩),.slice none 0 0] 234)))
 have hB3:=As.mk (hB2.out.alloc s2 (.cells #[.pointer (some ⟨tg,0,none⟩),.pointer (some ⟨lg,0,none⟩),.slice none 0 0] 234))
 have hA3:As (Zdo w (w2.alloc (.cells #[.pointer (some ⟨tg,0,none⟩),.pointer (some ⟨lg,0,none⟩),.slice none 0 0] 234)) w2.heap.size tg lg P 0 (.slice none 0 0)):=⟨heap_alloc_new _ _,World.ownsRow_nil _ _ _ _⟩
 obtain ⟨gg,hgg⟩:∃ g,w2.heap.size=g:=⟨_,rfl⟩
 have hgw:w.heap.size≤gg:=by omega
 clear hb2 hb1 cb cl hT hL
 go_wp2_with fail
 rw [hgg] at hA3
 go_loopg [5] (n+1) (fun gk i wr=>∃ (k:Nat) (v:Value),As (n+1≤gk+k)∧1≤k∧k≤n∧i=.int .i64 k∧As (Zdo w wr gg tg lg P (k - 1) v)∧As (TrieAt wr w.heap.size tg P (place l))∧As (YN wr w1.heap.size lg P l)∧As (Below w.heap.size w wr))
 case atStart=>exact ⟨1,_,⟨by omega⟩,Nat.le_refl _,by omega,rfl,hA3,hT3,hL3,hB3⟩
 case round =>
  obtain ⟨k,v,hgk,hk1,hk,rfl,hA,hT,hL,hbel⟩:=hrel
  have cN:=As.mk (Qv wr w.heap.size tg P (place l) hT.out)
  rw [hn.out] at cN
  by_cases hlt:k<n
  · obtain ⟨gp,rfl⟩:∃ gp,gk=gp+1:=⟨gk - 1,by have:=hgk.out;omega⟩
    have hkn:=As.mk hn.out
    have hkP:k<P.length:=by rw [hn.out];exact hlt
    obtain ⟨a,ea,haP,hap⟩:=Yx hTr.out hk1 hkP
    have hpa:YW P (k:Int)=P.getD k []:=by unfold YW;rw [if_pos (by omega),Int.toNat_natCast]
    have cp:=As.mk (ZaL wr w.heap.size tg P (place l) hT.out (k:Int) hd.out)
    rw [hpa] at cp
    have hpl:0<(P.getD k []).length:=List.length_pos_iff.2 (ZdW hTr.out hk1 hkP)
    have hpl2:=hd.out _ (List.mem_of_getElem? (Xo hkP))
    have hlast:(P.getD k []).getD ((P.getD k []).length - 1) 0=lastB (P.getD k []):=last_get hpl
    have hrs:=Ja P (k - 1)
    rw [show k - 1+1=k by omega] at hrs
    unfold ZbU at hrs
    rw [ea] at hrs
    have hpar:=As.mk (fun v (hv:TrieAt v w.heap.size tg P (place l))=>(by have:=JA v w.heap.size tg P (place l) hv (k:Int);unfold askF at this;rw [if_pos (by omega),Int.toNat_natCast,ea] at this;exact this:Calls Tryz.prog 137 #[.pointer (some ⟨tg,0,none⟩),.int .i64 (k:Int)] v fun e w'=>e=.returned (.int .i64 (a:Int))∧v=w'))
    generalize lastB (P.getD k [])=x at *
    generalize P.getD k []=p at *
    obtain ⟨pl,hpl3⟩:∃ m,p.length=m:=⟨_,rfl⟩
    rw [hpl3] at hpl hpl2 hlast
    replace hpl3:=As.mk hpl3
    replace hrs:=As.mk hrs
    clear hap hpa hkP ea
    go_wp2_with (first
     | (go_at_call 135;refine Calls.mono cN.out ?_;rintro e w' ⟨rfl,rfl⟩)
     | (go_at_call 136;refine Calls.mono cp.out ?_;intro e w3 h3;obtain ⟨A3,c3,he,hc3,hr3,hb3⟩:=h3.rowc;subst he))
    obtain ⟨ad3,rfl,hx3⟩:=Byt.at_ hr3 (i:=pl - 1) (by have:=hpl3.out;omega)
    rw [hlast,hpl3.out] at *
    have hA3:Zdo w w3 gg tg lg P (k - 1) v:=⟨Zc hb3 hA.out.1,Zo hA.out.2 hb3⟩
    have hT3:=hT.out.below hb3
    have hL3:=LinksAt.below hL.out hb3
    have hbel3:=As.mk (Ze hbel.out hb3)
    have s3:=hbel3.out.size
    obtain ⟨Av,cv,rfl,hcv⟩:=Zk hA3.2
    have cpar:=As.mk (hpar.out _ (hT3.below (Below.drew (Below.refl _ _))))
    have g2:w3.cell? ⟨gg,2,none⟩=some (.slice Av (k - 1) cv):=Za hA3.1 2
    have hgl:=Zf hA3.1
    have hfar:some gg≠(Value.slice Av (k - 1) cv).ownBlock:=Zy hA3.2 hA3.1 (by decide)
    have hown2:=As.mk ((hA3.2.alloc (.cells #[.int .i64 (a:Int),.int .u8 (x.toNat:Int),.int .i64 (k:Int)] 237)).drew)
    have K1:=As.mk ((Below.cell (p:=⟨gg,2,none⟩) ((Below.alloc (Below.refl w3.heap.size w3) (Nat.le_refl _) (.cells #[.int .i64 (a:Int),.int .u8 (x.toNat:Int),.int .i64 (k:Int)] 237)).drew) hgl).trans g2)
    have K2:=As.mk ((Below.frozen (p:=⟨gg,2,none⟩) ((Below.alloc (Below.refl w3.heap.size w3) (Nat.le_refl _) (.cells #[.int .i64 (a:Int),.int .u8 (x.toNat:Int),.int .i64 (k:Int)] 237)).drew) hgl).trans (Zb hA3.1 2))
    have hi1:IntKind.i64.wrap ((pl:Int) - 1)=((pl - 1:Nat):Int):=by simp only [IntKind.wrap,IntKind.signed,IntKind.bits];simp;omega
    have hi2:pl - 1<pl:=by omega
    have hA3':=As.mk hA3
    have hT3':=As.mk hT3
    have hL3':=As.mk hL3
    clear hr3 h3 hA3 hT3 hL3 hpar cp
    go_wp2_with fail
    go_region_law (first
     | (refine step_append_lies _ (by rfl) _ _ _ (by rfl) w.heap.size 237 i0 _ 3 24 Tryz.underlying232 hi hz0 hz1 hz2 rfl (by omega) (.slice Av (k - 1) cv) (k - 1) _ (by rfl) hown2.out
              ⟨w3.heap.size,0,none⟩ 1 1 [.int .i64 (a:Int),.int .u8 (x.toNat:Int),.int .i64 (k:Int)] (by rfl) (by rfl) (World.news_of_block (cs:=#[.int .i64 (a:Int),.int .u8 (x.toNat:Int),.int .i64 (k:Int)]) (t:=237) (fr:=(0,0)) (heap_alloc_new w3 _)) (by simp [Value.oneCell'])
              (by omega) (by unfold maxLen;omega) (by omega) (by simp;omega) (w3.heap.size+1) (by simp) ?_
        intro g4 cap w4 hown4 hgrow hat hlt4
        have e0:=(hgrow.cell_far ⟨gg,2,none⟩ (by show gg<_;simp;omega) hfar).trans K1.out
        have e1:=(hgrow.frozen_far ⟨gg,2,none⟩ (by show gg<_;simp;omega) hfar).trans K2.out
        replace hgrow:=As.mk hgrow
        replace hown4:=As.mk hown4)
     | (refine JE (by rfl) ?ho cpar.out ?_;(case ho=>go_simp)))
    all_goals
     go_wp2_with fail
     have hkp:Keeps (fun q=>some q=(Value.slice Av (k - 1) cv).ownBlock) w3 w4:=(Keeps.of_below (((Below.refl _ _).alloc (Nat.le_refl _) _).drew) _).trans ((Keeps.of_grown hgrow.out).mono (fun _ _ h=>h))
     have hks5:=(hkp.mono (T:=fun q=>some q=(Value.slice Av (k - 1) cv).ownBlock∨q=gg) (fun _ _ h=>.inl h)).trans ((Zm w4 ⟨gg,2,none⟩ (.slice (some ⟨g4,0,none⟩) (k - 1+1) cap)).mono (fun _ _ h=>.inr h))
     have hSS:∀ q,(some q=(Value.slice Av (k - 1) cv).ownBlock∨q=gg)→∃ cs t fr,w3.heap[q]? = some (.cells cs t fr)∧(t=237∨t=234):=fun q hq=>by
      rcases hq with hq | rfl
      · obtain ⟨cs,h⟩:=QE hA3'.out.2 hq
        exact ⟨cs,_,_,h,.inl rfl⟩
      · exact ⟨_,_,_,hA3'.out.1,.inr rfl⟩
     have hT5:=hT3'.out.keepOf hks5 (fun q hq=>by obtain ⟨cs,t,fr,h1,h2⟩:=hSS q hq;exact ⟨cs,t,fr,h1,by rcases h2 with rfl | rfl <;> decide,by rcases h2 with rfl | rfl <;> decide⟩)
     have hL5:=LinksAt.keepOf hL3'.out hks5 (fun q hq=>by obtain ⟨cs,t,fr,h1,h2⟩:=hSS q hq;exact ⟨cs,t,fr,h1,by rcases h2 with rfl | rfl <;> decide,by rcases h2 with rfl | rfl <;> decide⟩)
     have hA4:=Zd hA3'.out.1 hkp hfar
     have hA5:Zdo w (w4.setCell ⟨gg,2,none⟩ (.slice (some ⟨g4,0,none⟩) (k - 1+1) cap)) gg tg lg P k (.slice (some ⟨g4,0,none⟩) (k - 1+1) cap):=by
      refine ⟨?_,?_⟩
      · have:=Zi hA4 2 (.slice (some ⟨g4,0,none⟩) (k - 1+1) cap)
        rw [this];simp
      · have h6:=hown4.out
        rw [← hrs.out] at h6
        have h7:=Zj h6 (Zm w4 ⟨gg,2,none⟩ (.slice (some ⟨g4,0,none⟩) (k - 1+1) cap)) (fun b c' _ hb _ hS=>by
         have hS:b=gg:=hS
         subst hS
         rw [hA4] at hb
         injection hb with hb
         injection hb with _ hb
         exact absurd hb (by decide))
        rw [show k - 1+1=k by omega] at h7 ⊢
        exact h7
     have hbel5:Below w.heap.size w (w4.setCell ⟨gg,2,none⟩ (.slice (some ⟨g4,0,none⟩) (k - 1+1) cap)) :=
      hbel3.out.trans (hks5.below (fun q hq hS=>by
       rcases hS with hS | hS
       · have:=(ZM hA3'.out.2 hS).1
         omega
       · omega) s3)
     rw [show k - 1+1=k by omega] at hT5 hL5 hA5 hbel5
     go_roundg gp
     case rel=>exact ⟨k+1,_,⟨by have:=hgk.out;omega⟩,by omega,by omega,(by first | rfl | go_num | (congr 1;omega)),⟨hA5⟩,⟨hT5⟩,⟨hL5⟩,⟨hbel5⟩⟩
     case measure=>omega
  · obtain rfl:k=n:=by omega
    go_wp2_with (go_at_call 135;refine Calls.mono cN.out ?_;rintro e w' ⟨rfl,rfl⟩)
    go_ret
    refine ⟨gg,rfl,⟨⟨w.heap.size,tg,w1.heap.size,lg,v⟩,hA.out.1,hT.out,hL.out,?_⟩,hbel.out⟩
    rw [hn.out]
    exact ZB hA.out.2 (Nat.zero_le _)
end Go.Proofs.YtfdlaomnecjfeaaGreatDoor
end
