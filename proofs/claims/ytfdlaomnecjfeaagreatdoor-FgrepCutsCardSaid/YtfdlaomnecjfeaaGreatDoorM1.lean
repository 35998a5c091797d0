/- Joined texts: Base, Args, Base2, TriePure, Bytes, Args3, App, Str, PrintWalk, Pairs, PrintWalk2, PrintWalk3, PickPure. -/
import Derived.WalkKit
import Derived.Deep.LoopGhost
import Derived.Deep.Draws
import Derived.Maps.AppendAt
import Derived.Laws.OwnMore
import Derived.Laws.StructEq
import Derived.Test.YtfdlaomnecjfeaaGreatDoorProg
import Derived.ProofKit
import Derived.Deep.Slices
import Derived.Deep.Fields
import Derived.ChangeSame
import Derived.RegionTactic
import Derived.BigRegion
import Derived.WalkMore
import Derived.ArgAppend
import Derived.Test.YtfdlaomnecjfeaaGreatDoorV1
import Derived.Lib.AppendStr
import Derived.Lib.ItoaLen
import Derived.Lib.SmallJoins
import Derived.Shelf.Strconv.Itoa3
import Derived.Shelf.Lay
import Derived.Ground.NamesProg
import Derived.WalkSpells
import Derived.Deep.QuietTactic
import Derived.BigQuiet
import Derived.Deep.DeepCutAuto
import Derived.Deep.RegionHeld3
import Derived.Deep.DrawnRows
set_option linter.unusedVariables false
set_option linter.unusedSimpArgs false
section
namespace Go.Proofs.YtfdlaomnecjfeaaGreatDoor
open Go.RowKit
/-- A fact that the walk's simp doesn't look into. -/
structure As (p:Prop):Prop where mk::(out:p)
theorem Addr.block_add (a:Addr) (n:Nat):(a.add n).block=a.block:=by unfold Addr.add;split <;> rfl
theorem Addr.add_add' (a:Addr) (i j:Nat):(a.add i).add j=a.add (i+j):=by
 unfold Addr.add
 by_cases hi:i=0 <;> by_cases hj:j=0 <;> simp [hi,hj,Nat.add_assoc]
theorem Addr.add_field (a:Addr) (i j:Nat) (hj:0<j):a.add (i+j)=⟨(a.add i).block,(a.add i).off+j,none⟩:=by
 rw [← Addr.add_add']
 show (if j=0 then _ else _)=_
 rw [if_neg (by omega)]
/-- The cells cs stand at A. -/
def Row (w:World) (A:Option Addr) (cs:List Value):Prop :=
 cs=[]∨∃ ad,A=some ad∧ad.block<w.heap.size∧∀ j u,cs[j]? = some u→w.cell? (ad.add j)=some u
/-- What was there stays, but for the blocks S. -/
structure Keeps (S:Nat→Prop) (w w':World):Prop where
 os:w'.os=w.os
 tape:w'.tape=w.tape
 output:w'.output=w.output
 size:w.heap.size≤w'.heap.size
 block:∀ k,k<w.heap.size→¬ S k→w'.heap[k]? = w.heap[k]?
section
variable {S:Nat→Prop} {w w' w1 w2:World} {e:TypeId} {A:Option Addr} {cs:List Value}
theorem Keeps.refl (S:Nat→Prop) (w:World):Keeps S w w:=⟨rfl,rfl,rfl,Nat.le_refl _,fun _ _ _=>rfl⟩
theorem Keeps.trans (h:Keeps S w w1) (k:Keeps S w1 w2):Keeps S w w2 :=
 ⟨k.os.trans h.os,k.tape.trans h.tape,k.output.trans h.output,Nat.le_trans h.size k.size,fun i hi hn=>(k.block i (Nat.lt_of_lt_of_le hi h.size) hn).trans (h.block i hi hn)⟩
theorem Keeps.mono {T:Nat→Prop} (h:Keeps S w w1) (hs:∀ k,k<w.heap.size→S k→T k):Keeps T w w1 :=
 ⟨h.os,h.tape,h.output,h.size,fun i hi hn=>h.block i hi (fun hS=>hn (hs i hi hS))⟩
theorem Keeps.of_below (h:Below w.heap.size w w1) (S:Nat→Prop):Keeps S w w1:=⟨h.os,h.tape,h.output,h.size,fun i hi _=>h.block i hi⟩
theorem Keeps.of_grown {row:Option Nat} (h:w.grownBy w1 row):Keeps (fun k=>some k=row) w w1:=⟨h.os,h.tape,h.output,h.size,fun i hi hn=>h.block i hi hn⟩
theorem Keeps.below {B:Nat} (h:Keeps S w w1) (hs:∀ k,k<B→¬ S k) (hB:B≤w.heap.size):Below B w w1 :=
 ⟨h.os,h.tape,h.output,h.size,fun i hi=>h.block i (by omega) (hs i hi)⟩
theorem Keeps.cell (h:Keeps S w w1) {p:Addr} (hp:p.block<w.heap.size) (hS:¬ S p.block):w1.cell? p=w.cell? p:=World.cell?_of_block (w:=w) (h.block p.block hp hS)
theorem Zf {b:Nat} {o:Obj} (h:w.heap[b]? = some o):b<w.heap.size:=by
 rcases Nat.lt_or_ge b w.heap.size with hlt | hge
 · exact hlt
 · rw [Array.getElem?_eq_none hge] at h;cases h
theorem Zn {b:Nat} {o o':Obj} (h:w.heap[b]? = some o):(w.alloc o').heap[b]? = some o:=(Below.heap_alloc w o' b (Zf h)).trans h
theorem Q8 (w:World) (o o':Obj):((w.alloc o).alloc o').heap[w.heap.size+1]? = some o' :=
 (congrArg (fun i:Nat=>((w.alloc o).alloc o').heap[i]?) (World.size_alloc w o).symm).trans (heap_alloc_new _ _)
theorem Z2 {b:Nat} {o:Obj} {p:Addr} (h:w.heap[b]? = some o) (hp:b≠p.block) (u:Value):(w.setCell p u).heap[b]? = some o:=(Below.heap_setCell w p u b hp).trans h
theorem Zi {b t:Nat} {c:Array Value} (h:w.heap[b]? = some (.cells c t (0,0))) (i:Nat) (u:Value):(w.setCell ⟨b,i,none⟩ u).heap[b]? = some (.cells (c.setIfInBounds i u) t (0,0)):=by
 simp [World.setCell,Array.getElem?_modify,h]
theorem Za {b t:Nat} {c:Array Value} {fr:Nat × Nat} (h:w.heap[b]? = some (.cells c t fr)) (i:Nat):w.cell? ⟨b,i,none⟩=c[i]?:=by
 simp [World.cell?,h]
theorem Zb {b t:Nat} {c:Array Value} (h:w.heap[b]? = some (.cells c t (0,0))) (i:Nat):w.frozen? ⟨b,i,none⟩=false:=by
 simp [World.frozen?,h]
theorem YH {a b:Bool} (h:a=b):Ending.returned (.bool a)=.returned (.bool b):=by rw [h]
theorem QL {k:IntKind} {a b:Int} (h:a=b):Ending.returned (.int k a)=.returned (.int k b):=by rw [h]
theorem ZF {B:Nat} (h:Below B w w1) (n:Nat):Below B w (w1.drewN n):=⟨h.os,h.tape,h.output,h.size,h.block⟩
theorem Jj {B B':Nat} {a b c:World} (h:Below B a b) (k:Below B' b c) (hB:B≤B'):Below B a c:=h.trans (k.mono hB)
theorem Row.nil (w:World) (A:Option Addr):Row w A []:=.inl rfl
theorem Row.keep (h:Row w A cs) (hk:Keeps S w w1) (hS:∀ ad,A=some ad→ad.block<w.heap.size→¬ S ad.block):Row w1 A cs:=by
 rcases h with h | ⟨ad,hA,hlt,hc⟩
 · exact .inl h
 · exact .inr ⟨ad,hA,Nat.lt_of_lt_of_le hlt hk.size,fun j u hu=>(hk.cell (by rw [Addr.block_add];exact hlt) (by rw [Addr.block_add];exact hS _ hA hlt)).trans (hc j u hu)⟩
theorem Row.below (h:Row w A cs) (hb:Below w.heap.size w w1):Row w1 A cs:=h.keep (Keeps.of_below hb (fun _=>False)) (fun _ _ _ h=>h)
theorem Row.drewN (h:Row w A cs) (n:Nat):Row (w.drewN n) A cs:=h
theorem Row.drew (h:Row w A cs):Row w.drew A cs:=h
theorem Row.alloc (h:Row w A cs) (o:Obj):Row (w.alloc o) A cs:=h.below ((Below.refl _ _).alloc (Nat.le_refl _) o)
theorem Row.at_ (h:Row w A cs) {j:Nat} (hj:j<cs.length):∃ ad,A=some ad∧w.cell? (ad.add j)=some cs[j]:=by
 rcases h with rfl | ⟨ad,hA,_,hc⟩
 · simp at hj
 · exact ⟨ad,hA,hc j _ (List.getElem?_eq_getElem hj)⟩
theorem Row.new (w:World) (e:TypeId) (cs:List Value):Row (w.alloc (.cells cs.toArray e)) (some ⟨w.heap.size,0,none⟩) cs:=by
 have hn:(w.alloc (.cells cs.toArray e)).heap[w.heap.size]? = some (.cells cs.toArray e (0,0)):=heap_alloc_new w _
 refine .inr ⟨_,rfl,Zf hn,fun j u hu=>?_⟩
 have:(⟨w.heap.size,0,none⟩:Addr).add j=⟨w.heap.size,j,none⟩:=by unfold Addr.add;split <;> simp_all
 rw [this]
 unfold World.cell?
 rw [hn]
 simp [hu]
theorem Row.new' (w:World) (e:TypeId) (cs:List Value) {b:Nat} (hb:b=w.heap.size):Row (w.alloc (.cells cs.toArray e)) (some ⟨b,0,none⟩) cs:=by subst hb;exact Row.new w e cs
theorem Row.of_own {base size n c:Nat} (h:w.ownsRow base e size (.slice A n c) n cs):Row w A cs:=by
 obtain ⟨hl,h⟩:=h
 rcases h with ⟨hv,hn⟩ | ⟨g,cap,cur,hv,hg,hh,hnc,hcm,hcs,ht⟩
 · left;subst hn;exact List.eq_nil_of_length_eq_zero (by simpa using hl)
 · right
   injection hv with hA _ _
   refine ⟨⟨g,0,none⟩,hA,Zf hh,fun j u hu=>?_⟩
   have hown:w.ownsRow base e size (.slice (some ⟨g,0,none⟩) n cap) n cs:=⟨hl,.inr ⟨g,cap,cur,rfl,hg,hh,hnc,hcm,hcs,ht⟩⟩
   exact hown.cells (g:=g) rfl j u hu
theorem Zk {base size n:Nat} {v:Value} (h:w.ownsRow base e size v n cs):∃ A c,v=.slice A n c∧n≤c:=by
 rcases h.2 with ⟨hv,hn⟩ | ⟨g,cap,cur,hv,hg,hh,hnc,_⟩
 · exact ⟨_,_,by rw [hv,hn],by omega⟩
 · exact ⟨_,_,hv,hnc⟩
theorem Zj {base size n:Nat} {v:Value} (h:w.ownsRow base e size v n cs) (hk:Keeps S w w1) (hS:∀ b c,base≤b→w.heap[b]? = some (.cells c e (0,0))→some b=v.ownBlock→¬ S b):w1.ownsRow base e size v n cs:=by
 refine ⟨h.1,?_⟩
 rcases h.2 with h2 | ⟨g,cap,cur,hv,hg,hh,r⟩
 · exact .inl h2
 · exact .inr ⟨g,cap,cur,hv,hg,(hk.block g (Zf hh) (hS g cur hg hh (by rw [hv];rfl))).trans hh,r⟩
theorem Zo {base size n:Nat} {v:Value} (h:w.ownsRow base e size v n cs) (hb:Below w.heap.size w w1):w1.ownsRow base e size v n cs :=
 Zj h (Keeps.of_below hb (fun _=>False)) (fun _ _ _ _ _ h=>h)
theorem ZM {base size n k:Nat} {v:Value} (h:w.ownsRow base e size v n cs) (hk:some k=v.ownBlock):base≤k∧k<w.heap.size:=by
 rcases h.2 with ⟨rfl,_⟩ | ⟨g,cap,cur,rfl,hg,hh,_⟩
 · simp [Value.ownBlock] at hk
 · simp [Value.ownBlock] at hk;subst hk;exact ⟨hg,Zf hh⟩
theorem ZB {base base' size n:Nat} {v:Value} (h:w.ownsRow base e size v n cs) (hb:base'≤base):w.ownsRow base' e size v n cs:=by
 refine ⟨h.1,?_⟩
 rcases h.2 with h2 | ⟨g,cap,cur,hv,hg,r⟩
 · exact .inl h2
 · exact .inr ⟨g,cap,cur,hv,by omega,r⟩
end
section
variable {P:Program} {d:Nat} {xs ys:Array Value} {f:Field} {fs:List Field} {a b:Value} {r s:Bool} {w:World}
theorem Zd9 {t:TypeId} {fs:Array Field} (hu:P.underlying t=some (.struct fs)) (hp:P.stoodInHeld t=false) (h:(Op.eqFields d xs ys fs.toList).run P w=.ok r w) :
    (Op.equalIn (d+1) t (.agg xs) (.agg ys)).run P w=.ok r w:=by
 have hf:P.fieldsOf t=fs:=by unfold Program.fieldsOf;rw [hu]
 rw [run_equalIn_struct (P:=P) w d t xs ys (by rw [hf];exact hu) hp,hf]
 exact h
theorem Ju (hn : f.name ≠ "_") (ha : (part f.type xs f.offset).run P w = .ok a w) (hb : (part f.type ys f.offset).run P w = .ok b w) (he : (Op.equalIn d f.type a b).run P w = .ok r w)
    (hr:(Op.eqFields d xs ys fs).run P w=.ok s w):(Op.eqFields d xs ys (f::fs)).run P w=.ok (r && s) w:=by
 rw [Op.eqFields]
 simp only [if_pos hn,Sem.run_bind,ha,hb,he,Result.andThen_ok]
 cases r
 · simp
 · simpa using hr
theorem Zb5:(Op.eqFields d xs ys []).run P w=.ok true w:=by simp [Op.eqFields]
end
/-- append of one element, which was just laid in a block of its own. -/
theorem ZA {P:Program} {ops:Array Oper} {rest:List Oper} {o:Oper} {a:Act} {Q:Exit→Act→World→Prop} (w:World) (hgd:o.guard=none) (s x:Operand) (t:TypeId)
    (ho:o.op=.call { callee:=.builtin .append,args:=#[s,x],argTypes:=#[t,t] })
    (base:Nat) (e:TypeId) (z:Value) (size bytes:Nat) (ht:P.underlying t=some (.slice e)) (hi:(P.info? e).map (fun i=>(i.zero,i.size,i.bytes))=some (some z,size,bytes))
    (hzs:z.cells.size=size) (hsz:0<size)
    (v:Value) (n:Nat) (xs:List Value) (hs:a.eval s=v) (hown:w.ownsRow base e size v n xs)
    (cs:List Value) (hl:cs.length=size) (h1:∀ u∈cs,u.oneCell'=true) (b:Nat) (hx:a.eval x=.slice (some ⟨b,0,none⟩) 1 1) (hb:b=w.heap.size)
    (hlen:n≤1000000000000) (hby:bytes≤100) (hbase:base≤w.heap.size)
    (h:∀ v' w',w'.ownsRow base e size v' (n+1) (xs++cs)→Keeps (fun k=>some k=v.ownBlock) w w'→(v'.ownBlock=v.ownBlock∨v'.ownBlock=some (w.heap.size+1))→Below base w w'→wpList P ops Q rest (a.put o.dst v') w') :
    wpList P ops Q (o::rest) a (w.alloc (.cells cs.toArray e)):=by
 subst hb
 obtain ⟨i,hi,hz,hsize,hbytes⟩:=info_parts hi
 refine wpList_append_own_at (w.alloc (.cells cs.toArray e)) hgd s x t ho base e i z size bytes ht hi hz hsize hbytes hzs hsz v n xs hs (hown.alloc _) ⟨w.heap.size,0,none⟩ 1 1 cs hx (by omega) ?_ h1
  (by simp only [maxLen];omega) ?_ (by simp;omega) ?_
 · intro j u hu
   have hj:j<cs.length:=by
    rcases Nat.lt_or_ge j cs.length with h | h
    · exact h
    · rw [List.getElem?_eq_none h] at hu;cases hu
   have:(⟨w.heap.size,0,none⟩:Addr).add j=⟨w.heap.size,j,none⟩:=by unfold Addr.add;split <;> simp_all
   rw [this]
   have hn:(w.alloc (.cells cs.toArray e)).heap[w.heap.size]? = some (.cells cs.toArray e (0,0)):=heap_alloc_new w _
   unfold World.cell?
   rw [hn]
   simp [hu]
 · have:(n+1) * bytes≤(n+1) * 100:=Nat.mul_le_mul_left _ hby
   omega
 · intro v' w' h2 h3 _ h5
   refine h v' w' h2 ((Keeps.of_below ((Below.refl _ _).alloc (Nat.le_refl _) _) _).trans ((Keeps.of_grown h3).mono (fun _ _ h=>h))) (by simpa using h5) ?_
   refine ((Below.refl base w).alloc hbase _).grown h3 (by simp;omega) (fun k hk=>?_)
   rcases hown.2 with ⟨rfl,_⟩ | ⟨g,cap,cur,rfl,hg,_⟩
   · simp [Value.ownBlock] at hk
   · simp [Value.ownBlock] at hk;omega
end Go.Proofs.YtfdlaomnecjfeaaGreatDoor
end
section
set_option maxRecDepth 100000
namespace Go.Proofs.YtfdlaomnecjfeaaGreatDoor
open Go.ChangeShapes Go.WideShapes Go.Deep Go.RowKit
theorem own:ownKnob Tryz.prog.godebug=none:=by kernel_rfl
theorem Zao:laidOutB Tryz.prog=true:=by kernel_rfl
section
variable {H:Type} {enc:TypeId × Value→H} {w:World} {base:Nat}
/-- A row out of its cells. -/
theorem row_of_cells {A:Option Addr} {cs:List Value} (h:0<cs.length→∃ ad,A=some ad∧∀ j u,cs[j]? = some u→w.cell? (ad.add j)=some u):Row w A cs:=by
 rcases Nat.eq_zero_or_pos cs.length with h0 | h0
 · exact .inl (List.eq_nil_of_length_eq_zero h0)
 · obtain ⟨ad,hA,hc⟩:=h h0
   refine .inr ⟨ad,hA,?_,hc⟩
   have h1:=hc 0 cs[0] (List.getElem?_eq_getElem h0)
   have:=World.block_lt_of_cell? w _ h1
   rwa [Addr.block_add] at this
/-- A slice of whole numbers. -/
theorem ZcP {k:IntKind} {t e:TypeId} (ht:Tryz.prog.underlying t=some (.slice e)) (he:Tryz.prog.underlying e=some (.int k)) (hc:Tryz.prog.cellsOf e=1) {v:Value} {d:DataW H} {p:List MemPlace}
    (hv:Value.okWide Tryz.prog w .any base t v) (h:DataW.Trod enc Tryz.prog w 0 (fun _=>true) true t v d p) :
    ∃ (A:Option Addr) (c:Nat) (xs:List Int),v=.slice A xs.length c∧Row w A (xs.map (Value.int k))∧xs.length≤c∧c≤maxLen∧∀ x∈xs,(Lit.int k x).wf=true:=by
 obtain ⟨a0,len,cap,rfl⟩:=okWide_slice ht hv
 obtain ⟨fuel,hf⟩:=h
 rcases open_ints ht he hc hf with ⟨hcs,_⟩ | ⟨x,l,c,zs,hcs,_,hl,hm,hz,_,hcell,hwz⟩
 · simp [Value.cells] at hcs
   obtain ⟨rfl,rfl,rfl⟩:=hcs
   exact ⟨none,0,[],rfl,.inl rfl,Nat.le_refl _,Nat.zero_le _,by simp⟩
 · simp [Value.cells] at hcs
   obtain ⟨rfl,rfl,rfl⟩:=hcs
   have hz:zs.length=cap:=by simpa using hz
   have hlen:(zs.take len).length=len:=by rw [List.length_take];omega
   refine ⟨_,cap,zs.take len,by rw [hlen],row_of_cells (fun _=>⟨x,rfl,fun j u hu=>?_⟩),by omega,hm,fun y hy=>hwz y (List.mem_of_mem_take hy)⟩
   rw [List.getElem?_map,Option.map_eq_some_iff] at hu
   obtain ⟨y,hy,rfl⟩:=hu
   have hj:j<len:=by
    rcases Nat.lt_or_ge j (zs.take len).length with h | h
    · omega
    · rw [List.getElem?_eq_none h] at hy;cases hy
   rw [List.getElem?_take_of_lt hj] at hy
   have:=hcell j (by omega)
   rw [this,List.getD_eq_getElem?_getD,hy];rfl
end
end Go.Proofs.YtfdlaomnecjfeaaGreatDoor
end
section
namespace Go.Proofs.YtfdlaomnecjfeaaGreatDoor
open Go.RowKit
theorem Keeps.drew {S:Nat→Prop} {w w1:World} (h:Keeps S w w1):Keeps S w w1.drew:=⟨h.os,h.tape,h.output,h.size,h.block⟩
theorem Keeps.drewN {S:Nat→Prop} {w w1:World} (h:Keeps S w w1) (n:Nat):Keeps S w (w1.drewN n):=⟨h.os,h.tape,h.output,h.size,h.block⟩
theorem Keeps.alloc {S:Nat→Prop} {w w1:World} (h:Keeps S w w1) (o:Obj):Keeps S w (w1.alloc o):=h.trans (Keeps.of_below ((Below.refl _ _).alloc (Nat.le_refl _) o) S)
theorem Xn (k k':IntKind) (x y:Int):Builtin.max2 (.int k x) (.int k' y)=pure (.int k (max x y)):=by
 have:(if x<y then y else x)=max x y:=by omega
 simp only [Builtin.max2,gt_iff_lt,this]
theorem XT (k k':IntKind) (x y:Int):Builtin.min2 (.int k x) (.int k' y)=pure (.int k (min x y)):=by
 have:(if y<x then y else x)=min x y:=by omega
 simp only [Builtin.min2,this]
theorem QM (ats:Array TypeId) (ty:TypeId) (a b:Value):Builtin.max_ ats ty #[a,b]=(Builtin.max2 a b >>= fun s=>pure s):=by simp only [Builtin.max_,List.foldlM_cons,List.foldlM_nil]
theorem Q9 (ats:Array TypeId) (ty:TypeId) (a b:Value):Builtin.min_ ats ty #[a,b]=(Builtin.min2 a b >>= fun s=>pure s):=by simp only [Builtin.min_,List.foldlM_cons,List.foldlM_nil]
theorem Ze {w a b:World} (h:Below w.heap.size w a) (k:Below a.heap.size a b):Below w.heap.size w b:=h.trans (k.mono h.size)
theorem Zc {w w':World} {b:Nat} {o:Obj} (hb:Below w.heap.size w w') (h:w.heap[b]? = some o):w'.heap[b]? = some o:=(hb.block b (Zf h)).trans h
theorem Yo {w:World} {o:Obj} {b:Nat} (h:b=w.heap.size):(w.alloc o).heap[b]? = some o:=by rw [h];exact heap_alloc_new _ _
theorem ZdS {w:World} {b:Nat} {o:Obj} (h:w.heap[b]? = some o):w.drew.heap[b]? = some o:=h
theorem ZcQ {w:World} {b t:Nat} {cs:List Value} {fr:Nat × Nat} (h:w.heap[b]? = some (.cells cs.toArray t fr)):Row w (some ⟨b,0,none⟩) cs :=
 .inr ⟨_,rfl,Zf h,fun j u hu=>by
  have:(⟨b,0,none⟩:Addr).add j=⟨b,j,none⟩:=by unfold Addr.add;split <;> simp_all
  rw [this,Za h]
  simpa using hu⟩
theorem Zm (w:World) (p:Addr) (u:Value):Keeps (fun k=>k=p.block) w (w.setCell p u):=⟨rfl,rfl,rfl,by simp [World.setCell],fun i hi hn=>Below.heap_setCell w p u i hn⟩
theorem own_addr {w:World} {base e size n c:Nat} {A:Option Addr} {cs:List Value} (h:w.ownsRow base e size (.slice A n c) n cs):A=none∨∃ g,A=some ⟨g,0,none⟩∧base≤g:=by
 rcases h.2 with ⟨hv,_⟩ | ⟨g,cap,cur,hv,hg,_⟩
 · injection hv with h _ _;exact .inl h
 · injection hv with h _ _;exact .inr ⟨g,h,hg⟩
theorem Zd {S:Nat→Prop} {w w':World} {b:Nat} {o:Obj} (h:w.heap[b]? = some o) (hk:Keeps S w w') (hS:¬ S b):w'.heap[b]? = some o:=(hk.block b (Zf h) hS).trans h
end Go.Proofs.YtfdlaomnecjfeaaGreatDoor
end
section
namespace Seine.Trie
abbrev Txt:=List UInt8
/-- where a text stands among some; -1: nowhere -/
def place:List Txt→Txt→Int
 | [],_=>-1
 | x::l,s=>if x=s then 0 else if place l s<0 then -1 else place l s+1
theorem J8 (l:List Txt) (s:Txt):-1≤place l s∧place l s<l.length:=by
 induction l with
 | nil=>simp [place]
 | cons x l ih =>
   simp only [place,List.length_cons]
   refine ⟨?_,?_⟩ <;> split <;> (try split) <;> omega
theorem place_mem {l:List Txt} {s:Txt}:0≤place l s↔s∈l:=by
 induction l with
 | nil=>simp [place]
 | cons x l ih =>
   simp only [place,List.mem_cons]
   by_cases h:x=s
   · simp [h]
   · rw [if_neg h]
     by_cases h2:place l s<0
     · rw [if_pos h2]
       have:s ∉ l:=fun hm=>by have:=ih.2 hm;omega
       constructor
       · intro h3;omega
       · rintro (h3 | h3)
         · exact absurd h3.symm h
         · exact absurd h3 this
     · rw [if_neg h2]
       have:s∈l:=ih.1 (by omega)
       simp [this];omega
theorem place_neg {l:List Txt} {s:Txt}:place l s<0↔s ∉ l:=by rw [← place_mem];omega
theorem ZQ {l:List Txt} {s:Txt} (h:s ∉ l):place l s = -1:=by
 have:=place_neg.2 h;have:=(J8 l s).1;omega
theorem Y1 {l:List Txt} {s:Txt} (h:s∈l):l[(place l s).toNat]? = some s:=by
 induction l with
 | nil=>simp at h
 | cons x l ih =>
   simp only [place]
   by_cases hx:x=s
   · simp [hx]
   · rw [if_neg hx]
     have hm:s∈l:=by simpa [Ne.symm hx] using h
     have h0:=place_mem.2 hm
     rw [if_neg (by omega),show (place l s+1).toNat=(place l s).toNat+1 by omega]
     simpa using ih hm
theorem ZO {l:List Txt} (hn:l.Nodup) {i:Nat} {s:Txt} (h:l[i]? = some s):place l s=i:=by
 induction l generalizing i with
 | nil=>simp at h
 | cons x l ih =>
   simp only [place]
   cases i with
   | zero=>simp at h;simp [h]
   | succ i =>
     have hs:l[i]? = some s:=by simpa using h
     have hx:x≠s:=by
      rintro rfl
      exact (List.nodup_cons.1 hn).1 (List.mem_of_getElem? hs)
     rw [if_neg hx,ih (List.nodup_cons.1 hn).2 hs,if_neg (by omega)]
     push_cast;rfl
theorem Jv {l m:List Txt} {s:Txt} (h:s∈l):place (l++m) s=place l s:=by
 induction l with
 | nil=>simp at h
 | cons x l ih =>
   simp only [List.cons_append,place]
   by_cases hx:x=s
   · simp [hx]
   · rw [if_neg hx,if_neg hx,ih (by simpa [Ne.symm hx] using h)]
theorem place_append_not {l m:List Txt} {s:Txt} (h:s ∉ l):place (l++m) s=if place m s<0 then -1 else l.length+place m s:=by
 induction l with
 | nil=>simp only [List.nil_append,List.length_nil];split
        · have:=(J8 m s).1;omega
        · push_cast;omega
 | cons x l ih =>
   simp only [List.mem_cons,not_or] at h
   simp only [List.cons_append,place]
   rw [if_neg (Ne.symm h.1),ih h.2]
   by_cases hm:place m s<0
   · simp [hm]
   · rw [if_neg hm,if_neg (by omega),if_neg (by omega)];simp only [List.length_cons];push_cast;omega
theorem X1 (l:List Txt) (t s:Txt):place (l++[t]) s=if s∈l then place l s else if t=s then (l.length:Int) else -1:=by
 by_cases h:s∈l
 · rw [if_pos h,Jv h]
 · rw [if_neg h,place_append_not h]
   by_cases ht:t=s
   · simp [place,ht]
   · simp [place,ht]
def QC (P:List Txt) (p:Txt):List Txt:=if p∈P then P else P++[p]
/-- the beginnings of a text, of its first n bytes -/
def QH (P:List Txt) (b:Txt):Nat→List Txt
 | 0=>P
 | n+1=>QC (QH P b n) (b.take (n+1))
def Zap (P:List Txt) (b:Txt):List Txt:=QH P b b.length
def Zl (l:List Txt):List Txt:=l.foldl Zap [[]]
theorem J9 {P:List Txt} {p q:Txt}:q∈QC P p↔q∈P∨q=p:=by
 unfold QC;split
 · constructor
   · exact .inl
   · rintro (h | rfl) <;> assumption
 · simp
theorem addPath_nodup {P:List Txt} {p:Txt} (h:P.Nodup):(QC P p).Nodup:=by
 unfold QC;split
 · exact h
 · rename_i hp
   rw [List.nodup_append];refine ⟨h,by simp,?_⟩
   rintro a ha b hb rfl;simp at hb;subst hb;exact hp ha
theorem Zaq (P:List Txt) (p:Txt):∃ m,QC P p=P++m:=by
 unfold QC;split
 · exact ⟨[],by simp⟩
 · exact ⟨[p],rfl⟩
/-- A list of beginnings: the empty one first, none twice, with each the one of a byte less. -/
structure Tree (P:List Txt):Prop where
 root:P[0]? = some []
 nodup:P.Nodup
 up:∀ p∈P,p≠[]→p.dropLast∈P
theorem Tree.nil_mem {P:List Txt} (h:Tree P):[]∈P:=List.mem_of_getElem? h.root
theorem Tree.start:Tree [[]]:=⟨rfl,by simp,by simp⟩
theorem Tree.len {P:List Txt} (h:Tree P):0<P.length:=by
 rcases Nat.eq_zero_or_pos P.length with h0 | h0
 · have:=h.root;rw [List.eq_nil_of_length_eq_zero h0] at this;simp at this
 · exact h0
theorem Tree.put {P:List Txt} (h:Tree P) {p:Txt} (hp:p≠[]) (hd:p.dropLast∈P):Tree (QC P p):=by
 refine ⟨?_,addPath_nodup h.nodup,fun q hq hne=>?_⟩
 · obtain ⟨m,e⟩:=Zaq P p
   rw [e,List.getElem?_append_left h.len];exact h.root
 · rw [J9] at hq ⊢
   rcases hq with hq | rfl
   · exact .inl (h.up q hq hne)
   · exact .inl hd
theorem Za6 {b:Txt} {n:Nat} (h:n<b.length):(b.take (n+1)).dropLast=b.take n:=by
 rw [List.dropLast_eq_take,List.take_take,List.length_take]
 congr 1;omega
theorem Jk {P:List Txt} (h:Tree P) (b:Txt):∀ n,n≤b.length→Tree (QH P b n)∧b.take n∈QH P b n∧∀ q,q∈QH P b n↔q∈P∨∃ k,k≤n∧0<k∧q=b.take k:=by
 intro n
 induction n with
 | zero=>intro _;exact ⟨h,by rw [List.take_zero];exact h.nil_mem,fun q=>⟨.inl,by rintro (h | ⟨k,h1,h2,_⟩);exact h;omega⟩⟩
 | succ n ih =>
   intro hn
   obtain ⟨h1,h2,h3⟩:=ih (by omega)
   have hne:b.take (n+1)≠[]:=by
    intro e;have:=congrArg List.length e;rw [List.length_take,List.length_nil] at this;omega
   refine ⟨h1.put hne (by rw [Za6 (by omega)];exact h2),by simp only [QH];rw [J9];exact .inr rfl,fun q=>?_⟩
   simp only [QH]
   rw [J9,h3]
   constructor
   · rintro ((h | ⟨k,a,b',c⟩) | rfl)
     · exact .inl h
     · exact .inr ⟨k,by omega,b',c⟩
     · exact .inr ⟨n+1,Nat.le_refl _,by omega,rfl⟩
   · rintro (h | ⟨k,a,b',c⟩)
     · exact .inl (.inl h)
     · by_cases e:k=n+1
       · subst e;exact .inr c
       · exact .inl (.inr ⟨k,by omega,b',c⟩)
theorem Jl (l:List Txt) (b:Txt):Zl (l++[b])=Zap (Zl l) b:=by simp [Zl,List.foldl_append]
theorem ZaH (l:List Txt):Tree (Zl l)∧∀ q,q∈Zl l↔q=[]∨∃ b∈l,∃ k,k≤b.length∧q=b.take k:=by
 have H:∀ n (l:List Txt),l.length=n→Tree (Zl l)∧∀ q,q∈Zl l↔q=[]∨∃ b∈l,∃ k,k≤b.length∧q=b.take k:=by
  intro n
  induction n with
  | zero=>intro l hl;rw [List.eq_nil_of_length_eq_zero hl];exact ⟨Tree.start,by simp [Zl]⟩
  | succ n ih =>
    intro l hl
    have hne:l≠[]:=by intro h;simp [h] at hl
    obtain ⟨m,x,rfl⟩:∃ m x,l=m++[x]:=⟨l.dropLast,l.getLast hne,(List.dropLast_concat_getLast hne).symm⟩
    obtain ⟨h1,h2⟩:=ih m (by simp at hl;omega)
    rw [Jl]
    obtain ⟨a1,a2,a3⟩:=Jk h1 x x.length (Nat.le_refl _)
    refine ⟨a1,fun q=>?_⟩
    unfold Zap
    rw [a3,h2]
    constructor
    · rintro ((rfl | ⟨b,hb,k,hk,e⟩) | ⟨k,hk,_,e⟩)
      · exact .inl rfl
      · exact .inr ⟨b,by simp [hb],k,hk,e⟩
      · exact .inr ⟨x,by simp,k,hk,e⟩
    · rintro (rfl | ⟨b,hb,k,hk,e⟩)
      · exact .inl (.inl rfl)
      · simp at hb
        rcases hb with hb | rfl
        · exact .inl (.inr ⟨b,hb,k,hk,e⟩)
        · rcases Nat.eq_zero_or_pos k with h0 | h0
          · subst h0;simp at e;exact .inl (.inl e)
          · exact .inr ⟨k,hk,h0,e⟩
 exact H _ l rfl
theorem ZC (l:List Txt):Tree (Zl l):=(ZaH l).1
theorem mem_paths {l:List Txt} {q:Txt}:q∈Zl l↔q=[]∨∃ b∈l,∃ k,k≤b.length∧q=b.take k:=(ZaH l).2 q
theorem Qp {l:List Txt} {b:Txt} (h:b∈l):b∈Zl l:=mem_paths.2 (.inr ⟨b,h,b.length,Nat.le_refl _,by simp⟩)
theorem Zdb (P:List Txt) (b:Txt):∀ n,∃ m,QH P b n=P++m
 | 0=>⟨[],by simp [QH]⟩
 | n+1=>by
   obtain ⟨m,e⟩:=Zdb P b n
   obtain ⟨m2,e2⟩:=Zaq (QH P b n) (b.take (n+1))
   exact ⟨m++m2,by simp only [QH];rw [e2,e,List.append_assoc]⟩
theorem Zbe (P:List Txt) (b:Txt):∀ n,(QH P b n).length≤P.length+n
 | 0=>Nat.le_refl _
 | n+1=>by
   have:=Zbe P b n
   simp only [QH];unfold QC;split <;> simp <;> omega
/-- the node of a byte less -/
def parent (P:List Txt) (p:Txt):Int:=if p=[] then -1 else place P p.dropLast
def lastB (p:Txt):UInt8:=p.getLast?.getD 0
/-- the bytes that lead on, rising -/
def Qf (P:List Txt) (p:Txt):List UInt8:=((List.range 256).map UInt8.ofNat).filter fun c=>decide (p++[c]∈P)
end Seine.Trie
end
section
namespace Go.Proofs.YtfdlaomnecjfeaaGreatDoor
open Go.RowKit Seine.Trie
def Zh (b:Txt):List Value:=b.map fun c=>.int .u8 (c.toNat:Int)
theorem Zt (b:Txt):(Zh b).length=b.length:=by simp [Zh]
theorem byCells_snoc (b:Txt) (c:UInt8):Zh (b++[c])=Zh b++[.int .u8 (c.toNat:Int)]:=by simp [Zh]
/-- A slice of bytes. -/
abbrev Byt (w:World) (A:Option Addr) (b:Txt):Prop:=Row w A (Zh b)
abbrev OwnByt (w:World) (base:Nat) (v:Value) (b:Txt):Prop:=w.ownsRow base 5 1 v b.length (Zh b)
theorem Byt.at_ {w:World} {A:Option Addr} {b:Txt} (h:Byt w A b) {i:Nat} (hi:i<b.length):∃ ad,A=some ad∧w.cell? (ad.add i)=some (.int .u8 ((b.getD i 0).toNat:Int)):=by
 obtain ⟨ad,h1,h2⟩:=Row.at_ h (j:=i) (by rw [Zt];exact hi)
 exact ⟨ad,h1,by rw [h2];simp [Zh,hi]⟩
theorem X2:(Tryz.prog.info? 5).map (fun i=>(i.zero,i.size,i.bytes))=some (some (.int .u8 0),1,1):=by kernel_rfl
theorem Zaa {w:World} {base:Nat} {v:Value} {b:Txt} {c:UInt8} (h:w.ownsRow base 5 1 v (b.length+1) (Zh b++[.int .u8 (c.toNat:Int)])):OwnByt w base v (b++[c]):=by
 have h1:(b++[c]).length=b.length+1:=by simp
 unfold OwnByt;rw [h1,byCells_snoc];exact h
theorem OwnByt.row {w:World} {base:Nat} {v:Value} {b:Txt} (h:OwnByt w base v b):∃ A c,v=.slice A b.length c∧b.length≤c∧Byt w A b:=by
 obtain ⟨A,c,rfl,hc⟩:=Zk h
 exact ⟨A,c,rfl,hc,Row.of_own h⟩
theorem ZcS {b:Txt}:∀ u∈Zh b,u.oneCell'=true:=fun u hu=>by
 obtain ⟨x,_,rfl⟩:=List.mem_map.1 hu;rfl
/-- Bytes in new memory. -/
def RetByt (w:World) (b:Txt) (e:Ending) (w':World):Prop:=∃ v,e=.returned v∧OwnByt w' w.heap.size v b∧Below w.heap.size w w'
theorem RetByt.open_ {w w':World} {b:Txt} {e:Ending} (h:RetByt w b e w'):∃ v,e=.returned v∧OwnByt w' w.heap.size v b∧Below w.heap.size w w':=h
theorem RetByt.row {w w':World} {b:Txt} {e:Ending} (h:RetByt w b e w'):∃ A c,e=.returned (.slice A b.length c)∧Byt w' A b∧Below w.heap.size w w':=by
 obtain ⟨v,rfl,ho,hb⟩:=h
 obtain ⟨A,c,rfl,_,hr⟩:=ho.row
 exact ⟨A,c,rfl,hr,hb⟩
theorem RetByt.rowc {w w':World} {b:Txt} {e:Ending} (h:RetByt w b e w'):∃ A c,e=.returned (.slice A b.length c)∧b.length≤c∧Byt w' A b∧Below w.heap.size w w':=by
 obtain ⟨v,rfl,ho,hb⟩:=h
 obtain ⟨A,c,rfl,hc,hr⟩:=ho.row
 exact ⟨A,c,rfl,hc,hr,hb⟩
theorem ZfN {w:World} {b:Nat} (l:Txt) (cs:List Value) (hcs:cs=Zh l) {t:Nat} {fr:Nat × Nat} (h:w.heap[b]? = some (.cells cs.toArray t fr)):Byt w (some ⟨b,0,none⟩) l:=by
 subst hcs;exact ZcQ h
/-- the bytes, of which k are exchanged from each end -/
def X9 (b:Txt) (k:Nat):Txt:=(List.range b.length).map fun j=>if j<k∨b.length - 1 - j<k then b.getD (b.length - 1 - j) 0 else b.getD j 0
theorem QQ (b:Txt) (k:Nat):(X9 b k).length=b.length:=by simp [X9]
theorem YI (b:Txt) (k j:Nat) (h:j<b.length):(X9 b k).getD j 0=if j<k∨b.length - 1 - j<k then b.getD (b.length - 1 - j) 0 else b.getD j 0:=by
 simp [X9,List.getD_eq_getElem?_getD,h]
theorem Zar {a b:Txt} (hl:a.length=b.length) (h:∀ j,j<a.length→a.getD j 0=b.getD j 0):a=b:=by
 apply List.ext_getElem hl
 intro j h1 h2
 have:=h j h1
 simpa [List.getD_eq_getElem?_getD,h1,h2] using this
theorem revK_zero (b:Txt):X9 b 0=b:=by
 apply Zar (QQ b 0)
 intro j hj
 rw [QQ] at hj
 rw [YI b 0 j hj,if_neg (by omega)]
theorem revK_done (b:Txt) (k:Nat) (h:b.length≤2 * k+1):X9 b k=b.reverse:=by
 apply Zar (by rw [QQ];simp)
 intro j hj
 rw [QQ] at hj
 rw [YI b k j hj]
 have hr:b.reverse.getD j 0=b.getD (b.length - 1 - j) 0:=by
  rw [List.getD_eq_getElem?_getD,List.getElem?_reverse hj,← List.getD_eq_getElem?_getD]
 rw [hr]
 split
 · rfl
 · have:b.length - 1 - j=j:=by omega
   rw [this]
theorem revK_next (b:Txt) (k:Nat) (h:2 * k+1<b.length):((X9 b k).set k ((X9 b k).getD (b.length - 1 - k) 0)).set (b.length - 1 - k) ((X9 b k).getD k 0)=X9 b (k+1):=by
 apply Zar (by simp [QQ])
 intro j hj
 have hj:j<b.length:=by simpa [QQ] using hj
 have hset:∀ (l:Txt) (i j:Nat) (x:UInt8),j<l.length→(l.set i x).getD j 0=if i=j then x else l.getD j 0:=by
  intro l i j x hl
  simp only [List.getD_eq_getElem?_getD,List.getElem?_set]
  split <;> simp_all
 rw [hset _ _ _ _ (by simpa [QQ] using hj),hset _ _ _ _ (by simpa [QQ] using hj),YI b k k (by omega),YI b k _ (by omega),YI b k j hj,YI b (k+1) j hj]
 by_cases h1:b.length - 1 - k=j
 · rw [if_pos h1,if_neg (by omega),if_pos (by omega)]
   congr 1;omega
 · rw [if_neg h1]
   by_cases h2:k=j
   · rw [if_pos h2,if_neg (by omega),if_pos (by omega)]
     congr 1;omega
   · rw [if_neg h2]
     by_cases h3:j<k∨b.length - 1 - j<k
     · rw [if_pos h3,if_pos (by omega)]
     · rw [if_neg h3,if_neg (by omega)]
theorem Zab (b:Txt) (i:Nat) (c:UInt8):(Zh b).set i (.int .u8 (c.toNat:Int))=Zh (b.set i c):=by simp [Zh,List.map_set]
set_option maxHeartbeats 1600000 in
theorem Y8 (w:World) (base:Nat) (v:Value) (b:Txt) (ho:OwnByt w base v b) (hl:b.length≤1000000) :
    Calls Tryz.prog 182 #[v] w fun e w'=>e=.returned (.tuple #[])∧OwnByt w' base v b.reverse∧Keeps (fun k=>some k=v.ownBlock) w w':=by
 rcases Nat.eq_zero_or_pos b.length with h0 | h0
 · have hb:b=[]:=List.eq_nil_of_length_eq_zero h0
   subst hb
   obtain ⟨A,c,rfl,hc⟩:=Zk ho
   have ho:=As.mk ho
   go_enter Tryz.func182,Tryz.ntmps182
   go_wp2
   refine wp_loop_rounds 1 ?_
   rw [rounds_succ]
   go_wp2
   go_end0
   exact ⟨rfl,ho.out,Keeps.refl _ _⟩
 · obtain ⟨g,cap,rfl,hg,hcap⟩:∃ g cap,v=.slice (some ⟨g,0,none⟩) b.length cap∧base≤g∧b.length≤cap:=by
     rcases ho.2 with ⟨_,h⟩ | ⟨g,cap,cur,hv,hg,hh,hnc,_⟩
     · omega
     · exact ⟨g,cap,hv,hg,hnc⟩
   have hR0:=As.mk (revK_zero b)
   have ho:=As.mk ho
   have hdone:=As.mk (fun k h=>revK_done b k h)
   have hnext:=As.mk (fun k h=>revK_next b k h)
   obtain ⟨n,hn⟩:∃ n,b.length=n:=⟨_,rfl⟩
   have hrl:=As.mk (fun k=>(QQ b k).trans hn)
   have ho1:As (OwnByt w base (.slice (some ⟨g,0,none⟩) n cap) (X9 b 0)):=⟨by rw [hR0.out,← hn];exact ho.out⟩
   rw [hn] at h0 hcap hl hdone hnext
   rw [hn]
   clear ho hR0 hn
   go_enter Tryz.func182,Tryz.ntmps182
   go_wp2
   go_loopw [2,3] (fun vi vj wr=>∃ k:Nat,vi=.int .i64 k∧vj=.int .i64 ((n:Int) - 1 - k)∧2 * k≤n∧As (OwnByt wr base (.slice (some ⟨g,0,none⟩) n cap) (X9 b k))∧As (Keeps (fun k=>some k=some g) w wr)) (fun vi _ _=>n - (intOf vi).toNat)
   case atStart=>exact ⟨0,rfl,by go_num,by omega,ho1,⟨Keeps.refl _ _⟩⟩
   case round =>
    obtain ⟨k,rfl,rfl,hk,hown,hkeep⟩:=hrel
    have hl2:=hrl.out k
    have hown':wr.ownsRow base 5 1 (.slice (some ⟨g,0,none⟩) n cap) n (Zh (X9 b k)):=by
     have:=hown.out;unfold OwnByt at this;rw [hl2] at this;exact this
    by_cases hlt:2 * k+1<n
    · have hcell:∀ j,j<n→wr.cell? ⟨g,j,none⟩=some (.int .u8 (((X9 b k).getD j 0).toNat:Int)):=fun j hj=>by
        rw [World.ownsRow.cellAt hown' j (by omega)]
        simp [Zh,List.getD_eq_getElem?_getD,hl2,hj]
      have hnx:=As.mk (hnext.out k hlt)
      obtain ⟨m,hm⟩:∃ m:Nat,n - 1 - k=m:=⟨_,rfl⟩
      have c0:=hcell k (by omega)
      have c1:=hcell m (by omega)
      have f0:=World.ownsRow.frozenAt hown' k
      have f1:=World.ownsRow.frozenAt hown' m
      have hmi:((n:Int) - 1 - (k:Int))=(m:Int):=by omega
      rw [hmi]
      have hm1:m<n:=by omega
      have hm2:k<m:=by omega
      rw [hm] at hnx
      have hm3:n=m+k+1:=by omega
      have hm3:=As.mk hm3
      clear hcell hm hmi
      generalize (X9 b k).getD k 0=x at *
      generalize (X9 b k).getD m 0=y at *
      go_wp2
      go_region
      all_goals
       go_wp2
       go_roundw
       case rel =>
        have s1:=World.ownsRow.stored hown' k (.int .u8 (y.toNat:Int))
        have s2:=World.ownsRow.stored s1.1 m (.int .u8 (x.toNat:Int))
        have hkk:Keeps (fun k=>some k=some g) wr ((wr.setCell ⟨g,k,none⟩ (.int .u8 (y.toNat:Int))).setCell ⟨g,m,none⟩ (.int .u8 (x.toNat:Int))):=(Keeps.of_grown s1.2).trans (Keeps.of_grown s2.2)
        have hl3:=hrl.out (k+1)
        refine ⟨k+1,by go_num,?_,by omega,⟨?_⟩,⟨(hkeep.out.trans hkk).drew⟩⟩
        · have:=hm3.out;go_num
        · unfold OwnByt
          rw [hl3,← hnx.out,← Zab,← Zab]
          exact s2.1.drew
       case measure=>simp [intOf];omega
    · have hfin:=hdone.out k (by omega)
      rw [hfin] at hown
      go_wp2
      go_end0
      refine ⟨rfl,?_,hkeep.out⟩
      exact hown.out
end Go.Proofs.YtfdlaomnecjfeaaGreatDoor
end
section
set_option maxRecDepth 100000
namespace Go.Proofs.YtfdlaomnecjfeaaGreatDoor
open Go.ChangeShapes Go.WideShapes Go.Deep Go.RowKit Seine.Trie
theorem u8_in {n:Int} (h:(Lit.int .u8 n).wf=true):((UInt8.ofNat n.toNat).toNat:Int)=n:=by
 simp only [Lit.wf,IntKind.min,IntKind.max,IntKind.signed,IntKind.bits,Bool.and_eq_true,decide_eq_true_eq] at h
 have h1:n.toNat<256:=by simp at h;omega
 simp only [UInt8.toNat_ofNat']
 have h0:0≤n:=by simp at h;omega
 omega
theorem Zea {H:Type} {enc:TypeId × Value→H} {w:World} {base:Nat} {v:Value} {d:DataW H} {p:List MemPlace}
    (hv:Value.okWide Tryz.prog w .any base 22 v) (h:DataW.Trod enc Tryz.prog w 0 (fun _=>true) true 22 v d p) :
    ∃ (A:Option Addr) (c:Nat) (b:Txt),v=.slice A b.length c∧Byt w A b∧b.length≤c∧c≤maxLen∧True:=by
 obtain ⟨A,c,xs,rfl,hr,h1,h2,h3⟩:=ZcP Tryz.underlying22 Tryz.underlying5 (by kernel_rfl) hv h
 refine ⟨A,c,xs.map fun n=>UInt8.ofNat n.toNat,by rw [List.length_map],?_,by rw [List.length_map];exact h1,h2,trivial⟩
 have:Zh (xs.map fun n=>UInt8.ofNat n.toNat)=xs.map (Value.int .u8):=by
  unfold Zh
  rw [List.map_map]
  refine List.map_congr_left fun n hn=>?_
  show Value.int .u8 ((UInt8.ofNat n.toNat).toNat:Int)=_
  rw [u8_in (h3 n hn)]
 unfold Byt
 rw [this]
 exact hr
end Go.Proofs.YtfdlaomnecjfeaaGreatDoor
end
section
namespace Go.Proofs.YtfdlaomnecjfeaaGreatDoor
open Go.RowKit
theorem Zb6 {P:Program} {ops:Array Oper} {rest:List Oper} {o:Oper} {a:Act} {Q:Exit→Act→World→Prop} (w:World) (hgd:o.guard=none) (s x:Operand) (t:TypeId)
    (ho:o.op=.call { callee:=.builtin .append,args:=#[s,x],argTypes:=#[t,t] })
    (e:TypeId) (i:TypeInfo) (ht:P.underlying t=some (.slice e)) (hi:P.info? e=some i)
    (A B:Option Addr) (n c d:Nat) (hs:a.eval s=.slice A n c) (hn:n≤c) (hx:a.eval x=.slice B 0 d)
    (h:wpList P ops Q rest (a.put o.dst (.slice A n c)) w) :
    wpList P ops Q (o::rest) a w:=by
 refine wpList_plain hgd fun K hK=>?_
 have hr:(Builtin.append_ #[t,t] o.type #[.slice A n c,.slice B 0 d]).run P w=.ok (.slice A n c) w:=by
  have hfc:(Builtin.firstCells i.size 0 (.slice B 0 d)).run P w=.ok #[] w:=by
   cases B with
   | none=>rfl
   | some b=>exact run_firstCells_some (P:=P) w i.size 0 b 0 d [] (by simp) (by simp)
  cases A <;> simp [Builtin.append_,run_underlying ht,sizeOf,typeInfo,hi,Builtin.lenOf,hn,hfc,storeCells]
 unfold Oper.wp execOp
 simp only [ho,resolve,invoke,builtin,Sem.run_bind,Sem.run_pure,Result.andThen_ok,List.map_toArray,List.map_cons,List.map_nil,hs,hx,hr]
 exact hK _ _ h
theorem Zb7 {P:Program} {ops:Array Oper} {rest:List Oper} {o:Oper} {a:Act} {Q:Exit→Act→World→Prop} (w:World) (hgd:o.guard=none) (s x:Operand) (t:TypeId)
    (ho:o.op=.call { callee:=.builtin .append,args:=#[s,x],argTypes:=#[t,t] })
    (base:Nat) (e:TypeId) (z:Value) (size bytes:Nat) (ht:P.underlying t=some (.slice e)) (hi:(P.info? e).map (fun i=>(i.zero,i.size,i.bytes))=some (some z,size,bytes))
    (hzs:z.cells.size=size) (hsz:0<size)
    (v:Value) (n:Nat) (xs:List Value) (hs:a.eval s=v) (hown:w.ownsRow base e size v n xs)
    (A:Option Addr) (m c:Nat) (cs:List Value) (hrow:Row w A cs) (hl:cs.length=m * size) (h1:∀ u∈cs,u.oneCell'=true) (hx:a.eval x=.slice A m c)
    (hlen:n+m≤1000000000000) (hby:bytes≤100) (hbase:base≤w.heap.size)
    (h:∀ v' w',w'.ownsRow base e size v' (n+m) (xs++cs)→Below base w w'→wpList P ops Q rest (a.put o.dst v') w') :
    wpList P ops Q (o::rest) a w:=by
 obtain ⟨i,hi,hz,hsize,hbytes⟩:=info_parts hi
 rcases hrow with rfl | ⟨ad,rfl,hlt,hc⟩
 · obtain rfl:m=0:=by
     have hl:0=m * size:=by simpa using hl
     rcases Nat.mul_eq_zero.1 hl.symm with h | h
     · exact h
     · omega
   obtain ⟨A0,c0,rfl,hc0⟩:=Zk hown
   refine Zb6 w hgd s x t ho e i ht hi A0 A n c0 c hs hc0 hx ?_
   exact h _ _ (by simpa using hown) (Below.refl _ _)
 · refine wpList_append_own_at w hgd s x t ho base e i z size bytes ht hi hz hsize hbytes hzs hsz v n xs hs hown ad m c cs hx hl hc h1
     (by simp only [maxLen];omega) ?_ hbase ?_
   · have:(n+m) * bytes≤(n+m) * 100:=Nat.mul_le_mul_left _ hby
     omega
   · intro v' w' h2 h3 _ h5
     refine h v' w' h2 ((Below.refl base w).grown h3 hbase (fun k hk=>?_))
     rcases hown.2 with ⟨rfl,_⟩ | ⟨g,cap,cur,rfl,hg,_⟩
     · simp [Value.ownBlock] at hk
     · simp [Value.ownBlock] at hk;omega
end Go.Proofs.YtfdlaomnecjfeaaGreatDoor
end
section
namespace Go.Proofs.YtfdlaomnecjfeaaGreatDoor
open Go.RowKit Seine.Trie Go.Proofs.YtfdlaomnecjfeaaGreatDoorW.PrintWords
def bb (l:Txt):ByteArray:=⟨l.toArray⟩
def nb (l:Txt):List Int:=l.map fun c=>(c.toNat:Int)
theorem nb_length (l:Txt):(nb l).length=l.length:=by simp [nb]
theorem YJ (l:Txt):(bb l).data.toList=l:=by simp [bb]
theorem ZfV (s:ByteArray):bb s.data.toList=s:=by cases s;simp [bb]
theorem ZfO {a b:ByteArray} (h:a.data.toList=b.data.toList):a=b:=by rw [← ZfV a,← ZfV b,h]
theorem Zas (l:Txt):(bb l).size=l.length:=by simp [bb,ByteArray.size]
theorem JT (l:Txt):(bb l).toList=l:=by rw [ByteArray.toList_eq,YJ]
theorem bb_inj {a b:Txt} (h:bb a=bb b):a=b:=by rw [← YJ a,h,YJ]
theorem bb_append (a b:Txt):bb a++bb b=bb (a++b):=ZfO (by rw [YJ,ByteArray.data_append,Array.toList_append,YJ,YJ])
theorem bb_nums (l:Txt):strOfNums (nb l)=bb l:=by
 apply ZfO
 rw [YJ]
 simp [strOfNums,nb,Function.comp_def]
theorem kdU8 {w:World} {A:Option Addr} {b:Txt} (h:Byt w A b) (hl:b.length≤9223372036854775807):Kd.C (Kd.int .u8) w A b.length (nb b):=by
 refine ⟨nb_length b,hl,fun h0=>?_⟩
 rcases h with h | ⟨ad,hA,_,hc⟩
 · have:=congrArg List.length h;rw [Zt] at this;simp at this;simp [this] at h0
 · refine ⟨ad,hA,fun j p hp=>⟨[.int .u8 p],rfl,rfl,fun i u hu=>?_⟩⟩
   have hi:i=0:=by
    have:=(List.getElem?_eq_some_iff.1 hu).1
    simpa using this
   subst hi
   injection hu with hu
   subst hu
   have e:(Kd.int .u8).sz=1:=rfl
   rw [e,Nat.mul_one,Nat.add_zero]
   refine hc j _ ?_
   unfold nb at hp
   unfold Zh
   rw [List.getElem?_map] at hp ⊢
   cases hb:b[j]? with
   | none=>rw [hb] at hp;cases hp
   | some c=>rw [hb] at hp;injection hp with hp;subst hp;rfl
/-- Rows of whole numbers. -/
def Z9 (xs:List Int):List Value:=xs.map (Value.int .i64)
theorem Zat (xs:List Int):(Z9 xs).length=xs.length:=by simp [Z9]
abbrev Ints (w:World) (A:Option Addr) (xs:List Int):Prop:=Row w A (Z9 xs)
theorem Yk {w:World} {src:TypeId} {A:Option Addr} {b:Txt} {c:Nat} (hs:Tryz.prog.underlying src=some (.slice 5)) (h:Byt w A b) (hl:b.length≤9223372036854775807):(convert src 9 (.slice A b.length c)).run Tryz.prog w=.ok (.string (bb b)) w:=by
 have:=Kd.C_string (P:=Tryz.prog) (src:=src) (dst:=9) (c:=c) hs Tryz.underlying5 Tryz.underlying9 (kdU8 h hl)
 rw [bb_nums] at this
 exact this
/-- A string of new bytes. -/
theorem ZeR {w:World} {A:Option Addr} {b:Txt} {c:Nat} (h:Byt w A b) (hl:b.length≤9223372036854775807) {s:ByteArray} (hs:bb b=s):(convert 22 9 (.slice A b.length c)).run Tryz.prog w=.ok (.string s) w:=by
 rw [Yk Tryz.underlying22 h hl,hs]
end Go.Proofs.YtfdlaomnecjfeaaGreatDoor
end
section
namespace Go.Proofs.YtfdlaomnecjfeaaGreatDoor
open Go.RowKit Seine.Trie Go.Shelf
/-- The library's table of powers of ten. -/
def Tab (w : World) : Prop := Lib.TabIs Tryz.prog w "internal/strconv.uint64pow10" .u64 Lib.pow10Tab
theorem ZfW : ∃ g, Tryz.prog.globalNamed "internal/strconv.uint64pow10" = some g := Option.isSome_iff_exists.1 (by kernel_rfl)
theorem Tab.below {w w':World} (h:Tab w) (hb:Below w.heap.size w w'):Tab w':=by
 obtain ⟨g,hg⟩:=ZfW
 exact Joins.tab_stays hg h hb (Nat.le_refl _)
theorem belowGrow (w:World) (k:Nat) (os:Array Obj):Below w.heap.size w (Sort.grow (w.drewN k) os) :=
 ⟨rfl,rfl,rfl,by simp [Sort.grow,World.drewN],fun i hi=>by simp [Sort.grow,World.drewN,Array.getElem?_append_left hi]⟩
shelf_lay LaysM.n171 Nm 171 at Tryz as Tryz.laysItoa
def dig (n:Int):Txt:=Lib.itoa n
theorem Jm {n:Int} (h:(Lit.int .i64 n).wf=true):(dig n).length≤21:=by
 simp [Lit.wf,IntKind.min,IntKind.max,IntKind.signed,IntKind.bits] at h
 exact Lib.itoa_length_le n (by omega) (by omega)
theorem Zdc (n:Int) (h:(Lit.int .i64 n).wf=true) (w:World) (ht:Tab w) :
    Calls Tryz.prog 118 #[.int .i64 n] w fun e w'=>e=.returned (.string (bb (dig n)))∧Below w.heap.size w w':=by
 simp [Lit.wf,IntKind.min,IntKind.max,IntKind.signed,IntKind.bits] at h
 refine (Any.strconv_Itoa Tryz.laysItoa n (by omega) (by omega) w ht).mono ?_
 rintro e w' ⟨rfl,k,os,rfl⟩
 exact ⟨rfl,belowGrow w k os⟩
/-- Texts in memory. -/
def Jw (l:List Txt):List Value:=l.map fun t=>.string (bb t)
theorem flat_le (l:List Txt) (k:Nat):(l.take k).flatten.length≤l.flatten.length:=by
 conv=>rhs;rw [← List.take_append_drop k l,List.flatten_append,List.length_append]
 omega
theorem strCells_bb (t:Txt):Lib.strCells (bb t)=Zh t:=by simp [Lib.strCells,bb,Zh]
set_option maxHeartbeats 800000 in
theorem Za7 (w:World) (A:Option Addr) (c:Nat) (l:List Txt) (h:Row w A (Jw l)) (hl:l.length≤1000) (ht:l.flatten.length≤1000000) :
    Calls Tryz.prog 117 #[.slice A l.length c] w (RetByt w l.flatten):=by
 obtain ⟨R,hR⟩:∃ R,l.flatten=R:=⟨_,rfl⟩
 have hfl:=As.mk (fun k=>flat_le l k)
 rw [hR] at ht hfl ⊢
 have hR:=As.mk hR
 have HX:=As.mk h
 obtain ⟨n,hn⟩:∃ n,l.length=n:=⟨_,rfl⟩
 rw [hn] at hl ⊢
 have hn:=As.mk hn
 clear h
 obtain ⟨i0,hi,hz0,hz1,hz2⟩:=info_parts X2
 go_enter Tryz.func117,Tryz.ntmps117
 go_wp2
 go_loopg [3,8] (n+1) (fun gk v i wr=>∃ k:Nat,As (n+1≤gk+k)∧k≤n∧i=.int .i64 k∧As (OwnByt wr w.heap.size v (l.take k).flatten)∧As (Below w.heap.size w wr))
 case atStart=>exact ⟨0,⟨by omega⟩,Nat.zero_le _,rfl,⟨World.ownsRow_nil _ _ _ _⟩,⟨Below.refl _ _⟩⟩
 case round =>
  obtain ⟨k,hgk,hk,rfl,hown,hbel⟩:=hrel
  by_cases hlt:k<n
  · obtain ⟨gp,rfl⟩:∃ gp,gk=gp+1:=⟨gk - 1,by have:=hgk.out;omega⟩
    obtain ⟨ad,rfl,hc1⟩:=Row.at_ (HX.out.below hbel.out) (j:=k) (by unfold Jw;rw [List.length_map,hn.out];exact hlt)
    have hkl:k<l.length:=by rw [hn.out];exact hlt
    rw [show (Jw l)[k]'(by unfold Jw;rw [List.length_map];exact hkl)=.string (bb l[k]) by simp [Jw]] at hc1
    have hsuc:(l.take (k+1)).flatten=(l.take k).flatten++l[k]:=by rw [List.take_succ_eq_append_getElem hkl,List.flatten_append];simp
    have hle:=hfl.out (k+1)
    rw [hsuc,List.length_append] at hle
    obtain ⟨t,htt⟩:∃ t,l[k]=t:=⟨_,rfl⟩
    rw [htt] at hc1 hsuc hle
    have hsuc:=As.mk hsuc
    obtain ⟨acc,hacc⟩:∃ acc,(l.take k).flatten=acc:=⟨_,rfl⟩
    rw [hacc] at hown hsuc hle
    clear htt hacc hkl
    go_wp2_with (at_builtin
                 refine Lib.wpList_append_own_string _ rfl (.tmp 12) (.tmp 13) 22 9 rfl w.heap.size 5 i0 Tryz.underlying22 Tryz.underlying9 hi hz0 hz1 hz2 _ acc.length (Zh acc) rfl hown.out (bb t) rfl (by rw [Zas];unfold maxLen;omega) (by rw [Zas];omega) hbel.out.size ?_
                 intro v' w4 ho4 hg4 _
                 have ho4:OwnByt w4 w.heap.size v' (acc++t):=by unfold OwnByt;rw [List.length_append,show Zh (acc++t)=Zh acc++Zh t by simp [Zh],← strCells_bb t,← Zas t];exact ho4
                 have hb4:=(Below.refl w.heap.size wr).grown hg4 hbel.out.size (fun q hq=>(ZM hown.out hq.symm).1)
                 replace ho4:=As.mk ho4
                 replace hb4:=As.mk hb4)
    go_roundg gp
    case rel=>exact ⟨k+1,⟨by have:=hgk.out;omega⟩,by omega,(by first | rfl | go_num | (congr 1;omega)),⟨by rw [hsuc.out];exact ho4.out⟩,⟨hbel.out.trans hb4.out⟩⟩
    case measure=>omega
  · obtain rfl:n=k:=by omega
    rw [← hn.out,List.take_length,hR.out] at hown
    go_wp2
    go_ret
    exact ⟨_,rfl,hown.out,hbel.out⟩
theorem Zb8 (n:Int) (h:(Lit.int .i64 n).wf=true) (w:World) (ht:Tab w):Calls Tryz.prog 73 #[.int .i64 n] w (RetByt w (dig n++[10])):=by
 have hi:=As.mk (Zdc n h w ht)
 have hdl:=Jm h
 obtain ⟨d,hd⟩:∃ d,dig n=d:=⟨_,rfl⟩
 rw [hd] at hi hdl ⊢
 have cj:=As.mk (fun (v:World) (A:Option Addr) (hr:Row v A (Jw [d,[10]]))=>Za7 v A 2 [d,[10]] hr (by simp) (by simp;omega))
 simp only [List.flatten_cons,List.flatten_nil,List.append_nil] at cj
 have hdl:=As.mk hdl
 clear hd h ht
 go_enter Tryz.func73,Tryz.ntmps73
 go_wp2_with fail
 refine Calls.mono hi.out ?_
 rintro e w1 ⟨rfl,hb1⟩
 go_wp2_with fail
 refine Calls.mono (cj.out _ _ (Row.new _ _ _)) ?_
 rintro e w2 ⟨v,rfl,ho,hb2⟩
 go_wp2
 go_ret
 refine ⟨_,rfl,?_,?_⟩
 · exact ZB ho (by simp;have:=hb1.size;omega)
 · exact (hb1.alloc hb1.size _).trans (Below.mono hb2 (by simp;have:=hb1.size;omega))
/-- What stands ahead of a line. -/
def Zau (off:Int) (b:Bool):Txt:=if b=true then dig off++[58] else []
theorem ahead_calls (off:Int) (b:Bool) (h:(Lit.int .i64 off).wf=true) (w:World) (ht:Tab w) (p q:Addr) (hp:w.cell? p=some (.bool b)) (hq:w.cell? q=some (.int .i64 off)) :
    Calls Tryz.prog 204 #[.pointer (some p),.pointer (some q)] w fun e w'=>e=.returned (.string (bb (Zau off b)))∧Below w.heap.size w w':=by
 have hi:=As.mk (Zdc off h w ht)
 cases b with
 | false =>
   go_enter Tryz.func204,Tryz.ntmps204
   go_wp2
   go_ret
   exact ⟨rfl,Below.refl _ _⟩
 | true =>
   have he:bb (Zau off true)=bb (dig off)++bb [58]:=by rw [bb_append];rfl
   rw [he]
   have hds:(bb (dig off)).size≤21:=by rw [Zas];exact Jm h
   generalize bb (dig off)=sd at *
   clear he
   go_enter Tryz.func204,Tryz.ntmps204
   go_wp2_with (go_at_call 118;refine Calls.mono hi.out ?_;rintro e w1 ⟨rfl,hb1⟩)
   go_ret
   exact ⟨rfl,hb1⟩
end Go.Proofs.YtfdlaomnecjfeaaGreatDoor
end
section
namespace Go.Proofs.YtfdlaomnecjfeaaGreatDoor
open Go.RowKit
abbrev Pr:=Int × Int
theorem Xl:(Tryz.prog.info? 67).map (fun i=>(i.zero,i.size,i.bytes))=some (some (.agg #[(.int .i64 0),(.int .i64 0)]),2,16):=by kernel_rfl
def Zr (xs:List Pr):List Value:=xs.flatMap fun p=>[.int .i64 p.1,.int .i64 p.2]
theorem Qq (xs:List Pr):(Zr xs).length=xs.length * 2:=by
 induction xs with
 | nil=>rfl
 | cons x xs ih=>exact (congrArg (·+2) ih).trans (by show _=(xs.length+1) * 2;omega)
theorem Xa (xs:List Pr) (p:Pr):Zr (xs++[p])=Zr xs++[.int .i64 p.1,.int .i64 p.2]:=by simp [Zr]
theorem prCells_at (xs:List Pr) (i:Nat) (h:i<xs.length):(Zr xs)[i * 2]? = some (.int .i64 (xs.getD i (0,0)).1)∧(Zr xs)[i * 2+1]? = some (.int .i64 (xs.getD i (0,0)).2):=by
 induction xs generalizing i with
 | nil=>simp at h
 | cons x xs ih =>
   cases i with
   | zero=>simp [Zr]
   | succ i =>
     have:=ih i (by simpa using h)
     have e1:(i+1) * 2=i * 2+2:=by omega
     have e2:Zr (x::xs)=.int .i64 x.1::.int .i64 x.2::Zr xs:=rfl
     rw [e1,e2]
     simpa using this
/-- A slice of pairs. -/
abbrev Prs (w:World) (A:Option Addr) (xs:List Pr):Prop:=Row w A (Zr xs)
abbrev OwnPrs (w:World) (base:Nat) (v:Value) (xs:List Pr):Prop:=w.ownsRow base 67 2 v xs.length (Zr xs)
theorem Prs.at_ {w:World} {A:Option Addr} {xs:List Pr} (h:Prs w A xs) {i:Nat} (hi:i<xs.length):∃ ad,A=some ad ∧
    w.cell? (ad.add (i * 2))=some (.int .i64 (xs.getD i (0,0)).1)∧w.cell? ⟨(ad.add (i * 2)).block,(ad.add (i * 2)).off+1,none⟩=some (.int .i64 (xs.getD i (0,0)).2):=by
 obtain ⟨h1,h2⟩:=prCells_at xs i hi
 rcases h with h | ⟨ad,hA,_,hc⟩
 · rw [h] at h1;simp at h1
 · exact ⟨ad,hA,hc _ _ h1,by rw [← Addr.add_field _ _ _ (by omega)];exact hc _ _ h2⟩
theorem ZfX (d:Nat) (w:World) (x0 y0:Int) (x1 y1:Int) :
    (Op.equalIn (d+2) 67 (.agg #[.int .i64 x0,.int .i64 x1]) (.agg #[.int .i64 y0,.int .i64 y1])).run Tryz.prog w=.ok (x0 == y0 && (x1 == y1)) w:=by
 have h := Ju (P := Tryz.prog) (d := d + 1) (w := w) (xs := #[.int .i64 x0, .int .i64 x1]) (ys := #[.int .i64 y0, .int .i64 y1]) (f := ⟨"Start", 3, 0, false, "", "", 0⟩) (by decide) (by go_simp; rfl) (by go_simp; rfl) (by go_simp; rfl)
  (Ju (f := ⟨"End", 3, 1, false, "", "", 8⟩) (by decide) (by go_simp; rfl) (by go_simp; rfl) (by go_simp; rfl) Zb5)
 rw [Bool.and_true] at h
 exact Zd9 Tryz.underlying67 (by kernel_rfl) h
attribute [local go_sem high] ZfX
theorem OwnPrs.row {w:World} {base:Nat} {v:Value} {xs:List Pr} (h:OwnPrs w base v xs):∃ A c,v=.slice A xs.length c∧xs.length≤c∧Prs w A xs:=by
 obtain ⟨A,c,rfl,hc⟩:=Zk h
 exact ⟨A,c,rfl,hc,Row.of_own h⟩
theorem Zb9 {w:World} {base:Nat} {v:Value} {xs:List Pr} {s e:Int} (h:w.ownsRow base 67 2 v (xs.length+1) (Zr xs++[.int .i64 s,.int .i64 e])):OwnPrs w base v (xs++[(s,e)]):=by
 unfold OwnPrs
 rw [List.length_append,Xa]
 exact h
/-- Pairs in new memory. -/
def RetPrs (w:World) (xs:List Pr) (e:Ending) (w':World):Prop:=∃ v,e=.returned v∧OwnPrs w' w.heap.size v xs∧Below w.heap.size w w'
theorem RetPrs.row {w w':World} {xs:List Pr} {e:Ending} (h:RetPrs w xs e w'):∃ A c,e=.returned (.slice A xs.length c)∧xs.length≤c∧Prs w' A xs∧Below w.heap.size w w':=by
 obtain ⟨v,rfl,ho,hb⟩:=h
 obtain ⟨A,c,rfl,hc,hr⟩:=OwnPrs.row ho
 exact ⟨A,c,rfl,hc,hr,hb⟩
end Go.Proofs.YtfdlaomnecjfeaaGreatDoor
end
section
namespace Go.Proofs.YtfdlaomnecjfeaaGreatDoor
open Go.RowKit Seine.Trie Go.Shelf Go.Proofs.YtfdlaomnecjfeaaGreatDoorW.PrintWords
/-- A line. -/
def Yi (off:Int) (x:Txt) (b:Bool):Txt:=Zau off b++(x++[10])
theorem Yu {off:Int} (h:(Lit.int .i64 off).wf=true) (b:Bool):(Zau off b).length≤22:=by
 unfold Zau
 split
 · rw [List.length_append];have:=Jm h;simp;omega
 · simp
set_option maxRecDepth 100000 in
set_option maxHeartbeats 1600000 in
theorem Zdd (off:Int) (h:(Lit.int .i64 off).wf=true) (A:Option Addr) (c:Nat) (x:Txt) (b:Bool) (w:World) (hx:Byt w A x) (hl:x.length≤900000) (ht:Tab w) :
    Calls Tryz.prog 161 #[.int .i64 off,.slice A x.length c,.bool b] w (RetByt w (Yi off x b)):=by
 have hal:=Yu h b
 have ca:=As.mk (fun (v:World) (hv:Tab v) p q hp hq=>ahead_calls off b h v hv p q hp hq)
 have HT:=As.mk ht
 have HX:=As.mk hx
 have hln:(Yi off x b).length≤1000000:=by unfold Yi;rw [List.length_append,List.length_append];simp;omega
 obtain ⟨a,ha⟩:∃ a,Zau off b=a:=⟨_,rfl⟩
 have hlf:Yi off x b=[a,x,[10]].flatten:=by unfold Yi;rw [ha];simp
 rw [hlf] at hln ⊢
 rw [ha] at ca hal
 have cj:=As.mk (fun (v:World) (A:Option Addr) (hr:Row v A (Jw [a,x,[10]]))=>Za7 v A 3 [a,x,[10]] hr (by simp) hln)
 have hc1:∀ v,Below w.heap.size w v→(convert 22 9 (.slice A x.length c)).run Tryz.prog v=.ok (.string (bb x)) v:=fun v hv=>Yk Tryz.underlying22 (Row.below HX.out hv) (by omega)
 clear hx ht hlf hln ha
 go_enter Tryz.func161,Tryz.ntmps161
 go_wp2_with fail
 have z1:((w.alloc (.cells #[.int .i64 off] 3)).alloc (.cells #[.bool b] 4)).cell? ⟨w.heap.size,0,none⟩=some (.int .i64 off):=Za (Zn (heap_alloc_new w _)) 0
 have z2:((w.alloc (.cells #[.int .i64 off] 3)).alloc (.cells #[.bool b] 4)).cell? ⟨w.heap.size+1,0,none⟩=some (.bool b):=Za (Yo (w:=w.alloc (.cells #[.int .i64 off] 3)) (by simp)) 0
 have hB:Below w.heap.size w ((w.alloc (.cells #[.int .i64 off] 3)).alloc (.cells #[.bool b] 4)):=((Below.refl _ _).alloc (Nat.le_refl _) _).alloc (by simp) _
 have hS:=hB.size
 have hBd:Below w.heap.size w ((w.alloc (.cells #[.int .i64 off] 3)).alloc (.cells #[.bool b] 4)).drew:=hB.drew
 generalize ((w.alloc (.cells #[.int .i64 off] 3)).alloc (.cells #[.bool b] 4))=W at *
 go_region_with (first
  | (go_at_call 204;refine Calls.mono (ca.out _ (HT.out.below (Below.drew hB)) _ _ z2 z1) ?_;rintro e w' ⟨rfl,hb⟩;have hbw:Below w.heap.size w w':=Ze (Below.drew hB) hb)
  | (go_at_call 117;refine Calls.mono (cj.out _ _ ?r) ?_;(case r=>exact Row.new _ _ _);rintro e w' ⟨v,rfl,ho,hb2⟩))
 all_goals
  have s1:=hbw.size
  go_wp2
  go_ret
  refine ⟨_,rfl,ZB ho (by simp only [World.size_alloc];omega),?_⟩
  exact (hbw.alloc s1 _).trans (Below.mono hb2 (by simp only [World.size_alloc];omega))
end Go.Proofs.YtfdlaomnecjfeaaGreatDoor
end
section
namespace Go.Proofs.YtfdlaomnecjfeaaGreatDoor
open Go.RowKit Seine.Trie Go.Shelf Go.Proofs.YtfdlaomnecjfeaaGreatDoorW.PrintWords
/-- A pair that tells a piece of so many bytes. -/
def ZdT (n:Nat) (p:Pr):Bool:=decide (0≤p.1) && decide (p.1≤p.2) && decide (p.2≤(n:Int))
def Yp (off:Int) (x:Txt) (b:Bool) (p:Pr):Txt:=if ZdT x.length p=true then Yi (RowKit.wrap64 (off+p.1)) ((x.drop p.1.toNat).take (p.2.toNat - p.1.toNat)) b else []
def Xm (off:Int) (x:Txt) (l:List Pr) (b:Bool):Txt:=(l.map (Yp off x b)).flatten
theorem YK {P:Program} {ops:Array Oper} {o:Oper} {a:Act} {w:World} {K:Act→World→Prop} {Q:Exit→Act→World→Prop} {E:Prop} (hg:o.guard=none) {f:FuncId} {vals:Array Value} {post:Ending→World→Prop}
    (ho:(execOp a.eval o).run P w=.ok (.enter f vals) w) (hc:Calls P f vals w post) (hr:∀ e w',post e w'→∃ v,e=.returned v) (h:∀ v w',post (.returned v) w'→K (a.put o.dst v) w') :
    if Region.wanted o (yielded ops a.tmps)=true then Oper.wp P o a w K Q else E:=by
 have hw:Region.wanted o (yielded ops a.tmps)=true:=by simp [Region.wanted,hg]
 rw [if_pos hw]
 unfold Oper.wp
 rw [ho,Oper.upon_enter]
 refine hc.mono ?_
 intro e w' hp
 obtain ⟨v,rfl⟩:=hr e w' hp
 exact h v w' hp
theorem RetByt.ret {w:World} {b:Txt}:∀ e w',RetByt w b e w'→∃ v,e=.returned v:=fun e w' ⟨v,h,_⟩=>⟨v,h⟩
theorem ZdU {b:Txt}:∀ u∈Zh b,u.oneCell'=true:=fun u hu=>by
 obtain ⟨x,_,rfl⟩:=List.mem_map.1 hu;rfl
theorem Byt.piece2 {w:World} {ad:Addr} {b:Txt} (h:Byt w (some ad) b) (i k:Nat):Byt w (some (ad.add i)) ((b.drop i).take k):=by
 rcases h with h | ⟨ad',e,hlt,hc⟩
 · have:b=[]:=by have:=congrArg List.length h;rw [Zt] at this;exact List.eq_nil_of_length_eq_zero this
   subst this
   exact .inl (by simp [Zh])
 · injection e with e
   subst e
   refine .inr ⟨_,rfl,by rw [Addr.block_add];exact hlt,fun j u hu=>?_⟩
   rw [Addr.add_add']
   refine hc _ u ?_
   unfold Zh at hu ⊢
   rw [List.getElem?_map,List.getElem?_take] at hu
   split at hu
   · rw [List.getElem?_drop] at hu
     rw [List.getElem?_map];exact hu
   · cases hu
theorem Byt.cells' {w:World} {ad:Addr} {b:Txt} (h:Byt w (some ad) b):∀ j u,(Zh b)[j]? = some u→w.cell? (ad.add j)=some u:=by
 rcases h with h | ⟨ad',e,_,hc⟩
 · intro j u hu;rw [h] at hu;simp at hu
 · injection e with e;subst e;exact hc
theorem OwnByt.form' {w:World} {base:Nat} {v:Value} {b:Txt} (h:OwnByt w base v b) (hb:0<b.length):∃ g cap,v=.slice (some ⟨g,0,none⟩) b.length cap∧Byt w (some ⟨g,0,none⟩) b:=by
 obtain ⟨A,c,rfl,_,hr⟩:=h.row
 rcases h.2 with ⟨_,h0⟩ | ⟨g,cap,cur,hv,_⟩
 · omega
 · injection hv with h1 _ h2
   subst h1
   exact ⟨g,c,rfl,hr⟩
theorem ZdV (z:Int):(Lit.int .i64 (RowKit.wrap64 z)).wf=true:=RowKit.wrap64_wf z
theorem piece_length (off:Int) (x:Txt) (b:Bool) (p:Pr):(Yp off x b p).length≤x.length+23:=by
 unfold Yp
 split
 · unfold Yi
   rw [List.length_append,List.length_append,List.length_take,List.length_drop]
   have:=Yu (ZdV (off+p.1)) b
   simp;omega
 · simp
theorem Y9 (off:Int) (x:Txt) (b:Bool):∀ l:List Pr,(Xm off x l b).length≤l.length * (x.length+23)
 | []=>by simp [Xm]
 | p::l=>by
   have h1:=piece_length off x b p
   have h2:=Y9 off x b l
   unfold Xm at *
   rw [List.map_cons,List.flatten_cons,List.length_append,List.length_cons,Nat.succ_mul]
   omega
set_option maxRecDepth 100000 in
set_option maxHeartbeats 1600000 in
theorem pieces_calls (off:Int) (h:(Lit.int .i64 off).wf=true) (A:Option Addr) (c:Nat) (x:Txt) (B:Option Addr) (d:Nat) (l:List Pr) (b:Bool) (w:World) (hx:Byt w A x) (hl:x.length≤1000) (hxc:x.length≤c) (hp:Prs w B l) (hll:l.length≤500) (ht:Tab w) :
    Calls Tryz.prog 159 #[.int .i64 off,.slice A x.length c,.slice B l.length d,.bool b] w (RetByt w (Xm off x l b)):=by
 have hu25:=Tryz.underlying67
 have HX:=As.mk hx
 have HP:=As.mk hp
 have HT:=As.mk ht
 obtain ⟨m,hm⟩:∃ m,x.length=m:=⟨_,rfl⟩
 obtain ⟨n,hn⟩:∃ n,l.length=n:=⟨_,rfl⟩
 rw [hm] at hl hxc ⊢
 rw [hn] at hll ⊢
 have hm:=As.mk hm
 have hn:=As.mk hn
 clear hx hp ht
 obtain ⟨i0,hi,hz0,hz1,hz2⟩:=info_parts X2
 go_enter Tryz.func159,Tryz.ntmps159
 go_wp2
 go_loopg [9,14] (n+1) (fun gk v i wr=>∃ k:Nat,As (n+1≤gk+k)∧k≤n∧i=.int .i64 k∧As (OwnByt wr w.heap.size v (Xm off x (l.take k) b))∧As (Below w.heap.size w wr))
 case atStart=>exact ⟨0,⟨by omega⟩,Nat.zero_le _,rfl,⟨World.ownsRow_nil _ _ _ _⟩,⟨Below.refl _ _⟩⟩
 case round =>
  obtain ⟨k,hgk,hk,rfl,hown,hbel⟩:=hrel
  by_cases hlt:k<n
  · obtain ⟨gp,rfl⟩:∃ gp,gk=gp+1:=⟨gk - 1,by have:=hgk.out;omega⟩
    obtain ⟨ad,rfl,a1,a2⟩:=Prs.at_ (Row.below HP.out hbel.out) (i:=k) (by rw [hn.out];exact hlt)
    have hsuc:Xm off x (l.take (k+1)) b=Xm off x (l.take k) b++Yp off x b (l.getD k (0,0)):=by
     unfold Xm
     rw [List.take_succ_eq_append_getElem (by rw [hn.out];exact hlt),List.getD_eq_getElem?_getD,List.getElem?_eq_getElem (by rw [hn.out];exact hlt),List.map_append,List.flatten_append]
     simp only [List.map_cons,List.map_nil,List.flatten_cons,List.flatten_nil,List.append_nil]
     rfl
    have hle:=Y9 off x b (l.take k)
    have hle2:(Xm off x (l.take k) b).length≤520000:=by
     have:(l.take k).length * (x.length+23)≤500 * 1023:=Nat.mul_le_mul (by rw [List.length_take];omega) (by have:=hm.out;omega)
     omega
    generalize l.getD k (0,0)=p at *
    obtain ⟨s,e⟩:=p
    generalize hacc:Xm off x (l.take k) b=acc at *
    clear hle hacc
    have hop:ZdT m (s,e)=(decide (0≤s) && decide (s≤e) && decide (e≤(m:Int))):=rfl
    by_cases hok:ZdT m (s,e)=true
    · rw [hop,Bool.and_eq_true,Bool.and_eq_true,decide_eq_true_eq,decide_eq_true_eq,decide_eq_true_eq] at hok
      obtain ⟨⟨o1,o2⟩,o3⟩:=hok
      obtain ⟨sn,rfl⟩:=Int.eq_ofNat_of_zero_le o1
      obtain ⟨en,rfl⟩:=Int.eq_ofNat_of_zero_le (Int.le_trans o1 o2)
      have hsn:sn≤en:=by omega
      have hen:en≤m:=by omega
      obtain ⟨L,hL⟩:∃ L,Yp off x b ((sn:Int),(en:Int))=L:=⟨_,rfl⟩
      have hL2:Yi (RowKit.wrap64 (off+(sn:Int))) ((x.drop sn).take (en - sn)) b=L:=by
       rw [← hL];unfold Yp;rw [hm.out,if_pos (by rw [hop];simp;omega)];rfl
      have hpl:((x.drop sn).take (en - sn)).length=en - sn:=by rw [List.length_take,List.length_drop,hm.out];omega
      have hL0:0<L.length∧L.length≤1100:=by
       rw [← hL2];unfold Yi
       have:=Yu (ZdV (off+(sn:Int))) b
       rw [List.length_append,List.length_append,hpl];simp;omega
      obtain ⟨hL0,hL1⟩:=hL0
      rw [hL] at hsuc
      have cl:=As.mk (fun (v:World) (hv:Below w.heap.size w v) (A':Option Addr) (c':Nat) (hb:Byt v A' ((x.drop sn).take (en - sn)))=>Zdd (RowKit.wrap64 (off+(sn:Int))) (ZdV _) A' c' _ b v hb (by rw [hpl];omega) (HT.out.below hv))
      rw [hL2,hpl] at cl
      obtain ⟨z,hz⟩:∃ z,RowKit.wrap64 (off+(sn:Int))=z:=⟨_,rfl⟩
      have hzw:IntKind.i64.wrap (off+(sn:Int))=z:=(IntWalk.i64_left _).trans hz
      rw [hz] at cl
      have hec:en≤c:=by omega
      have hec2:(en:Int)≤(c:Int):=by omega
      clear hz
      replace hL:=As.mk hL
      replace hL2:=As.mk hL2
      replace hpl:=As.mk hpl
      replace hsuc:=As.mk hsuc
      clear hop
      have hB1:Below w.heap.size w (wr.alloc (.cells #[.int .i64 (sn:Int),.int .i64 (en:Int)] 67)).drew:=(hbel.out.alloc hbel.out.size _).drew
      cases A with
      | none =>
        have hx0:x=[]:=by
         rcases HX.out with h | ⟨ad',e,_⟩
         · have:=congrArg List.length h;rw [Zt] at this;exact List.eq_nil_of_length_eq_zero this
         · cases e
        have hby:=As.mk (fun v (hv:Below w.heap.size w v)=>(.inl (by rw [hx0];simp [Zh]):Byt v none ((x.drop sn).take (en - sn))))
        have cl1:=As.mk (cl.out _ hB1 _ (c - sn) (hby.out _ hB1))
        clear hx0
        have hO1:=As.mk ((hown.out.alloc (.cells #[.int .i64 (sn:Int),.int .i64 (en:Int)] 67)).drew)
        go_wp2_with fail
        go_region_law (first
         | (refine step_append_lies _ (by rfl) (.tmp 35) (.tmp 47) _ (by rfl) w.heap.size 5 i0 _ 1 1 Tryz.underlying22 hi hz0 hz1 hz2 rfl (by decide) _ acc.length (Zh acc) (by rfl) (Zo hO1.out hb5) ⟨g7,0,none⟩ L.length c7 (Zh L) (by rfl) (by rw [Zt,Nat.mul_one]) (Byt.cells' hg7) ZdU hL0 (by unfold maxLen;omega) (by omega) (Ze hB1 hb5).size _ rfl ?_
            intro g3 cap3 w3 ho3 hgr3 hloc3 hlt3)
         | (refine YK (by rfl) ?ho cl1.out RetByt.ret ?_;(case ho=>go_simp);intro v7 w5 hp5;obtain ⟨v8,he5,ho5,hb5⟩:=hp5;injection he5 with he5;subst he5;obtain ⟨g7,c7,rfl,hg7⟩:=OwnByt.form' ho5 hL0))
        all_goals
         have hb35:=Ze hB1 hb5
         have hb3:Below w.heap.size w w3:=hb35.trans ((Below.refl w.heap.size w5).grown hgr3 hb35.size (fun q hq=>(ZM (Zo hO1.out hb5) hq.symm).1))
         have ho4:OwnByt w3 w.heap.size (.slice (some ⟨g3,0,none⟩) (acc.length+L.length) cap3) (acc++L):=by
          unfold OwnByt;rw [List.length_append,show Zh (acc++L)=Zh acc++Zh L by simp [Zh]];exact ho3
         replace ho4:=As.mk ho4
         replace hb3:=As.mk hb3
         clear ho3 hgr3 hloc3 hlt3 hb5 hb35 hg7 ho5
         go_wp2
         go_roundg gp
         case rel=>exact ⟨k+1,⟨by have:=hgk.out;omega⟩,by omega,(by first | rfl | go_num | (congr 1;omega)),⟨by rw [hsuc.out];exact ho4.out⟩,hb3⟩
         case measure=>omega
      | some adx =>
        by_cases hcs:c=sn
        · have hby:=As.mk (fun v (hv:Below w.heap.size w v)=>(.inl (by have h0:(x.drop sn).take (en - sn)=[]:=List.eq_nil_of_length_eq_zero (by rw [hpl.out];omega);rw [h0];simp [Zh]):Byt v (some adx) ((x.drop sn).take (en - sn))))
          have cl1:=As.mk (cl.out _ hB1 _ 0 (hby.out _ hB1))
          obtain rfl:en=sn:=by omega
          subst hcs
          rw [Nat.sub_self] at cl1
          have hO1:=As.mk ((hown.out.alloc (.cells #[.int .i64 (c:Int),.int .i64 (c:Int)] 67)).drew)
          go_wp2_with fail
          go_region_law (first
           | (refine step_append_lies _ (by rfl) (.tmp 35) (.tmp 47) _ (by rfl) w.heap.size 5 i0 _ 1 1 Tryz.underlying22 hi hz0 hz1 hz2 rfl (by decide) _ acc.length (Zh acc) (by rfl) (Zo hO1.out hb5) ⟨g7,0,none⟩ L.length c7 (Zh L) (by rfl) (by rw [Zt,Nat.mul_one]) (Byt.cells' hg7) ZdU hL0 (by unfold maxLen;omega) (by omega) (Ze hB1 hb5).size _ rfl ?_
              intro g3 cap3 w3 ho3 hgr3 hloc3 hlt3)
           | (refine YK (by rfl) ?ho cl1.out RetByt.ret ?_;(case ho=>go_simp);intro v7 w5 hp5;obtain ⟨v8,he5,ho5,hb5⟩:=hp5;injection he5 with he5;subst he5;obtain ⟨g7,c7,rfl,hg7⟩:=OwnByt.form' ho5 hL0))
          all_goals
           have hb35:=Ze hB1 hb5
           have hb3:Below w.heap.size w w3:=hb35.trans ((Below.refl w.heap.size w5).grown hgr3 hb35.size (fun q hq=>(ZM (Zo hO1.out hb5) hq.symm).1))
           have ho4:OwnByt w3 w.heap.size (.slice (some ⟨g3,0,none⟩) (acc.length+L.length) cap3) (acc++L):=by
            unfold OwnByt;rw [List.length_append,show Zh (acc++L)=Zh acc++Zh L by simp [Zh]];exact ho3
           replace ho4:=As.mk ho4
           replace hb3:=As.mk hb3
           clear ho3 hgr3 hloc3 hlt3 hb5 hb35 hg7 ho5
           go_wp2
           go_roundg gp
           case rel=>exact ⟨k+1,⟨by have:=hgk.out;omega⟩,by omega,(by first | rfl | go_num | (congr 1;omega)),⟨by rw [hsuc.out];exact ho4.out⟩,hb3⟩
           case measure=>omega
        · have hby:=As.mk (fun v (hv:Below w.heap.size w v)=>(Byt.piece2 (Row.below HX.out hv) sn (en - sn):Byt v (some (adx.add sn)) ((x.drop sn).take (en - sn))))
          have cl1:=As.mk (cl.out _ hB1 _ (c - sn) (hby.out _ hB1))
          have hO1:=As.mk ((hown.out.alloc (.cells #[.int .i64 (sn:Int),.int .i64 (en:Int)] 67)).drew)
          go_wp2_with fail
          go_region_law (first
           | (refine step_append_lies _ (by rfl) (.tmp 35) (.tmp 47) _ (by rfl) w.heap.size 5 i0 _ 1 1 Tryz.underlying22 hi hz0 hz1 hz2 rfl (by decide) _ acc.length (Zh acc) (by rfl) (Zo hO1.out hb5) ⟨g7,0,none⟩ L.length c7 (Zh L) (by rfl) (by rw [Zt,Nat.mul_one]) (Byt.cells' hg7) ZdU hL0 (by unfold maxLen;omega) (by omega) (Ze hB1 hb5).size _ rfl ?_
              intro g3 cap3 w3 ho3 hgr3 hloc3 hlt3)
           | (refine YK (by rfl) ?ho cl1.out RetByt.ret ?_;(case ho=>go_simp);intro v7 w5 hp5;obtain ⟨v8,he5,ho5,hb5⟩:=hp5;injection he5 with he5;subst he5;obtain ⟨g7,c7,rfl,hg7⟩:=OwnByt.form' ho5 hL0))
          all_goals
           have hb35:=Ze hB1 hb5
           have hb3:Below w.heap.size w w3:=hb35.trans ((Below.refl w.heap.size w5).grown hgr3 hb35.size (fun q hq=>(ZM (Zo hO1.out hb5) hq.symm).1))
           have ho4:OwnByt w3 w.heap.size (.slice (some ⟨g3,0,none⟩) (acc.length+L.length) cap3) (acc++L):=by
            unfold OwnByt;rw [List.length_append,show Zh (acc++L)=Zh acc++Zh L by simp [Zh]];exact ho3
           replace ho4:=As.mk ho4
           replace hb3:=As.mk hb3
           clear ho3 hgr3 hloc3 hlt3 hb5 hb35 hg7 ho5
           go_wp2
           go_roundg gp
           case rel=>exact ⟨k+1,⟨by have:=hgk.out;omega⟩,by omega,(by first | rfl | go_num | (congr 1;omega)),⟨by rw [hsuc.out];exact ho4.out⟩,hb3⟩
           case measure=>omega
    · have hsk:Yp off x b (s,e)=[]:=by unfold Yp;rw [hm.out,if_neg hok]
      rw [hsk,List.append_nil] at hsuc
      replace hsuc:=As.mk hsuc
      have h3:¬ 0≤s∨(0≤s∧¬ s≤e)∨(0≤s∧s≤e∧¬ e≤(m:Int)):=by
       rw [hop] at hok
       simp only [Bool.and_eq_true,decide_eq_true_eq] at hok
       omega
      clear hok hsk hop
      rcases h3 with hx1 | ⟨hx1,hx2⟩ | ⟨hx1,hx2,hx3⟩
      · have hd1:decide (0≤s)=false:=decide_eq_false hx1
        clear hx1
        go_wp2
        go_roundg gp
        case rel=>exact ⟨k+1,⟨by have:=hgk.out;omega⟩,by omega,(by first | rfl | go_num | (congr 1;omega)),⟨by rw [hsuc.out];exact Zo hown.out ((Below.refl _ _).alloc (Nat.le_refl _) _)⟩,⟨hbel.out.alloc hbel.out.size _⟩⟩
        case measure=>omega
      · have hd1:decide (s≤e)=false:=decide_eq_false hx2
        clear hx2
        go_wp2
        go_roundg gp
        case rel=>exact ⟨k+1,⟨by have:=hgk.out;omega⟩,by omega,(by first | rfl | go_num | (congr 1;omega)),⟨by rw [hsuc.out];exact Zo hown.out ((Below.refl _ _).alloc (Nat.le_refl _) _)⟩,⟨hbel.out.alloc hbel.out.size _⟩⟩
        case measure=>omega
      · have hd1:decide (e≤(m:Int))=false:=decide_eq_false hx3
        clear hx3
        go_wp2
        go_roundg gp
        case rel=>exact ⟨k+1,⟨by have:=hgk.out;omega⟩,by omega,(by first | rfl | go_num | (congr 1;omega)),⟨by rw [hsuc.out];exact Zo hown.out ((Below.refl _ _).alloc (Nat.le_refl _) _)⟩,⟨hbel.out.alloc hbel.out.size _⟩⟩
        case measure=>omega
  · obtain rfl:n=k:=by omega
    rw [← hn.out,List.take_length] at hown
    go_wp2
    go_ret
    exact ⟨_,rfl,hown.out,hbel.out⟩
end Go.Proofs.YtfdlaomnecjfeaaGreatDoor
end
section
namespace Seine.Pick
abbrev Pr:=Int × Int
/-- is p in the running, from a place on? -/
def live (from_:Int) (p:Pr):Bool:=decide (p.1<p.2) && decide (from_≤p.1)
/-- is q told ahead of p? -/
def beats (q p:Pr):Bool:=decide (q.1<p.1) || (decide (q.1=p.1) && decide (p.2<q.2))
def stepF (from_:Int) (b:Option Pr) (p:Pr):Option Pr :=
 if live from_ p then (match b with | none=>some p | some q=>if beats p q then some p else some q) else b
def first (l:List Pr) (from_:Int):Option Pr:=l.foldl (stepF from_) none
/-- what 'first' is -/
def IsFirst (l:List Pr) (from_:Int) (p:Pr):Prop:=p∈l∧p.1<p.2∧from_≤p.1∧∀ q∈l,q.1<q.2→from_≤q.1→¬ (q.1<p.1∨(q.1=p.1∧p.2<q.2))
theorem live_iff {f:Int} {p:Pr}:live f p=true↔p.1<p.2∧f≤p.1:=by simp [live]
theorem beats_iff {q p:Pr}:beats q p=true↔q.1<p.1∨(q.1=p.1∧p.2<q.2):=by simp [beats]
theorem first_snoc (l:List Pr) (f:Int) (p:Pr):first (l++[p]) f=stepF f (first l f) p:=by simp [first,List.foldl_append]
theorem X3 (f:Int) (l:List Pr):(∀ p,first l f=some p→IsFirst l f p)∧(first l f=none→∀ q∈l,¬ (q.1<q.2∧f≤q.1)):=by
 have H:∀ n (l:List Pr),l.length=n→(∀ p,first l f=some p→IsFirst l f p)∧(first l f=none→∀ q∈l,¬ (q.1<q.2∧f≤q.1)):=by
  intro n
  induction n with
  | zero=>intro l hl;have:l=[]:=List.eq_nil_of_length_eq_zero hl;subst this;simp [first]
  | succ n ih =>
    intro l hl
    have hne:l≠[]:=by intro h;simp [h] at hl
    obtain ⟨m,x,rfl⟩:∃ m x,l=m++[x]:=⟨l.dropLast,l.getLast hne,(List.dropLast_concat_getLast hne).symm⟩
    have hm:m.length=n:=by simp at hl;omega
    obtain ⟨h1,h2⟩:=ih m hm
    rw [first_snoc]
    unfold stepF
    by_cases hv:live f x=true
    · have hv':=live_iff.1 hv
      rw [if_pos hv]
      cases hb:first m f with
      | none =>
        refine ⟨fun p hp=>?_,fun h=>by simp at h⟩
        simp at hp;subst hp
        refine ⟨by simp,hv'.1,hv'.2,fun q hq h3 h4=>?_⟩
        simp at hq
        rcases hq with hq | rfl
        · exact absurd ⟨h3,h4⟩ (h2 hb q hq)
        · omega
      | some b =>
        obtain ⟨b1,b2,b3,b4⟩:=h1 b hb
        by_cases hbt:beats x b=true
        · have hbt':=beats_iff.1 hbt
          simp only [if_pos hbt]
          refine ⟨fun p hp=>?_,fun h=>by simp at h⟩
          simp at hp;subst hp
          refine ⟨by simp,hv'.1,hv'.2,fun q hq h3 h4=>?_⟩
          simp at hq
          rcases hq with hq | rfl
          · have:=b4 q hq h3 h4;omega
          · omega
        · have hbt':=fun h=>hbt (beats_iff.2 h)
          simp only [if_neg hbt]
          refine ⟨fun p hp=>?_,fun h=>by simp at h⟩
          simp at hp;subst hp
          refine ⟨by simp [b1],b2,b3,fun q hq h3 h4=>?_⟩
          simp at hq
          rcases hq with hq | rfl
          · exact b4 q hq h3 h4
          · exact hbt'
    · have hv':¬ (x.1<x.2∧f≤x.1):=fun h=>hv (live_iff.2 h)
      rw [if_neg hv]
      refine ⟨fun p hp=>?_,fun h q hq=>?_⟩
      · obtain ⟨b1,b2,b3,b4⟩:=h1 p hp
        refine ⟨by simp [b1],b2,b3,fun q hq h3 h4=>?_⟩
        simp at hq
        rcases hq with hq | rfl
        · exact b4 q hq h3 h4
        · exact absurd ⟨h3,h4⟩ hv'
      · simp at hq
        rcases hq with hq | rfl
        · exact h2 h q hq
        · exact hv'
 exact H _ l rfl
theorem IsFirst.uniq {l:List Pr} {f:Int} {p q:Pr} (h:IsFirst l f p) (k:IsFirst l f q):p=q:=by
 obtain ⟨h1,h2,h3,h4⟩:=h
 obtain ⟨k1,k2,k3,k4⟩:=k
 have a:=h4 q k1 k2 k3
 have b:=k4 p h1 h2 h3
 exact Prod.ext (by omega) (by omega)
theorem first_eq_some {l:List Pr} {f:Int} {p:Pr}:first l f=some p↔IsFirst l f p:=by
 constructor
 · exact (X3 f l).1 p
 · intro h
   cases hb:first l f with
   | none=>exact absurd ⟨h.2.1,h.2.2.1⟩ ((X3 f l).2 hb p h.1)
   | some q=>rw [((X3 f l).1 q hb).uniq h]
/-- how many are in the running -/
def left (l:List Pr) (f:Int):Nat:=(l.filter (live f)).length
theorem left_lt {l:List Pr} {f:Int} {p:Pr} (h:first l f=some p):left l p.2<left l f:=by
 obtain ⟨h1,h2,h3,h4⟩:=first_eq_some.1 h
 clear h h4
 unfold left
 induction l with
 | nil=>simp at h1
 | cons x l ih =>
   have hmono:∀ m:List Pr,(m.filter (live p.2)).length≤(m.filter (live f)).length:=by
    intro m
    induction m with
    | nil=>simp
    | cons y m ihm =>
      simp only [List.filter_cons]
      by_cases hy:live p.2 y=true
      · have hy':=live_iff.1 hy
        have:live f y=true:=live_iff.2 ⟨hy'.1,by omega⟩
        simp [hy,this];exact ihm
      · by_cases hy2:live f y=true
        · simp [hy,hy2];omega
        · simp [hy,hy2];exact ihm
   simp only [List.filter_cons]
   by_cases hx:p=x
   · subst hx
     have a:live f p=true:=live_iff.2 ⟨h2,h3⟩
     have b:¬ live p.2 p=true:=by rw [live_iff];omega
     simp [a,b]
     have:=hmono l
     omega
   · have hp:p∈l:=by simpa [hx] using h1
     have hih:=ih hp
     by_cases hy:live p.2 x=true
     · have hy':=live_iff.1 hy
       have:live f x=true:=live_iff.2 ⟨hy'.1,by omega⟩
       simp only [hy,this,if_true,List.length_cons];omega
     · by_cases hy2:live f x=true
       · simp only [hy,hy2,if_true,List.length_cons];simp;omega
       · simp only [hy,hy2];simpa using hih
/-- the pieces that are told alone, from a place on -/
def longest (l:List Pr) (f:Int):List Pr :=
 match h:first l f with
 | none=>[]
 | some p=>p::longest l p.2
termination_by left l f
decreasing_by exact left_lt h
theorem longest_none {l:List Pr} {f:Int} (h:first l f=none):longest l f=[]:=by
 rw [longest];split
 · rfl
 · rename_i hh;rw [h] at hh;cases hh
theorem longest_some {l:List Pr} {f:Int} {p:Pr} (h:first l f=some p):longest l f=p::longest l p.2:=by
 rw [longest];split
 · rename_i hh;rw [h] at hh;cases hh
 · rename_i hh;rw [h] at hh;cases hh;rfl
theorem left_le (l:List Pr) (f:Int):left l f≤l.length:=List.length_filter_le _ _
end Seine.Pick
end
