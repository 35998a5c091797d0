/- Joined texts: SortPure, EngPure, MeterTab, LinksPure, LinksOrder, LinksWalk, LinksWalk2. -/
import Derived.Test.YtfdlaomnecjfeaaGreatDoorM1
import Derived.Test.YtfdlaomnecjfeaaGreatDoorM2
import Derived.Laws.EntriesVeiled
set_option linter.unusedVariables false
set_option linter.unusedSimpArgs false
section
namespace Seine.Sort
open Seine.Trie
abbrev Pr:=Int × Int
def lt (a b:Pr):Prop:=a.1<b.1∨(a.1=b.1∧a.2<b.2)
instance:DecidableRel lt:=fun a b=>inferInstanceAs (Decidable (_∨_))
theorem ZaM {a b c:Pr} (h:lt a b) (k:lt b c):lt a c:=by unfold lt at *;omega
theorem Zdh (a:Pr):¬ lt a a:=by unfold lt;omega
theorem lt_tri (a b:Pr):lt a b∨a=b∨lt b a:=by
 obtain ⟨x,y⟩:=a
 obtain ⟨u,v⟩:=b
 simp only [lt,Prod.mk.injEq]
 omega
def Rise (l:List Pr):Prop:=l.Pairwise lt
theorem Rise.nil:Rise []:=List.Pairwise.nil
theorem rise_cons {x:Pr} {l:List Pr}:Rise (x::l)↔(∀ y∈l,lt x y)∧Rise l:=List.pairwise_cons
theorem rise_app {a b:List Pr}:Rise (a++b)↔Rise a∧Rise b∧∀ x∈a,∀ y∈b,lt x y:=List.pairwise_append
/-- Two lists in order of the same things are one. -/
theorem rise_ext:∀ {a b:List Pr},Rise a→Rise b→(∀ x,x∈a↔x∈b)→a=b
 | [],[],_,_,_=>rfl
 | [],y::b,_,_,h=>by have:=(h y).2 (by simp);simp at this
 | x::a,[],_,_,h=>by have:=(h x).1 (by simp);simp at this
 | x::a,y::b,ha,hb,h=>by
   obtain ⟨h1,ka⟩:=rise_cons.1 ha
   obtain ⟨h2,kb⟩:=rise_cons.1 hb
   have hxy:x=y:=by
    have hx:=(h x).1 (by simp)
    have hy:=(h y).2 (by simp)
    rcases List.mem_cons.1 hx with e | e
    · exact e
    · rcases List.mem_cons.1 hy with f | f
      · exact f.symm
      · exact absurd (ZaM (h1 y f) (h2 x e)) (Zdh x)
   subst hxy
   have hz:∀ z,z∈a↔z∈b:=by
    intro z
    constructor
    · intro hz
      rcases List.mem_cons.1 ((h z).1 (List.mem_cons_of_mem _ hz)) with e | e
      · subst e;exact absurd (h1 _ hz) (Zdh _)
      · exact e
    · intro hz
      rcases List.mem_cons.1 ((h z).2 (List.mem_cons_of_mem _ hz)) with e | e
      · subst e;exact absurd (h2 _ hz) (Zdh _)
      · exact e
   rw [rise_ext ka kb hz]
/-- One thing more, in order, once. -/
def put:List Pr→Pr→List Pr
 | [],p=>[p]
 | x::l,p=>if lt x p then x::put l p else if x=p then x::l else p::x::l
theorem mem_put {l:List Pr} {p x:Pr}:x∈put l p↔x∈l∨x=p:=by
 induction l with
 | nil=>simp [put]
 | cons y l ih =>
   unfold put
   by_cases h1:lt y p
   · rw [if_pos h1];simp only [List.mem_cons,ih];exact or_assoc.symm
   · rw [if_neg h1]
     by_cases h2:y=p
     · rw [if_pos h2];subst h2
       constructor
       · exact .inl
       · rintro (h | rfl)
         · exact h
         · simp
     · rw [if_neg h2];simp only [List.mem_cons]
       constructor
       · rintro (h | h | h)
         · exact .inr h
         · exact .inl (.inl h)
         · exact .inl (.inr h)
       · rintro ((h | h) | h)
         · exact .inr (.inl h)
         · exact .inr (.inr h)
         · exact .inl h
theorem rise_put {l:List Pr} {p:Pr} (h:Rise l):Rise (put l p):=by
 induction l with
 | nil=>simp [put,Rise]
 | cons y l ih =>
   obtain ⟨h1,h2⟩:=rise_cons.1 h
   unfold put
   by_cases k1:lt y p
   · rw [if_pos k1]
     refine rise_cons.2 ⟨fun z hz=>?_,ih h2⟩
     rcases mem_put.1 hz with hz | rfl
     · exact h1 z hz
     · exact k1
   · rw [if_neg k1]
     by_cases k2:y=p
     · rw [if_pos k2];exact h
     · rw [if_neg k2]
       have hp:lt p y:=by
        rcases lt_tri y p with e | e | e
        · exact absurd e k1
        · exact absurd e k2
        · exact e
       refine rise_cons.2 ⟨fun z hz=>?_,h⟩
       rcases List.mem_cons.1 hz with rfl | hz
       · exact hp
       · exact ZaM hp (h1 z hz)
/-- In order, each once. -/
def sortP (l:List Pr):List Pr:=l.foldl put []
theorem Zed (l:List Pr):∀ (a:List Pr),Rise a→Rise (l.foldl put a)∧∀ x,x∈l.foldl put a↔x∈a∨x∈l:=by
 induction l with
 | nil=>intro a h;exact ⟨h,fun x=>by simp⟩
 | cons y l ih =>
   intro a h
   obtain ⟨h1,h2⟩:=ih (put a y) (rise_put h)
   refine ⟨h1,fun x=>?_⟩
   rw [List.foldl_cons,h2,mem_put,List.mem_cons,or_assoc]
theorem rise_sortP (l:List Pr):Rise (sortP l):=(Zed l [] Rise.nil).1
theorem mem_sortP {l:List Pr} {x:Pr}:x∈sortP l↔x∈l:=by rw [sortP,(Zed l [] Rise.nil).2];simp
theorem sortP_ext {a b:List Pr} (h:∀ x,x∈a↔x∈b):sortP a=sortP b:=rise_ext (rise_sortP a) (rise_sortP b) fun x=>by rw [mem_sortP,mem_sortP,h]
theorem sortP_rise {a:List Pr} (h:Rise a):sortP a=a:=rise_ext (rise_sortP a) h fun x=>mem_sortP
theorem ZcT {a b:List Pr} (hb:Rise b) (h:∀ x,x∈a↔x∈b):sortP a=b:=(sortP_ext h).trans (sortP_rise hb)
theorem put_len (l:List Pr) (p:Pr):(put l p).length≤l.length+1:=by
 induction l with
 | nil=>simp [put]
 | cons y l ih=>unfold put;split <;> (try split) <;> simp <;> omega
theorem sortP_len (l:List Pr):(sortP l).length≤l.length:=by
 have:∀ (l a:List Pr),(l.foldl put a).length≤a.length+l.length:=by
  intro l
  induction l with
  | nil=>intro a;simp
  | cons y l ih=>intro a;rw [List.foldl_cons];have:=ih (put a y);have:=put_len a y;simp;omega
 have:=this l []
 simpa [sortP] using this
theorem sortP_short {l:List Pr} (h:l.length<2):sortP l=l:=by
 match l,h with
 | [],_=>rfl
 | [x],_=>rfl
theorem sortP_split (l:List Pr) (m:Nat):sortP (sortP (l.take m)++sortP (l.drop m))=sortP l:=by
 refine sortP_ext fun x=>?_
 rw [List.mem_append,mem_sortP,mem_sortP,← List.mem_append,List.take_append_drop]
def Yl (out:List Pr) (x:Pr):List Pr:=if out.getLast? = some x then out else out++[x]
theorem Ze1 (out:List Pr) (x:Pr):(Yl out x).length≤out.length+1:=by unfold Yl;split <;> simp
structure Join (A B a b out:List Pr):Prop where
 ra:Rise a
 rb:Rise b
 ro:Rise out
 mem:∀ z,(z∈out∨z∈a∨z∈b)↔(z∈A∨z∈B)
 le:∀ x∈out,∀ y,y∈a∨y∈b→lt x y∨x=y
theorem Join.start {A B:List Pr} (ha:Rise A) (hb:Rise B):Join A B A B []:=⟨ha,hb,Rise.nil,by simp,by simp⟩
theorem mem_push {out:List Pr} {x z:Pr}:z∈Yl out x↔z∈out∨z=x:=by
 unfold Yl
 split
 · rename_i h
   have:=List.mem_of_getLast? h
   constructor
   · exact .inl
   · rintro (h | rfl)
     · exact h
     · exact this
 · simp
theorem rise_push {out:List Pr} {x:Pr} (h:Rise out) (hx:∀ o∈out,lt o x∨o=x):Rise (Yl out x):=by
 unfold Yl
 split
 · exact h
 · rename_i hl
   refine rise_app.2 ⟨h,by simp [Rise],fun o ho y hy=>?_⟩
   rw [List.mem_singleton] at hy
   subst hy
   rcases hx o ho with e | e
   · exact e
   · subst e
     exfalso
     obtain ⟨pre,z,rfl⟩:∃ pre z,out=pre++[z]:=⟨out.dropLast,out.getLast (by intro e;rw [e] at ho;simp at ho),(List.dropLast_concat_getLast _).symm⟩
     rw [List.getLast?_concat] at hl
     have hz:z≠o:=fun e=>hl (by rw [e])
     obtain ⟨_,_,h3⟩:=rise_app.1 h
     have ho2:o∈pre:=by
      rcases List.mem_append.1 ho with e | e
      · exact e
      · rw [List.mem_singleton] at e;exact absurd e.symm hz
     have h4:=h3 o ho2 z (by simp)
     rcases hx z (by simp) with e | e
     · exact Zdh _ (ZaM h4 e)
     · exact hz e
theorem Join.takeA {A B a b out:List Pr} {x:Pr} (h:Join A B (x::a) b out) (hb:∀ y∈b,lt x y∨x=y):Join A B a b (Yl out x):=by
 obtain ⟨h1,h2⟩:=rise_cons.1 h.ra
 refine ⟨h2,h.rb,rise_push h.ro fun o ho=>h.le o ho x (.inl (by simp)),fun z=>?_,fun o ho y hy=>?_⟩
 · rw [← h.mem z,mem_push,List.mem_cons]
   constructor
   · rintro ((h | h) | h | h)
     · exact .inl h
     · exact .inr (.inl (.inl h))
     · exact .inr (.inl (.inr h))
     · exact .inr (.inr h)
   · rintro (h | (h | h) | h)
     · exact .inl (.inl h)
     · exact .inl (.inr h)
     · exact .inr (.inl h)
     · exact .inr (.inr h)
 · rcases mem_push.1 ho with ho | rfl
   · exact h.le o ho y (hy.imp (List.mem_cons_of_mem _) id)
   · rcases hy with hy | hy
     · exact .inl (h1 y hy)
     · exact hb y hy
theorem Join.swap {A B a b out:List Pr} (h:Join A B a b out):Join B A b a out:=by
 refine ⟨h.rb,h.ra,h.ro,fun z=>?_,fun x hx z hz=>h.le x hx z hz.symm⟩
 have:=h.mem z
 constructor
 · rintro (q | q | q)
   · exact (this.1 (.inl q)).symm
   · exact (this.1 (.inr (.inr q))).symm
   · exact (this.1 (.inr (.inl q))).symm
 · intro q
   rcases this.2 q.symm with q | q | q
   · exact .inl q
   · exact .inr (.inr q)
   · exact .inr (.inl q)
theorem Join.takeB {A B a b out:List Pr} {y:Pr} (h:Join A B a (y::b) out) (ha:∀ x∈a,lt y x∨y=x):Join A B a b (Yl out y):=(h.swap.takeA ha).swap
theorem Join.done {A B out:List Pr} (h:Join A B [] [] out):out=sortP (A++B):=by
 refine (ZcT h.ro fun x=>?_).symm
 rw [List.mem_append,← h.mem x];simp
/-- What stands ahead in a row in order. -/
theorem Zee {x y:Pr} {l:List Pr} (h:Rise (x::l)) (hy:lt y x∨y=x):∀ z∈x::l,lt y z∨y=z:=by
 obtain ⟨h1,_⟩:=rise_cons.1 h
 intro z hz
 rcases List.mem_cons.1 hz with e | hz
 · rw [e];exact hy
 · rcases hy with hy | hy
   · exact .inl (ZaM hy (h1 z hz))
   · rw [hy];exact .inl (h1 z hz)
/-- A pair that is a piece of a line, not empty, which is one of some texts. -/
def Occ (T:List Txt) (L:Txt) (p:Pr):Prop:=∃ i j:Nat,p=((i:Int),(j:Int))∧i<j∧j≤L.length∧(L.drop i).take (j - i)∈T
def Y2 (T:List Txt) (L:Txt) (i k:Nat):List Pr:=((List.range' (i+1) k).filter fun j=>decide ((L.drop i).take (j - i)∈T)).map fun (j:Nat)=>((i:Int),(j:Int))
def Jn (T:List Txt) (L:Txt) (n:Nat):List Pr:=(List.range n).flatMap fun i=>Y2 T L i (L.length - i)
def occ (T:List Txt) (L:Txt):List Pr:=Jn T L L.length
theorem mem_occRow {T:List Txt} {L:Txt} {i k:Nat} {p:Pr}:p∈Y2 T L i k↔∃ j:Nat,p=((i:Int),(j:Int))∧i<j∧j≤i+k∧(L.drop i).take (j - i)∈T:=by
 unfold Y2
 simp only [List.mem_map,List.mem_filter,List.mem_range'_1,decide_eq_true_eq]
 constructor
 · rintro ⟨j,⟨⟨h1,h2⟩,h3⟩,rfl⟩
   exact ⟨j,rfl,by omega,by omega,h3⟩
 · rintro ⟨j,rfl,h1,h2,h3⟩
   exact ⟨j,⟨⟨by omega,by omega⟩,h3⟩,rfl⟩
theorem mem_occTo {T:List Txt} {L:Txt} {n:Nat} (hn:n≤L.length) {p:Pr}:p∈Jn T L n↔∃ i j:Nat,p=((i:Int),(j:Int))∧i<n∧i<j∧j≤L.length∧(L.drop i).take (j - i)∈T:=by
 unfold Jn
 simp only [List.mem_flatMap,List.mem_range,mem_occRow]
 constructor
 · rintro ⟨i,hi,j,rfl,h1,h2,h3⟩
   exact ⟨i,j,rfl,hi,h1,by omega,h3⟩
 · rintro ⟨i,j,rfl,hi,h1,h2,h3⟩
   exact ⟨i,hi,j,rfl,h1,by omega,h3⟩
theorem mem_occ {T:List Txt} {L:Txt} {p:Pr}:p∈occ T L↔Occ T L p:=by
 rw [occ,mem_occTo (Nat.le_refl _)]
 constructor
 · rintro ⟨i,j,h1,_,h2,h3,h4⟩;exact ⟨i,j,h1,h2,h3,h4⟩
 · rintro ⟨i,j,h1,h2,h3,h4⟩;exact ⟨i,j,h1,by omega,h2,h3,h4⟩
theorem rise_occRow (T:List Txt) (L:Txt) (i k:Nat):Rise (Y2 T L i k):=by
 unfold Y2 Rise
 rw [List.pairwise_map]
 refine List.Pairwise.filter _ ?_
 have:(List.range' (i+1) k).Pairwise (·<·):=List.pairwise_lt_range'
 exact this.imp fun h=>.inr ⟨rfl,by simpa using h⟩
theorem Zdi (T:List Txt) (L:Txt) (n:Nat):Jn T L (n+1)=Jn T L n++Y2 T L n (L.length - n):=by
 unfold Jn
 rw [List.range_succ,List.flatMap_append];simp
theorem Zdj (T:List Txt) (L:Txt):∀ n,Rise (Jn T L n)
 | 0=>Rise.nil
 | n+1=>by
   rw [Zdi]
   refine rise_app.2 ⟨Zdj T L n,rise_occRow T L n _,fun x hx y hy=>?_⟩
   obtain ⟨i,hi,h2⟩:=List.mem_flatMap.1 hx
   obtain ⟨j,rfl,_⟩:=mem_occRow.1 h2
   obtain ⟨k,rfl,_⟩:=mem_occRow.1 hy
   have:=List.mem_range.1 hi
   exact .inl (by simp;omega)
theorem rise_occ (T:List Txt) (L:Txt):Rise (occ T L):=Zdj T L _
theorem occ_ext {T T':List Txt} {L:Txt} (h:∀ x,x≠[]→(x∈T↔x∈T')):occ T L=occ T' L :=
 rise_ext (rise_occ T L) (rise_occ T' L) fun p=>by
  rw [mem_occ,mem_occ]
  constructor
  · rintro ⟨i,j,e,h1,h2,h3⟩
    refine ⟨i,j,e,h1,h2,(h _ fun e=>?_).1 h3⟩
    have:=congrArg List.length e;rw [List.length_take,List.length_drop] at this;simp at this;omega
  · rintro ⟨i,j,e,h1,h2,h3⟩
    refine ⟨i,j,e,h1,h2,(h _ fun e=>?_).2 h3⟩
    have:=congrArg List.length e;rw [List.length_take,List.length_drop] at this;simp at this;omega
theorem occRow_len (T:List Txt) (L:Txt) (i k:Nat):(Y2 T L i k).length≤k:=by
 unfold Y2
 rw [List.length_map]
 exact Nat.le_trans (List.length_filter_le _ _) (by simp)
theorem occTo_len (T:List Txt) (L:Txt):∀ n,(Jn T L n).length≤n * L.length
 | 0=>by simp [Jn]
 | n+1=>by
   rw [Zdi,List.length_append]
   have h1:=occTo_len T L n
   have h2:=occRow_len T L n (L.length - n)
   rw [Nat.succ_mul];omega
end Seine.Sort
end
section
namespace Seine.Eng
open Seine.Trie Seine.Sort
/-- One text more. -/
def XV (acc:List Txt) (t:Txt):List Txt:=if t=[]∨t∈acc then acc else acc++[t]
/-- Patterns that aren't empty, each once, in the order in which they come. -/
def ZH (l:List Txt):List Txt:=l.foldl XV []
theorem Ze2:ZH []=[]:=rfl
theorem pset_snoc (l:List Txt) (t:Txt):ZH (l++[t])=XV (ZH l) t:=by unfold ZH;rw [List.foldl_append];rfl
theorem pset_take {l:List Txt} {k:Nat} (h:k<l.length):ZH (l.take (k+1))=XV (ZH (l.take k)) (l.getD k []):=by
 rw [List.take_succ_eq_append_getElem h,pset_snoc]
 congr 1
 simp [h]
theorem mem_addP {acc:List Txt} {t x:Txt}:x∈XV acc t↔x∈acc∨(x=t∧t≠[]):=by
 unfold XV
 split
 · rename_i h
   constructor
   · exact .inl
   · rintro (h' | ⟨rfl,h'⟩)
     · exact h'
     · exact h.elim (fun e=>absurd e h') id
 · rename_i h
   rw [List.mem_append,List.mem_singleton]
   constructor
   · rintro (h' | rfl)
     · exact .inl h'
     · exact .inr ⟨rfl,fun e=>h (.inl e)⟩
   · rintro (h' | ⟨rfl,_⟩)
     · exact .inl h'
     · exact .inr rfl
theorem Zef:∀ (l acc:List Txt) (x:Txt),x∈l.foldl XV acc↔x∈acc∨(x∈l∧x≠[])
 | [],acc,x=>by simp
 | t::l,acc,x=>by
   rw [List.foldl_cons,Zef l,mem_addP]
   constructor
   · rintro ((h | ⟨rfl,h⟩) | ⟨h,h'⟩)
     · exact .inl h
     · exact .inr ⟨by simp,h⟩
     · exact .inr ⟨by simp [h],h'⟩
   · rintro (h | ⟨h,h'⟩)
     · exact .inl (.inl h)
     · rcases List.mem_cons.1 h with rfl | h
       · exact .inl (.inr ⟨rfl,h'⟩)
       · exact .inr ⟨h,h'⟩
theorem mem_pset {l:List Txt} {x:Txt}:x∈ZH l↔x∈l∧x≠[]:=by unfold ZH;rw [Zef];simp
theorem addP_len (acc:List Txt) (t:Txt):(XV acc t).length≤acc.length+1:=by unfold XV;split <;> simp
theorem Zeg:∀ (l acc:List Txt),(l.foldl XV acc).length≤acc.length+l.length
 | [],acc=>by simp
 | t::l,acc=>by
   rw [List.foldl_cons]
   have:=Zeg l (XV acc t)
   have h2:=addP_len acc t
   simp only [List.length_cons];omega
theorem JB (l:List Txt):(ZH l).length≤l.length:=by have:=Zeg l [];simpa [ZH] using this
theorem Zeh:∀ (l acc:List Txt),((l.foldl XV acc).map List.length).sum≤(acc.map List.length).sum+(l.map List.length).sum
 | [],acc=>by simp
 | t::l,acc=>by
   rw [List.foldl_cons]
   have:=Zeh l (XV acc t)
   have h2:((XV acc t).map List.length).sum≤(acc.map List.length).sum+t.length:=by
    unfold XV;split
    · omega
    · simp
   simp only [List.map_cons,List.sum_cons];omega
theorem occ_pset (l:List Txt) (L:Txt):occ (ZH l) L=occ l L:=occ_ext fun x hx=>by rw [mem_pset];simp [hx]
theorem Zfv {l:List Txt} {x:Txt} (h:x∈ZH l):x≠[]:=(mem_pset.1 h).2
/-- How many bytes the shortest one has; 0: there is none. -/
def Yr (acc:Nat) (t:Txt):Nat:=if acc=0∨t.length<acc then t.length else acc
def Xb (l:List Txt):Nat:=l.foldl Yr 0
theorem leastP_snoc (l:List Txt) (t:Txt):Xb (l++[t])=Yr (Xb l) t:=by unfold Xb;rw [List.foldl_append];rfl
theorem leastP_take {l:List Txt} {k:Nat} (h:k<l.length):Xb (l.take (k+1))=Yr (Xb (l.take k)) (l.getD k []):=by
 rw [List.take_succ_eq_append_getElem h,leastP_snoc]
 congr 1
 simp [h]
theorem Zcd {acc:Nat} {t:Txt} (h:t≠[]):0<Yr acc t:=by
 have:=List.length_pos_iff.2 h
 unfold Yr
 split <;> omega
theorem Zce:∀ (l:List Txt) (acc:Nat),0<acc→(∀ x∈l,x≠[])→0<l.foldl Yr acc
 | [],acc,h,_=>h
 | t::l,acc,_,hl=>by
   rw [List.foldl_cons]
   exact Zce l _ (Zcd (hl t (by simp))) fun x hx=>hl x (by simp [hx])
theorem leastP_pos {l:List Txt} (h:l≠[]) (hl:∀ x∈l,x≠[]):0<Xb l:=by
 cases l with
 | nil=>exact absurd rfl h
 | cons t l =>
   unfold Xb
   rw [List.foldl_cons]
   exact Zce l _ (Zcd (hl t (by simp))) fun x hx=>hl x (by simp [hx])
theorem Zav:∀ (l:List Txt) (acc m:Nat),acc≤m→(∀ x∈l,x.length≤m)→l.foldl Yr acc≤m
 | [],acc,m,h,_=>h
 | t::l,acc,m,h,hl=>by
   rw [List.foldl_cons]
   refine Zav l _ m ?_ fun x hx=>hl x (by simp [hx])
   have:=hl t (by simp)
   unfold Yr;split <;> omega
theorem leastP_le {l:List Txt} {m:Nat} (hl:∀ x∈l,x.length≤m):Xb l≤m:=Zav l 0 m (Nat.zero_le _) hl
/-- All empty pieces of a line. -/
def Z3 (n:Nat):List Pr:=(List.range n).map fun (i:Nat)=>((i:Int),(i:Int))
theorem empties_succ (n:Nat):Z3 (n+1)=Z3 n++[((n:Int),(n:Int))]:=by unfold Z3;rw [List.range_succ,List.map_append];rfl
theorem Z7 (n:Nat):(Z3 n).length=n:=by simp [Z3]
theorem mem_empties {n:Nat} {p:Pr}:p∈Z3 n↔∃ i:Nat,i<n∧p=((i:Int),(i:Int)):=by
 unfold Z3
 rw [List.mem_map]
 constructor
 · rintro ⟨i,hi,rfl⟩;exact ⟨i,List.mem_range.1 hi,rfl⟩
 · rintro ⟨i,hi,rfl⟩;exact ⟨i,List.mem_range.2 hi,rfl⟩
/-- What is found. -/
def findF (l:List Txt) (L:Txt):List Pr:=if []∈l then sortP (occ l L++Z3 (L.length+1)) else occ l L
end Seine.Eng
end
section
namespace Go.Proofs.YtfdlaomnecjfeaaGreatDoor
open Go.RowKit Go.Maps Seine.Trie
theorem Zei:Keyed Tryz.prog 372:=Keyed.of_law (deep_law_laid ZeW (m:=3) (by omega) (of_decide_eq_true (by kernel_rfl)) (by kernel_rfl) (by kernel_rfl))
theorem Zej (a:Int) (c:UInt8) (h0:-1000000000≤a) (h1:a≤1000000000):∃ kl,keyOf Tryz.prog 372 (.agg #[.int .i64 a,.int .u8 (c.toNat:Int)])=some kl:=by
 have hc:=c.toNat_lt
 have hs:Tryz.prog.types.size=(Tryz.prog.types.size - 1)+1:=by decide +kernel
 have w1:(Lit.int .i64 a).wf=true:=by simp [Lit.wf,IntKind.min,IntKind.max,IntKind.signed,IntKind.bits];omega
 have w2:(Lit.int .u8 (c.toNat:Int)).wf=true:=by simp [Lit.wf,IntKind.min,IntKind.max,IntKind.signed,IntKind.bits];omega
 have hk:Tryz.prog.keyType 372=true:=by kernel_rfl
 have hf:(Value.agg #[.int .i64 a,.int .u8 (c.toNat:Int)]).formed Tryz.prog 372=true:=by
  simp only [Value.formed,Tryz.underlying372];kernel_rfl
 unfold keyOf
 simp only [Tryz.underlying372,hk,hf,Bool.and_self,if_true]
 have h2:Tryz.prog.keyLits (Tryz.prog.types.size+1) 372 [.int .i64 a,.int .u8 (c.toNat:Int)]=some [.int .i64 a,.int .u8 (c.toNat:Int)]:=by
  rw [hs]
  generalize Tryz.prog.types.size - 1=n
  have c3:Tryz.prog.cellsOf 3=1:=by kernel_rfl
  have c5:Tryz.prog.cellsOf 5=1:=by kernel_rfl
  have c67:Tryz.prog.cellsOf 372=2:=by kernel_rfl
  have k1:Tryz.prog.keyLits (n+1) 3 [.int .i64 a]=some [.int .i64 a]:=by simp only [Program.keyLits,Tryz.underlying3,w1,and_self,if_true]
  have k2:Tryz.prog.keyLits (n+1) 5 [.int .u8 (c.toNat:Int)]=some [.int .u8 (c.toNat:Int)]:=by simp only [Program.keyLits,Tryz.underlying5,w2,and_self,if_true]
  unfold Program.keyLits
  rw [Tryz.underlying372]
  simp [c67,c3,c5,k1,k2]
 simp only [Value.cells]
 show ∃ kl,Option.map _ (Tryz.prog.keyLits (Tryz.prog.types.size+1) 372 [.int .i64 a,.int .u8 (c.toNat:Int)])=some kl
 rw [h2]
 exact ⟨_,rfl⟩
theorem QR {P:List Txt} {s:Txt} (h:s∈P):∃ a:Nat,place P s=(a:Int)∧P[a]? = some s:=by
 have:=place_mem.2 h
 exact ⟨(place P s).toNat,by omega,Y1 h⟩
theorem last_split' {q:Txt} (h:q≠[]):q.dropLast++[lastB q]=q:=by
 obtain ⟨m,x,rfl⟩:∃ m x,q=m++[x]:=⟨q.dropLast,q.getLast h,(List.dropLast_concat_getLast h).symm⟩
 simp [lastB]
/-- The edge by which a node is come to. -/
def XW (P:List Txt) (n:Nat):Value:=.agg #[.int .i64 (parent P (P.getD n [])),.int .u8 ((lastB (P.getD n [])).toNat:Int)]
def ZbU (P:List Txt) (n:Nat):List Value:=[.int .i64 (parent P (P.getD n [])),.int .u8 ((lastB (P.getD n [])).toNat:Int),.int .i64 (n:Int)]
def XD (P:List Txt) (k:Nat):List Value:=(List.range k).flatMap fun i=>ZbU P (i+1)
theorem Ja (P:List Txt) (k:Nat):XD P (k+1)=XD P k++ZbU P (k+1):=by unfold XD;rw [List.range_succ,List.flatMap_append];simp
theorem Xp (P:List Txt):∀ k,(XD P k).length=k * 3
 | 0=>rfl
 | k+1=>by rw [Ja,List.length_append,Xp P k];simp [ZbU];omega
theorem YX (P:List Txt):∀ {k i:Nat},i<k→∀ j,j<3→(XD P k)[i * 3+j]? = (ZbU P (i+1))[j]?
 | 0,i,h,_,_=>by omega
 | k+1,i,h,j,hj=>by
   rw [Ja]
   rcases Nat.lt_or_ge i k with e | e
   · rw [List.getElem?_append_left (by rw [Xp];omega),YX P e j hj]
   · obtain rfl:i=k:=by omega
     rw [List.getElem?_append_right (by rw [Xp];omega),Xp,Nat.add_sub_cancel_left]
/-- What a map of the first k edges holds. -/
def EdgesTo (P:List Txt) (k:Nat) (f:Value→Option Int):Prop:=∀ x v,f x=some v↔∃ n,1≤n∧n≤k∧x=XW P n∧v=(n:Int)
theorem ZdW {P:List Txt} (hT:Tree P) {n:Nat} (h1:1≤n) (h2:n<P.length):P.getD n []≠[]:=fun e=>by
 have h3:=Xo h2
 rw [e] at h3
 have h4:=ZO hT.nodup h3
 rw [ZO hT.nodup hT.root] at h4
 omega
theorem Yx {P:List Txt} (hT:Tree P) {n:Nat} (h1:1≤n) (h2:n<P.length):∃ a:Nat,parent P (P.getD n [])=(a:Int)∧a<P.length∧P.getD a []++[lastB (P.getD n [])]=P.getD n []:=by
 have hne:=ZdW hT h1 h2
 have hm:=hT.up _ (List.mem_of_getElem? (Xo h2)) hne
 obtain ⟨a,e,ha⟩:=QR hm
 refine ⟨a,by unfold parent;rw [if_neg hne];exact e,(List.getElem?_eq_some_iff.1 ha).1,?_⟩
 have:P.getD a []=(P.getD n []).dropLast:=by rw [List.getD_eq_getElem?_getD,ha];rfl
 rw [this,last_split' hne]
theorem edges_all {P:List Txt} (hT:Tree P) {f:Value→Option Int} (h:EdgesTo P (P.length - 1) f):f=QW P:=by
 funext x
 have key:∀ v,f x=some v↔QW P x=some v:=by
  intro v
  rw [h x v]
  constructor
  · rintro ⟨n,h1,h2,rfl,rfl⟩
    obtain ⟨a,e,ha,hq⟩:=Yx hT h1 (by omega)
    unfold XW
    rw [e,Jy P a _ ha,hq,if_pos (List.mem_of_getElem? (Xo (by omega))),ZO hT.nodup (Xo (by omega))]
  · intro he
    unfold QW at he
    split at he
    · rename_i a c
      split at he
      · rename_i hc
        obtain ⟨h1,h2,h3,h4,h5⟩:=hc
        injection he with he
        obtain ⟨a,rfl⟩:=Int.eq_ofNat_of_zero_le h1
        obtain ⟨c,rfl⟩:=Int.eq_ofNat_of_zero_le h3
        simp only [Int.toNat_natCast] at he h5
        have hm:=place_mem.1 h5
        obtain ⟨n,e1,e2⟩:=QR hm
        have hg:P.getD n []=P.getD a []++[UInt8.ofNat c]:=by rw [List.getD_eq_getElem?_getD,e2];rfl
        have hn:=(List.getElem?_eq_some_iff.1 e2).1
        refine ⟨n,?_,by omega,?_,by rw [← he,e1]⟩
        · rcases Nat.eq_zero_or_pos n with z | z
          · subst z
            rw [hT.root] at e2
            injection e2 with e2
            have:=congrArg List.length e2
            simp at this
          · exact z
        · unfold XW parent lastB
          rw [hg,if_neg (by simp),List.dropLast_concat,List.getLast?_concat,ZO hT.nodup (Xo (by omega))]
          have:(UInt8.ofNat c).toNat=c:=by simp;omega
          simp only [Option.getD_some,this]
      · cases he
    · cases he
 cases hf:f x with
 | none =>
   cases hg:QW P x with
   | none=>rfl
   | some v=>rw [(key v).2 hg] at hf;cases hf
 | some v=>exact ((key v).1 hf).symm
theorem rowKey_inj {P:List Txt} (hT:Tree P) {n m:Nat} (h1:1≤n) (h2:n<P.length) (h3:1≤m) (h4:m<P.length) (h:XW P n=XW P m):n=m:=by
 unfold XW at h
 obtain ⟨a,ea,ha,hqa⟩:=Yx hT h1 h2
 obtain ⟨b,eb,hb,hqb⟩:=Yx hT h3 h4
 rw [ea,eb] at h
 simp only [Value.agg.injEq,Array.mk.injEq,List.cons.injEq,Value.int.injEq,and_true,true_and] at h
 obtain ⟨e1,e2⟩:=h
 have e1:a=b:=by omega
 have e2:lastB (P.getD n [])=lastB (P.getD m []):=UInt8.toNat_inj.1 (by omega)
 subst e1
 have hnm:P.getD n []=P.getD m []:=hqa.symm.trans (by rw [e2];exact hqb)
 have p1:=ZO hT.nodup (Xo h2)
 have p2:=ZO hT.nodup (Xo h4)
 rw [hnm,p2] at p1
 omega
theorem EdgesTo.next {P:List Txt} (hT:Tree P) {k:Nat} (hk:k+1<P.length) {f f':Value→Option Int} (h:EdgesTo P k f) (h1:f' (XW P (k+1))=some ((k+1:Nat):Int)) (h2:∀ x,x≠XW P (k+1)→f' x=f x):EdgesTo P (k+1) f':=fun x v=>by
 by_cases hx:x=XW P (k+1)
 · subst hx
   rw [h1]
   constructor
   · intro e;injection e with e;exact ⟨k+1,by omega,Nat.le_refl _,rfl,e.symm⟩
   · rintro ⟨n,a,b,e,rfl⟩
     rw [rowKey_inj hT (by omega) hk a (by omega) e]
 · rw [h2 x hx,h x v]
   constructor
   · rintro ⟨n,a,b,e,e'⟩;exact ⟨n,a,by omega,e,e'⟩
   · rintro ⟨n,a,b,e,e'⟩
     refine ⟨n,a,?_,e,e'⟩
     rcases Nat.lt_or_ge k n with c | c
     · obtain rfl:n=k+1:=by omega
       exact absurd e hx
     · exact c
/-- A table of a tree's edges. -/
def TabS (w:World) (eb:Nat) (mo:Option Nat) (P:List Txt):Prop :=
 ∃ cb mb n,w.heap[eb]? = some (.cells #[.pointer (Xk mo),.func (.func 272) #[] #[.pointer (some ⟨cb,0,none⟩)]] 375 (0,0))∧w.heap[cb]? = some (.cells #[.map (some mb)] 370 (0,0))∧MapIs Tryz.prog 372 3 w mb n (QW P)
theorem TabS.below {w w':World} {eb:Nat} {mo:Option Nat} {P:List Txt} (h:TabS w eb mo P) (hb:Below w.heap.size w w'):TabS w' eb mo P:=by
 obtain ⟨cb,mb,n,h1,h2,h3⟩:=h
 exact ⟨cb,mb,n,Zc hb h1,Zc hb h2,h3.below hb⟩
theorem TabS.keep {w w':World} {eb:Nat} {mo:Option Nat} {P:List Txt} {c:Cn} (h:TabS w eb mo P) (hm:Mo w mo c) (hk:Keeps (Zu mo) w w'):TabS w' eb mo P:=by
 obtain ⟨cb,mb,n,h1,h2,h3⟩:=h
 obtain ⟨es,cl,h4⟩:=h3.is_map
 exact ⟨cb,mb,n,Zd h1 hk (hm.far h1 (.inl (by simp))),Zd h2 hk (hm.far h2 (.inl (by simp))),h3.keep hk (hm.farMap h4)⟩
set_option maxRecDepth 100000 in
set_option maxHeartbeats 1600000 in
theorem msparse_calls (w:World) (mo:Option Nat) (A:Option Addr) (c m:Nat) (P:List Txt) (hT:Tree P) (hl:P.length≤1000000) (hr:Row w A (XD P m)) (hm:m=P.length - 1) :
    Calls Tryz.prog 267 #[.pointer (Xk mo),.slice A m c] w fun e w'=>∃ eb,e=.returned (.pointer (some ⟨eb,0,none⟩))∧TabS w' eb mo P∧Below w.heap.size w w':=by
 have HX:=As.mk hr
 have hTT:=As.mk hT
 have hz:As (EdgesTo P 0 (fun _=>none)):=⟨fun x v=>by constructor;(· intro h;cases h);(· rintro ⟨n,a,b,_⟩;omega)⟩
 have hmm:=@run_makeMap Tryz.prog
 have hmP:=As.mk hm
 have hPm:m+1≤P.length∨P.length=0:=by omega
 have hP0:=hT.len
 clear hr hm
 go_enter Tryz.func267,Tryz.ntmps267
 go_wp2
 go_loopg [11] (m+1) (fun gk i wr=>∃ (k:Nat) (f:Value→Option Int),As (m+1≤gk+k)∧k≤m∧i=.int .i64 k∧As (MapIs Tryz.prog 372 3 wr w.heap.size k f)∧As (EdgesTo P k f)∧As (wr.heap[w.heap.size+1]? = some (.cells #[.map (some w.heap.size)] 370 (0,0)))∧As (Below w.heap.size w wr))
 case atStart =>
  refine ⟨0,fun _=>none,⟨by omega⟩,Nat.zero_le _,rfl,⟨(MapIs.made w _ _ _).below ((Below.refl _ _).alloc (Nat.le_refl _) _)⟩,hz,⟨Q8 _ _ _⟩,⟨((Below.refl _ _).alloc (Nat.le_refl _) _).alloc (by simp) _⟩⟩
 case round =>
  obtain ⟨k,f,hgk,hk,rfl,hmap,hed,hcb,hbel⟩:=hrel
  by_cases hlt:k<m
  · obtain ⟨gp,rfl⟩:∃ gp,gk=gp+1:=⟨gk - 1,by have:=hgk.out;omega⟩
    have hkP:k+1<P.length:=by have:=hmP.out;omega
    obtain ⟨pa,e1,hpa,hpq⟩:=Yx hTT.out (n:=k+1) (by omega) hkP
    have hl3:k * 3+2<(XD P m).length:=by rw [Xp];omega
    obtain ⟨ad,rfl,r0⟩:=Row.at_ (Row.below HX.out hbel.out) (j:=k * 3) (by omega)
    obtain ⟨ad2,e2,r1⟩:=Row.at_ (Row.below HX.out hbel.out) (j:=k * 3+1) (by omega)
    injection e2 with e2
    subst e2
    obtain ⟨ad3,e3,r2⟩:=Row.at_ (Row.below HX.out hbel.out) (j:=k * 3+2) (by omega)
    injection e3 with e3
    subst e3
    rw [Addr.add_field _ _ _ (by omega)] at r1 r2
    have q0:=YX P hlt 0 (by omega)
    have q1:=YX P hlt 1 (by omega)
    have q2:=YX P hlt 2 (by omega)
    rw [Nat.add_zero] at q0
    rw [List.getElem?_eq_getElem (by omega)] at q0 q1 q2
    simp only [ZbU,List.getElem?_cons_zero,List.getElem?_cons_succ,Option.some.injEq] at q0 q1 q2
    rw [q0,e1] at r0
    rw [q1] at r1
    rw [q2] at r2
    have hkey:XW P (k+1)=.agg #[.int .i64 (pa:Int),.int .u8 ((lastB (P.getD (k+1) [])).toNat:Int)]:=by unfold XW;rw [e1]
    generalize lastB (P.getD (k+1) [])=x at *
    obtain ⟨kl,hkl⟩:=Zej (pa:Int) x (by omega) (by omega)
    have hsz:=hbel.out.size
    classical
    obtain ⟨w4,hrun,hm4,hg4⟩:=MapIs.put (w:=wr.alloc (.cells #[.int .i64 (pa:Int),.int .u8 (x.toNat:Int),.int .i64 ((k:Int)+1)] 237)) (hmap.out.below ((Below.refl _ _).alloc (Nat.le_refl _) _)) Zei Tryz.underlying370 Tryz.underlying3 (by unfold maxLen;omega) hkl (v:=(k:Int)+1) (by simp [Lit.wf,IntKind.min,IntKind.max,IntKind.signed,IntKind.bits];omega)
     (f':=fun y=>if y=.agg #[.int .i64 (pa:Int),.int .u8 (x.toNat:Int)] then some ((k:Int)+1) else f y) (if_pos rfl) (fun y hy=>if_neg hy)
    have c5:(wr.alloc (.cells #[.int .i64 (pa:Int),.int .u8 (x.toNat:Int),.int .i64 ((k:Int)+1)] 237)).cell? ⟨w.heap.size+1,0,none⟩=some (.map (some w.heap.size)):=Za (Zn hcb.out) 0
    have hne:w.heap.size+1≠w.heap.size:=by omega
    have hed2:=As.mk (hed.out.next hTT.out hkP (f':=fun y=>if y=.agg #[.int .i64 (pa:Int),.int .u8 (x.toNat:Int)] then some ((k:Int)+1) else f y) (by rw [hkey];exact if_pos rfl) (fun y hy=>if_neg (by rw [hkey] at hy;exact hy)))
    have hcb4:As (w4.heap[w.heap.size+1]? = some (.cells #[.map (some w.heap.size)] 370 (0,0))):=⟨Zd (Zn hcb.out) (Keeps.of_grown hg4) (fun e=>by injection e with e;omega)⟩
    have hbel4:=As.mk ((hbel.out.alloc hbel.out.size (.cells #[.int .i64 (pa:Int),.int .u8 (x.toNat:Int),.int .i64 ((k:Int)+1)] 237)).grown hg4 (by simp;omega) (fun q hq=>by injection hq with hq;omega))
    replace hm4:=As.mk hm4
    replace hg4:=As.mk hg4
    clear q0 q1 q2 e1 hpq hkey
    go_wp2
    go_roundg gp
    case rel=>exact ⟨k+1,_,⟨by have:=hgk.out;omega⟩,by omega,(by first | rfl | go_num | (congr 1;omega)),hm4,hed2,hcb4,hbel4⟩
    case measure=>omega
  · obtain rfl:m=k:=by omega
    have he:=As.mk (edges_all hTT.out (by rw [← hmP.out];exact hed.out))
    rw [he.out] at hmap
    have hsz:=hbel.out.size
    go_wp2
    go_ret
    exact ⟨_,rfl,⟨_,_,_,heap_alloc_new _ _,Zn hcb.out,hmap.out.below ((Below.refl _ _).alloc (Nat.le_refl _) _)⟩,hbel.out.alloc hbel.out.size _⟩
theorem Za9 (w:World) (cb mb n:Nat) (P:List Txt) (hcb:w.heap[cb]? = some (.cells #[.map (some mb)] 370 (0,0))) (hm:MapIs Tryz.prog 372 3 w mb n (QW P)) (a:Nat) (ha:a<P.length) (hl:P.length≤1000000) (c:UInt8) :
    Calls Tryz.prog 272 #[.agg #[.int .i64 (a:Int),.int .u8 (c.toNat:Int)],.pointer (some ⟨cb,0,none⟩)] w fun e w'=>e=.returned (.int .i64 (place P (P.getD a []++[c])))∧Below w.heap.size w w':=by
 obtain ⟨kl,hkey⟩:=Zej (a:Int) c (by omega) (by omega)
 have hB:Below w.heap.size w (w.alloc (.cells #[.int .i64 (a:Int),.int .u8 (c.toNat:Int)] 372)):=(Below.refl _ _).alloc (Nat.le_refl _) _
 have hlk:=MapIs.look (hm.below hB) Zei Tryz.underlying370 Tryz.underlying3 (Jx _) hkey
 have c0:(w.alloc (.cells #[.int .i64 (a:Int),.int .u8 (c.toNat:Int)] 372)).cell? ⟨cb,0,none⟩=some (.map (some mb)):=Za (Zn hcb) 0
 rw [Jy P a c ha] at hlk
 replace hB:=As.mk hB
 by_cases hq:P.getD a []++[c]∈P
 · rw [if_pos hq] at hlk
   have hlk:(Instr.lookup 370 (.map (some mb)) (.agg #[.int .i64 (a:Int),.int .u8 (c.toNat:Int)]) true).run Tryz.prog (w.alloc (.cells #[.int .i64 (a:Int),.int .u8 (c.toNat:Int)] 372))=.ok (.tuple #[.int .i64 (place P (P.getD a []++[c])),.bool true]) (w.alloc (.cells #[.int .i64 (a:Int),.int .u8 (c.toNat:Int)] 372)):=hlk
   generalize place P (P.getD a []++[c])=r at *
   clear hq hm hkey hcb
   go_enter Tryz.func272,Tryz.ntmps272
   go_wp2
   go_ret
   exact ⟨rfl,hB.out⟩
 · rw [if_neg hq] at hlk
   rw [ZQ hq]
   have hlk:(Instr.lookup 370 (.map (some mb)) (.agg #[.int .i64 (a:Int),.int .u8 (c.toNat:Int)]) true).run Tryz.prog (w.alloc (.cells #[.int .i64 (a:Int),.int .u8 (c.toNat:Int)] 372))=.ok (.tuple #[.int .i64 0,.bool false]) (w.alloc (.cells #[.int .i64 (a:Int),.int .u8 (c.toNat:Int)] 372)):=hlk
   clear hq hm hkey hcb
   go_enter Tryz.func272,Tryz.ntmps272
   go_wp2
   go_ret
   exact ⟨rfl,hB.out⟩
theorem Zcf (w:World) (eb:Nat) (mo:Option Nat) (P:List Txt) (ht:TabS w eb mo P) (cn:Cn) (hm:Mo w mo cn) (hok:cn.ok) (a:Nat) (ha:a<P.length) (hl:P.length≤1000000) (c:UInt8) :
    Calls Tryz.prog 273 #[.pointer (some ⟨eb,0,none⟩),.int .i64 (a:Int),.int .u8 (c.toNat:Int)] w fun e w'=>e=.returned (.int .i64 (place P (P.getD a []++[c])))∧Mo w' mo { cn with l:=cn.l+1 }∧Keeps (Zu mo) w w':=by
 have hk:=As.mk (fun (w':World) (k:Keeps (Zu mo) w w')=>ht.keep hm k)
 have hmo:=As.mk hm
 obtain ⟨cb,mb,n,h1,h2,h3⟩:=ht
 have c0:w.cell? ⟨eb,0,none⟩=some (.pointer (Xk mo)):=Za h1 0
 have hlt:=Zf h1
 obtain ⟨s,l,hh,m⟩:=cn
 have hs1:IntKind.i64.wrap (l+1)=l+1:=by have:=hok.2.2.1;have:=hok.2.2.2.1;simp only [IntKind.wrap,IntKind.signed,IntKind.bits] at *;simp;omega
 cases mo with
 | none =>
   have hB:Below w.heap.size w (w.alloc (.cells #[.int .i64 0,.int .i64 1,.int .i64 0,.int .i64 0] 29)):=(Below.refl _ _).alloc (Nat.le_refl _) _
   have d1:=(hB.cell (p:=⟨eb,1,none⟩) hlt).trans (Za h1 1)
   have cl:=As.mk (Za9 _ cb mb n P (Zc hB h2) (h3.below hB) a ha hl c)
   unfold Xk at c0
   simp only [Option.map_none,Option.map_some] at c0
   simp at d1
   generalize place P (P.getD a []++[c])=r at *
   clear h1 h2 h3 hk hmo hok hm
   go_enter Tryz.func273,Tryz.ntmps273
   go_wp2_with (first
    | (go_at_call 272;refine Calls.mono cl.out ?_;rintro e w1 ⟨rfl,hb⟩)
    | (go_at_call 165;refine Calls.mono (Zac _) ?_;rintro e w1 ⟨rfl,rfl⟩))
   go_ret
   exact ⟨rfl,Mo.none_ _ _,(Keeps.of_below hB _).trans (Keeps.of_below hb _)⟩
 | some g =>
   have hg:=hmo.out g rfl
   have g0:w.cell? ⟨g,1,none⟩=some (.int .i64 l):=Za hg 1
   have f0:w.frozen? ⟨g,1,none⟩=false:=Zb hg 1
   have hK:Keeps (Zu (some g)) w (w.setCell ⟨g,1,none⟩ (.int .i64 (l+1))):=(Zm w ⟨g,1,none⟩ _).mono fun k _ e=>by unfold Zu;exact congrArg some e.symm
   have hM:MtAt (w.setCell ⟨g,1,none⟩ (.int .i64 (l+1))) g ⟨s,l+1,hh,m⟩:=by
    have:=Zi hg 1 (.int .i64 (l+1))
    unfold MtAt
    rw [this]
    simp [Qr]
   obtain ⟨cb',mb',n',k1,k2,k3⟩:=hk.out _ hK
   have d1:(w.setCell ⟨g,1,none⟩ (.int .i64 (l+1))).cell? ⟨eb,1,none⟩=some (.func (.func 272) #[] #[.pointer (some ⟨cb',0,none⟩)]):=Za k1 1
   have cl:=As.mk (Za9 _ cb' mb' n' P k2 k3 a ha hl c)
   unfold Xk at c0
   simp only [Option.map_none,Option.map_some] at c0
   generalize place P (P.getD a []++[c])=r at *
   replace hK:=As.mk hK
   replace hM:=As.mk hM
   clear h1 h2 h3 hk hmo hok k1 k2 k3 hg hm
   go_enter Tryz.func273,Tryz.ntmps273
   go_wp2_with (first
    | (go_at_call 272;refine Calls.mono cl.out ?_;rintro e w1 ⟨rfl,hb⟩)
    | (go_at_call 165;refine Calls.mono (XN _ _) ?_;rintro e w1 ⟨rfl,rfl⟩))
   go_ret
   exact ⟨rfl,Mo.some_ (hM.out.below hb),hK.out.trans (Keeps.of_below hb _)⟩
end Go.Proofs.YtfdlaomnecjfeaaGreatDoor
end
section
namespace Seine.Links
open Seine.Trie
def Q1 (q:Nat→Bool):Nat→Nat→Option Nat
 | _,0=>none
 | a,k+1=>if q a then some a else Q1 q (a+1) k
theorem XO {q:Nat→Bool}:∀ {k a n:Nat},Q1 q a k=some n→a≤n∧n<a+k∧q n=true∧∀ j,a≤j→j<n→q j=false
 | 0,a,n,h=>by simp [Q1] at h
 | k+1,a,n,h=>by
   unfold Q1 at h
   by_cases hq:q a=true
   · rw [if_pos hq] at h
     injection h with h;subst h
     exact ⟨Nat.le_refl _,by omega,hq,fun j h1 h2=>by omega⟩
   · rw [if_neg hq] at h
     obtain ⟨h1,h2,h3,h4⟩:=XO h
     refine ⟨by omega,by omega,h3,fun j h5 h6=>?_⟩
     rcases Nat.eq_or_lt_of_le h5 with h7 | h7
     · subst h7;simpa using hq
     · exact h4 j h7 h6
theorem Ya {q:Nat→Bool}:∀ {k a:Nat},Q1 q a k=none→∀ j,a≤j→j<a+k→q j=false
 | 0,a,_,j,h1,h2=>by omega
 | k+1,a,h,j,h1,h2=>by
   unfold Q1 at h
   by_cases hq:q a=true
   · rw [if_pos hq] at h;cases h
   · rw [if_neg hq] at h
     rcases Nat.eq_or_lt_of_le h1 with h7 | h7
     · subst h7;simpa using hq
     · exact Ya h j h7 (by omega)
theorem Zek {q:Nat→Bool} {a k n:Nat} (h1:a≤n) (h2:n<a+k) (h3:q n=true) (h4:∀ j,a≤j→j<n→q j=false):Q1 q a k=some n:=by
 cases h:Q1 q a k with
 | none=>have:=Ya h n h1 h2;rw [h3] at this;cases this
 | some m =>
   obtain ⟨e1,e2,e3,e4⟩:=XO h
   rcases Nat.lt_trichotomy m n with hm | hm | hm
   · have:=h4 m e1 hm;rw [e3] at this;cases this
   · rw [hm]
   · have:=e4 n h1 hm;rw [h3] at this;cases this
theorem firstN_no {q:Nat→Bool} {a k:Nat} (h:∀ j,a≤j→j<a+k→q j=false):Q1 q a k=none:=by
 cases h':Q1 q a k with
 | none=>rfl
 | some m =>
   obtain ⟨e1,e2,e3,_⟩:=XO h'
   rw [h m e1 e2] at e3;cases e3
def Xi (P:List Txt) (s:Txt):Option Nat:=Q1 (fun n=>decide (s.drop n∈P)) 1 s.length
def Jb (l:List Txt) (s:Txt):Option Nat:=Q1 (fun n=>decide (s.drop n∈l)) 1 (s.length - 1)
def ZN (P:List Txt) (s:Txt):Int:=match Xi P s with | some n=>place P (s.drop n) | none=>-1
def outF (P l:List Txt) (s:Txt):Int:=match Jb l s with | some n=>place P (s.drop n) | none=>-1
def Qw (l:List Txt) (s:Txt):Int:=if s∈l then s.length else 0
def endsF (l:List Txt) (s:Txt):List Int:=((List.range s.length).filter fun n=>decide (s.drop n∈l)).map fun n=>((s.length - n:Nat):Int)
theorem Qx {P:List Txt} {s:Txt} {n:Nat} (h:Xi P s=some n):1≤n∧n≤s.length∧s.drop n∈P∧∀ j,1≤j→j<n→s.drop j ∉ P:=by
 obtain ⟨h1,h2,h3,h4⟩:=XO h
 exact ⟨h1,by omega,of_decide_eq_true h3,fun j a b=>of_decide_eq_false (h4 j a b)⟩
theorem Ze3 {P:List Txt} {s:Txt} {n:Nat} (h1:1≤n) (h2:n≤s.length) (h3:s.drop n∈P) (h4:∀ j,1≤j→j<n→s.drop j ∉ P):Xi P s=some n :=
 Zek h1 (by omega) (decide_eq_true h3) fun j a b=>decide_eq_false (h4 j a b)
theorem Zdk {P:List Txt} {s:Txt} (h:Xi P s=none) (j:Nat) (h1:1≤j) (h2:j≤s.length):s.drop j ∉ P:=of_decide_eq_false (Ya h j h1 (by omega))
theorem Zbg {l:List Txt} {s:Txt} {n:Nat} (h:Jb l s=some n):1≤n∧n<s.length∧s.drop n∈l∧∀ j,1≤j→j<n→s.drop j ∉ l:=by
 obtain ⟨h1,h2,h3,h4⟩:=XO h
 exact ⟨h1,by omega,of_decide_eq_true h3,fun j a b=>of_decide_eq_false (h4 j a b)⟩
theorem Zfw {l:List Txt} {s:Txt} {n:Nat} (h1:1≤n) (h2:n<s.length) (h3:s.drop n∈l) (h4:∀ j,1≤j→j<n→s.drop j ∉ l):Jb l s=some n :=
 Zek h1 (by omega) (decide_eq_true h3) fun j a b=>decide_eq_false (h4 j a b)
theorem Zel {l:List Txt} {s:Txt} (h:Jb l s=none) (j:Nat) (h1:1≤j) (h2:j<s.length):s.drop j ∉ l:=of_decide_eq_false (Ya h j h1 (by omega))
theorem outN_no {l:List Txt} {s:Txt} (h:∀ j,1≤j→j<s.length→s.drop j ∉ l):Jb l s=none:=firstN_no fun j a b=>decide_eq_false (h j a (by omega))
theorem failF_nil (P:List Txt):ZN P [] = -1:=rfl
theorem outF_nil (P l:List Txt):outF P l [] = -1:=rfl
theorem Ze4 (l:List Txt):Qw l []=0:=by unfold Qw;split <;> rfl
theorem Y3 {P:List Txt} (hT:Tree P) {s:Txt} (hs:s≠[]):∃ n,Xi P s=some n:=by
 cases h:Xi P s with
 | some n=>exact ⟨n,rfl⟩
 | none =>
   have h0:0<s.length:=List.length_pos_iff.2 hs
   have:=Zdk h s.length h0 (Nat.le_refl _)
   rw [List.drop_length] at this
   exact absurd hT.nil_mem this
theorem Qc {q:Txt} {c:UInt8} {j:Nat} (h:j≤q.length):(q++[c]).drop j=q.drop j++[c]:=by
 rw [List.drop_append_of_le_length h]
theorem ZbV {P:List Txt} (hT:Tree P) {r:Txt} {c:UInt8} (h:r++[c]∈P):r∈P:=by
 have:=hT.up _ h (by simp)
 rwa [List.dropLast_concat] at this
/-- Where the search for a fall stands. -/
def Zbh (P:List Txt) (q:Txt) (c:UInt8) (n:Int):Prop :=
 (∃ k,1≤k∧k≤q.length∧n=place P (q.drop k)∧q.drop k∈P∧∀ j,1≤j→j<k→(q++[c]).drop j ∉ P)∨(n = -1∧∀ j,1≤j→j≤q.length→(q++[c]).drop j ∉ P)
theorem Zem {P:List Txt} (hT:Tree P) {q:Txt} {c:UInt8} {k:Nat} (hk:k≤q.length) (h:∀ j,1≤j→j≤k→(q++[c]).drop j ∉ P):Zbh P q c (ZN P (q.drop k)):=by
 unfold ZN
 cases hf:Xi P (q.drop k) with
 | some n =>
   obtain ⟨h1,h2,h3,h4⟩:=Qx hf
   rw [List.length_drop] at h2
   rw [List.drop_drop] at h3
   refine .inl ⟨k+n,by omega,by omega,by simp only [List.drop_drop],h3,fun j a b=>?_⟩
   by_cases hj:j≤k
   · exact h j a hj
   · intro hm
     rw [Qc (by omega)] at hm
     have:=h4 (j - k) (by omega) (by omega)
     rw [List.drop_drop,show k+(j - k)=j by omega] at this
     exact this (ZbV hT hm)
 | none =>
   refine .inr ⟨rfl,fun j a b=>?_⟩
   by_cases hj:j≤k
   · exact h j a hj
   · intro hm
     rw [Qc b] at hm
     have:=Zdk hf (j - k) (by omega) (by rw [List.length_drop];omega)
     rw [List.drop_drop,show k+(j - k)=j by omega] at this
     exact this (ZbV hT hm)
theorem back_start {P:List Txt} (hT:Tree P) (q:Txt) (c:UInt8):Zbh P q c (ZN P q):=Zem hT (k:=0) (Nat.zero_le _) (fun j a b=>by omega)
theorem back_end {P:List Txt} (hT:Tree P) {q:Txt} {c:UInt8} {n:Int} (h:Zbh P q c n) (hn:n<0):ZN P (q++[c])=0:=by
 rcases h with ⟨k,_,_,h3,h4,_⟩ | ⟨_,h⟩
 · have:=place_mem.2 h4;omega
 · have:Xi P (q++[c])=some (q.length+1):=Ze3 (by omega) (by simp) (by rw [List.drop_of_length_le (by simp)];exact hT.nil_mem) fun j a b=>h j a (by omega)
   unfold ZN
   rw [this]
   simp only
   rw [List.drop_of_length_le (by simp),ZO hT.nodup hT.root];rfl
theorem back_step {P:List Txt} (hT:Tree P) {q:Txt} {c:UInt8} {n:Int} (h:Zbh P q c n) (hn:0≤n):∃ r,r∈P∧n=place P r∧r.length<q.length+0 ∧
    ((0≤place P (r++[c])∧ZN P (q++[c])=place P (r++[c]))∨(place P (r++[c])<0∧Zbh P q c (ZN P r))):=by
 rcases h with ⟨k,h1,h2,h3,h4,h5⟩ | ⟨h,_⟩
 · refine ⟨q.drop k,h4,h3,by rw [List.length_drop];omega,?_⟩
   by_cases hm:q.drop k++[c]∈P
   · refine .inl ⟨place_mem.2 hm,?_⟩
     have:Xi P (q++[c])=some k:=Ze3 h1 (by simp;omega) (by rw [Qc h2];exact hm) h5
     unfold ZN
     rw [this]
     simp only
     rw [Qc h2]
   · refine .inr ⟨place_neg.2 hm,Zem hT h2 fun j a b=>?_⟩
     rcases Nat.eq_or_lt_of_le b with e | e
     · subst e;rw [Qc h2];exact hm
     · exact h5 j a e
 · omega
/-- A fall is shorter. -/
theorem fail_short {P:List Txt} {r:Txt} (h:0≤ZN P r):∃ r',r'∈P∧ZN P r=place P r'∧r'.length<r.length:=by
 unfold ZN at h ⊢
 cases hf:Xi P r with
 | some n =>
   obtain ⟨h1,h2,h3,_⟩:=Qx hf
   exact ⟨_,h3,rfl,by rw [List.length_drop];omega⟩
 | none=>rw [hf] at h;simp at h
theorem out_rec {P l:List Txt} (hl:∀ x,x∈l→x∈P) {s:Txt} {n:Nat} (hf:Xi P s=some n):outF P l s=if Qw l (s.drop n)=0 then outF P l (s.drop n) else place P (s.drop n):=by
 obtain ⟨h1,h2,h3,h4⟩:=Qx hf
 by_cases ho:Qw l (s.drop n)=0
 · rw [if_pos ho]
   have hno:∀ j,1≤j→j≤n→j<s.length→s.drop j ∉ l:=fun j a b d hm=>by
    rcases Nat.eq_or_lt_of_le b with e | e
    · subst e
      unfold Qw at ho
      rw [if_pos hm,List.length_drop] at ho
      omega
    · exact h4 j a e (hl _ hm)
   unfold outF
   cases hq:Jb l (s.drop n) with
   | some m =>
     obtain ⟨e1,e2,e3,e4⟩:=Zbg hq
     rw [List.length_drop] at e2
     rw [List.drop_drop] at e3
     have:Jb l s=some (n+m):=Zfw (by omega) (by omega) e3 fun j a b=>by
      by_cases hj:j≤n
      · exact hno j a hj (by omega)
      · have:=e4 (j - n) (by omega) (by omega)
        rwa [List.drop_drop,show n+(j - n)=j by omega] at this
     rw [this]
     simp only [List.drop_drop]
   | none =>
     have:Jb l s=none:=outN_no fun j a b=>by
      by_cases hj:j≤n
      · exact hno j a hj b
      · have:=Zel hq (j - n) (by omega) (by rw [List.length_drop];omega)
        rwa [List.drop_drop,show n+(j - n)=j by omega] at this
     rw [this]
 · rw [if_neg ho]
   have hm:s.drop n∈l:=by
    unfold Qw at ho
    by_cases hm:s.drop n∈l
    · exact hm
    · rw [if_neg hm] at ho;exact absurd rfl ho
   have hlt:n<s.length:=by
    unfold Qw at ho
    rw [if_pos hm,List.length_drop] at ho
    omega
   have:Jb l s=some n:=Zfw h1 hlt hm fun j a b hj=>h4 j a b (hl _ hj)
   unfold outF
   rw [this]
theorem JU (l:List Txt) (s:Txt) (k:Nat) (hk:k≤s.length):endsF l (s.drop k)=((List.range' k (s.length - k)).filter fun n=>decide (s.drop n∈l)).map fun n=>((s.length - n:Nat):Int):=by
 unfold endsF
 rw [List.length_drop]
 have:List.range' k (s.length - k)=(List.range (s.length - k)).map (fun n=>k+n):=by
  rw [List.range_eq_range',List.map_add_range']
  simp
 rw [this,List.filter_map,List.map_map]
 have e1:((fun n=>decide (s.drop n∈l)) ∘ fun n=>k+n)=fun n=>decide ((s.drop k).drop n∈l):=by
  funext n;simp [List.drop_drop]
 rw [e1]
 apply List.map_congr_left
 intro n hn
 simp only [Function.comp]
 congr 1
 omega
theorem Zbi (l:List Txt) (s:Txt):∀ (m k:Nat),k+m≤s.length→(∀ j,k≤j→j<k+m→s.drop j ∉ l)→endsF l (s.drop k)=endsF l (s.drop (k+m))
 | 0,k,_,_=>rfl
 | m+1,k,h,hno=>by
   rw [JU l s k (by omega),show s.length - k=(s.length - (k+1))+1 by omega,List.range'_succ,List.filter_cons,if_neg (by simpa using hno k (Nat.le_refl _) (by omega)),← JU l s (k+1) (by omega),
    Zbi l s m (k+1) (by omega) (fun j a b=>hno j (by omega) (by omega)),show k+1+m=k+(m+1) by omega]
theorem ends_rec (l:List Txt) (s:Txt):endsF l s=(if 0<Qw l s then [Qw l s] else [])++(match Jb l s with | some n=>endsF l (s.drop n) | none=>[]):=by
 by_cases hs:s=[]
 · subst hs
   rw [Ze4];rfl
 · have h0:0<s.length:=List.length_pos_iff.2 hs
   have h1:endsF l s=(if 0<Qw l s then [Qw l s] else [])++endsF l (s.drop 1):=by
    have e:=JU l s 0 (Nat.zero_le _)
    rw [List.drop_zero] at e
    rw [e,show s.length - 0=(s.length - 1)+1 by omega,List.range'_succ,List.filter_cons,JU l s 1 h0]
    unfold Qw
    by_cases hm:s∈l
    · rw [if_pos (by simpa using hm),if_pos hm,if_pos (by omega)]
      simp
    · rw [if_neg (by simpa using hm),if_neg hm]
      simp
   rw [h1]
   congr 1
   cases hq:Jb l s with
   | some n =>
     obtain ⟨a,b,_,d⟩:=Zbg hq
     have:=Zbi l s (n - 1) 1 (by omega) (fun j x y=>d j x (by omega))
     rw [this,show 1+(n - 1)=n by omega]
   | none =>
     have:=Zbi l s (s.length - 1) 1 (by omega) (fun j x y=>Zel hq j x (by omega))
     rw [this,show 1+(s.length - 1)=s.length by omega,List.drop_length]
     rfl
end Seine.Links
end
section
namespace Seine.Links
open Seine.Trie
theorem Zbj {α:Type} [DecidableEq α]:∀ {a b:List α},a.Nodup→(∀ x,x∈a→x∈b)→a.length≤b.length
 | [],b,_,_=>Nat.zero_le _
 | x::a,b,hn,hs=>by
   have hx:=hs x (by simp)
   have h1:=Zbj (a:=a) (b:=b.erase x) (List.nodup_cons.1 hn).2 fun y hy=>by
    have hne:y≠x:=fun e=>(List.nodup_cons.1 hn).1 (e ▸ hy)
    exact (List.mem_erase_of_ne hne).2 (hs y (by simp [hy]))
   rw [List.length_erase_of_mem hx] at h1
   have:=List.length_pos_of_mem hx
   simp only [List.length_cons]
   omega
def Xj (P:List Txt) (s:Txt):List Txt:=(Qf P s).map fun c=>s++[c]
def op (P:List Txt):Nat→List Txt
 | 0=>[[]]
 | i+1=>op P i++(match (op P i)[i]? with | some s=>Xj P s | none=>[])
theorem mem_kids {P:List Txt} {s:Txt} {c:UInt8}:c∈Qf P s↔s++[c]∈P:=by
 unfold Qf
 rw [List.mem_filter,decide_eq_true_iff]
 refine ⟨fun h=>h.2,fun h=>⟨?_,h⟩⟩
 rw [List.mem_map]
 exact ⟨c.toNat,List.mem_range.2 c.toNat_lt,by simp⟩
theorem mem_kidsT {P:List Txt} {s x:Txt}:x∈Xj P s↔∃ c,x=s++[c]∧s++[c]∈P:=by
 unfold Xj
 rw [List.mem_map]
 exact ⟨fun ⟨c,h,e⟩=>⟨c,e.symm,mem_kids.1 h⟩,fun ⟨c,e,h⟩=>⟨c,mem_kids.2 h,e.symm⟩⟩
theorem ZaN {α β:Type} {f:α→β}:∀ {l:List α},l.Nodup→(∀ x y,x∈l→y∈l→f x=f y→x=y)→(l.map f).Nodup
 | [],_,_=>by simp
 | a::l,h,hf=>by
   rw [List.map_cons,List.nodup_cons]
   refine ⟨fun hm=>?_,ZaN (List.nodup_cons.1 h).2 fun x y hx hy=>hf x y (by simp [hx]) (by simp [hy])⟩
   obtain ⟨y,hy,e⟩:=List.mem_map.1 hm
   exact (List.nodup_cons.1 h).1 (hf y a (by simp [hy]) (by simp) e ▸ hy)
theorem kids_nodup (P:List Txt) (s:Txt):(Qf P s).Nodup:=by
 unfold Qf
 refine List.Pairwise.filter _ (ZaN List.nodup_range fun x y hx hy h=>?_)
 have hx:=List.mem_range.1 hx
 have hy:=List.mem_range.1 hy
 have:=congrArg UInt8.toNat h
 simp at this
 omega
theorem kidsT_nodup (P:List Txt) (s:Txt):(Xj P s).Nodup:=ZaN (kids_nodup P s) fun x y _ _ h=>by simpa using h
theorem Ys {P:List Txt} {i:Nat} {s:Txt} (h:(op P i)[i]? = some s):op P (i+1)=op P i++Xj P s:=by
 show op P i++_=_
 rw [h]
theorem ZdX {P:List Txt} {i:Nat} (h:(op P i).length≤i):op P (i+1)=op P i:=by
 show op P i++_=_
 rw [List.getElem?_eq_none h,List.append_nil]
theorem ZbW {P:List Txt} {i:Nat} (h:(op P i).length≤i):∀ k,op P (i+k)=op P i
 | 0=>rfl
 | k+1=>by
   have:=ZbW h k
   rw [← Nat.add_assoc,ZdX (by rw [this];omega),this]
theorem Zaw (P:List Txt) (i:Nat):∀ k,∃ m,op P (i+k)=op P i++m
 | 0=>⟨[],by simp⟩
 | k+1=>by
   obtain ⟨m,hm⟩:=Zaw P i k
   refine ⟨m++(match (op P (i+k))[i+k]? with | some s=>Xj P s | none=>[]),?_⟩
   rw [← List.append_assoc,← hm]
   rfl
theorem Zbk {P:List Txt} {i j k:Nat} {s:Txt} (hij:i≤j) (h:(op P i)[k]? = some s):(op P j)[k]? = some s:=by
 obtain ⟨m,hm⟩:=Zaw P i (j - i)
 rw [show i+(j - i)=j by omega] at hm
 rw [hm,List.getElem?_append_left (List.getElem?_eq_some_iff.1 h).1,h]
theorem ZbX {P:List Txt} {i j k:Nat} {s:Txt} (hij:i≤j) (h:(op P j)[k]? = some s) (hk:k<(op P i).length):(op P i)[k]? = some s:=by
 obtain ⟨m,hm⟩:=Zaw P i (j - i)
 rw [show i+(j - i)=j by omega] at hm
 rw [hm,List.getElem?_append_left hk] at h
 exact h
theorem ZdY {P:List Txt} {i j:Nat} (hij:j≤i) (h:j<(op P i).length):j<(op P j).length:=by
 by_cases hc:j<(op P j).length
 · exact hc
 · have:=ZbW (P:=P) (i:=j) (by omega) (i - j)
   rw [show j+(i - j)=i by omega] at this
   rw [this] at h
   exact h
theorem op_mem {P:List Txt} {x:Txt}:∀ {i:Nat},x∈op P i→x=[]∨∃ j s c,j<i∧(op P j)[j]? = some s∧x=s++[c]∧x∈P
 | 0,h=>.inl (by simpa [op] using h)
 | i+1,h=>by
   rcases hg:(op P i)[i]? with _ | s
   · rw [ZdX (List.getElem?_eq_none_iff.1 hg)] at h
     rcases op_mem h with e | ⟨j,s,c,a,b⟩
     · exact .inl e
     · exact .inr ⟨j,s,c,by omega,b⟩
   · rw [Ys hg,List.mem_append] at h
     rcases h with h | h
     · rcases op_mem h with e | ⟨j,s,c,a,b⟩
       · exact .inl e
       · exact .inr ⟨j,s,c,by omega,b⟩
     · obtain ⟨c,e,hm⟩:=mem_kidsT.1 h
       exact .inr ⟨i,s,c,by omega,hg,e,e ▸ hm⟩
theorem Y4 {α:Type} {l:List α} (h:l.Nodup) {i j:Nat} {x:α} (hi:l[i]? = some x) (hj:l[j]? = some x):i=j:=by
 exact (List.getElem?_inj (List.getElem?_eq_some_iff.1 hi).1 h).1 (hi.trans hj.symm)
theorem JC (P:List Txt):∀ i,(op P i).Nodup
 | 0=>by simp [op]
 | i+1=>by
   have ih:=JC P i
   rcases hg:(op P i)[i]? with _ | s
   · rw [ZdX (List.getElem?_eq_none_iff.1 hg)];exact ih
   · rw [Ys hg]
     refine List.nodup_append.2 ⟨ih,kidsT_nodup P s,fun x hx y hy e=>?_⟩
     subst e
     obtain ⟨c,e,hm⟩:=mem_kidsT.1 hy
     rcases op_mem hx with e' | ⟨j,s',c',hj,hg',e',_⟩
     · rw [e'] at e;simp at e
     · rw [e'] at e
       have hs:s'=s:=(List.append_inj' e rfl).1
       subst hs
       have:=Y4 ih (Zbk (Nat.le_of_lt hj) hg') hg
       omega
theorem Zdl {P:List Txt} (hT:Tree P) {i:Nat} {x:Txt} (h:x∈op P i):x∈P:=by
 rcases op_mem h with e | ⟨_,_,_,_,_,_,hm⟩
 · rw [e];exact hT.nil_mem
 · exact hm
theorem Zay {P:List Txt} (hT:Tree P) (i:Nat):(op P i).length≤P.length:=Zbj (JC P i) fun _ h=>Zdl hT h
theorem ZbY (P:List Txt):∀ i,(op P i)[0]? = some []
 | i=>Zbk (Nat.zero_le i) (by simp [op])
/-- All that is shorter stands ahead of one that is at its turn. -/
theorem Zen {P:List Txt} (hT:Tree P):∀ (i:Nat) {p:Txt},(op P i)[i]? = some p→∀ x,x∈P→x.length<p.length→∃ j,j<i∧(op P i)[j]? = some x:=by
 intro i
 induction i using Nat.strongRecOn with
 | _ i ih =>
   intro p hp x hx hlt
   have hi:i≠0:=fun e=>by
    subst e
    rw [ZbY] at hp
    injection hp with hp
    subst hp
    simp at hlt
   by_cases hx0:x=[]
   · subst hx0
     exact ⟨0,by omega,ZbY P i⟩
   · rcases op_mem (List.mem_of_getElem? hp) with e | ⟨j,s,c,hj,hg,e,hm⟩
     · rw [e] at hlt;simp at hlt
     · have hxl:0<x.length:=List.length_pos_iff.2 hx0
       have hup:=hT.up x hx hx0
       obtain ⟨j',hj',hg'⟩:=ih j hj hg x.dropLast hup (by rw [e] at hlt;simp at hlt ⊢;omega)
       have hg'':(op P j')[j']? = some x.dropLast:=ZbX (Nat.le_of_lt hj') hg' (ZdY (Nat.le_of_lt hj') (List.getElem?_eq_some_iff.1 hg').1)
       have hxk:x∈op P (j'+1):=by
        rw [Ys hg'']
        refine List.mem_append_right _ (mem_kidsT.2 ?_)
        have hs:=List.dropLast_concat_getLast hx0
        exact ⟨x.getLast hx0,hs.symm,by rw [hs];exact hx⟩
       have hxj:x∈op P j:=by
        obtain ⟨m,hm⟩:=Zaw P (j'+1) (j - (j'+1))
        rw [show j'+1+(j - (j'+1))=j by omega] at hm
        rw [hm]
        exact List.mem_append_left _ hxk
       obtain ⟨k,hk⟩:=List.mem_iff_getElem?.1 hxj
       have hkl:=(List.getElem?_eq_some_iff.1 hk).1
       refine ⟨k,?_,Zbk (Nat.le_of_lt hj) hk⟩
       have hge:¬ i<(op P j).length:=fun hlt2=>by
        have hpj:=ZbX (Nat.le_of_lt hj) hp hlt2
        rcases op_mem (List.mem_of_getElem? hpj) with e2 | ⟨j2,s2,c2,hj2,hg2,e2,_⟩
        · rw [e2] at e;simp at e
        · rw [e2] at e
          have hs:s2=s:=(List.append_inj' e rfl).1
          subst hs
          have:=Y4 (JC P j) (Zbk (Nat.le_of_lt hj2) hg2) hg
          omega
       omega
theorem Ze5 {P:List Txt} (hT:Tree P):∀ (n:Nat) (x:Txt),x.length=n→x∈P→x∈op P P.length:=by
 intro n
 induction n with
 | zero=>intro x hx _;rw [List.eq_nil_of_length_eq_zero hx];exact List.mem_of_getElem? (ZbY P _)
 | succ n ih =>
   intro x hx hm
   have hx0:x≠[]:=fun e=>by rw [e] at hx;simp at hx
   have hup:=ih x.dropLast (by simp;omega) (hT.up x hm hx0)
   obtain ⟨j,hj⟩:=List.mem_iff_getElem?.1 hup
   have hjl:=(List.getElem?_eq_some_iff.1 hj).1
   have hle:=Zay hT P.length
   have hjj:(op P j)[j]? = some x.dropLast:=ZbX (i:=j) (j:=P.length) (by omega) hj (ZdY (i:=P.length) (by omega) hjl)
   obtain ⟨m,hm2⟩:=Zaw P (j+1) (P.length - (j+1))
   rw [show j+1+(P.length - (j+1))=P.length by omega] at hm2
   rw [hm2]
   refine List.mem_append_left _ ?_
   rw [Ys hjj]
   refine List.mem_append_right _ (mem_kidsT.2 ?_)
   have hs:=List.dropLast_concat_getLast hx0
   exact ⟨x.getLast hx0,hs.symm,by rw [hs];exact hm⟩
theorem op_full {P:List Txt} (hT:Tree P) {i:Nat} (h:(op P i).length≤i):op P i=op P P.length:=by
 by_cases hi:i≤P.length
 · have:=ZbW h (P.length - i)
   rw [show i+(P.length - i)=P.length by omega] at this
   exact this.symm
 · have:=ZbW (P:=P) (i:=P.length) (Zay hT _) (i - P.length)
   rw [show P.length+(i - P.length)=i by omega] at this
   exact this
end Seine.Links
end
section
namespace Go.Proofs.YtfdlaomnecjfeaaGreatDoor
open Go.RowKit Go.Maps Seine.Trie Seine.Links
def ZX (P:List Txt) (F:Txt→Int):List Value:=P.map fun p=>.int .i64 (F p)
theorem Zcg {P:List Txt} {F:Txt→Int} {i:Nat} {p:Txt} (h:P[i]? = some p):(ZX P F)[i]? = some (.int .i64 (F p)):=by simp [ZX,h]
theorem Zbl:∀ {P:List Txt} {F F':Txt→Int} {i:Nat} {p:Txt},P.Nodup→P[i]? = some p→(∀ x,x≠p→F' x=F x)→ZX P F'=(ZX P F).set i (.int .i64 (F' p))
 | [],F,F',i,p,_,h,_=>by simp at h
 | y::P,F,F',0,p,hn,h,ho=>by
   simp at h;subst h
   unfold ZX
   rw [List.map_cons,List.map_cons,List.set_cons_zero]
   congr 1
   exact List.map_congr_left fun x hx=>by rw [ho x (fun e=>(List.nodup_cons.1 hn).1 (e ▸ hx))]
 | y::P,F,F',i+1,p,hn,h,ho=>by
   have hm:p∈P:=List.mem_of_getElem? (by simpa using h)
   have ih:=Zbl (List.nodup_cons.1 hn).2 (by simpa using h:P[i]? = some p) ho
   unfold ZX at ih ⊢
   rw [List.map_cons,List.map_cons,List.set_cons_succ,← ih,ho y (fun e=>(List.nodup_cons.1 hn).1 (e ▸ hm))]
theorem YL {P:List Txt} {F F':Txt→Int} (h:∀ x,x∈P→F x=F' x):ZX P F=ZX P F':=List.map_congr_left fun x hx=>by rw [h x hx]
/-- A row of as many numbers as there are nodes, at block b, in memory from base on. -/
def IntRow (w:World) (base b c:Nat) (P:List Txt) (F:Txt→Int):Prop:=w.ownsRow base 3 1 (.slice (some ⟨b,0,none⟩) P.length c) P.length (ZX P F)
/-- Where the falls' rows lie. -/
structure LB where
 bf:Nat
 cf:Nat
 bo:Nat
 co:Nat
 bu:Nat
 cu:Nat
 vr:Value
/-- The falls F, outs O, own lengths U, of a tree's nodes, and the order o (of paths), at block g. -/
def LinksIn (w:World) (base g:Nat) (P:List Txt) (F O U:Txt→Int) (o:List Txt) (B:LB):Prop :=
 w.heap[g]? = some (.cells #[.slice (some ⟨B.bf,0,none⟩) P.length B.cf,.slice (some ⟨B.bo,0,none⟩) P.length B.co,.slice (some ⟨B.bu,0,none⟩) P.length B.cu,B.vr] 287 (0,0))∧base≤g ∧
  IntRow w base B.bf B.cf P F∧IntRow w base B.bo B.co P O∧IntRow w base B.bu B.cu P U∧B.bf≠B.bo∧B.bf≠B.bu∧B.bo≠B.bu∧w.ownsRow base 3 1 B.vr o.length (ZX o (place P))∧B.vr.ownBlock≠some B.bf∧B.vr.ownBlock≠some B.bo∧B.vr.ownBlock≠some B.bu
def LinksAt (w:World) (base g:Nat) (P:List Txt) (F O U:Txt→Int) (o:List Txt):Prop:=∃ B,LinksIn w base g P F O U o B
theorem IntRow.at_ {w:World} {base b c:Nat} {P:List Txt} {F:Txt→Int} (h:IntRow w base b c P F) {i:Nat} {p:Txt} (hi:P[i]? = some p):w.cell? ⟨b,i,none⟩=some (.int .i64 (F p)):=by
 have hil:=(List.getElem?_eq_some_iff.1 hi).1
 rw [World.ownsRow.cellAt h i (by omega)]
 exact Zcg hi
theorem IntRow.cap {w:World} {base b c:Nat} {P:List Txt} {F:Txt→Int} (h:IntRow w base b c P F):P.length≤c:=by
 obtain ⟨A,c',e,hc⟩:=Zk h
 injection e with e1 e2 e3
 omega
theorem IntRow.base {w:World} {base b c:Nat} {P:List Txt} {F:Txt→Int} (h:IntRow w base b c P F):base≤b∧b<w.heap.size:=ZM h rfl
theorem IntRow.keep {S:Nat→Prop} {w w':World} {base b c:Nat} {P:List Txt} {F:Txt→Int} (h:IntRow w base b c P F) (hk:Keeps S w w') (hS:¬ S b):IntRow w' base b c P F :=
 Zj h hk (fun b' _ _ _ e=>by injection e with e;subst e;exact hS)
theorem IntRow.set {w:World} {base b c:Nat} {P:List Txt} {F F':Txt→Int} (h:IntRow w base b c P F) (hT:Tree P) {i:Nat} {p:Txt} (hi:P[i]? = some p) {x:Int} (hx:F' p=x) (ho:∀ y,y≠p→F' y=F y):IntRow (w.setCell ⟨b,i,none⟩ (.int .i64 x)) base b c P F':=by
 have s1:=World.ownsRow.stored h i (.int .i64 x)
 unfold IntRow
 rw [Zbl hT.nodup hi ho,hx]
 exact s1.1
theorem IntRow.nfree {w:World} {base b c:Nat} {P:List Txt} {F:Txt→Int} (h:IntRow w base b c P F) (i:Nat):w.frozen? ⟨b,i,none⟩=false:=World.ownsRow.frozenAt h _
/-- A block of another type is none of the row. -/
theorem IntRow.other {w:World} {base b c g t:Nat} {P:List Txt} {F:Txt→Int} {cs:Array Value} {fr:Nat × Nat} (h:IntRow w base b c P F) (hg:w.heap[g]? = some (.cells cs t fr)) (ht:3≠t):g≠b:=fun e=>Zy h hg ht (by rw [e];rfl)
theorem LinksIn.below {w w':World} {base g:Nat} {P:List Txt} {F O U:Txt→Int} {o:List Txt} {B:LB} (h:LinksIn w base g P F O U o B) (hb:Below w.heap.size w w'):LinksIn w' base g P F O U o B:=by
 obtain ⟨hg,h0,h1,h2,h3,h4,h5,h6,h7,h8⟩:=h
 exact ⟨(hb.block g (Zf hg)).trans hg,h0,Zo h1 hb,Zo h2 hb,Zo h3 hb,h4,h5,h6,Zo h7 hb,h8⟩
theorem LinksAt.below {w w':World} {base g:Nat} {P:List Txt} {F O U:Txt→Int} {o:List Txt} (h:LinksAt w base g P F O U o) (hb:Below w.heap.size w w'):LinksAt w' base g P F O U o:=by
 obtain ⟨B,h⟩:=h
 exact ⟨B,h.below hb⟩
section
variable {w:World} {base g:Nat} {P:List Txt} {F O U:Txt→Int} {o:List Txt} {B:LB} (h:LinksIn w base g P F O U o B)
include h
theorem LinksIn.caps:P.length≤B.cf∧P.length≤B.co∧P.length≤B.cu:=by
 obtain ⟨hg,h0,h1,h2,h3,_⟩:=h
 exact ⟨h1.cap,h2.cap,h3.cap⟩
theorem LinksIn.heads:w.cell? ⟨g,0,none⟩=some (.slice (some ⟨B.bf,0,none⟩) P.length B.cf)∧w.cell? ⟨g,1,none⟩=some (.slice (some ⟨B.bo,0,none⟩) P.length B.co)∧w.cell? ⟨g,2,none⟩=some (.slice (some ⟨B.bu,0,none⟩) P.length B.cu)∧w.cell? ⟨g,3,none⟩=some B.vr∧w.frozen? ⟨g,3,none⟩=false:=by
 obtain ⟨hg,_⟩:=h
 exact ⟨Za hg 0,Za hg 1,Za hg 2,Za hg 3,Zb hg 3⟩
theorem LinksIn.rows {i:Nat} {p:Txt} (hi:P[i]? = some p):w.cell? ⟨B.bf,i,none⟩=some (.int .i64 (F p))∧w.cell? ⟨B.bo,i,none⟩=some (.int .i64 (O p))∧w.cell? ⟨B.bu,i,none⟩=some (.int .i64 (U p))∧w.frozen? ⟨B.bf,i,none⟩=false∧w.frozen? ⟨B.bo,i,none⟩=false∧w.frozen? ⟨B.bu,i,none⟩=false:=by
 obtain ⟨hg,h0,h1,h2,h3,_⟩:=h
 exact ⟨h1.at_ hi,h2.at_ hi,h3.at_ hi,h1.nfree i,h2.nfree i,h3.nfree i⟩
theorem LinksIn.bases:base≤B.bf∧base≤B.bo∧base≤B.bu:=by
 obtain ⟨hg,h0,h1,h2,h3,_⟩:=h
 exact ⟨h1.base.1,h2.base.1,h3.base.1⟩
theorem LinksIn.other {b t:Nat} {cs:Array Value} {fr:Nat × Nat} (hb:w.heap[b]? = some (.cells cs t fr)) (ht:3≠t):b≠B.bf∧b≠B.bo∧b≠B.bu:=by
 obtain ⟨hg,h0,h1,h2,h3,_⟩:=h
 exact ⟨h1.other hb ht,h2.other hb ht,h3.other hb ht⟩
theorem LinksIn.setF (hT:Tree P) {i:Nat} {p:Txt} (hi:P[i]? = some p) {x:Int} (F':Txt→Int) (hx:F' p=x) (ho:∀ y,y≠p→F' y=F y):LinksIn (w.setCell ⟨B.bf,i,none⟩ (.int .i64 x)) base g P F' O U o B:=by
 obtain ⟨hg,h0,h1,h2,h3,h4,h5,h6,h7,h8,h9,h10⟩:=h
 have hk:=XB w ⟨B.bf,i,none⟩ (.int .i64 x)
 exact ⟨(Below.heap_setCell _ _ _ _ (h1.other hg (by decide))).trans hg,h0,h1.set hT hi hx ho,h2.keep hk (fun e=>h4 e.symm),h3.keep hk (fun e=>h5 e.symm),h4,h5,h6,Zj h7 hk (fun b c' _ _ e he=>h8 (by rw [← e];exact congrArg some he)),h8,h9,h10⟩
theorem LinksIn.setO (hT:Tree P) {i:Nat} {p:Txt} (hi:P[i]? = some p) {x:Int} (O':Txt→Int) (hx:O' p=x) (ho:∀ y,y≠p→O' y=O y):LinksIn (w.setCell ⟨B.bo,i,none⟩ (.int .i64 x)) base g P F O' U o B:=by
 obtain ⟨hg,h0,h1,h2,h3,h4,h5,h6,h7,h8,h9,h10⟩:=h
 have hk:=XB w ⟨B.bo,i,none⟩ (.int .i64 x)
 exact ⟨(Below.heap_setCell _ _ _ _ (h2.other hg (by decide))).trans hg,h0,h1.keep hk (fun e=>h4 e),h2.set hT hi hx ho,h3.keep hk (fun e=>h6 e.symm),h4,h5,h6,Zj h7 hk (fun b c' _ _ e he=>h9 (by rw [← e];exact congrArg some he)),h8,h9,h10⟩
theorem LinksIn.setU (hT:Tree P) {i:Nat} {p:Txt} (hi:P[i]? = some p) {x:Int} (U':Txt→Int) (hx:U' p=x) (ho:∀ y,y≠p→U' y=U y):LinksIn (w.setCell ⟨B.bu,i,none⟩ (.int .i64 x)) base g P F O U' o B:=by
 obtain ⟨hg,h0,h1,h2,h3,h4,h5,h6,h7,h8,h9,h10⟩:=h
 have hk:=XB w ⟨B.bu,i,none⟩ (.int .i64 x)
 exact ⟨(Below.heap_setCell _ _ _ _ (h3.other hg (by decide))).trans hg,h0,h1.keep hk (fun e=>h5 e),h2.keep hk (fun e=>h6 e),h3.set hT hi hx ho,h4,h5,h6,Zj h7 hk (fun b c' _ _ e he=>h10 (by rw [← e];exact congrArg some he)),h8,h9,h10⟩
theorem LinksIn.congr {F' O' U':Txt→Int} (hF:∀ x,x∈P→F x=F' x) (hO:∀ x,x∈P→O x=O' x) (hU:∀ x,x∈P→U x=U' x):LinksIn w base g P F' O' U' o B:=by
 obtain ⟨hg,h0,h1,h2,h3,h4⟩:=h
 refine ⟨hg,h0,?_,?_,?_,h4⟩
 · unfold IntRow;rw [← YL hF];exact h1
 · unfold IntRow;rw [← YL hO];exact h2
 · unfold IntRow;rw [← YL hU];exact h3
end
theorem JD {P:List Txt} {a:Nat} {p:Txt} (h:P[a]? = some p) (c:UInt8):stepF P (a:Int) c=place P (p++[c]):=by
 have hl:=(List.getElem?_eq_some_iff.1 h).1
 unfold stepF
 rw [if_pos (by omega),Int.toNat_natCast,List.getD_eq_getElem?_getD,h];rfl
def Yy (P:List Txt) (v:Value):Nat:=if 0≤intOf v then (P.getD (intOf v).toNat []).length+1 else 0
theorem Zbm (P:List Txt) (m:Nat):Yy P (.int .i64 (m:Int))=(P.getD m []).length+1:=by
 unfold Yy intOf
 simp
set_option maxHeartbeats 1600000 in
theorem back_calls (w:World) (base g base2 tg:Nat) (P:List Txt) (W F O U:Txt→Int) (o:List Txt) (ht:TrieAt w base2 tg P W) (B:LB) (hk:LinksIn w base g P F O U o B) (hl:P.length≤1000000) (b1 b2 b3:Nat) (c:UInt8)
    (h1:w.cell? ⟨b1,0,none⟩=some (.pointer (some ⟨g,0,none⟩))) (h2:w.cell? ⟨b2,0,none⟩=some (.pointer (some ⟨tg,0,none⟩))) (h3:w.cell? ⟨b3,0,none⟩=some (.int .u8 (c.toNat:Int)))
    (a:Nat) (q:Txt) (hq:P[a]? = some q) (hF:∀ x,x∈P→x.length≤q.length→F x=ZN P x) :
    Calls Tryz.prog 210 #[.int .i64 (a:Int),.pointer (some ⟨b1,0,none⟩),.pointer (some ⟨b2,0,none⟩),.pointer (some ⟨b3,0,none⟩)] w fun e w'=>e=.returned (.int .i64 (ZN P (q++[c])))∧w=w':=by
 have hT:=As.mk ht.tree
 have hcs:=As.mk (fun n x c h=>XC w base2 tg P W ht hl n x c h)
 obtain ⟨c0,c1,c2,_⟩:=hk.heads
 obtain ⟨l1,l2,l3⟩:=hk.caps
 have hcell:As (∀ i p,P[i]? = some p→w.cell? ⟨B.bf,i,none⟩=some (.int .i64 (F p))):=⟨fun i p h=>(hk.rows h).1⟩
 have hal:=(List.getElem?_eq_some_iff.1 hq).1
 have d0:=hcell.out a q hq
 have hF:=As.mk hF
 have hst:=As.mk (back_start hT.out q c)
 have hstep:=As.mk (fun n=>back_step hT.out (q:=q) (c:=c) (n:=n))
 have hend:=As.mk (fun n=>back_end hT.out (q:=q) (c:=c) (n:=n))
 rw [← hF.out q (List.mem_of_getElem? hq) (Nat.le_refl _)] at hst
 obtain ⟨R,hR⟩:∃ R,ZN P (q++[c])=R:=⟨_,rfl⟩
 rw [hR] at hstep hend
 rw [hR]
 replace hst:=As.mk hst.out
 clear hR hq c1 c2 l2 l3
 generalize F q=f0 at *
 go_enter Tryz.func210,Tryz.ntmps210
 go_wp2
 go_loop [0] (fun v=>∃ n:Int,v=.int .i64 n∧As (Zbh P q c n)) (fun v=>Yy P v)
 case atStart=>exact ⟨f0,rfl,hst⟩
 case round =>
  obtain ⟨n,rfl,hb⟩:=hrel
  by_cases hn:0≤n
  · obtain ⟨r,hr1,hr2,hr3,hr4⟩:=hstep.out n hb.out hn
    obtain ⟨m,hm1,hm2⟩:=Qs hr1
    have hnm:n=(m:Int):=hr2.trans hm1
    have hml:=(List.getElem?_eq_some_iff.1 hm2).1
    have e0:=hcell.out m r hm2
    have hFr:=hF.out r hr1 (by omega)
    have hsa:=JD hm2 c
    have hc2:=As.mk (hcs.out n (c.toNat:Int) c rfl)
    rw [hnm,hsa] at hc2
    have hgd:P.getD m []=r:=by rw [List.getD_eq_getElem?_getD,hm2];rfl
    subst hnm
    rw [hFr] at e0
    have hfs:As (0≤ZN P r→(P.getD (ZN P r).toNat []).length<r.length):=⟨fun h=>by
     obtain ⟨r',k1,k2,k3⟩:=fail_short h
     obtain ⟨m',j1,j2⟩:=Qs k1
     rw [k2,j1,Int.toNat_natCast,List.getD_eq_getElem?_getD,j2]
     exact k3⟩
    have hgd:=As.mk hgd
    replace hr4:=As.mk hr4
    clear hr2 hm1 hm2 hFr hsa hr1
    generalize hfr:ZN P r=fr at *
    generalize hst2:place P (r++[c])=tv at *
    have hfr:=As.mk hfr
    have hst2:=As.mk hst2
    by_cases hto:0≤tv
    · have hfin:As (tv=R):=⟨by
        rcases hr4.out with ⟨_,h⟩ | ⟨h,_⟩
        · exact h.symm
        · omega⟩
      go_wp2_with (go_at_call 179;refine hc2.out.mono ?_;rintro e w' ⟨rfl,rfl⟩)
      go_ret
      exact ⟨QL hfin.out,rfl⟩
    · have hnext:As (Zbh P q c fr):=⟨by
        rcases hr4.out with ⟨h,_⟩ | ⟨_,h⟩
        · exact absurd h hto
        · exact h⟩
      go_wp2_with (go_at_call 179;refine hc2.out.mono ?_;rintro e w' ⟨rfl,rfl⟩)
      go_round
      case rel=>exact ⟨fr,rfl,hnext⟩
      case measure =>
       have h1:=hgd.out
       have h2:=hfs.out
       rw [Zbm,h1]
       unfold Yy
       split
       · rename_i h0
         have:=h2 h0
         simp only [intOf] at *
         omega
       · omega
  · have hfin:As (0=R):=⟨(hend.out n hb.out (by omega)).symm⟩
    go_wp2
    go_ret
    exact ⟨QL hfin.out,rfl⟩
end Go.Proofs.YtfdlaomnecjfeaaGreatDoor
end
section
namespace Go.Proofs.YtfdlaomnecjfeaaGreatDoor
open Go.RowKit Go.Maps Seine.Trie Seine.Links
theorem ZaG {w:World} {b:Nat} {o:Obj} (h:w.heap[b]? = some o):w.drew.heap[b]? = some o:=h
set_option maxRecDepth 100000 in
set_option maxHeartbeats 1600000 in
theorem link_calls (w0 w:World) (base g base2 tg:Nat) (P l:List Txt) (F O U F' O' U':Txt→Int) (o:List Txt) (hw0:w0.heap.size=base) (ht:TrieAt w0 base2 tg P (place l)) (hb:Below base w0 w) (B:LB) (hk:LinksIn w base g P F O U o B)
    (hl:P.length≤1000000) (hd:∀ p∈P,p.length≤100000) (hlP:∀ x,x∈l→x∈P) (a:Nat) (p:Txt) (hp:P[a]? = some p) (hne:p≠[])
    (hF:∀ x,x∈P→x.length<p.length→F x=ZN P x∧O x=outF P l x∧U x=Qw l x) (hU0:U p=0)
    (hF':F' p=ZN P p∧∀ y,y≠p→F' y=F y) (hO':O' p=outF P l p∧∀ y,y≠p→O' y=O y) (hU':U' p=Qw l p∧∀ y,y≠p→U' y=U y) :
    Calls Tryz.prog 180 #[.pointer (some ⟨g,0,none⟩),.pointer (some ⟨tg,0,none⟩),.int .i64 (a:Int)] w fun e w'=>e=.returned (.tuple #[])∧LinksIn w' base g P F' O' U' o B∧Below base w w':=by
 have hT:=As.mk ht.tree
 have hal:=(List.getElem?_eq_some_iff.1 hp).1
 have htw:∀ {v},Below base w0 v→TrieAt v base2 tg P (place l):=fun h=>ht.below (by rw [hw0];exact h)
 have htw:=As.mk @htw
 have hbs:base≤w.heap.size:=by have:=hb.size;omega
 obtain ⟨q,c,hqc⟩:∃ q c,p=q++[c]:=⟨_,_,(Zdf hne).symm⟩
 have hpa:YW P (a:Int)=p:=by
  unfold YW
  rw [if_pos (by omega),Int.toNat_natCast,List.getD_eq_getElem?_getD,hp];rfl
 have hup:q∈P:=by
  have:=hT.out.up p (List.mem_of_getElem? hp) hne
  rwa [hqc,List.dropLast_concat] at this
 obtain ⟨b,hb1,hb2⟩:=Qs hup
 have hpar:askF P (parent P) (-1) (a:Int)=(b:Int):=by
  unfold askF parent
  rw [if_pos (by omega),Int.toNat_natCast,List.getD_eq_getElem?_getD,hp]
  simp only [Option.getD_some]
  rw [if_neg hne,hqc,List.dropLast_concat,hb1]
 have hw:askF P (place l) (-1) (a:Int)=place l p:=by
  unfold askF
  rw [if_pos (by omega),Int.toNat_natCast,List.getD_eq_getElem?_getD,hp];rfl
 have hpl:p.length=q.length+1:=by rw [hqc];simp
 have hpd:=hd p (List.mem_of_getElem? hp)
 have hpaths:=As.mk (fun v hv=>ZaL v base2 tg P (place l) (htw.out hv) (a:Int) hd)
 have hpars:=As.mk (fun v hv=>JA v base2 tg P (place l) (htw.out hv) (a:Int))
 have hwords:=As.mk (fun v hv=>Zde v base2 tg P (place l) (htw.out hv) (a:Int))
 rw [hpa] at hpaths
 rw [hpar] at hpars
 rw [hw] at hwords
 have hb:=As.mk hb
 have hk:=As.mk hk
 have hmf:∀ (fn:Fn) (first cap:Array Value) (w:World),(Instr.makeFunc fn first cap).run Tryz.prog w=.ok (.func fn first cap) w:=fun _ _ _ _=>rfl
 clear hpa hpar hw ht
 go_enter Tryz.func180,Tryz.ntmps180
 go_wp2_with fail
 have x1:=Zn (o':=.cells #[.pointer (some ⟨tg,0,none⟩)] 228) (heap_alloc_new w (.cells #[.pointer (some ⟨g,0,none⟩)] 230))
 have x2:=Q8 w (.cells #[.pointer (some ⟨g,0,none⟩)] 230) (.cells #[.pointer (some ⟨tg,0,none⟩)] 228)
 have hbel2:Below w.heap.size w ((w.alloc (.cells #[.pointer (some ⟨g,0,none⟩)] 230)).alloc (.cells #[.pointer (some ⟨tg,0,none⟩)] 228)):=(((Below.refl _ _).alloc (Nat.le_refl _) _).alloc (by simp) _)
 replace x1:=As.mk x1
 replace x2:=As.mk x2
 replace hbel2:=As.mk hbel2
 generalize (w.alloc (.cells #[.pointer (some ⟨g,0,none⟩)] 230)).alloc (.cells #[.pointer (some ⟨tg,0,none⟩)] 228)=w2 at *
 have hb02:=As.mk (hb.out.trans (hbel2.out.mono hbs))
 refine (hpaths.out w2 hb02.out).mono ?_
 intro e w3 hr
 obtain ⟨A,cp,rfl,hby,hbel3⟩:=hr.row
 rw [hpl]
 obtain ⟨ad,rfl,y0⟩:=Byt.at_ hby (i:=q.length) (by omega)
 have hlast:p.getD q.length 0=c:=by rw [hqc];simp [List.getD_eq_getElem?_getD]
 rw [hlast] at y0
 clear hlast hby hr hpaths
 have hbel3':=As.mk (hbel2.out.trans (hbel3.mono hbel2.out.size))
 replace x1:=As.mk ((hbel3.block _ (Zf x1.out)).trans x1.out)
 replace x2:=As.mk ((hbel3.block _ (Zf x2.out)).trans x2.out)
 have hw2:=Zf x2.out
 clear hbel3 hbel2 hb02
 generalize hqn:q.length=n at *
 have z1:=Zn (o':=.cells #[.int .u8 (c.toNat:Int)] 5) x1.out
 have z2:=Zn (o':=.cells #[.int .u8 (c.toNat:Int)] 5) x2.out
 have z3:=heap_alloc_new w3 (.cells #[.int .u8 (c.toNat:Int)] 5)
 have hbel4:Below w.heap.size w (w3.alloc (.cells #[.int .u8 (c.toNat:Int)] 5)):=hbel3'.out.alloc hbel3'.out.size _
 have v1:=Za z1 0
 have v2:=Za z2 0
 have v3:=Za z3 0
 go_wp2_with fail
 replace z1:=As.mk z1
 replace z2:=As.mk z2
 replace z3:=As.mk z3
 replace hbel4:=As.mk hbel4
 clear x1 x2 hbel3' y0
 generalize w3.alloc (.cells #[.int .u8 (c.toNat:Int)] 5)=w4 at *
 generalize w3.heap.size=b3 at *
 have hb04:=As.mk (hb.out.trans (hbel4.out.mono hbs))
 have hb3:=Zf z3.out
 have hk4:=As.mk (hk.out.below hbel4.out)
 refine (hpars.out w4 hb04.out).mono ?_
 rintro e w4' ⟨rfl,rfl⟩
 go_wp2_with fail
 have hcc:=back_calls w4 base g base2 tg P (place l) F O U o (htw.out hb04.out) B hk4.out hl w.heap.size (w.heap.size+1) b3 c v1 v2 v3 b q hb2 (fun x hx hle=>(hF x hx (by omega)).1)
 rw [← hqc] at hcc
 refine hcc.mono ?_
 rintro e w4' ⟨rfl,rfl⟩
 obtain ⟨nn,hnn⟩:=Y3 hT.out hne
 obtain ⟨j1,j2,j3,_⟩:=Qx hnn
 have hor:=out_rec hlP hnn
 have hfp:ZN P p=place P (p.drop nn):=by unfold ZN;rw [hnn]
 have hrl:(p.drop nn).length<p.length:=by rw [List.length_drop];omega
 generalize p.drop nn=r at *
 obtain ⟨fi,hf1,hf2⟩:=Qs j3
 obtain ⟨_,g2,g3⟩:=hF r j3 hrl
 have hrp:r≠p:=fun e=>by rw [e] at hrl;omega
 rw [hfp,hf1] at hF'
 rw [hfp,hf1]
 rw [hf1] at hor
 have k5:=hk4.out.setF hT.out hp F' hF'.1 hF'.2
 have k6:=k5.setO hT.out hp (x:=(fi:Int)) (fun y=>if y=p then (fi:Int) else O y) (if_pos rfl) (fun y h=>if_neg h)
 have n1:=hk4.out.other z1.out (by decide)
 have n2:=hk4.out.other z2.out (by decide)
 have q1:=Z2 z1.out (p:=⟨B.bf,a,none⟩) n1.1 (.int .i64 (fi:Int))
 have q2:=Z2 z2.out (p:=⟨B.bf,a,none⟩) n2.1 (.int .i64 (fi:Int))
 have r1:=Z2 q1 (p:=⟨B.bo,a,none⟩) n1.2.1 (.int .i64 (fi:Int))
 have r2:=Z2 q2 (p:=⟨B.bo,a,none⟩) n2.2.1 (.int .i64 (fi:Int))
 have bb5:=(Below.refl base w4).setCell (p:=⟨B.bf,a,none⟩) hk4.out.bases.1 (.int .i64 (fi:Int))
 have bb6:=bb5.setCell (p:=⟨B.bo,a,none⟩) hk4.out.bases.2.1 (.int .i64 (fi:Int))
 obtain ⟨t0,t1,t2,t3,_⟩:=hk4.out.heads
 obtain ⟨u0,u1,u2,u3,_⟩:=k5.heads
 obtain ⟨s0,s1,s2,s3,_⟩:=k6.heads
 obtain ⟨_,_,_,f4,_,_⟩:=hk4.out.rows hp
 obtain ⟨_,_,_,_,f5,_⟩:=k5.rows hp
 obtain ⟨_,_,_,_,f6,_⟩:=k6.rows hp
 obtain ⟨_,m2,m3,_⟩:=k6.rows hf2
 rw [g3] at m3
 simp only [if_neg hrp] at m2
 rw [g2] at m2
 have e1:=Za q1 0
 have e2:=Za r1 0
 have l1:=hk4.out.caps
 have hfil:=(List.getElem?_eq_some_iff.1 hf2).1
 clear hcc u0 u2 s0 n1 n2 q1 q2
 have k5:=As.mk k5
 have k6:=As.mk k6
 have bb6:=As.mk bb6
 have e3:=Za r2 0
 by_cases ho:Qw l r=0
 · rw [if_pos ho] at hor
   rw [ho] at m3
   have k7:=k6.out.setO hT.out hp (x:=outF P l r) O' (hO'.1.trans hor) (fun y h=>(hO'.2 y h).trans (if_neg h).symm)
   have y1:=Z2 r1 (p:=⟨B.bo,a,none⟩) (k6.out.other r1 (by decide)).2.1 (.int .i64 (outF P l r))
   have y2:=Z2 r2 (p:=⟨B.bo,a,none⟩) (k6.out.other r2 (by decide)).2.1 (.int .i64 (outF P l r))
   have bb7:=As.mk (bb6.out.setCell (p:=⟨B.bo,a,none⟩) k6.out.bases.2.1 (.int .i64 (outF P l r)))
   have e4:=Za y2 0
   replace k7:=As.mk k7
   generalize outF P l r=ov at *
   go_wp2_with fail
   go_region
   all_goals
    go_wp2_with fail
    replace k7:=k7.out.below (Below.drew (Below.refl _ _))
    replace bb7:=As.mk (Below.drew bb7.out)
    have hb07:=hb04.out.trans bb7.out
    have y1':=ZaG y1
    replace hb07:=As.mk hb07
    replace k7:=As.mk k7
    refine (hwords.out _ hb07.out).mono ?_
    rintro e w8 ⟨rfl,rfl⟩
    have p1:=Za y1 0
    obtain ⟨_,_,i2,_⟩:=k7.out.heads
    obtain ⟨_,_,_,_,_,f8⟩:=k7.out.rows hp
    by_cases hin:p∈l
    · have hge:=place_mem.2 hin
      have hown:Qw l p=((n:Int)+1):=by unfold Qw;rw [if_pos hin,hpl];push_cast;rfl
      have k8:=k7.out.setU hT.out hp U' (x:=(n:Int)+1) (hU'.1.trans hown) hU'.2
      have bb8:=bb7.out.setCell (p:=⟨B.bu,a,none⟩) k7.out.bases.2.2 (.int .i64 ((n:Int)+1))
      replace k8:=As.mk k8
      replace bb8:=As.mk bb8
      clear hown hin
      generalize place l p=wd at *
      go_wp2
      go_end0
      exact ⟨rfl,k8.out,(hbel4.out.mono hbs).trans bb8.out⟩
    · have hno:=ZQ hin
      have k8:=k7.out.congr (F':=F') (O':=O') (U':=U') (fun _ _=>rfl) (fun _ _=>rfl) (fun x _=>by
       by_cases hx:x=p
       · rw [hx,hU0,hU'.1];unfold Qw;rw [if_neg hin]
       · exact (hU'.2 x hx).symm)
      replace k8:=As.mk k8
      rw [hno]
      clear hno hin
      go_wp2
      go_end0
      exact ⟨rfl,k8.out,(hbel4.out.mono hbs).trans bb7.out⟩
 · rw [if_neg ho] at hor
   have hO1:∀ x,x∈P→(if x=p then (fi:Int) else O x)=O' x:=fun x _=>by
    by_cases hx:x=p
    · rw [if_pos hx,hx,hO'.1,hor]
    · rw [if_neg hx,hO'.2 x hx]
   have k7:=k6.out.congr (F':=F') (O':=O') (U':=U) (fun _ _=>rfl) hO1 (fun _ _=>rfl)
   have y1:=r1
   have bb7:=bb6
   clear hO1 hor
   replace k7:=As.mk k7
   go_wp2_with fail
   replace k7:=k7.out
   have hb07:=hb04.out.trans bb7.out
   replace hb07:=As.mk hb07
   replace k7:=As.mk k7
   refine (hwords.out _ hb07.out).mono ?_
   rintro e w8 ⟨rfl,rfl⟩
   have p1:=Za y1 0
   obtain ⟨_,_,i2,_⟩:=k7.out.heads
   obtain ⟨_,_,_,_,_,f8⟩:=k7.out.rows hp
   by_cases hin:p∈l
   · have hge:=place_mem.2 hin
     have hown:Qw l p=((n:Int)+1):=by unfold Qw;rw [if_pos hin,hpl];push_cast;rfl
     have k8:=k7.out.setU hT.out hp U' (x:=(n:Int)+1) (hU'.1.trans hown) hU'.2
     have bb8:=bb7.out.setCell (p:=⟨B.bu,a,none⟩) k7.out.bases.2.2 (.int .i64 ((n:Int)+1))
     replace k8:=As.mk k8
     replace bb8:=As.mk bb8
     clear hown hin
     generalize place l p=wd at *
     go_wp2
     go_end0
     exact ⟨rfl,k8.out,(hbel4.out.mono hbs).trans bb8.out⟩
   · have hno:=ZQ hin
     have k8:=k7.out.congr (F':=F') (O':=O') (U':=U') (fun _ _=>rfl) (fun _ _=>rfl) (fun x _=>by
      by_cases hx:x=p
      · rw [hx,hU0,hU'.1];unfold Qw;rw [if_neg hin]
      · exact (hU'.2 x hx).symm)
     replace k8:=As.mk k8
     rw [hno]
     clear hno hin
     go_wp2
     go_end0
     exact ⟨rfl,k8.out,(hbel4.out.mono hbs).trans bb7.out⟩
end Go.Proofs.YtfdlaomnecjfeaaGreatDoor
end
