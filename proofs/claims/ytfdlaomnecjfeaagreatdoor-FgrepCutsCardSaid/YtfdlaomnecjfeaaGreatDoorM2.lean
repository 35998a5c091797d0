/- Joined texts: PickRun, Maps, Meter, TrieWalk, TrieWalk2, TrieWalk3, TrieBuild. -/
import Derived.Test.YtfdlaomnecjfeaaGreatDoorM1
import Derived.Maps.OwnSet
import Derived.Maps.OwnOps
import Derived.Deep.QuietTactic
import Derived.BigQuiet
import Derived.Laws.StructEq
import Derived.WalkSpells
import Derived.Test.YtfdlaomnecjfeaaGreatDoorProg
import Derived.Deep.DeepCutAuto
import Derived.StillTailTactics
import Derived.Deep.AppendLies
import Derived.Deep.RegionLaw
import Derived.WalkMore
import Derived.ProofKit
set_option linter.unusedVariables false
set_option linter.unusedSimpArgs false
section
namespace Go.Proofs.YtfdlaomnecjfeaaGreatDoor
open Go.RowKit
/-- What a round of 'First' hands on: the result's block, the best one's, and all that was there. -/
def FirstRel (w wr:World) (b:Option Pr):Prop :=
 wr.heap[w.heap.size]? = some (.cells #[.int .i64 0,.int .i64 0] 67 (0,0)) ∧
 wr.heap[w.heap.size+1]? = some (.cells #[.int .i64 (b.getD (0,0)).1,.int .i64 (b.getD (0,0)).2] 67 (0,0))∧Below w.heap.size w wr
theorem FirstRel.kept {w wr:World} {b:Option Pr} (h:FirstRel w wr b) (o:Obj):FirstRel w (wr.alloc o) b:=⟨Zn h.1,Zn h.2.1,h.2.2.alloc h.2.2.size _⟩
theorem FirstRel.taken {w wr:World} {b:Option Pr} (h:FirstRel w wr b) (s e:Int) (o:Obj) :
    FirstRel w (((wr.setCell ⟨w.heap.size+1,0,none⟩ (.int .i64 s)).setCell ⟨w.heap.size+1,1,none⟩ (.int .i64 e)).alloc o) (some (s,e)) :=
 ⟨Zn (Z2 (Z2 h.1 (by simp) _) (by simp) _),Zn (Zi (Zi h.2.1 0 _) 1 _),((h.2.2.setCell (by simp) _).setCell (by simp) _).alloc (by have:=h.2.2.size;simpa using this) _⟩
set_option maxRecDepth 100000 in
set_option maxHeartbeats 1600000 in
theorem Zca (A:Option Addr) (c:Nat) (xs:List Pr) (fr:Int) (w:World) (hx:Prs w A xs) (hl:xs.length≤1000000000) :
    Calls Tryz.prog 85 #[.slice A xs.length c,.int .i64 fr] w fun e w'=>e=.returned (.tuple #[.agg #[.int .i64 ((Seine.Pick.first xs fr).getD (0,0)).1,.int .i64 ((Seine.Pick.first xs fr).getD (0,0)).2],.bool (Seine.Pick.first xs fr).isSome])∧Below w.heap.size w w':=by
 have hu25:=Tryz.underlying67
 have HX:=As.mk hx
 clear hx
 obtain ⟨R,hR⟩:∃ R,Seine.Pick.first xs fr=R:=⟨_,rfl⟩
 rw [hR]
 have HR:=As.mk hR
 clear hR
 go_enter Tryz.func85,Tryz.ntmps85
 go_wp2
 go_loopw [7,13] (fun v i wr=>∃ k:Nat,k≤xs.length∧i=.int .i64 k∧v=.bool (Seine.Pick.first (xs.take k) fr).isSome∧FirstRel w wr (Seine.Pick.first (xs.take k) fr)) (fun _ i _=>xs.length - (intOf i).toNat)
 case atStart=>exact ⟨0,Nat.zero_le _,rfl,rfl,Zn (heap_alloc_new _ _),Q8 _ _ _,((Below.refl _ _).alloc (Nat.le_refl _) _).alloc (by simp) _⟩
 case round =>
  obtain ⟨k,hk,rfl,rfl,hrel⟩:=hrel
  by_cases hlt:k<xs.length
  · have hts:=As.mk (show Seine.Pick.first (xs.take (k+1)) fr=Seine.Pick.stepF fr (Seine.Pick.first (xs.take k) fr) (xs.getD k (0,0)) by rw [List.take_succ_eq_append_getElem hlt,Seine.Pick.first_snoc];simp [hlt])
    obtain ⟨ad,rfl,a1,a2⟩:=Prs.at_ (HX.out.below hrel.2.2) hlt
    generalize xs.getD k (0,0)=p at *
    generalize Seine.Pick.first (xs.take k) fr=b at *
    obtain ⟨s,e⟩:=p
    have c0:=Za hrel.2.1 0
    have c1:=Za hrel.2.1 1
    have f0:=Zb hrel.2.1 0
    have f1:=Zb hrel.2.1 1
    have hs:w.heap.size+1<wr.heap.size:=Zf hrel.2.1
    simp at c0 c1
    by_cases hv:s<e∧fr≤s
    · obtain ⟨hv1,hv2⟩:=hv
      cases b with
      | none =>
        have hK:As (Seine.Pick.stepF fr none (s,e)=some (s,e)):=⟨by simp [Seine.Pick.stepF,Seine.Pick.live,hv1,hv2]⟩
        go_wp2
        go_roundw
        case rel=>exact ⟨k+1,by omega,by go_num,congrArg Value.bool (by rw [hts.out,hK.out];rfl),by rw [hts.out,hK.out];exact hrel.taken _ _ _⟩
        case measure=>simp [intOf];omega
      | some q =>
        obtain ⟨q1,q2⟩:=q
        have c0:wr.cell? ⟨w.heap.size+1,0,none⟩=some (.int .i64 q1):=c0
        have c1:wr.cell? ⟨w.heap.size+1,1,none⟩=some (.int .i64 q2):=c1
        have HK:As (Seine.Pick.stepF fr (some (q1,q2)) (s,e)=if Seine.Pick.beats (s,e) (q1,q2) then some (s,e) else some (q1,q2)):=⟨by simp [Seine.Pick.stepF,Seine.Pick.live,hv1,hv2]⟩
        rcases (show s<q1∨(s=q1∧q2<e)∨(s=q1∧e≤q2)∨q1<s by omega) with hq | ⟨rfl,hq⟩ | ⟨rfl,hq⟩ | hq
        · have hK:=As.mk (HK.out.trans (if_pos (Seine.Pick.beats_iff.2 (by simp;omega))))
          go_wp2
          go_roundw
          case rel=>exact ⟨k+1,by omega,by go_num,congrArg Value.bool (by rw [hts.out,hK.out];rfl),by rw [hts.out,hK.out];exact hrel.taken _ _ _⟩
          case measure=>simp [intOf];omega
        · have hK:=As.mk (HK.out.trans (if_pos (Seine.Pick.beats_iff.2 (by simp;omega))))
          go_wp2
          go_roundw
          case rel=>exact ⟨k+1,by omega,by go_num,congrArg Value.bool (by rw [hts.out,hK.out];rfl),by rw [hts.out,hK.out];exact hrel.taken _ _ _⟩
          case measure=>simp [intOf];omega
        · have hK:=As.mk (HK.out.trans (if_neg (fun h=>by have:=Seine.Pick.beats_iff.1 h;simp at this;omega)))
          go_wp2
          go_roundw
          case rel=>exact ⟨k+1,by omega,by go_num,congrArg Value.bool (by rw [hts.out,hK.out];rfl),by rw [hts.out,hK.out];exact hrel.kept _⟩
          case measure=>simp [intOf];omega
        · have hK:=As.mk (HK.out.trans (if_neg (fun h=>by have:=Seine.Pick.beats_iff.1 h;simp at this;omega)))
          go_wp2
          go_roundw
          case rel=>exact ⟨k+1,by omega,by go_num,congrArg Value.bool (by rw [hts.out,hK.out];rfl),by rw [hts.out,hK.out];exact hrel.kept _⟩
          case measure=>simp [intOf];omega
    · have hK:As (Seine.Pick.stepF fr b (s,e)=b):=⟨if_neg (fun h=>hv (Seine.Pick.live_iff.1 h))⟩
      rcases (show e≤s∨(s<e∧s<fr) by omega) with hv | ⟨hv,hv2⟩
      all_goals
       go_wp2
       go_roundw
       case rel=>exact ⟨k+1,by omega,by go_num,congrArg Value.bool (by rw [hts.out,hK.out]),by rw [hts.out,hK.out];exact hrel.kept _⟩
       case measure=>simp [intOf];omega
  · have hfin:As (Seine.Pick.first (xs.take k) fr=R):=⟨by rw [List.take_of_length_le (by omega)];exact HR.out⟩
    rw [hfin.out] at hrel
    rw [hfin.out]
    have c0:=Za hrel.2.1 0
    have c1:=Za hrel.2.1 1
    have d0:=Za hrel.1 0
    have d1:=Za hrel.1 1
    have f0:=Zb hrel.1 0
    have f1:=Zb hrel.1 1
    have hs:w.heap.size+1<wr.heap.size:=Zf hrel.2.1
    simp at c0 c1 d0 d1
    go_wp2
    have e0:(wr.setCell ⟨w.heap.size,0,none⟩ (.int .i64 (R.getD (0,0)).1)).cell? ⟨w.heap.size,0,none⟩=some (.int .i64 (R.getD (0,0)).1):=Za (Zi hrel.1 0 _) 0
    have e1:((wr.setCell ⟨w.heap.size,0,none⟩ (.int .i64 (R.getD (0,0)).1)).setCell ⟨w.heap.size,1,none⟩ (.int .i64 (R.getD (0,0)).2)).cell? ⟨w.heap.size,1,none⟩=some (.int .i64 (R.getD (0,0)).2):=Za (Zi (Zi hrel.1 0 _) 1 _) 1
    refine bodyPost_ret (v:=.tuple #[.agg #[.int .i64 (R.getD (0,0)).1,.int .i64 (R.getD (0,0)).2],.bool R.isSome]) (by simp [results,Tryz.results85,go_sem,e0,e1]) rfl ⟨rfl,?_⟩
    exact (hrel.2.2.setCell (by simp) _).setCell (by simp) _
def XU:Int:=-9223372036854775808
/-- what a round of 'Longest' hands on -/
def LongRel (w wr:World) (xs R:List Pr) (v i:Value):Prop :=
 ∃ (acc:List Pr) (f:Int),i=.int .i64 f∧acc++Seine.Pick.longest xs f=R∧OwnPrs wr w.heap.size v acc∧Below w.heap.size w wr∧acc.length+Seine.Pick.left xs f≤xs.length
theorem LongRel.next {w w1 w2:World} {xs R acc:List Pr} {f:Int} {v:Value} {p:Pr} (hf:Seine.Pick.first xs f=some p) (hR:acc++Seine.Pick.longest xs f=R)
    (ho:OwnPrs w1 w.heap.size v acc) (hl:acc.length+Seine.Pick.left xs f≤xs.length) {v':Value} (ho':w2.ownsRow w.heap.size 67 2 v' (acc.length+1) (Zr acc++[.int .i64 p.1,.int .i64 p.2]))
    (hb:Below w.heap.size w w2):LongRel w w2 xs R v' (.int .i64 p.2):=by
 refine ⟨acc++[p],p.2,rfl,?_,?_,hb,?_⟩
 · rw [← hR,Seine.Pick.longest_some hf];simp
 · have:(acc++[p]).length=acc.length+1:=by simp
   unfold OwnPrs
   rw [this,Xa];exact ho'
 · have:=Seine.Pick.left_lt hf;simp;omega
set_option maxRecDepth 100000 in
set_option maxHeartbeats 1600000 in
theorem longest_calls (A:Option Addr) (c:Nat) (xs:List Pr) (w:World) (hx:Prs w A xs) (hl:xs.length≤1000000000) :
    Calls Tryz.prog 41 #[.slice A xs.length c] w (RetPrs w (Seine.Pick.longest xs XU)):=by
 have hu25:=Tryz.underlying67
 have HX:=As.mk hx
 clear hx
 obtain ⟨R,hR⟩:∃ R,Seine.Pick.longest xs XU=R:=⟨_,rfl⟩
 rw [hR]
 have HR:=As.mk hR
 clear hR
 go_enter Tryz.func41,Tryz.ntmps41
 go_wp2
 go_step3
 go_wp2
 go_step3
 go_wp2
 go_loopw [3,4] (fun v i wr=>LongRel w wr xs R v i) (fun _ i _=>Seine.Pick.left xs (intOf i))
 case atStart=>exact ⟨[],XU,rfl,HR.out,World.ownsRow_nil _ _ _ _,Below.refl _ _,by have:=Seine.Pick.left_le xs XU;simpa using this⟩
 case round =>
  obtain ⟨acc,f,rfl,hr,hown,hbel,hlen⟩:=hrel
  have hr:=As.mk hr
  have hlen:=As.mk hlen
  have hown:=As.mk hown
  cases hf:Seine.Pick.first xs f with
  | none =>
    have hc:=Zca A c xs f wr (HX.out.below hbel) hl
    rw [hf] at hc
    have hf:=As.mk hf
    go_wp2_with (go_at_call 85;refine hc.mono ?_;rintro e w1 ⟨rfl,hb1⟩)
    go_ret
    refine ⟨_,rfl,?_,(Jj hbel hb1 hbel.size).alloc (by have:=hbel.size;have:=hb1.size;omega) _⟩
    have:R=acc:=by rw [← hr.out,Seine.Pick.longest_none hf.out];simp
    rw [this]
    exact (Zo hown.out hb1).alloc _
  | some p =>
    have hc:=Zca A c xs f wr (HX.out.below hbel) hl
    rw [hf] at hc
    have hlt:=Seine.Pick.left_lt hf
    have hf:=As.mk hf
    obtain ⟨s,e⟩:=p
    go_wp2_with (first
     | (go_at_call 85;refine hc.mono ?_;rintro e1 w1 ⟨rfl,hb1⟩)
     | (at_builtin
        refine ZA _ rfl (.tmp 15) (.tmp 17) 64 rfl w.heap.size 67 _ 2 16 Tryz.underlying64 Xl rfl (by decide) _ acc.length (Zr acc) rfl ((Zo hown.out hb1).alloc _) [.int .i64 s,.int .i64 e] rfl (by simp [Value.oneCell']) _ rfl (by simp) (by have:=hlen.out;omega) (by decide) (by have:=hbel.size;have:=hb1.size;simp;omega) ?_
        intro v' w2 ho hk2 hat hb2
        have hbx:w2.heap[w1.heap.size]? = some (.cells #[.int .i64 s,.int .i64 e] 67 (0,0)):=(hk2.block _ (by simp) (fun h=>by have:=ZM (Zo hown.out hb1) h;omega)).trans (heap_alloc_new _ _)
        have c1:=Za hbx 1
        simp at c1))
    go_roundw
    case rel=>exact LongRel.next hf.out hr.out hown.out hlen.out ho (((Jj hbel hb1 hbel.size).alloc (by have:=hbel.size;have:=hb1.size;omega) _).trans hb2)
    case measure=>simpa [intOf] using hlt
end Go.Proofs.YtfdlaomnecjfeaaGreatDoor
end
section
namespace Go.Proofs.YtfdlaomnecjfeaaGreatDoor
open Go.RowKit Go.Maps
/-- Block b of w is a map that holds just f. -/
def MapIs (P:Program) (k e:TypeId) (w:World) (b n:Nat) (f:Value→Option Int):Prop :=
 ∃ D:DataW Unit,w.ownsMap P k (plainElem P e) b n D∧IsMap D∧(∀ key kl,keyOf P k key=some kl→Maps.has D kl=(f key).isSome∧∀ c,f key=some c→D.atKey kl (.lit (.int .i64 0))=.lit (.int .i64 c))
section
variable {P:Program} {t k e:TypeId} {w w':World} {b n:Nat} {f:Value→Option Int}
theorem MapIs.made (w:World) (P:Program) (k e:TypeId):MapIs P k e (w.alloc (.map #[] 0)) w.heap.size 0 (fun _=>none) :=
 ⟨.map [],World.ownsMap_made _ _ _ _,isMap_empty,fun key kl h=>⟨rfl,by simp⟩⟩
theorem MapIs.lt (h:MapIs P k e w b n f):b<w.heap.size:=by obtain ⟨D,h,_⟩:=h;exact h.lt
theorem MapIs.kept {row:Option Nat} (h:MapIs P k e w b n f) (hg:w.grownBy w' row) (hne:some b≠row):MapIs P k e w' b n f:=by
 obtain ⟨D,h1,h2⟩:=h;exact ⟨D,h1.kept hg hne,h2⟩
theorem MapIs.keep {S:Nat→Prop} (h:MapIs P k e w b n f) (hk:Keeps S w w') (hS:¬ S b):MapIs P k e w' b n f:=by
 obtain ⟨D,⟨es,clock,hb,r⟩,h2⟩:=h
 exact ⟨D,⟨es,clock,(hk.block b (Zf hb) hS).trans hb,r⟩,h2⟩
theorem MapIs.below (h:MapIs P k e w b n f) (hb:Below w.heap.size w w'):MapIs P k e w' b n f:=h.keep (Keeps.of_below hb (fun _=>False)) (fun h=>h)
theorem MapIs.is_map (h:MapIs P k e w b n f):∃ es clock,w.heap[b]? = some (.map es clock):=by
 obtain ⟨D,⟨es,clock,hb,r⟩,h2⟩:=h;exact ⟨es,clock,hb⟩
theorem MapIs.mono {n':Nat} (h:MapIs P k e w b n f) (hn:n≤n'):MapIs P k e w b n' f:=by
 obtain ⟨D,h1,h2⟩:=h;exact ⟨D,h1.mono hn,h2⟩
/-- A look-up, with ok. -/
theorem MapIs.look (h:MapIs P k e w b n f) (K:Keyed P k) (ht:P.underlying t=some (.map k e)) (he:P.underlying e=some (.int .i64)) (hz:(zeroValue e).run P w=.ok (.int .i64 0) w) {key:Value} {kl:Lit} (hkey:keyOf P k key=some kl) :
    (Instr.lookup t (.map (some b)) key true).run P w=.ok (.tuple #[.int .i64 ((f key).getD 0),.bool (f key).isSome]) w:=by
 obtain ⟨D,h1,_,h2⟩:=h
 obtain ⟨v,ps,hrun,hv⟩:=h1.look_ok K ht hz (plainElem_int (H:=Unit) he (by decide)) hkey
 obtain ⟨c,rfl,hc,hwc⟩:=plainElem_int_inv he hv
 have hc:D.atKey kl (.lit (.int .i64 0))=.lit (.int .i64 c):=congrArg Prod.fst hc
 obtain ⟨a1,a2⟩:=h2 key kl hkey
 rw [hrun,a1]
 cases hf:f key with
 | none =>
   rw [hf] at a1
   have:=atKey_of_not_has a1 (.lit (.int .i64 0))
   rw [hc] at this
   injection this with this
   injection this with _ this
   subst this;rfl
 | some d =>
   have:=a2 d hf
   rw [hc] at this
   injection this with this
   injection this with _ this
   subst this;rfl
/-- A store. -/
theorem MapIs.put (h:MapIs P k e w b n f) (K:Keyed P k) (ht:P.underlying t=some (.map k e)) (he:P.underlying e=some (.int .i64)) (hn:n<maxLen) {key:Value} {kl:Lit} (hkey:keyOf P k key=some kl) {v:Int} (hv:(Lit.int .i64 v).wf=true) {f':Value→Option Int} (hf1:f' key=some v) (hf2:∀ x,x≠key→f' x=f x) :
    ∃ w',(Instr.mapUpdate t (.map (some b)) key (.int .i64 v)).run P w=.ok () w'∧MapIs P k e w' b (n+1) f'∧w.grownBy w' (some b):=by
 obtain ⟨D,h1,hm,h2⟩:=h
 obtain ⟨w',hrun,r1,r2⟩:=h1.update K ht hn hkey (plainElem_int (H:=Unit) he hv)
 refine ⟨w',hrun,⟨_,r1,hm.put _ _,fun key' kl' hkey'=>?_⟩,r2⟩
 by_cases hx:key'=key
 · subst hx
   rw [hkey] at hkey'
   injection hkey' with hkey'
   subst hkey'
   rw [hf1]
   refine ⟨has_put_same hm (K.key hkey) _,fun c hc=>?_⟩
   injection hc with hc
   subst hc
   exact atKey_put_same hm (K.key hkey) _ _
 · rw [hf2 _ hx]
   have hne:kl'≠kl:=fun hh=>by subst hh;exact hx (K.inj hkey' hkey)
   rw [has_put_other hne,atKey_put_other hne]
   exact h2 key' kl' hkey'
end
end Go.Proofs.YtfdlaomnecjfeaaGreatDoor
end
section
namespace Go.Proofs.YtfdlaomnecjfeaaGreatDoor
open Go.RowKit Seine.Trie
/-- How often what was done. -/
structure Cn where
 s:Int
 l:Int
 h:Int
 m:Int
def Cn.zero:Cn:=⟨0,0,0,0⟩
def Cn.ok (c:Cn):Prop:=0≤c.s∧c.s≤1000000000000∧0≤c.l∧c.l≤1000000000000∧0≤c.h∧c.h≤1000000000000∧0≤c.m∧c.m≤1000000000000
def Qr (c:Cn):Array Value:=#[.int .i64 c.s,.int .i64 c.l,.int .i64 c.h,.int .i64 c.m]
/-- Block g counts c. -/
def MtAt (w:World) (g:Nat) (c:Cn):Prop:=w.heap[g]? = some (.cells (Qr c) 213 (0,0))
/-- The meter, if there is one, counts c. -/
def Mo (w:World) (mo:Option Nat) (c:Cn):Prop:=∀ g,mo=some g→MtAt w g c
def Xk (mo:Option Nat):Option Addr:=mo.map fun g=>⟨g,0,none⟩
def Zu (mo:Option Nat) (k:Nat):Prop:=mo=some k
theorem MtAt.below {w w':World} {g:Nat} {c:Cn} (h:MtAt w g c) (hb:Below w.heap.size w w'):MtAt w' g c:=(hb.block g (Zf h)).trans h
theorem Mo.below {w w':World} {mo:Option Nat} {c:Cn} (h:Mo w mo c) (hb:Below w.heap.size w w'):Mo w' mo c:=fun g e=>(h g e).below hb
theorem Mo.none_ (w:World) (c:Cn):Mo w none c:=fun g e=>by cases e
theorem Mo.some_ {w:World} {g:Nat} {c:Cn} (h:MtAt w g c):Mo w (some g) c:=fun g' e=>by injection e with e;subst e;exact h
/-- A block of another make is not the meter's. -/
theorem Mo.far {w:World} {mo:Option Nat} {c:Cn} (h:Mo w mo c) {b t:Nat} {cs:Array Value} {fr:Nat × Nat} (hb:w.heap[b]? = some (.cells cs t fr)) (hs:cs.size≠4∨t≠213):¬ Zu mo b:=fun e=>by
 have:=h b e
 unfold MtAt at this
 rw [hb] at this
 injection this with this
 injection this with e1 e2
 rcases hs with hs | hs
 · exact hs (by rw [e1];rfl)
 · exact hs e2
theorem Mo.farMap {w:World} {mo:Option Nat} {c:Cn} (h:Mo w mo c) {b:Nat} {es:Array MapEntry} {cl:Nat} (hb:w.heap[b]? = some (.map es cl)):¬ Zu mo b:=fun e=>by
 have:=h b e
 unfold MtAt at this
 rw [hb] at this
 injection this with this
 cases this
theorem Zac (w:World):Calls Tryz.prog 165 #[.pointer none] w fun e w'=>e=.returned (.pointer (some ⟨w.heap.size,0,none⟩))∧w.alloc (.cells #[.int .i64 0,.int .i64 0,.int .i64 0,.int .i64 0] 29)=w':=by
 go_enter Tryz.func165,Tryz.ntmps165
 go_wp2
 go_ret
 exact ⟨rfl,rfl⟩
theorem XN (w:World) (g:Nat):Calls Tryz.prog 165 #[.pointer (some ⟨g,0,none⟩)] w fun e w'=>e=.returned (.pointer (some ⟨g,0,none⟩))∧w=w':=by
 go_enter Tryz.func165,Tryz.ntmps165
 go_wp2
 go_ret
 exact ⟨rfl,rfl⟩
theorem mnew_calls (w:World):Calls Tryz.prog 107 #[] w fun e w'=>e=.returned (.pointer (some ⟨w.heap.size,0,none⟩))∧MtAt w' w.heap.size Cn.zero∧Below w.heap.size w w':=by
 go_enter Tryz.func107,Tryz.ntmps107
 go_wp2
 go_ret
 exact ⟨rfl,heap_alloc_new _ _,(Below.refl _ _).alloc (Nat.le_refl _) _⟩
theorem mcounts_calls (w:World) (g:Nat) (c:Cn) (h:MtAt w g c):Calls Tryz.prog 71 #[.pointer (some ⟨g,0,none⟩)] w fun e w'=>e=.returned (.agg (Qr c))∧Below w.heap.size w w':=by
 have c0:w.cell? ⟨g,0,none⟩=some (.int .i64 c.s):=Za h 0
 have c1:w.cell? ⟨g,1,none⟩=some (.int .i64 c.l):=Za h 1
 have c2:w.cell? ⟨g,2,none⟩=some (.int .i64 c.h):=Za h 2
 have c3:w.cell? ⟨g,3,none⟩=some (.int .i64 c.m):=Za h 3
 have hlt:=Zf h
 obtain ⟨s,l,hh,m⟩:=c
 have hb:Below w.heap.size w (w.alloc (.cells #[.int .i64 s,.int .i64 l,.int .i64 hh,.int .i64 m] 29)):=(Below.refl _ _).alloc (Nat.le_refl _) _
 simp only at c0 c1 c2 c3
 have d0:=Za (heap_alloc_new w (.cells #[.int .i64 s,.int .i64 l,.int .i64 hh,.int .i64 m] 29)) 0
 have d1:=Za (heap_alloc_new w (.cells #[.int .i64 s,.int .i64 l,.int .i64 hh,.int .i64 m] 29)) 1
 have d2:=Za (heap_alloc_new w (.cells #[.int .i64 s,.int .i64 l,.int .i64 hh,.int .i64 m] 29)) 2
 have d3:=Za (heap_alloc_new w (.cells #[.int .i64 s,.int .i64 l,.int .i64 hh,.int .i64 m] 29)) 3
 simp at d0 d1 d2 d3
 clear h
 go_enter Tryz.func71,Tryz.ntmps71
 go_wp2
 refine bodyPost_ret (v:=.agg (Qr ⟨s,l,hh,m⟩)) (by simp [results,Tryz.results71,go_sem,d0,d1,d2,d3,Qr]) rfl ⟨rfl,hb⟩
theorem RetByt.rowg {w w':World} {b:Txt} {e:Ending} (h:RetByt w b e w'):∃ A c,e=.returned (.slice A b.length c)∧b.length≤c∧Byt w' A b∧(∀ ad,A=some ad→w.heap.size≤ad.block)∧Below w.heap.size w w':=by
 obtain ⟨v,rfl,ho,hb⟩:=h
 obtain ⟨A,c,rfl,hc,hr⟩:=ho.row
 refine ⟨A,c,rfl,hc,hr,fun ad e=>?_,hb⟩
 rcases own_addr ho with e' | ⟨g,e',hg⟩
 · rw [e] at e';cases e'
 · rw [e] at e'
   injection e' with e'
   subst e'
   exact hg
/-- A text that is scanned through a meter. -/
def TextAt (w:World) (tb:Nat) (mo:Option Nat) (b:Txt):Prop :=
 ∃ A c,w.heap[tb]? = some (.cells #[.pointer (Xk mo),.slice A b.length c] 369 (0,0))∧Byt w A b∧∀ ad,A=some ad→¬ Zu mo ad.block
theorem TextAt.below {w w':World} {tb:Nat} {mo:Option Nat} {b:Txt} (h:TextAt w tb mo b) (hb:Below w.heap.size w w'):TextAt w' tb mo b:=by
 obtain ⟨A,c,h1,h2,h3⟩:=h
 exact ⟨A,c,(hb.block tb (Zf h1)).trans h1,Row.below h2 hb,h3⟩
theorem TextAt.keep {w w':World} {tb:Nat} {mo:Option Nat} {b:Txt} {c:Cn} (h:TextAt w tb mo b) (hm:Mo w mo c) (hk:Keeps (Zu mo) w w'):TextAt w' tb mo b:=by
 obtain ⟨A,d,h1,h2,h3⟩:=h
 exact ⟨A,d,Zd h1 hk (hm.far h1 (.inl (by simp))),Row.keep h2 hk (fun ad e _=>h3 ad e),h3⟩
theorem ZR (w:World) (A:Option Addr) (c:Nat) (b:Txt) (h:Byt w A b) (hl:b.length≤1000000) :
    Calls Tryz.prog 104 #[.slice A b.length c] w (RetByt w b):=by
 obtain ⟨n,hn⟩:∃ n,b.length=n:=⟨_,rfl⟩
 rw [hn] at hl ⊢
 replace hn:=As.mk hn
 have H:=As.mk h
 clear h
 cases A with
 | none =>
   have hl0:b=[]:=by
    rcases H.out with h | ⟨ad,e,_⟩
    · have:=congrArg List.length h;rw [Zt] at this;exact List.eq_nil_of_length_eq_zero (by rw [List.length_nil] at this;omega)
    · cases e
   subst hl0
   have hnil:∀ (w:World) (n c:Nat),(binOp .eql 22 (.slice none n c) (.slice none 0 0)).run Tryz.prog w=.ok (.bool true) w:=fun w n c=>Lib.run_eql_slice_nil w _ _ none n c 0 0 Tryz.underlying22
   go_enter Tryz.func104,Tryz.ntmps104
   go_wp2
   go_ret
   exact ⟨_,rfl,World.ownsRow_nil _ _ _ _,Below.refl _ _⟩
 | some ad =>
   have hown:As ((w.alloc (.cells #[] 5)).ownsRow w.heap.size 5 1 (.slice (some ⟨w.heap.size,0,none⟩) 0 0) 0 []):=⟨⟨rfl,.inr ⟨_,0,#[],rfl,Nat.le_refl _,heap_alloc_new w _,Nat.le_refl _,Nat.zero_le _,rfl,rfl⟩⟩⟩
   have hrow:=As.mk (Row.alloc H.out (.cells #[] 5))
   have hnl:As ((Zh b).length=n * 1):=⟨by rw [Zt,hn.out,Nat.mul_one]⟩
   have hnil:∀ (w:World) (a:Addr) (n c:Nat),(binOp .eql 22 (.slice (some a) n c) (.slice none 0 0)).run Tryz.prog w=.ok (.bool false) w:=fun w a n c=>Lib.run_eql_slice_nil w _ _ (some a) n c 0 0 Tryz.underlying22
   go_enter Tryz.func104,Tryz.ntmps104
   go_wp2_with (at_builtin
                refine Zb7 _ rfl (.tmp 5) (.tmp 6) 22 rfl w.heap.size 5 _ 1 1 Tryz.underlying22 X2 rfl (by decide) _ 0 [] rfl hown.out (some ad) n c (Zh b) hrow.out hnl.out ZcS rfl (by omega) (by decide) (by simp) ?_
                intro v' w' h2 h3)
   go_ret
   exact ⟨v',rfl,by unfold OwnByt;rw [hn.out];simpa using h2,((Below.refl _ _).alloc (Nat.le_refl _) _).trans h3⟩
theorem Zcb (w:World) (mo:Option Nat) (cn:Cn) (hm:Mo w mo cn) (A:Option Addr) (c:Nat) (b:Txt) (h:Byt w A b) (hl:b.length≤1000000) :
    Calls Tryz.prog 266 #[.pointer (Xk mo),.slice A b.length c] w fun e w'=>∃ tb,e=.returned (.pointer (some ⟨tb,0,none⟩))∧TextAt w' tb mo b∧Below w.heap.size w w':=by
 have cc:=As.mk (ZR w A c b h hl)
 have hmo:=As.mk hm
 clear h hm
 go_enter Tryz.func266,Tryz.ntmps266
 go_wp2_with (go_at_call 104;refine Calls.mono cc.out ?_;intro e w1 h1;obtain ⟨A1,c1,he,hc1,hr1,hg1,hb⟩:=h1.rowg;subst he)
 go_ret
 refine ⟨_,rfl,⟨A1,c1,heap_alloc_new _ _,Row.alloc hr1 _,fun ad e hk=>?_⟩,hb.alloc hb.size _⟩
 have h1:=Zf (hmo.out _ hk)
 have h2:=hg1 ad e
 omega
theorem ZaI (w:World) (tb:Nat) (mo:Option Nat) (b:Txt) (h:TextAt w tb mo b):Calls Tryz.prog 268 #[.pointer (some ⟨tb,0,none⟩)] w fun e w'=>e=.returned (.int .i64 (b.length:Int))∧w=w':=by
 obtain ⟨A,c,h1,_,_⟩:=h
 have c1:w.cell? ⟨tb,1,none⟩=some (.slice A b.length c):=Za h1 1
 clear h1
 go_enter Tryz.func268,Tryz.ntmps268
 go_wp2
 go_ret
 exact ⟨rfl,rfl⟩
theorem Zeb (w:World) (tb:Nat) (mo:Option Nat) (b:Txt) (h:TextAt w tb mo b) (cn:Cn) (hm:Mo w mo cn) (hok:cn.ok) (i:Nat) (hi:i<b.length) :
    Calls Tryz.prog 270 #[.pointer (some ⟨tb,0,none⟩),.int .i64 (i:Int)] w fun e w'=>e=.returned (.int .i64 ((b.getD i 0).toNat:Int))∧Mo w' mo { cn with s:=cn.s+1 }∧Keeps (Zu mo) w w':=by
 have hlen:=As.mk (ZaI w tb mo b h)
 have hk:=As.mk (fun (w':World) (k:Keeps (Zu mo) w w')=>h.keep hm k)
 have hmo:=As.mk hm
 obtain ⟨A,c,h1,h2,h3⟩:=h
 have c0:w.cell? ⟨tb,0,none⟩=some (.pointer (Xk mo)):=Za h1 0
 have hlt:=Zf h1
 obtain ⟨s,l,hh,m⟩:=cn
 have hs1:IntKind.i64.wrap (s+1)=s+1:=by have:=hok.1;have:=hok.2.1;simp only [IntKind.wrap,IntKind.signed,IntKind.bits] at *;simp;omega
 cases mo with
 | none =>
   have hB:Below w.heap.size w (w.alloc (.cells #[.int .i64 1,.int .i64 0,.int .i64 0,.int .i64 0] 29)):=(Below.refl _ _).alloc (Nat.le_refl _) _
   obtain ⟨ad,rfl,hc⟩:=Byt.at_ (Row.below h2 hB) hi
   have d1:=(hB.cell (p:=⟨tb,1,none⟩) hlt).trans (Za h1 1)
   unfold Xk at c0
   simp only [Option.map_none,Option.map_some] at c0
   simp at d1
   generalize b.getD i 0=x at *
   have hx:wrap64 (x.toNat:Int)=(x.toNat:Int):=by have:=x.toNat_lt;unfold wrap64;omega
   generalize b.length=n at *
   clear h1 h2 h3 hk hmo hok
   go_enter Tryz.func270,Tryz.ntmps270
   go_wp2_with (first
    | (go_at_call 268;refine Calls.mono hlen.out ?_;rintro e w1 ⟨rfl,rfl⟩)
    | (go_at_call 165;refine Calls.mono (Zac _) ?_;rintro e w1 ⟨rfl,rfl⟩))
   go_ret
   exact ⟨QL hx,Mo.none_ _ _,Keeps.of_below hB _⟩
 | some g =>
   have hg:=hmo.out g rfl
   have g0:w.cell? ⟨g,0,none⟩=some (.int .i64 s):=Za hg 0
   have f0:w.frozen? ⟨g,0,none⟩=false:=Zb hg 0
   have hne:tb≠g:=fun e=>hmo.out.far h1 (.inl (by simp)) (by rw [e];rfl)
   have hK:Keeps (Zu (some g)) w (w.setCell ⟨g,0,none⟩ (.int .i64 (s+1))):=(Zm w ⟨g,0,none⟩ _).mono fun k _ e=>by unfold Zu;exact congrArg some e.symm
   have hM:MtAt (w.setCell ⟨g,0,none⟩ (.int .i64 (s+1))) g ⟨s+1,l,hh,m⟩:=by
    have:=Zi hg 0 (.int .i64 (s+1))
    unfold MtAt
    rw [this]
    simp [Qr]
   obtain ⟨A',c',k1,k2,_⟩:=hk.out _ hK
   have d1:(w.setCell ⟨g,0,none⟩ (.int .i64 (s+1))).cell? ⟨tb,1,none⟩=some (.slice A' b.length c'):=Za k1 1
   obtain ⟨ad,rfl,hc⟩:=Byt.at_ k2 hi
   unfold Xk at c0
   simp only [Option.map_none,Option.map_some] at c0
   generalize b.getD i 0=x at *
   have hx:wrap64 (x.toNat:Int)=(x.toNat:Int):=by have:=x.toNat_lt;unfold wrap64;omega
   generalize b.length=n at *
   replace hK:=As.mk hK
   replace hM:=As.mk hM
   clear h1 h2 h3 hk hmo hok k1 k2 hg
   go_enter Tryz.func270,Tryz.ntmps270
   go_wp2_with (first
    | (go_at_call 268;refine Calls.mono hlen.out ?_;rintro e w1 ⟨rfl,rfl⟩)
    | (go_at_call 165;refine Calls.mono (XN _ _) ?_;rintro e w1 ⟨rfl,rfl⟩))
   go_ret
   exact ⟨QL hx,Mo.some_ hM.out,hK.out⟩
end Go.Proofs.YtfdlaomnecjfeaaGreatDoor
end
section
namespace Go.Proofs.YtfdlaomnecjfeaaGreatDoor
open Go.RowKit Go.Maps Seine.Trie
theorem ZeW:laidOutB Tryz.prog=true:=by kernel_rfl
theorem ZaJ:Keyed Tryz.prog 320:=Keyed.of_law (deep_law_laid ZeW (m:=3) (by omega) (of_decide_eq_true (by kernel_rfl)) (by kernel_rfl) (by kernel_rfl))
theorem Jx (w:World):(zeroValue 3).run Tryz.prog w=.ok (.int .i64 0) w:=by kernel_rfl
theorem ZeX (a:Int) (c:UInt8) (h0:0≤a) (h1:a≤1000000000):∃ kl,keyOf Tryz.prog 320 (.agg #[.int .i64 a,.int .u8 (c.toNat:Int)])=some kl:=by
 have hc:=c.toNat_lt
 have hs:Tryz.prog.types.size=(Tryz.prog.types.size - 1)+1:=by decide +kernel
 have w1:(Lit.int .i64 a).wf=true:=by simp [Lit.wf,IntKind.min,IntKind.max,IntKind.signed,IntKind.bits];omega
 have w2:(Lit.int .u8 (c.toNat:Int)).wf=true:=by simp [Lit.wf,IntKind.min,IntKind.max,IntKind.signed,IntKind.bits];omega
 have hk:Tryz.prog.keyType 320=true:=by kernel_rfl
 have hf:(Value.agg #[.int .i64 a,.int .u8 (c.toNat:Int)]).formed Tryz.prog 320=true:=by
  simp only [Value.formed,Tryz.underlying320];kernel_rfl
 unfold keyOf
 simp only [Tryz.underlying320,hk,hf,Bool.and_self,if_true]
 have h2:Tryz.prog.keyLits (Tryz.prog.types.size+1) 320 [.int .i64 a,.int .u8 (c.toNat:Int)]=some [.int .i64 a,.int .u8 (c.toNat:Int)]:=by
  rw [hs]
  generalize Tryz.prog.types.size - 1=n
  have c3:Tryz.prog.cellsOf 3=1:=by kernel_rfl
  have c5:Tryz.prog.cellsOf 5=1:=by kernel_rfl
  have c67:Tryz.prog.cellsOf 320=2:=by kernel_rfl
  have k1:Tryz.prog.keyLits (n+1) 3 [.int .i64 a]=some [.int .i64 a]:=by simp only [Program.keyLits,Tryz.underlying3,w1,and_self,if_true]
  have k2:Tryz.prog.keyLits (n+1) 5 [.int .u8 (c.toNat:Int)]=some [.int .u8 (c.toNat:Int)]:=by simp only [Program.keyLits,Tryz.underlying5,w2,and_self,if_true]
  unfold Program.keyLits
  rw [Tryz.underlying320]
  simp [c67,c3,c5,k1,k2]
 simp only [Value.cells]
 show ∃ kl,Option.map _ (Tryz.prog.keyLits (Tryz.prog.types.size+1) 320 [.int .i64 a,.int .u8 (c.toNat:Int)])=some kl
 rw [h2]
 exact ⟨_,rfl⟩
def Yv (P:List Txt) (W:Txt→Int) (p:Txt):List Value:=[.int .i64 (parent P p),.int .i64 p.length,.int .i64 (W p),.int .u8 ((lastB p).toNat:Int)]
def QD (P:List Txt) (W:Txt→Int):List Value:=P.flatMap (Yv P W)
/-- where an edge leads -/
def QW (P:List Txt):Value→Option Int
 | .agg ⟨[.int .i64 a,.int .u8 c]⟩=>if 0≤a∧a<P.length∧0≤c∧c<256∧0≤place P (P.getD a.toNat []++[UInt8.ofNat c.toNat]) then some (place P (P.getD a.toNat []++[UInt8.ofNat c.toNat])) else none
 | _=>none
theorem ZeY (P m:List Txt) {i:Nat} (h:i<P.length):(P++m).getD i []=P.getD i []:=by
 rw [List.getD_eq_getElem?_getD,List.getElem?_append_left h,← List.getD_eq_getElem?_getD]
theorem ofNat_toNat (c:UInt8):UInt8.ofNat ((c.toNat:Int)).toNat=c:=by simp
theorem Jy (P:List Txt) (a:Nat) (c:UInt8) (ha:a<P.length):QW P (.agg #[.int .i64 (a:Int),.int .u8 (c.toNat:Int)])=if P.getD a []++[c]∈P then some (place P (P.getD a []++[c])) else none:=by
 have hc:=c.toNat_lt
 unfold QW
 simp only [Int.toNat_natCast,UInt8.ofNat_toNat]
 by_cases h:P.getD a []++[c]∈P
 · rw [if_pos h,if_pos ⟨by omega,by omega,by omega,by omega,place_mem.2 h⟩]
 · rw [if_neg h,if_neg (fun hh=>h (place_mem.1 hh.2.2.2.2))]
theorem edgeF_new {P:List Txt} (hT:Tree P) {a:Nat} {c:UInt8} (ha:a<P.length) (hq:P.getD a []++[c] ∉ P):QW (P++[P.getD a []++[c]]) (.agg #[.int .i64 (a:Int),.int .u8 (c.toNat:Int)])=some (P.length:Int):=by
 have e:(P++[P.getD a []++[c]]).getD a []=P.getD a []:=ZeY _ _ ha
 rw [Jy _ a c (by simp;omega),e,if_pos (by simp),X1,if_neg hq,if_pos rfl]
theorem edgeF_old {P:List Txt} (hT:Tree P) {a:Nat} {c:UInt8} (ha:a<P.length) (hq:P.getD a []++[c] ∉ P) (x:Value) (hx:x≠.agg #[.int .i64 (a:Int),.int .u8 (c.toNat:Int)]) :
    QW (P++[P.getD a []++[c]]) x=QW P x:=by
 unfold QW
 split
 · rename_i b d
   by_cases hr:0≤b∧0≤d∧d<256
   · obtain ⟨hb0,hd0,hd1⟩:=hr
     by_cases hbl:b<P.length
     · have e:(P++[P.getD a []++[c]]).getD b.toNat []=P.getD b.toNat []:=ZeY _ _ (by omega)
       have hpl:place (P++[P.getD a []++[c]]) (P.getD b.toNat []++[UInt8.ofNat d.toNat])=place P (P.getD b.toNat []++[UInt8.ofNat d.toNat]):=by
        rw [X1]
        split
        · rfl
        · rename_i hn
          rw [if_neg,ZQ hn]
          intro he
          have h1:=List.append_inj' he rfl
          have hba:b.toNat=a:=by
           have p1:=ZO hT.nodup (i:=a) (s:=P.getD a []) (by simp [List.getD_eq_getElem?_getD,ha])
           have p2:=ZO hT.nodup (i:=b.toNat) (s:=P.getD b.toNat []) (by simp [List.getD_eq_getElem?_getD,show b.toNat<P.length by omega])
           rw [h1.1,p2] at p1;omega
          have hdc:c=UInt8.ofNat d.toNat:=by simpa using h1.2
          apply hx
          have:(c.toNat:Int)=d:=by
           rw [hdc];simp;omega
          rw [this,← hba,Int.toNat_of_nonneg hb0]
       rw [e,hpl]
       have:b<(P++[P.getD a []++[c]]).length:=by simp;omega
       simp only [hbl,this]
     · have hno:∀ h:0≤b∧b<((P++[P.getD a []++[c]]).length:Int)∧0≤d∧d<256∧0≤place (P++[P.getD a []++[c]]) ((P++[P.getD a []++[c]]).getD b.toNat []++[UInt8.ofNat d.toNat]),False:=by
        intro h
        have hbeq:b.toNat=P.length:=by have:=h.2.1;simp at this;omega
        have e:(P++[P.getD a []++[c]]).getD b.toNat []=P.getD a []++[c]:=by rw [hbeq];simp
        have hm:=place_mem.1 h.2.2.2.2
        rw [e] at hm
        simp only [List.mem_append,List.mem_singleton] at hm
        rcases hm with hm | hm
        · have:=hT.up _ hm (by simp)
          rw [List.dropLast_concat] at this
          exact hq this
        · have:=congrArg List.length hm;simp at this
       rw [if_neg hno,if_neg (fun h=>hbl h.2.1)]
   · rw [if_neg (fun h=>hr ⟨h.1,h.2.2.1,h.2.2.2.1⟩),if_neg (fun h=>hr ⟨h.1,h.2.2.1,h.2.2.2.1⟩)]
 · rfl
theorem QN (P:List Txt) (W:Txt→Int):(QD P W).length=P.length * 4:=by
 unfold QD
 have:∀ Q:List Txt,(Q.flatMap (Yv P W)).length=Q.length * 4:=by
  intro Q
  induction Q with
  | nil=>rfl
  | cons x Q ih=>rw [List.flatMap_cons,List.length_append,ih];simp only [Yv,List.length_cons,List.length_nil];omega
 exact this P
theorem ZeZ:∀ (Q:List Txt) (f:Txt→List Value),(∀ x,(f x).length=4)→∀ i x,Q[i]? = some x→∀ j,j<4→(Q.flatMap f)[i * 4+j]? = (f x)[j]?
 | [],_,_,i,x,h,_,_=>by simp at h
 | y::Q,f,hf,i,x,h,j,hj=>by
   rw [List.flatMap_cons]
   cases i with
   | zero =>
     simp at h;subst h
     rw [Nat.zero_mul,Nat.zero_add,List.getElem?_append_left (by rw [hf];exact hj)]
   | succ i =>
     have:=ZeZ Q f hf i x (by simpa using h) j hj
     rw [List.getElem?_append_right (by rw [hf];omega),hf,show (i+1) * 4+j - 4=i * 4+j by omega]
     exact this
theorem Jz (P:List Txt) (W:Txt→Int) {i:Nat} {x:Txt} (h:P[i]? = some x) (j:Nat) (hj:j<4):(QD P W)[i * 4+j]? = (Yv P W x)[j]?:=ZeZ P (Yv P W) (fun _=>rfl) i x h j hj
theorem ZaK {α β:Type} {f g:α→List β}:∀ {l:List α},(∀ x∈l,f x=g x)→l.flatMap f=l.flatMap g
 | [],_=>rfl
 | x::l,h=>by rw [List.flatMap_cons,List.flatMap_cons,h x (by simp),ZaK (fun y hy=>h y (by simp [hy]))]
theorem nodeCells_put {P:List Txt} (hT:Tree P) (W:Txt→Int) (q:Txt):QD (P++[q]) W=QD P W++Yv (P++[q]) W q:=by
 unfold QD
 rw [List.flatMap_append]
 congr 1
 · apply ZaK
   intro p hp
   unfold Yv parent
   split
   · rfl
   · rename_i hne
     rw [Jv (hT.up p hp hne)]
/-- The tree of the beginnings P, whose words are W, at block g; all of it from block base on. -/
def TrieAt (w:World) (base g:Nat) (P:List Txt) (W:Txt→Int):Prop :=
 ∃ v mb,w.heap[g]? = some (.cells #[v,.map (some mb)] 283 (0,0))∧base≤g∧base≤mb∧w.ownsRow base 279 4 v P.length (QD P W) ∧
   MapIs Tryz.prog 320 3 w mb P.length (QW P)∧Tree P
theorem XB (w:World) (p:Addr) (u:Value):Keeps (fun k=>k=p.block) w (w.setCell p u):=⟨rfl,rfl,rfl,by simp [World.setCell],fun k _ hk=>Below.heap_setCell _ _ _ _ hk⟩
/-- A block of the call's own rows is a row of cells: no map, and no block of another type. -/
theorem Zcc {w:World} {base e size n b:Nat} {v:Value} {cs:List Value} {es:Array MapEntry} {cl:Nat} (h:w.ownsRow base e size v n cs) (hm:w.heap[b]? = some (.map es cl)):some b≠v.ownBlock:=fun hb=>by
 rcases h.2 with ⟨rfl,_⟩ | ⟨g,cap,cur,rfl,_,hh,_⟩
 · simp [Value.ownBlock] at hb
 · simp [Value.ownBlock] at hb
   subst hb
   rw [hh] at hm;cases hm
theorem Zy {w:World} {base e size n b t:Nat} {v:Value} {cs:List Value} {c:Array Value} {fr:Nat × Nat} (h:w.ownsRow base e size v n cs) (hm:w.heap[b]? = some (.cells c t fr)) (hne:e≠t):some b≠v.ownBlock:=fun hb=>by
 rcases h.2 with ⟨rfl,_⟩ | ⟨g,cap,cur,rfl,_,hh,_⟩
 · simp [Value.ownBlock] at hb
 · simp [Value.ownBlock] at hb
   subst hb
   rw [hh] at hm
   injection hm with hm
   injection hm with _ hm
   exact hne hm
theorem info_node:(Tryz.prog.info? 279).map (fun i=>(i.zero,i.size,i.bytes))=some (some (.agg #[(.int .i64 0),(.int .i64 0),(.int .i64 0),(.int .u8 0)]),4,32):=by kernel_rfl
set_option maxRecDepth 100000 in
set_option maxHeartbeats 1600000 in
theorem grow_calls (w:World) (base g:Nat) (P:List Txt) (W:Txt→Int) (a:Nat) (pa:Txt) (c:UInt8) (ht:TrieAt w base g P W) (hPa:P[a]? = some pa) (hl:P.length≤1000000) (hd:pa.length≤1000000) (hW:pa++[c] ∉ P→W (pa++[c]) = -1) :
    Calls Tryz.prog 176 #[.pointer (some ⟨g,0,none⟩),.int .i64 (a:Int),.int .u8 (c.toNat:Int)] w fun e w' =>
     e=.returned (.int .i64 (place (QC P (pa++[c])) (pa++[c])))∧TrieAt w' base g (QC P (pa++[c])) W∧Below base w w':=by
 obtain ⟨v,mb,hg,hbg,hbm,hown,hmap,hT⟩:=ht
 have ha:a<P.length:=(List.getElem?_eq_some_iff.1 hPa).1
 have hgd:P.getD a []=pa:=by rw [List.getD_eq_getElem?_getD,hPa];rfl
 have hg:=As.mk hg
 have hown:=As.mk hown
 have hmap:=As.mk hmap
 have hT:=As.mk hT
 have hlt:g<w.heap.size:=Zf hg.out
 have c0:w.cell? ⟨g,0,none⟩=some v:=Za hg.out 0
 have c1:w.cell? ⟨g,1,none⟩=some (.map (some mb)):=Za hg.out 1
 obtain ⟨kl,hkey⟩:=ZeX (a:Int) c (by omega) (by omega)
 have hkey:=As.mk hkey
 have hat:=As.mk (Jy P a c ha)
 have hfn:As (pa++[c] ∉ P→QW (P++[pa++[c]]) (.agg #[.int .i64 (a:Int),.int .u8 (c.toNat:Int)])=some (P.length:Int)):=⟨fun h=>by have:=edgeF_new (c:=c) hT.out ha;rw [hgd] at this;exact this h⟩
 have hfo:As (pa++[c] ∉ P→∀ x,x≠.agg #[.int .i64 (a:Int),.int .u8 (c.toNat:Int)]→QW (P++[pa++[c]]) x=QW P x):=⟨fun h=>by have:=edgeF_old (c:=c) hT.out ha;rw [hgd] at this;exact this h⟩
 rw [hgd] at hat
 clear hgd
 by_cases hq:pa++[c]∈P
 · have hadd:As (QC P (pa++[c])=P):=⟨if_pos hq⟩
   rw [hadd.out]
   rw [if_pos hq] at hat
   have hlk:∀ nq,(Instr.lookup 281 (.map (some mb)) (.agg #[.int .i64 (a:Int),.int .u8 (c.toNat:Int)]) true).run Tryz.prog ((w.alloc (.cells #[.int .i64 (a:Int),.int .u8 (c.toNat:Int)] 320)).drewN nq) =
       .ok (.tuple #[.int .i64 (place P (pa++[c])),.bool true]) ((w.alloc (.cells #[.int .i64 (a:Int),.int .u8 (c.toNat:Int)] 320)).drewN nq):=fun nq=>by
    have:=MapIs.look (w:=(w.alloc (.cells #[.int .i64 (a:Int),.int .u8 (c.toNat:Int)] 320)).drewN nq) (hmap.out.below (ZF ((Below.refl _ _).alloc (Nat.le_refl _) _) nq)) ZaJ Tryz.underlying281 Tryz.underlying3 (Jx _) hkey.out
    rw [hat.out] at this
    exact this
   generalize place P (pa++[c])=r at *
   clear hadd hq hW hfn hfo hPa
   go_enter Tryz.func176,Tryz.ntmps176
   go_wp2
   go_quiet (fail)
   go_wp2
   go_ret
   refine ⟨rfl,⟨v,mb,Zn hg.out,hbg,hbm,hown.out.alloc _,hmap.out.below (ZF ((Below.refl _ _).alloc (Nat.le_refl _) _) _),hT.out⟩,ZF ((Below.refl _ _).alloc (by omega) _) _⟩
 · have hW:=hW hq
   have hadd:As (QC P (pa++[c])=P++[pa++[c]]):=⟨if_neg hq⟩
   rw [hadd.out]
   rw [if_neg hq] at hat
   have hpl:As (place (P++[pa++[c]]) (pa++[c])=(P.length:Int)):=⟨by rw [X1,if_neg hq,if_pos rfl]⟩
   rw [hpl.out]
   have hlk:∀ nq,(Instr.lookup 281 (.map (some mb)) (.agg #[.int .i64 (a:Int),.int .u8 (c.toNat:Int)]) true).run Tryz.prog ((w.alloc (.cells #[.int .i64 (a:Int),.int .u8 (c.toNat:Int)] 320)).drewN nq) =
       .ok (.tuple #[.int .i64 0,.bool false]) ((w.alloc (.cells #[.int .i64 (a:Int),.int .u8 (c.toNat:Int)] 320)).drewN nq):=fun nq=>by
    have:=MapIs.look (w:=(w.alloc (.cells #[.int .i64 (a:Int),.int .u8 (c.toNat:Int)] 320)).drewN nq) (hmap.out.below (ZF ((Below.refl _ _).alloc (Nat.le_refl _) _) nq)) ZaJ Tryz.underlying281 Tryz.underlying3 (Jx _) hkey.out
    rw [hat.out] at this
    exact this
   obtain ⟨A,cp,rfl,hcp⟩:=Zk hown.out
   have hmq0:=As.mk hPa
   clear hPa
   go_enter Tryz.func176,Tryz.ntmps176
   go_wp2
   go_quiet (fail)
   clear hlk
   go_wp2
   have hbel1:Below w.heap.size w ((w.alloc (.cells #[.int .i64 (a:Int),.int .u8 (c.toNat:Int)] 320)).drewN nq):=ZF ((Below.refl _ _).alloc (Nat.le_refl _) _) nq
   have hg1:=As.mk ((hbel1.block g hlt).trans hg.out)
   have hown1:=As.mk (Zo hown.out hbel1)
   have hmap1:=As.mk (hmap.out.below hbel1)
   have hlt1:g<((w.alloc (.cells #[.int .i64 (a:Int),.int .u8 (c.toNat:Int)] 320)).drewN nq).heap.size:=Zf hg1.out
   have hed1:((w.alloc (.cells #[.int .i64 (a:Int),.int .u8 (c.toNat:Int)] 320)).drewN nq).heap[w.heap.size]? = some (.cells #[.int .i64 (a:Int),.int .u8 (c.toNat:Int)] 320 (0,0)):=heap_alloc_new w _
   have hed1:=As.mk hed1
   have hbb1:=As.mk (hbel1.mono (show base≤w.heap.size by omega))
   clear hbel1 hg hown hmap c0 c1 hlt
   generalize (w.alloc (.cells #[.int .i64 (a:Int),.int .u8 (c.toNat:Int)] 320)).drewN nq=w1 at *
   generalize w.heap.size=eb at *
   have c0:w1.cell? ⟨g,0,none⟩=some (.slice A P.length cp):=Za hg1.out 0
   have c1:w1.cell? ⟨g,1,none⟩=some (.map (some mb)):=Za hg1.out 1
   have d0:w1.cell? ⟨eb,0,none⟩=some (.int .i64 (a:Int)):=Za hed1.out 0
   have d1:w1.cell? ⟨eb,1,none⟩=some (.int .u8 (c.toNat:Int)):=Za hed1.out 1
   obtain ⟨w2,hrun,hmap2,hgr2⟩:=MapIs.put (w:=w1.drew) (f':=QW (P++[pa++[c]])) (hmap1.out.below ((Below.refl _ _).drew)) ZaJ Tryz.underlying281 Tryz.underlying3 (by simp only [maxLen];omega) hkey.out (v:=(P.length:Int)) (by simp [Lit.wf,IntKind.min,IntKind.max,IntKind.signed,IntKind.bits];omega) (hfn.out hq) (hfo.out hq)
   have hmap2:=As.mk hmap2
   have hgr2:=As.mk hgr2
   go_region
   have hne1:g≠mb:=fun h=>by
    subst h
    obtain ⟨es,cl,hm⟩:=hmap1.out.is_map
    have hx:=hg1.out
    rw [hm] at hx
    cases hx
   have hg2:=As.mk ((hgr2.out.block g (by simpa using hlt1) (by simpa using hne1)).trans hg1.out)
   have hown2:As (w2.ownsRow base 279 4 (.slice A P.length cp) P.length (QD P W)):=⟨Zj (w:=w1.drew) hown1.out (Keeps.of_grown hgr2.out) (fun b c' hb hh _ hS=>by
    obtain ⟨es,cl,hm⟩:=hmap1.out.is_map
    injection hS with hS
    subst hS
    have hh':w1.heap[b]? = _:=hh
    rw [hm] at hh'
    cases hh')⟩
   have hb2:As (Below base w1 w2):=⟨((Below.refl base w1).drew).grown hgr2.out (by have:=hbg;have:=hlt1;simp;omega) (fun k hk=>by injection hk with hk;omega)⟩
   have hsz2:=hb2.out.size
   have hlt2:g<w2.heap.size:=Zf hg2.out
   have c0':w2.cell? ⟨g,0,none⟩=some (.slice A P.length cp):=Za hg2.out 0
   have c1':w2.cell? ⟨g,1,none⟩=some (.map (some mb)):=Za hg2.out 1
   have f0':=Zb hg2.out 0
   clear c0 c1 d0 d1 hrun
   obtain ⟨ad,rfl,hdep⟩:=Row.at_ (Row.of_own hown2.out) (j:=a * 4+1) (by rw [QN];omega)
   have hdep1:(QD P W)[a * 4+1]'(by rw [QN];omega)=.int .i64 (pa.length:Int):=by
    have:=Jz P W hmq0.out 1 (by omega)
    rw [List.getElem?_eq_getElem (by rw [QN];omega)] at this
    simpa [Yv] using this
   rw [hdep1,Addr.add_field _ _ _ (by omega)] at hdep
   clear hdep1
   go_wp2
   have hneg:=Zy hown2.out hg2.out (by decide)
   obtain ⟨es2,cl2,hm2⟩:=hmap2.out.is_map
   have hneb:=As.mk (Zcc hown2.out hm2)
   have hm2:=As.mk hm2
   have hneg:=As.mk hneg
   obtain ⟨i0,hi0,hz0,hz1,hz2⟩:=info_parts info_node
   have hmq:=As.mk hmq0.out
   have hq:=As.mk hq
   have hW:=As.mk hW
   clear hkey hat hmap1 hg1 hown1 hed1 hgr2 hfn hfo
   have hwr:IntKind.i64.wrap ((pa.length:Int)+1)=(pa.length:Int)+1:=IntWalk.i64_in _ (by omega)
   have hbs2:base≤w2.heap.size:=by have:=hbg;omega
   go_region_law (first
    | (refine step_append_lies (w2.drew.alloc (.cells #[.int .i64 (a:Int),.int .i64 ((pa.length:Int)+1),.int .i64 (-1),.int .u8 (c.toNat:Int)] 279)) rfl (.tmp 40) (.tmp 53) 280 rfl base 279 i0 _ 4 32 Tryz.underlying280 hi0 hz0 hz1 hz2 rfl (by decide) (.slice (some ad) P.length cp) P.length (QD P W) (by simp [Act.eval,Act.put]) (hown2.out.drew.alloc _) ⟨w2.heap.size,0,none⟩ 1 1 [.int .i64 (a:Int),.int .i64 ((pa.length:Int)+1),.int .i64 (-1),.int .u8 (c.toNat:Int)] (by simp [Act.eval,Act.put]) rfl (World.news_of_block (heap_alloc_new w2.drew _)) (by simp [Value.oneCell']) (by omega) (by simp only [maxLen];omega) (by omega) (by simp;omega) (w2.heap.size+1) (by simp) ?_
       intro g3 cap3 w3 ho3 hgr3 hloc3 hlt3
       have hbg3:=hgr3.block g (by simp;omega) hneg.out
       have hg3:=As.mk (hbg3.trans (Zn hg2.out))
       have e0:w3.cell? ⟨g,0,none⟩=some (.slice (some ad) P.length cp):=Za hg3.out 0
       have ef0:=Zb hg3.out 0))
   all_goals
    go_wp2
    go_ret
    have hk3:Keeps (fun k=>some k=(Value.slice (some ad) P.length cp).ownBlock) w2 w3:=(Keeps.of_below (((Below.refl _ _).drew).alloc (by simp) _) _).trans ((Keeps.of_grown hgr3).mono (fun _ _ h=>h))
    have hmap3:=hmap2.out.keep hk3 hneb.out
    have hmb3:=hmap3.is_map
    have hmg:¬ mb=g:=fun h=>by
     obtain ⟨es,cl,hm⟩:=hmb3
     have hx:=hg3.out
     rw [← h,hm] at hx;cases hx
    refine ⟨rfl,⟨_,mb,Zi hg3.out 0 _,hbg,hbm,?_,?_,?_⟩,?_⟩
    · have hlen:(P++[pa++[c]]).length=P.length+1:=by simp
      rw [hlen,nodeCells_put hT.out]
      have hq':Yv (P++[pa++[c]]) W (pa++[c])=[.int .i64 (a:Int),.int .i64 ((pa.length:Int)+1),.int .i64 (-1),.int .u8 (c.toNat:Int)]:=by
       have hpl:place (P++[pa++[c]]) pa=(a:Int):=by
        rw [Jv (List.mem_of_getElem? hmq.out),ZO hT.out.nodup hmq.out]
       unfold Yv parent lastB
       rw [if_neg (by simp),List.dropLast_concat,hpl,hW.out]
       simp
      rw [hq']
      exact Zj ho3 (XB w3 ⟨g,0,none⟩ _) (fun b c' _ hh hb hS=>Zy ho3 hg3.out (by decide) ((show b=g from hS) ▸ hb))
    · have hlen:(P++[pa++[c]]).length=P.length+1:=by simp
      rw [hlen]
      exact hmap3.keep (XB w3 ⟨g,0,none⟩ _) hmg
    · have:=hT.out.put (p:=pa++[c]) (by simp) (by rw [List.dropLast_concat];exact List.mem_of_getElem? hmq.out)
      unfold QC at this
      rw [if_neg hq.out] at this
      exact this
    · refine Below.setCell ((hbb1.out.trans hb2.out).trans ?_) (by exact hbg) _
      refine (((Below.refl base w2).drew).alloc (by simpa using hbs2) _).grown hgr3 (by simp;omega) (fun k hk=>?_)
      exact (ZM hown2.out hk.symm).1
end Go.Proofs.YtfdlaomnecjfeaaGreatDoor
end
section
namespace Go.Proofs.YtfdlaomnecjfeaaGreatDoor
open Go.RowKit Go.Maps Seine.Trie
attribute [local go_sem] Xn XT QM Q9
theorem TrieAt.below {w w':World} {base g:Nat} {P:List Txt} {W:Txt→Int} (h:TrieAt w base g P W) (hb:Below w.heap.size w w'):TrieAt w' base g P W:=by
 obtain ⟨v,mb,hg,h1,h2,ho,hm,hT⟩:=h
 exact ⟨v,mb,(hb.block g (Zf hg)).trans hg,h1,h2,Zo ho hb,hm.below hb,hT⟩
theorem TrieAt.tree {w:World} {base g:Nat} {P:List Txt} {W:Txt→Int} (h:TrieAt w base g P W):Tree P:=by obtain ⟨v,mb,hg,h1,h2,ho,hm,hT⟩:=h;exact hT
theorem TrieAt.read {w:World} {base g:Nat} {P:List Txt} {W:Txt→Int} (h:TrieAt w base g P W):∃ ad cp mb,w.cell? ⟨g,0,none⟩=some (.slice (some ad) P.length cp)∧w.cell? ⟨g,1,none⟩=some (.map (some mb))∧P.length≤cp ∧
    MapIs Tryz.prog 320 3 w mb P.length (QW P) ∧
    As (∀ i p,P[i]? = some p→w.cell? (ad.add (i * 4))=some (.int .i64 (parent P p))∧w.cell? ⟨(ad.add (i * 4)).block,(ad.add (i * 4)).off+1,none⟩=some (.int .i64 p.length) ∧
     w.cell? ⟨(ad.add (i * 4)).block,(ad.add (i * 4)).off+2,none⟩=some (.int .i64 (W p))∧w.cell? ⟨(ad.add (i * 4)).block,(ad.add (i * 4)).off+3,none⟩=some (.int .u8 ((lastB p).toNat:Int))):=by
 obtain ⟨v,mb,hg,h1,h2,ho,hm,hT⟩:=h
 obtain ⟨A,cp,rfl,hcp⟩:=Zk ho
 have hr:=Row.of_own ho
 have hl:=hT.len
 obtain ⟨ad,rfl,_⟩:=hr.at_ (j:=0) (by rw [QN];omega)
 refine ⟨ad,cp,mb,Za hg 0,Za hg 1,hcp,hm,⟨fun i p hi=>?_⟩⟩
 have hil:i<P.length:=(List.getElem?_eq_some_iff.1 hi).1
 have key:∀ j,j<4→∀ u,(Yv P W p)[j]? = some u→w.cell? (ad.add (i * 4+j))=some u:=by
  intro j hj u hu
  obtain ⟨ad',e,hc⟩:=hr.at_ (j:=i * 4+j) (by rw [QN];omega)
  injection e with e
  subst e
  have:=Jz P W hi j hj
  rw [List.getElem?_eq_getElem (by rw [QN];omega),hu] at this
  injection this with this
  rw [hc,this]
 exact ⟨key 0 (by omega) _ rfl,by rw [← Addr.add_field _ _ _ (by omega)];exact key 1 (by omega) _ rfl,by rw [← Addr.add_field _ _ _ (by omega)];exact key 2 (by omega) _ rfl,by rw [← Addr.add_field _ _ _ (by omega)];exact key 3 (by omega) _ rfl⟩
section
variable (w:World) (base g:Nat) (P:List Txt) (W:Txt→Int)
theorem Qv (ht:TrieAt w base g P W):Calls Tryz.prog 135 #[.pointer (some ⟨g,0,none⟩)] w fun e w'=>e=.returned (.int .i64 (P.length:Int))∧w=w':=by
 obtain ⟨ad,cp,mb,c0,c1,hcp,_,_⟩:=ht.read
 go_enter Tryz.func135,Tryz.ntmps135
 go_wp2
 go_ret
 exact ⟨rfl,rfl⟩
theorem Xs (ht:TrieAt w base g P W) (n:Int) (b:Bool) (hb:b=true↔0≤n∧n<P.length):Calls Tryz.prog 181 #[.pointer (some ⟨g,0,none⟩),.int .i64 n] w fun e w'=>e=.returned (.bool b)∧w=w':=by
 have hc:=As.mk (Qv w base g P W ht)
 by_cases h0:0≤n
 · have h0b:decide (0≤n)=true:=decide_eq_true h0
   by_cases h1:n<P.length
   · obtain rfl:b=true:=hb.2 ⟨h0,h1⟩
     clear hb
     go_enter Tryz.func181,Tryz.ntmps181
     go_wp2_with (go_at_call 135;refine hc.out.mono ?_;rintro e w' ⟨rfl,rfl⟩)
     go_ret
     exact ⟨rfl,rfl⟩
   · obtain rfl:b=false:=by cases b with
       | false=>rfl
       | true=>exact absurd (hb.1 rfl).2 h1
     clear hb
     have h1b:decide (n<(P.length:Int))=false:=decide_eq_false h1
     go_enter Tryz.func181,Tryz.ntmps181
     go_wp2_with (go_at_call 135;refine hc.out.mono ?_;rintro e w' ⟨rfl,rfl⟩)
     go_ret
     exact ⟨rfl,rfl⟩
 · obtain rfl:b=false:=by cases b with
     | false=>rfl
     | true=>exact absurd (hb.1 rfl).1 h0
   clear hb
   have h0b:decide (0≤n)=false:=decide_eq_false h0
   go_enter Tryz.func181,Tryz.ntmps181
   go_wp2
   go_ret
   exact ⟨rfl,rfl⟩
/-- where a byte leads -/
def stepF (P:List Txt) (n:Int) (c:UInt8):Int:=if 0≤n∧n<P.length then place P (P.getD n.toNat []++[c]) else -1
theorem XC (ht:TrieAt w base g P W) (hl:P.length≤1000000) (n x:Int) (c:UInt8) (hx:x=(c.toNat:Int)):Calls Tryz.prog 179 #[.pointer (some ⟨g,0,none⟩),.int .i64 n,.int .u8 x] w fun e w'=>e=.returned (.int .i64 (stepF P n c))∧w=w':=by
 subst hx
 by_cases hn:0≤n∧n<P.length
 · have hc:=As.mk (Xs w base g P W ht n true (by simp [hn]))
   obtain ⟨ad,cp,mb,c0,c1,hcp,hm,_⟩:=ht.read
   obtain ⟨a,rfl⟩:=Int.eq_ofNat_of_zero_le hn.1
   obtain ⟨kl,hkey⟩:=ZeX (a:Int) c (by omega) (by omega)
   have hlk:=MapIs.look hm ZaJ Tryz.underlying281 Tryz.underlying3 (Jx _) hkey
   have hS:As (stepF P (a:Int) c=place P (P.getD a []++[c])):=⟨by unfold stepF;rw [if_pos hn,Int.toNat_natCast]⟩
   rw [hS.out]
   rw [Jy P a c (by omega)] at hlk
   by_cases hq:P.getD a []++[c]∈P
   · rw [if_pos hq] at hlk
     have hlk:(Instr.lookup 281 (.map (some mb)) (.agg #[.int .i64 (a:Int),.int .u8 (c.toNat:Int)]) true).run Tryz.prog w=.ok (.tuple #[.int .i64 (place P (P.getD a []++[c])),.bool true]) w:=hlk
     generalize place P (P.getD a []++[c])=r at *
     clear hq hn hm hkey
     go_enter Tryz.func179,Tryz.ntmps179
     go_wp2_with (go_at_call 181;refine hc.out.mono ?_;rintro e w' ⟨rfl,rfl⟩)
     go_ret
     exact ⟨rfl,rfl⟩
   · rw [if_neg hq] at hlk
     rw [ZQ hq]
     have hlk:(Instr.lookup 281 (.map (some mb)) (.agg #[.int .i64 (a:Int),.int .u8 (c.toNat:Int)]) true).run Tryz.prog w=.ok (.tuple #[.int .i64 0,.bool false]) w:=hlk
     clear hq hn hm hkey
     go_enter Tryz.func179,Tryz.ntmps179
     go_wp2_with (go_at_call 181;refine hc.out.mono ?_;rintro e w' ⟨rfl,rfl⟩)
     go_ret
     exact ⟨rfl,rfl⟩
 · have hc:=As.mk (Xs w base g P W ht n false (by simp only [Bool.false_eq_true,false_iff];exact hn))
   have hS:stepF P n c = -1:=if_neg hn
   rw [hS]
   clear hS hn
   go_enter Tryz.func179,Tryz.ntmps179
   go_wp2_with (go_at_call 181;refine hc.out.mono ?_;rintro e w' ⟨rfl,rfl⟩)
   go_ret
   exact ⟨rfl,rfl⟩
/-- what a node tells, or a number that is none -/
def askF (P:List Txt) (f:Txt→Int) (d n:Int):Int:=if 0≤n∧n<P.length then f (P.getD n.toNat []) else d
theorem Xo {P:List Txt} {a:Nat} (h:a<P.length):P[a]? = some (P.getD a []):=by simp [List.getD_eq_getElem?_getD,h]
theorem Zde (ht:TrieAt w base g P W) (n:Int):Calls Tryz.prog 211 #[.pointer (some ⟨g,0,none⟩),.int .i64 n] w fun e w'=>e=.returned (.int .i64 (askF P W (-1) n))∧w=w':=by
 by_cases hn:0≤n∧n<P.length
 · have hc:=As.mk (Xs w base g P W ht n true (by simp [hn]))
   obtain ⟨ad,cp,mb,c0,c1,hcp,_,hcell⟩:=ht.read
   obtain ⟨a,rfl⟩:=Int.eq_ofNat_of_zero_le hn.1
   have hal:a<P.length:=by omega
   obtain ⟨d0,d1,d2,d3⟩:=hcell.out a _ (Xo hal)
   have hS:askF P W (-1) (a:Int)=W (P.getD a []):=by unfold askF;rw [if_pos hn,Int.toNat_natCast]
   rw [hS]
   clear hS hn
   generalize W (P.getD a [])=r at *
   go_enter Tryz.func211,Tryz.ntmps211
   go_wp2_with (go_at_call 181;refine hc.out.mono ?_;rintro e w' ⟨rfl,rfl⟩)
   go_ret
   exact ⟨rfl,rfl⟩
 · have hc:=As.mk (Xs w base g P W ht n false (by simp only [Bool.false_eq_true,false_iff];exact hn))
   have hS:askF P W (-1) n = -1:=if_neg hn
   rw [hS]
   clear hS hn
   go_enter Tryz.func211,Tryz.ntmps211
   go_wp2_with (go_at_call 181;refine hc.out.mono ?_;rintro e w' ⟨rfl,rfl⟩)
   go_ret
   exact ⟨rfl,rfl⟩
theorem Zad (ht:TrieAt w base g P W) (n:Int):Calls Tryz.prog 220 #[.pointer (some ⟨g,0,none⟩),.int .i64 n] w fun e w'=>e=.returned (.int .i64 (askF P (fun p=>p.length) 0 n))∧w=w':=by
 by_cases hn:0≤n∧n<P.length
 · have hc:=As.mk (Xs w base g P W ht n true (by simp [hn]))
   obtain ⟨ad,cp,mb,c0,c1,hcp,_,hcell⟩:=ht.read
   obtain ⟨a,rfl⟩:=Int.eq_ofNat_of_zero_le hn.1
   have hal:a<P.length:=by omega
   obtain ⟨d0,d1,d2,d3⟩:=hcell.out a _ (Xo hal)
   have hS:askF P (fun p=>p.length) 0 (a:Int)=((P.getD a []).length:Int):=by unfold askF;rw [if_pos hn,Int.toNat_natCast]
   rw [hS]
   clear hS hn d0 d2 d3
   generalize P.getD a []=r at *
   go_enter Tryz.func220,Tryz.ntmps220
   go_wp2_with (go_at_call 181;refine hc.out.mono ?_;rintro e w' ⟨rfl,rfl⟩)
   go_ret
   exact ⟨rfl,rfl⟩
 · have hc:=As.mk (Xs w base g P W ht n false (by simp only [Bool.false_eq_true,false_iff];exact hn))
   have hS:askF P (fun p=>p.length) 0 n=0:=if_neg hn
   rw [hS]
   clear hS hn
   go_enter Tryz.func220,Tryz.ntmps220
   go_wp2_with (go_at_call 181;refine hc.out.mono ?_;rintro e w' ⟨rfl,rfl⟩)
   go_ret
   exact ⟨rfl,rfl⟩
theorem JA (ht:TrieAt w base g P W) (n:Int):Calls Tryz.prog 137 #[.pointer (some ⟨g,0,none⟩),.int .i64 n] w fun e w'=>e=.returned (.int .i64 (askF P (parent P) (-1) n))∧w=w':=by
 by_cases hn:0≤n∧n<P.length
 · have hc:=As.mk (Xs w base g P W ht n true (by simp [hn]))
   obtain ⟨ad,cp,mb,c0,c1,hcp,_,hcell⟩:=ht.read
   obtain ⟨a,rfl⟩:=Int.eq_ofNat_of_zero_le hn.1
   have hal:a<P.length:=by omega
   obtain ⟨d0,d1,d2,d3⟩:=hcell.out a _ (Xo hal)
   have hS:askF P (parent P) (-1) (a:Int)=parent P (P.getD a []):=by unfold askF;rw [if_pos hn,Int.toNat_natCast]
   rw [hS]
   clear hS hn
   generalize parent P (P.getD a [])=r at *
   go_enter Tryz.func137,Tryz.ntmps137
   go_wp2_with (go_at_call 181;refine hc.out.mono ?_;rintro e w' ⟨rfl,rfl⟩)
   go_ret
   exact ⟨rfl,rfl⟩
 · have hc:=As.mk (Xs w base g P W ht n false (by simp only [Bool.false_eq_true,false_iff];exact hn))
   have hS:askF P (parent P) (-1) n = -1:=if_neg hn
   rw [hS]
   clear hS hn
   go_enter Tryz.func137,Tryz.ntmps137
   go_wp2_with (go_at_call 181;refine hc.out.mono ?_;rintro e w' ⟨rfl,rfl⟩)
   go_ret
   exact ⟨rfl,rfl⟩
end
end Go.Proofs.YtfdlaomnecjfeaaGreatDoor
end
section
namespace Go.Proofs.YtfdlaomnecjfeaaGreatDoor
open Go.RowKit Go.Maps Seine.Trie
attribute [local go_sem] Xn XT QM Q9
/-- It answers these bytes, in new memory. -/
def YW (P:List Txt) (n:Int):Txt:=if 0≤n∧n<P.length then P.getD n.toNat [] else []
theorem below_next' {w a b:World} (h:Below w.heap.size w a) (k:Below a.heap.size a b):Below w.heap.size w b:=h.trans (k.mono h.size)
theorem Zdf {q:Txt} (h:q≠[]):q.dropLast++[lastB q]=q:=by
 unfold lastB
 have:=List.dropLast_concat_getLast h
 rw [List.getLast?_eq_some_getLast h]
 exact this
set_option maxRecDepth 100000 in
set_option maxHeartbeats 1600000 in
theorem ZaL (w:World) (base g:Nat) (P:List Txt) (W:Txt→Int) (ht:TrieAt w base g P W) (n:Int) (hd:∀ p∈P,p.length≤100000) :
    Calls Tryz.prog 136 #[.pointer (some ⟨g,0,none⟩),.int .i64 n] w (RetByt w (YW P n)):=by
 have hT:=ht.tree
 have HT:=As.mk ht
 by_cases hn:0≤n∧n<P.length
 · obtain ⟨a,rfl⟩:=Int.eq_ofNat_of_zero_le hn.1
   have hal:a<P.length:=by omega
   obtain ⟨R,hR⟩:∃ R,YW P (a:Int)=R:=⟨_,rfl⟩
   have hRa:P[a]? = some R:=by rw [← hR];unfold YW;rw [if_pos hn,Int.toNat_natCast];exact Xo hal
   rw [hR]
   have hRa:=As.mk hRa
   have hd:=As.mk hd
   have hT:=As.mk hT
   clear hR hn
   go_enter Tryz.func136,Tryz.ntmps136
   go_wp2
   go_loopw [1,5] (fun i v wr=>∃ (m:Nat) (q acc:Txt),i=.int .i64 m∧As (P[m]? = some q∧q++acc.reverse=R)∧As (OwnByt wr w.heap.size v acc)∧As (Below w.heap.size w wr)) (fun i _ _=>(P.getD (intOf i).toNat []).length)
   case atStart=>exact ⟨a,R,[],rfl,⟨hRa.out,by simp⟩,⟨World.ownsRow_nil _ _ _ _⟩,⟨Below.refl _ _⟩⟩
   case round =>
    obtain ⟨m,q,acc,rfl,hq,hown,hbel⟩:=hrel
    have hml:m<P.length:=(List.getElem?_eq_some_iff.1 hq.out.1).1
    have HTr:=As.mk (HT.out.below hbel.out)
    have hc:=As.mk (Xs wr base g P W HTr.out m true (by simp;omega))
    obtain ⟨ad,cp,mb,c0,c1,hcp,_,hcell⟩:=HTr.out.read
    obtain ⟨d0,d1,d2,d3⟩:=hcell.out m q hq.out.1
    have hsz:=hbel.out.size
    by_cases hne:q=[]
    · have hpar:parent P q = -1:=if_pos hne
      have hacc:As (acc.reverse=R):=⟨by have:=hq.out.2;rw [hne] at this;simpa using this⟩
      have hlacc:acc.length≤1000000:=by
       have h1:=hd.out R (List.mem_of_getElem? hRa.out)
       have h2:=congrArg List.length hacc.out
       simp at h2;omega
      rw [hpar] at d0
      clear hne hpar d1 d2 d3
      go_wp2_with (go_at_call 181;refine hc.out.mono ?_;rintro e w' ⟨rfl,rfl⟩)
      refine (Y8 wr w.heap.size _ acc hown.out hlacc).mono ?_
      rintro e w2 ⟨rfl,ho2,hk2⟩
      go_wp2
      go_ret
      refine ⟨_,rfl,?_,?_⟩
      · rw [hacc.out] at ho2;exact ho2
      · exact hbel.out.trans (hk2.below (fun k hk hS=>by have:=ZM hown.out hS;omega) hsz)
    · have hsp:=Zdf hne
      have hup:=hT.out.up q (List.mem_of_getElem? hq.out.1) hne
      have hpar:parent P q=place P q.dropLast:=if_neg hne
      have hpm:=place_mem.2 hup
      obtain ⟨m2,hm2⟩:∃ m2:Nat,place P q.dropLast=(m2:Int):=⟨(place P q.dropLast).toNat,by omega⟩
      have hg2:=Y1 hup
      rw [hm2,Int.toNat_natCast] at hg2
      have hpar2:As (parent P q=(m2:Int)):=⟨hpar.trans hm2⟩
      rw [hpar,hm2] at d0
      have hlen:acc.length≤1000000:=by
       have h1:=hd.out R (List.mem_of_getElem? hRa.out)
       have h2:=congrArg List.length hq.out.2
       simp at h2;omega
      have hmeas:As ((P.getD m2 []).length<(P.getD m []).length):=⟨by
       rw [List.getD_eq_getElem?_getD,List.getD_eq_getElem?_getD,hg2,hq.out.1]
       simp only [Option.getD_some,List.length_dropLast]
       have:0<q.length:=List.length_pos_iff.2 hne
       omega⟩
      have hnew:As (P[m2]? = some q.dropLast∧q.dropLast++(acc++[lastB q]).reverse=R):=⟨hg2,by
       rw [← hq.out.2,List.reverse_append,List.reverse_cons,List.reverse_nil,List.nil_append,← List.append_assoc,hsp]⟩
      clear hpar hpm hm2 hg2 hup hsp hne d1 d2
      generalize lastB q=c at *
      generalize q.dropLast=q2 at *
      go_wp2_with (first
       | (go_at_call 181;refine hc.out.mono ?_;rintro e w' ⟨rfl,rfl⟩)
       | (at_builtin
          refine ZA _ rfl (.tmp 20) (.tmp 29) 22 rfl w.heap.size 5 _ 1 1 Tryz.underlying22 X2 rfl (by decide) _ acc.length (Zh acc) rfl hown.out [.int .u8 (c.toNat:Int)] rfl (by simp [Value.oneCell']) _ rfl (by simp) (by omega) (by decide) (by first | omega | (simp;omega)) ?_
          intro v' w2 ho2 hk2 hat2 hb2
          have hbel2:=As.mk (hbel.out.trans hb2)
          obtain ⟨ad2,cp2,mb2,c02,c12,hcp2,_,hcell2⟩:=(HT.out.below hbel2.out).read
          have ead:=c02
          rw [(hb2.cell (p:=⟨g,0,none⟩) (World.block_lt_of_cell? w _ (HT.out.read.choose_spec.choose_spec.choose_spec.1))).trans c0] at ead
          injection ead with ead
          injection ead with ead ead2 ead3
          injection ead with ead
          subst ead
          obtain ⟨e0,_,_,_⟩:=hcell2.out m q hq.out.1
          rw [hpar2.out] at e0
          clear ead2 ead3))
      go_roundw
      case rel=>exact ⟨m2,q2,acc++[c],rfl,hnew,⟨Zaa ho2⟩,hbel2⟩
      case measure=>have:=hmeas.out;simpa [intOf] using this
 · have hc:=As.mk (Xs w base g P W ht n false (by simp only [Bool.false_eq_true,false_iff];exact hn))
   have hR:YW P n=[]:=if_neg hn
   rw [hR]
   clear hR hn
   go_enter Tryz.func136,Tryz.ntmps136
   go_wp2
   refine wp_loop_rounds 1 ?_
   rw [rounds_succ]
   go_wp2_with (go_at_call 181;refine hc.out.mono ?_;rintro e w' ⟨rfl,rfl⟩)
   refine (Y8 w w.heap.size (.slice none 0 0) [] (World.ownsRow_nil _ _ _ _) (by simp)).mono ?_
   rintro e w2 ⟨rfl,ho2,hk2⟩
   go_wp2
   go_ret
   exact ⟨_,rfl,ho2,hk2.below (fun k hk hS=>by simp [Value.ownBlock] at hS) (Nat.le_refl _)⟩
/-- the bytes below k that lead on -/
def kidsF (P:List Txt) (n:Int) (k:Nat):Txt:=((List.range k).map UInt8.ofNat).filter fun c=>decide (0≤stepF P n c)
theorem kidsF_succ (P:List Txt) (n:Int) (k:Nat):kidsF P n (k+1)=kidsF P n k++if 0≤stepF P n (UInt8.ofNat k) then [UInt8.ofNat k] else []:=by
 unfold kidsF
 rw [List.range_succ,List.map_append,List.filter_append]
 congr 1
 by_cases h:0≤stepF P n (UInt8.ofNat k) <;> simp [h]
theorem Zbf (P:List Txt) (n:Int) (k:Nat):(kidsF P n k).length≤k:=by
 unfold kidsF
 have:=List.length_filter_le (fun c=>decide (0≤stepF P n c)) ((List.range k).map UInt8.ofNat)
 simpa using this
set_option maxRecDepth 100000 in
set_option maxHeartbeats 800000 in
theorem Zdg (w:World) (base g:Nat) (P:List Txt) (W:Txt→Int) (ht:TrieAt w base g P W) (hl:P.length≤1000000) (n:Int) :
    Calls Tryz.prog 178 #[.pointer (some ⟨g,0,none⟩),.int .i64 n] w (RetByt w (kidsF P n 256)):=by
 have HT:=As.mk ht
 obtain ⟨R,hR⟩:∃ R,kidsF P n 256=R:=⟨_,rfl⟩
 rw [hR]
 have hR:=As.mk hR
 go_enter Tryz.func178,Tryz.ntmps178
 go_wp2
 go_loopw [5,7] (fun v i wr=>∃ k:Nat,k≤256∧i=.int .i64 k∧As (OwnByt wr w.heap.size v (kidsF P n k))∧As (Below w.heap.size w wr)) (fun _ i _=>256 - (intOf i).toNat)
 case atStart=>exact ⟨0,by omega,rfl,⟨World.ownsRow_nil _ _ _ _⟩,⟨Below.refl _ _⟩⟩
 case round =>
  obtain ⟨k,hk,rfl,hown,hbel⟩:=hrel
  have hsz:=hbel.out.size
  by_cases hlt:k<256
  · have hcb:((UInt8.ofNat k).toNat:Int)=(k:Int):=by simp;omega
    have hc:=As.mk (XC wr base g P W (HT.out.below hbel.out) hl n (k:Int) (UInt8.ofNat k) hcb.symm)
    have hs:=As.mk (kidsF_succ P n k)
    have hlen:=Zbf P n k
    generalize kidsF P n k=acc at *
    by_cases hst:0≤stepF P n (UInt8.ofNat k)
    · rw [if_pos hst] at hs
      have hcb:=As.mk hcb
      generalize stepF P n (UInt8.ofNat k)=r at *
      go_wp2_with (first
       | (go_at_call 179;refine hc.out.mono ?_;rintro e w' ⟨rfl,rfl⟩)
       | (at_builtin
          refine ZA _ rfl (.tmp 16) (.tmp 19) 22 rfl w.heap.size 5 _ 1 1 Tryz.underlying22 X2 rfl (by decide) _ acc.length (Zh acc) rfl hown.out [.int .u8 (k:Int)] rfl (by simp [Value.oneCell']) _ rfl (by simp) (by omega) (by decide) (by first | omega | (simp;omega)) ?_
          intro v' w2 ho2 hk2 hat2 hb2))
      go_roundw
      case rel=>exact ⟨k+1,by omega,by go_num,⟨by rw [hs.out];refine Zaa ?_;rw [hcb.out];exact ho2⟩,⟨hbel.out.trans hb2⟩⟩
      case measure=>simp [intOf];omega
    · rw [if_neg hst,List.append_nil] at hs
      clear hcb
      generalize stepF P n (UInt8.ofNat k)=r at *
      go_wp2_with (go_at_call 179;refine hc.out.mono ?_;rintro e w' ⟨rfl,rfl⟩)
      go_roundw
      case rel=>exact ⟨k+1,by omega,by go_num,⟨by rw [hs.out];exact hown.out⟩,hbel⟩
      case measure=>simp [intOf];omega
  · have hk2:k=256:=by omega
    rw [hk2,hR.out] at hown
    clear hk2
    go_wp2
    go_ret
    exact ⟨_,rfl,hown.out,hbel.out⟩
theorem step_chain {P:List Txt} (hT:Tree P) (b:Txt) (k:Nat) (hk:k<b.length):stepF P (place P (b.take k)) (b.getD k 0)=place P (b.take (k+1)):=by
 have e:b.take (k+1)=b.take k++[b.getD k 0]:=by
  rw [List.take_succ_eq_append_getElem hk];simp [hk]
 have hr:=J8 P (b.take k)
 unfold stepF
 by_cases hm:b.take k∈P
 · have h0:=place_mem.2 hm
   rw [if_pos ⟨h0,hr.2⟩,List.getD_eq_getElem?_getD,Y1 hm,Option.getD_some,e]
 · have hneg:=place_neg.2 hm
   rw [if_neg (by omega)]
   symm
   apply ZQ
   intro h
   rw [e] at h
   have:=hT.up _ h (by simp)
   rw [List.dropLast_concat] at this
   exact hm this
theorem find_calls (w:World) (base g:Nat) (P:List Txt) (W:Txt→Int) (ht:TrieAt w base g P W) (hl:P.length≤1000000) (A:Option Addr) (c:Nat) (b:Txt) (hb:Byt w A b) (hbl:b.length≤1000000) :
    Calls Tryz.prog 218 #[.pointer (some ⟨g,0,none⟩),.slice A b.length c] w fun e w'=>e=.returned (.int .i64 (place P b))∧w=w':=by
 have hT:=As.mk ht.tree
 have hc:=As.mk (Qv w base g P W ht)
 have hcs:=As.mk (fun n x c h=>XC w base g P W ht hl n x c h)
 have HB:=As.mk hb
 have hP:=ht.tree.len
 clear hb ht
 obtain ⟨R,hR⟩:∃ R,place P b=R:=⟨_,rfl⟩
 rw [hR]
 have hR:=As.mk hR
 have h00:As ((0:Int)=place P (b.take 0)):=⟨by rw [List.take_zero,ZO hT.out.nodup hT.out.root];rfl⟩
 go_enter Tryz.func218,Tryz.ntmps218
 have hmin:min (0:Int) ((P.length:Int) - 1)=0:=by omega
 go_wp2_with (go_at_call 135;refine hc.out.mono ?_;rintro e w' ⟨rfl,rfl⟩)
 clear hmin
 go_loop [5,14] (fun v i=>∃ (k:Nat) (r:Int),k≤b.length∧i=.int .i64 k∧v=.int .i64 r∧As (r=place P (b.take k))) (fun _ i=>b.length - (intOf i).toNat)
 case atStart=>exact ⟨0,0,Nat.zero_le _,rfl,rfl,h00⟩
 case round =>
  obtain ⟨k,r,hk,rfl,rfl,hr⟩:=hrel
  by_cases hlt:k<b.length
  · obtain ⟨ad,rfl,a1⟩:=Byt.at_ HB.out hlt
    have hch:=step_chain hT.out b k hlt
    rw [← hr.out] at hch
    replace hch:=As.mk hch
    generalize b.getD k 0=x at *
    have hc2:=As.mk (hcs.out r (x.toNat:Int) x rfl)
    generalize stepF P r x=r2 at *
    go_wp2_with (go_at_call 179;refine hc2.out.mono ?_;rintro e w' ⟨rfl,rfl⟩)
    go_round
    case rel=>exact ⟨k+1,r2,by omega,by go_num,rfl,hch⟩
    case measure=>simp [intOf];omega
  · have hfin:As (r=R):=⟨by rw [hr.out,List.take_of_length_le (by omega)];exact hR.out⟩
    go_wp2
    go_ret
    exact ⟨QL hfin.out,rfl⟩
end Go.Proofs.YtfdlaomnecjfeaaGreatDoor
end
section
namespace Go.Proofs.YtfdlaomnecjfeaaGreatDoor
open Go.RowKit Go.Maps Seine.Trie
/-- A slice of byte texts. -/
def Txts (w:World) (A:Option Addr) (l:List Txt):Prop :=
 ∃ vs:List Value,vs.length=l.length∧Row w A vs∧∀ i,i<l.length→∃ A' c',vs[i]? = some (.slice A' (l.getD i []).length c')∧(l.getD i []).length≤c'∧Byt w A' (l.getD i [])
theorem Txts.below {w w':World} {A:Option Addr} {l:List Txt} (h:Txts w A l) (hb:Below w.heap.size w w'):Txts w' A l:=by
 obtain ⟨vs,h1,h2,h3⟩:=h
 refine ⟨vs,h1,h2.below hb,fun i hi=>?_⟩
 obtain ⟨A',c',a,b,c⟩:=h3 i hi
 exact ⟨A',c',a,b,Row.below c hb⟩
theorem Txts.at_ {w:World} {A:Option Addr} {l:List Txt} (h:Txts w A l) {i:Nat} (hi:i<l.length):∃ ad A' c',A=some ad∧w.cell? (ad.add i)=some (.slice A' (l.getD i []).length c')∧(l.getD i []).length≤c'∧Byt w A' (l.getD i []):=by
 obtain ⟨vs,h1,h2,h3⟩:=h
 obtain ⟨A',c',a,b,c⟩:=h3 i hi
 obtain ⟨ad,e1,e2⟩:=h2.at_ (j:=i) (by omega)
 refine ⟨ad,A',c',e1,?_,b,c⟩
 rw [e2]
 rw [List.getElem?_eq_getElem (by omega)] at a
 exact a
def tot (l:List Txt):Nat:=(l.map List.length).sum
theorem Yq (l:List Txt):(Zl l).length≤1+tot l:=by
 have H:∀ n (l:List Txt),l.length=n→(Zl l).length≤1+tot l:=by
  intro n
  induction n with
  | zero=>intro l hl;rw [List.eq_nil_of_length_eq_zero hl];simp [Zl,tot]
  | succ n ih =>
    intro l hl
    have hne:l≠[]:=by intro h;simp [h] at hl
    obtain ⟨m,x,rfl⟩:∃ m x,l=m++[x]:=⟨l.dropLast,l.getLast hne,(List.dropLast_concat_getLast hne).symm⟩
    have h1:=ih m (by simp at hl;omega)
    have h2:=Zbe (Zl m) x x.length
    rw [Jl]
    unfold Zap tot at *
    simp only [List.map_append,List.sum_append,List.map_cons,List.map_nil,List.sum_cons,List.sum_nil]
    omega
 exact H _ l rfl
theorem tot_app (a b:List Txt):tot (a++b)=tot a+tot b:=by simp [tot]
theorem Ze0 (l:List Txt) (k:Nat) (h:k<l.length):tot (l.take k)+(l.getD k []).length≤tot l:=by
 have h2:tot l=tot (l.take k)+tot (l.drop k):=by rw [← tot_app,List.take_append_drop]
 have h3:tot (l.drop k)=(l.getD k []).length+tot (l.drop (k+1)):=by
  rw [List.drop_eq_getElem_cons h]
  simp only [tot,List.map_cons,List.sum_cons,List.getD_eq_getElem?_getD,List.getElem?_eq_getElem h,Option.getD_some]
 omega
theorem Za8 (l:List Txt) (k:Nat) (h:k<l.length):l.take (k+1)=l.take k++[l.getD k []]:=by
 rw [List.take_succ_eq_append_getElem h];simp [h]
/-- Another word of one node. -/
theorem Zec (par:Txt→Int) (W W':Txt→Int) (s:Txt) (x:Int) (hs:W' s=x) (ho:∀ p,p≠s→W' p=W p):∀ (P:List Txt) (a:Nat),P.Nodup→P[a]? = some s →
    P.flatMap (fun p=>[Value.int .i64 (par p),.int .i64 (p.length:Int),.int .i64 (W' p),.int .u8 ((lastB p).toNat:Int)]) =
     (P.flatMap (fun p=>[Value.int .i64 (par p),.int .i64 (p.length:Int),.int .i64 (W p),.int .u8 ((lastB p).toNat:Int)])).set (a * 4+2) (.int .i64 x)
 | [],_,_,h=>by simp at h
 | p::P,0,hn,h=>by
   simp at h;subst h
   rw [List.flatMap_cons,List.flatMap_cons]
   have:P.flatMap (fun p=>[Value.int .i64 (par p),.int .i64 (p.length:Int),.int .i64 (W' p),.int .u8 ((lastB p).toNat:Int)])=P.flatMap (fun p=>[Value.int .i64 (par p),.int .i64 (p.length:Int),.int .i64 (W p),.int .u8 ((lastB p).toNat:Int)]) :=
    ZaK (fun q hq=>by rw [ho q (fun e=>by subst e;exact (List.nodup_cons.1 hn).1 hq)])
   rw [this,hs]
   rfl
 | p::P,a+1,hn,h=>by
   have hmem:s∈P:=List.mem_of_getElem? (by simpa using h:P[a]? = some s)
   have hne:p≠s:=fun e=>by subst e;exact (List.nodup_cons.1 hn).1 hmem
   rw [List.flatMap_cons,List.flatMap_cons,Zec par W W' s x hs ho P a (List.nodup_cons.1 hn).2 (by simpa using h),ho p hne]
   rw [show (a+1) * 4+2=(a * 4+2)+4 by omega]
   rfl
theorem nodeCells_word {P:List Txt} (hT:Tree P) {W W':Txt→Int} {s:Txt} {x:Int} {a:Nat} (ha:P[a]? = some s) (hs:W' s=x) (ho:∀ p,p≠s→W' p=W p):QD P W'=(QD P W).set (a * 4+2) (.int .i64 x) :=
 Zec (parent P) W W' s x hs ho P a hT.nodup ha
def RetTrie (w:World) (P:List Txt) (W:Txt→Int) (e:Ending) (w':World):Prop :=
 ∃ g,e=.returned (.pointer (some ⟨g,0,none⟩))∧TrieAt w' w.heap.size g P W∧Below w.heap.size w w'
theorem TrieAt.start (w:World):TrieAt (((w.alloc (.cells #[.int .i64 (-1),.int .i64 0,.int .i64 (-1),.int .u8 0] 279)).alloc (.map #[] 0)).alloc (.cells #[.slice (some ⟨w.heap.size,0,none⟩) 1 1,.map (some (w.heap.size+1))] 283)) w.heap.size (w.heap.size+2) [[]] (fun _=>-1):=by
 have h0:(w.alloc (.cells #[.int .i64 (-1),.int .i64 0,.int .i64 (-1),.int .u8 0] 279)).heap[w.heap.size]? = some (.cells #[.int .i64 (-1),.int .i64 0,.int .i64 (-1),.int .u8 0] 279 (0,0)):=heap_alloc_new _ _
 have hm:=MapIs.made (w.alloc (.cells #[.int .i64 (-1),.int .i64 0,.int .i64 (-1),.int .u8 0] 279)) Tryz.prog 320 3
 have hs:(w.alloc (.cells #[.int .i64 (-1),.int .i64 0,.int .i64 (-1),.int .u8 0] 279)).heap.size=w.heap.size+1:=World.size_alloc _ _
 rw [hs] at hm
 refine ⟨.slice (some ⟨w.heap.size,0,none⟩) 1 1,w.heap.size+1,?_,by omega,by omega,?_,?_,Tree.start⟩
 · have:=heap_alloc_new ((w.alloc (.cells #[.int .i64 (-1),.int .i64 0,.int .i64 (-1),.int .u8 0] 279)).alloc (.map #[] 0)) (.cells #[.slice (some ⟨w.heap.size,0,none⟩) 1 1,.map (some (w.heap.size+1))] 283)
   rw [World.size_alloc,hs] at this
   exact this
 · refine ⟨rfl,.inr ⟨w.heap.size,1,_,rfl,Nat.le_refl _,Zn (Zn h0),Nat.le_refl _,by simp [maxLen],rfl,rfl⟩⟩
 · refine (MapIs.below (MapIs.mono ?_ (Nat.zero_le 1)) ((Below.refl _ _).alloc (Nat.le_refl _) _))
   obtain ⟨D,a,b,c⟩:=hm
   refine ⟨D,a,b,fun key kl hk=>?_⟩
   have:=c key kl hk
   have he:QW [[]] key=none:=by
    unfold QW
    split
    · rw [if_neg]
      rintro ⟨x1,x2,_,_,x5⟩
      have:=place_mem.1 x5
      simp at this
    · rfl
   rw [he]
   exact this
theorem TrieAt.write {w:World} {base g:Nat} {P:List Txt} {W:Txt→Int} (h:TrieAt w base g P W):∃ b cp,w.cell? ⟨g,0,none⟩=some (.slice (some ⟨b,0,none⟩) P.length cp)∧P.length≤cp ∧
    (∀ i p,P[i]? = some p→w.cell? ⟨b,i * 4+2,none⟩=some (.int .i64 (W p))∧w.frozen? ⟨b,i * 4+2,none⟩=false) ∧
    ∀ i s x W',P[i]? = some s→W' s=x→(∀ p,p≠s→W' p=W p)→TrieAt (w.setCell ⟨b,i * 4+2,none⟩ (.int .i64 x)) base g P W'∧Below base w (w.setCell ⟨b,i * 4+2,none⟩ (.int .i64 x)):=by
 obtain ⟨v,mb,hg,h1,h2,ho,hm,hT⟩:=h
 have hl:=hT.len
 obtain ⟨b,cp,rfl,hb,hcp⟩:∃ b cp,v=.slice (some ⟨b,0,none⟩) P.length cp∧base≤b∧P.length≤cp:=by
  rcases ho.2 with ⟨_,h⟩ | ⟨b,cap,cur,hv,hb,hh,hnc,_⟩
  · omega
  · exact ⟨b,cap,hv,hb,hnc⟩
 refine ⟨b,cp,Za hg 0,hcp,fun i p hi=>⟨?_,World.ownsRow.frozenAt ho _⟩,fun i s x W' hi hs hW=>?_⟩
 · have hil:i<P.length:=(List.getElem?_eq_some_iff.1 hi).1
   rw [World.ownsRow.cellAt ho (i * 4+2) (by omega),Jz P W hi 2 (by omega)]
   rfl
 · have s1:=World.ownsRow.stored ho (i * 4+2) (.int .i64 x)
   have hbg:g≠b:=fun e=>Zy ho hg (by decide) (by rw [e];rfl)
   obtain ⟨es,cl,hmm⟩:=hm.is_map
   have hmb:mb≠b:=fun e=>Zcc ho hmm (by rw [e];rfl)
   refine ⟨⟨_,mb,(Below.heap_setCell _ _ _ _ hbg).trans hg,h1,h2,?_,hm.keep (XB w ⟨b,i * 4+2,none⟩ _) hmb,hT⟩,(Below.refl _ _).setCell hb _⟩
   rw [nodeCells_word hT hi hs hW]
   exact s1.1
theorem addTo_words {l:List Txt} {b:Txt} {m:Nat} {q:Txt} (h:q ∉ QH (Zl l) b m):place l q = -1:=by
 refine ZQ (fun hm=>h ?_)
 obtain ⟨x,hx⟩:=Zdb (Zl l) b m
 rw [hx]
 exact List.mem_append_left _ (Qp hm)
theorem Qs {P:List Txt} {s:Txt} (h:s∈P):∃ a:Nat,place P s=(a:Int)∧P[a]? = some s:=by
 have h1:=place_mem.2 h
 refine ⟨(place P s).toNat,by omega,Y1 h⟩
theorem Zae (b:Txt) (m:Nat) (h:m<b.length):b.take (m+1)=b.take m++[b.getD m 0]:=by
 rw [List.take_succ_eq_append_getElem h];simp [h]
set_option maxRecDepth 100000 in
set_option maxHeartbeats 1600000 in
theorem Zaf (w:World) (A:Option Addr) (c:Nat) (l:List Txt) (htx:Txts w A l) (hl:tot l≤900000) (hll:l.length≤1000000) :
    Calls Tryz.prog 133 #[.slice A l.length c] w (RetTrie w (Zl l) (place l)):=by
 have HX:=As.mk htx
 have h00:=As.mk (TrieAt.start w)
 obtain ⟨n,hn⟩:∃ n,l.length=n:=⟨_,rfl⟩
 rw [hn] at hll
 rw [hn]
 have hn:=As.mk hn
 have HL:=As.mk hl
 have htot:=As.mk (fun k h=>Ze0 l k h)
 have hpl:=As.mk (fun k=>Yq (l.take k))
 clear htx hl
 generalize hB:w.heap.size=B at *
 have hst:As (∀ k,k<n→l.take (k+1)=l.take k++[l.getD k []]):=⟨fun k h=>Za8 l k (by rw [hn.out];exact h)⟩
 have hmm:=@run_makeMap Tryz.prog
 go_enter Tryz.func133,Tryz.ntmps133
 go_wp2
 go_loopw [16] (fun i wr=>∃ k:Nat,k≤n∧i=.int .i64 k∧As (TrieAt wr B (B+2) (Zl (l.take k)) (place (l.take k)))∧As (Below B w wr)) (fun i _=>n - (intOf i).toNat)
 case atStart =>
  refine ⟨0,Nat.zero_le _,rfl,⟨?_⟩,⟨?_⟩⟩
  · have hp0:place []=fun _=>-1:=by funext x;rfl
    have hp1:Zl []=[[]]:=rfl
    rw [List.take_zero,hp0,hp1]
    simpa using h00.out
  · exact (((Below.refl _ _).alloc (by omega) _).alloc (by simp;omega) _).alloc (by simp;omega) _
 case round =>
  obtain ⟨k,hk,rfl,hta,hbel⟩:=hrel
  by_cases hlt:k<n
  · obtain ⟨b,hb⟩:∃ b,l.getD k []=b:=⟨_,rfl⟩
    have hT0:=As.mk hta.out.tree
    obtain ⟨ad,A',c',rfl,a1,hc',hbyt⟩:=HX.out.at_ (i:=k) (by rw [hn.out];exact hlt)
    replace a1:=(hbel.out.cell (p:=ad.add k) (by have:=World.block_lt_of_cell? w _ a1;omega)).trans a1
    rw [hb] at a1 hc' hbyt
    have hLk:As ((l.take k).length=k):=⟨by rw [List.length_take,hn.out];omega⟩
    have hbyt:=As.mk hbyt
    have hbl:b.length+tot (l.take k)≤900000:=by
     have h1:=htot.out k (by rw [hn.out];exact hlt)
     rw [hb] at h1
     have:=HL.out
     omega
    have hPl:=hpl.out k
    have hnext:As (l.take (k+1)=l.take k++[b]):=⟨by rw [hst.out k hlt,hb]⟩
    generalize hL:l.take k=L at *
    have hlen:As (∀ m,m≤b.length→(QH (Zl L) b m).length≤900001):=⟨fun m hm=>by have:=Zbe (Zl L) b m;omega⟩
    have hsp:As (∀ m,m≤b.length→Tree (QH (Zl L) b m)∧b.take m∈QH (Zl L) b m):=⟨fun m hm=>⟨(Jk hT0.out b m hm).1,(Jk hT0.out b m hm).2.1⟩⟩
    have hstart:As ((0:Int)=place (QH (Zl L) b 0) (b.take 0)):=⟨by rw [List.take_zero];exact (ZO hT0.out.nodup hT0.out.root).symm⟩
    obtain ⟨bl,hbL⟩:∃ bl,b.length=bl:=⟨_,rfl⟩
    rw [hbL] at a1 hc' hbl hlen hsp
    have hbL:=As.mk hbL
    clear hPl hpl htot
    go_wp2
    go_loopw [6,23] (fun at_ j wr2=>∃ (m:Nat) (r:Int),m≤bl∧j=.int .i64 m∧at_=.int .i64 r∧As (r=place (QH (Zl L) b m) (b.take m))∧As (TrieAt wr2 B (B+2) (QH (Zl L) b m) (place L))∧As (Below B w wr2)) (fun _ j _=>bl - (intOf j).toNat)
    case atStart=>exact ⟨0,0,Nat.zero_le _,rfl,rfl,hstart,hta,hbel⟩
    case round =>
     obtain ⟨m,r,hm,rfl,rfl,hr,hta2,hbel2⟩:=hrel
     by_cases hmlt:m<bl
     · obtain ⟨ad2,rfl,a2⟩:=Byt.at_ (Row.below hbyt.out (hB.symm ▸ hbel2.out)) (i:=m) (by rw [hbL.out];exact hmlt)
       obtain ⟨x,hx⟩:∃ x,b.getD m 0=x:=⟨_,rfl⟩
       rw [hx] at a2
       obtain ⟨a,ha1,ha2⟩:=Qs (hsp.out m hm).2
       rw [← hr.out] at ha1
       subst ha1
       have hg:=grow_calls wr B (B+2) _ _ a (b.take m) x hta2.out ha2 (by have:=hlen.out m hm;omega) (by rw [List.length_take,hbL.out];omega) (fun h=>addTo_words h)
       have htk:b.take m++[x]=b.take (m+1):=by rw [← hx];exact (Zae b m (by rw [hbL.out];exact hmlt)).symm
       rw [htk] at hg
       replace hg:=As.mk hg
       clear htk ha2
       go_wp2_with (go_at_call 176;refine hg.out.mono ?_;rintro e w' ⟨rfl,ht3,hb3⟩)
       go_roundw
       case rel=>exact ⟨m+1,_,by omega,by go_num,rfl,⟨rfl⟩,⟨ht3⟩,⟨hbel2.out.trans hb3⟩⟩
       case measure=>simp [intOf];omega
     · obtain rfl:m=bl:=by omega
       have htb:b.take m=b:=List.take_of_length_le (by rw [hbL.out];omega)
       obtain ⟨a,ha1,ha2⟩:=Qs (hsp.out m hm).2
       rw [← hr.out] at ha1
       subst ha1
       rw [htb] at ha2
       have hpp:QH (Zl L) b m=Zl (L++[b]):=by rw [Jl];unfold Zap;rw [hbL.out]
       have ha3:=(List.getElem?_eq_some_iff.1 ha2).1
       have hPL:=hlen.out m hm
       rw [hpp] at ha2 ha3 hPL
       have hta3:=hta2.out
       rw [hpp] at hta3
       replace hta3:=As.mk hta3
       obtain ⟨bb,cp,c0,hcp,hcell,hwr⟩:=hta3.out.write
       obtain ⟨d0,f0⟩:=hcell a b ha2
       generalize hQ:Zl (L++[b])=Q at *
       clear hcell hpp htb hta2 hlen hsp hstart
       by_cases hin:b∈L
       · have hge:=place_mem.2 hin
         have hsame:place (L++[b])=place L:=by
          funext p
          rw [X1]
          by_cases hp:p∈L
          · rw [if_pos hp]
          · rw [if_neg hp,if_neg (fun e:b=p=>hp (e ▸ hin)),ZQ hp]
         have hfin:As (TrieAt wr B (B+2) (Zl (l.take (k+1))) (place (l.take (k+1)))):=⟨by rw [hnext.out,hsame,hQ];exact hta3.out⟩
         clear hsame hwr hin
         generalize place L b=y at *
         go_wp2
         go_roundw
         case rel=>exact ⟨k+1,by omega,by go_num,hfin,hbel2⟩
         case measure=>simp [intOf];omega
       · have hy:=ZQ hin
         have hw2:=hwr a b (k:Int) (place (L++[b])) ha2 (by rw [X1,if_neg hin,if_pos rfl,hLk.out]) (fun p hp=>by
          rw [X1]
          by_cases hp2:p∈L
          · rw [if_pos hp2]
          · rw [if_neg hp2,if_neg (fun e=>hp e.symm),ZQ hp2])
         have hfin:As (TrieAt (wr.setCell ⟨bb,a * 4+2,none⟩ (.int .i64 (k:Int))) B (B+2) (Zl (l.take (k+1))) (place (l.take (k+1)))):=⟨by rw [hnext.out,hQ];exact hw2.1⟩
         have hbel3:=As.mk (hbel2.out.trans hw2.2)
         rw [hy] at d0
         clear hw2 hwr hin hy
         go_wp2
         go_roundw
         case rel=>exact ⟨k+1,by omega,by go_num,hfin,hbel3⟩
         case measure=>simp [intOf];omega
  · obtain rfl:k=n:=by omega
    have hfin:As (TrieAt wr B (B+2) (Zl l) (place l)):=⟨by
     have:=hta.out
     rw [← hn.out,List.take_length] at this
     exact this⟩
    go_wp2
    go_ret
    exact ⟨B+2,rfl,hB.symm ▸ hfin.out,hB.symm ▸ hbel.out⟩
end Go.Proofs.YtfdlaomnecjfeaaGreatDoor
end
