/- Joined texts: TwoWalk3, TwoWalk4, TwoScan, OneOcc, Engine, Engine2. -/
import Derived.Test.YtfdlaomnecjfeaaGreatDoorM10
import Derived.Test.YtfdlaomnecjfeaaGreatDoorM1
import Derived.WalkSpells
import Derived.Test.YtfdlaomnecjfeaaGreatDoorM3
import Derived.Test.YtfdlaomnecjfeaaGreatDoorM5
import Derived.Test.YtfdlaomnecjfeaaGreatDoorM6
import Derived.Test.YtfdlaomnecjfeaaGreatDoorM8
set_option linter.unusedVariables false
set_option linter.unusedSimpArgs false
section
namespace Go.Proofs.YtfdlaomnecjfeaaGreatDoor
open Go.RowKit Seine.Trie Seine.Two Go.Proofs.YtfdlaomnecjfeaaGreatDoorW.PrintWords
/-- A finder of the text b at block g: the cut a, the move s, whether s is the period. -/
def TwoIn (w:World) (g:Nat) (b:Txt) (ad:Addr) (cb a s:Nat) (sm:Bool):Prop :=
 w.heap[g]? = some (.cells #[.slice (some ad) b.length cb,.int .i64 (a:Int),.int .i64 (s:Int),.bool sm,.func (.func (if sm then 142 else 141)) #[] #[]] 250 (0,0))∧b.length≤cb∧Byt w (some ad) b∧Cut (bx b) b.length a s sm
theorem TwoIn.below {w w':World} {g:Nat} {b:Txt} {ad:Addr} {cb a s:Nat} {sm:Bool} (h:TwoIn w g b ad cb a s sm) (hb:Below w.heap.size w w'):TwoIn w' g b ad cb a s sm :=
 ⟨Zc hb h.1,h.2.1,Row.below h.2.2.1 hb,h.2.2.2⟩
section
variable {w:World} {g:Nat} {b:Txt} {ad:Addr} {cb a s:Nat} {sm:Bool}
theorem TwoIn.c0 (h:TwoIn w g b ad cb a s sm):w.cell? ⟨g,0,none⟩=some (.slice (some ad) b.length cb):=Za h.1 0
theorem TwoIn.c1 (h:TwoIn w g b ad cb a s sm):w.cell? ⟨g,1,none⟩=some (.int .i64 (a:Int)):=Za h.1 1
theorem TwoIn.c2 (h:TwoIn w g b ad cb a s sm):w.cell? ⟨g,2,none⟩=some (.int .i64 (s:Int)):=Za h.1 2
theorem TwoIn.c4 (h:TwoIn w g b ad cb a s sm):w.cell? ⟨g,4,none⟩=some (.func (.func (if sm then 142 else 141)) #[] #[]):=Za h.1 4
end
set_option maxRecDepth 100000 in
set_option maxHeartbeats 1600000 in
theorem Zcv (w:World) (g:Nat) (b:Txt) (ad:Addr) (cb a s:Nat) (sm:Bool) (h:TwoIn w g b ad cb a s sm) (hl:b.length≤1000000) (A:Option Addr) (c:Nat) (l:Txt) (hx:Byt w A l) (hll:l.length≤1000000) (p fr:Nat) (hp:p+b.length≤l.length) (hf:fr≤b.length) :
    Calls Tryz.prog 193 #[.pointer (some ⟨g,0,none⟩),.slice A l.length c,.int .i64 (p:Int),.int .i64 (fr:Int)] w fun e w'=>∃ i:Nat,e=.returned (.int .i64 (i:Int))∧(fr≤i∧i≤b.length∧(∀ k,fr≤k→k<i→bx l (p+k)=bx b k)∧(i<b.length→bx l (p+i)≠bx b i))∧Below w.heap.size w w':=by
 have c0:=h.c0
 have HB:=As.mk h.2.2.1
 have HX:=As.mk hx
 clear h hx
 obtain ⟨n,hn⟩:∃ n,b.length=n:=⟨_,rfl⟩
 obtain ⟨m,hm⟩:∃ m,l.length=m:=⟨_,rfl⟩
 rw [hn] at c0 hl hp hf
 rw [hm] at hp hll
 rw [hn,hm]
 have hn:=As.mk hn
 have hm:=As.mk hm
 go_enter Tryz.func193,Tryz.ntmps193
 go_wp2
 go_loopw [9] (fun i wr=>∃ k j:Nat,fr≤k∧k≤n∧i=.int .i64 k∧As (∀ q,fr≤q→q<k→bx l (p+q)=bx b q)∧wr=w.drewN j) (fun i _=>n - (intOf i).toNat)
 case atStart=>exact ⟨fr,0,Nat.le_refl _,hf,rfl,⟨fun q h1 h2=>by omega⟩,rfl⟩
 case round =>
  obtain ⟨k,j,hk1,hk2,rfl,hfit,rfl⟩:=hrel
  by_cases hlt:k<n
  · obtain ⟨ad',e',c1⟩:=Byt.at_ HB.out (i:=k) (by have:=hn.out;omega)
    injection e' with e'
    subst e'
    obtain ⟨ad2,rfl,c2⟩:=Byt.at_ HX.out (i:=p+k) (by have:=hm.out;omega)
    obtain ⟨x,hx⟩:∃ x,(b.getD k 0).toNat=x:=⟨_,rfl⟩
    obtain ⟨y,hy⟩:∃ y,(l.getD (p+k) 0).toNat=y:=⟨_,rfl⟩
    rw [hx] at c1
    rw [hy] at c2
    have hx:=As.mk (show bx b k=x from hx)
    have hy:=As.mk (show bx l (p+k)=y from hy)
    have hkn:(k:Int)<(n:Int):=by omega
    have hkn':decide ((k:Int)<(n:Int))=true:=by simp;omega
    have hpk:(p:Int)+(k:Int)<(m:Int):=by omega
    have i1:IntKind.i64.wrap ((p:Int)+(k:Int))=(p:Int)+(k:Int):=IntWalk.i64_in _ (by omega)
    have j1:0≤(p:Int)+(k:Int):=by omega
    have k1:((p:Int)+(k:Int)).toNat=p+k:=by omega
    by_cases hxy:x=y
    · have hb1:((x:Int) == (y:Int))=true:=by simp;omega
      have hfit2:As (∀ q,fr≤q→q<k+1→bx l (p+q)=bx b q):=⟨fun q h1 h2=>by
       rcases Nat.lt_or_ge q k with h | h
       · exact hfit.out q h1 h
       · obtain rfl:q=k:=by omega
         rw [hx.out,hy.out,hxy]⟩
      go_wp2
      go_quiet (fail)
      clear i1 j1 k1 c1 c2
      rw [World.drewN_drewN]
      go_wp2
      go_roundw
      case rel=>exact ⟨k+1,_,by omega,by omega,(by first | rfl | go_num | (congr 1;omega)),hfit2,rfl⟩
      case measure=>simp [intOf];omega
    · have hb1:((x:Int) == (y:Int))=false:=by simp;omega
      have hno:As (bx l (p+k)≠bx b k):=⟨by rw [hx.out,hy.out];exact fun e=>hxy e.symm⟩
      go_wp2
      go_quiet (fail)
      clear i1 j1 k1 c1 c2
      rw [World.drewN_drewN]
      go_wp2
      go_ret
      exact ⟨k,rfl,⟨hk1,by omega,hfit.out,fun _=>hno.out⟩,ZF (Below.refl _ _) _⟩
  · obtain rfl:k=n:=by omega
    have hkn:decide ((k:Int)<(k:Int))=false:=by simp
    go_wp2
    go_quiet (fail)
    go_wp2
    go_ret
    exact ⟨k,rfl,⟨hk1,by omega,hfit.out,fun h=>absurd h (by omega)⟩,ZF (ZF (Below.refl _ _) _) _⟩
def LeftPost (w:World) (y x:Nat→Nat) (p dn a:Nat) (e:Ending) (w':World):Prop:=∃ r:Bool,e=.returned (.bool r)∧(r=true↔∀ k,dn≤k→k<a→y (p+k)=x k)∧Below w.heap.size w w'
def Zfi (w:World) (x:Nat→Nat) (n:Nat) (y:Nat→Nat) (m p:Nat) (e:Ending) (w':World):Prop:=∃ r:Int,e=.returned (.int .i64 r)∧Seine.Two.next x n y m p r∧Below w.heap.size w w'
set_option maxRecDepth 100000 in
set_option maxHeartbeats 1600000 in
theorem Zdx (w:World) (g:Nat) (b:Txt) (ad:Addr) (cb a s:Nat) (sm:Bool) (h:TwoIn w g b ad cb a s sm) (hl:b.length≤1000000) (A:Option Addr) (c:Nat) (l:Txt) (hx:Byt w A l) (hll:l.length≤1000000) (p dn:Nat) (hp:p+b.length≤l.length) :
    Calls Tryz.prog 194 #[.pointer (some ⟨g,0,none⟩),.slice A l.length c,.int .i64 (p:Int),.int .i64 (dn:Int)] w (LeftPost w (bx l) (bx b) p dn a):=by
 have c0:=h.c0
 have c1:=h.c1
 have ham:=h.2.2.2.am
 have HB:=As.mk h.2.2.1
 have HX:=As.mk hx
 clear h hx
 obtain ⟨n,hn⟩:∃ n,b.length=n:=⟨_,rfl⟩
 obtain ⟨m,hm⟩:∃ m,l.length=m:=⟨_,rfl⟩
 rw [hn] at c0 hl hp ham
 rw [hm] at hp hll
 rw [hm]
 have hn:=As.mk hn
 have hm:=As.mk hm
 have hw0:IntKind.i64.wrap ((a:Int) - 1)=(a:Int) - 1:=IntWalk.i64_in _ (by omega)
 go_enter Tryz.func194,Tryz.ntmps194
 go_wp2
 clear hw0
 go_loopw [9] (fun i wr=>∃ (z:Int) (j:Nat),i=.int .i64 z∧-1≤z∧z<a∧As (∀ q:Nat,dn≤q→z<q→q<a→bx l (p+q)=bx b q)∧wr=w.drewN j) (fun i _=>(intOf i+1).toNat)
 case atStart=>exact ⟨(a:Int) - 1,0,rfl,by omega,by omega,⟨fun q h1 h2 h3=>by omega⟩,rfl⟩
 case round =>
  obtain ⟨z,j,rfl,hz1,hz2,hfit,rfl⟩:=hrel
  by_cases hlt:(dn:Int)≤z
  · obtain ⟨k,rfl⟩:∃ k:Nat,z=k:=⟨z.toNat,by omega⟩
    have hka:k<a:=by omega
    have hdk:dn≤k:=by omega
    obtain ⟨ad',e',c2⟩:=Byt.at_ HB.out (i:=k) (by have:=hn.out;omega)
    injection e' with e'
    subst e'
    obtain ⟨ad2,rfl,c3⟩:=Byt.at_ HX.out (i:=p+k) (by have:=hm.out;omega)
    obtain ⟨x,hx⟩:∃ x,(b.getD k 0).toNat=x:=⟨_,rfl⟩
    obtain ⟨y,hy⟩:∃ y,(l.getD (p+k) 0).toNat=y:=⟨_,rfl⟩
    rw [hx] at c2
    rw [hy] at c3
    have hx:=As.mk (show bx b k=x from hx)
    have hy:=As.mk (show bx l (p+k)=y from hy)
    have hkn:(k:Int)<(n:Int):=by omega
    have hpk:(p:Int)+(k:Int)<(m:Int):=by omega
    have i1:IntKind.i64.wrap ((p:Int)+(k:Int))=(p:Int)+(k:Int):=IntWalk.i64_in _ (by omega)
    have j1:0≤(p:Int)+(k:Int):=by omega
    have k1:((p:Int)+(k:Int)).toNat=p+k:=by omega
    by_cases hxy:x=y
    · have hb1:((x:Int) != (y:Int))=false:=by simp;omega
      have hfit2:As (∀ q:Nat,dn≤q→(k:Int) - 1<q→q<a→bx l (p+q)=bx b q):=⟨fun q h1 h2 h3=>by
       rcases Nat.lt_or_ge k q with h | h
       · exact hfit.out q h1 (by omega) h3
       · obtain rfl:q=k:=by omega
         rw [hx.out,hy.out,hxy]⟩
      go_wp2
      go_quiet (fail)
      clear i1 j1 k1 c2 c3
      rw [World.drewN_drewN]
      go_wp2
      go_roundw
      case rel=>exact ⟨(k:Int) - 1,_,rfl,by omega,by omega,hfit2,rfl⟩
      case measure=>first | (simp [intOf];done) | (simp [intOf];omega)
    · have hb1:((x:Int) != (y:Int))=true:=by simp;omega
      have hno:As (bx l (p+k)≠bx b k):=⟨by rw [hx.out,hy.out];exact fun e=>hxy e.symm⟩
      go_wp2
      go_quiet (fail)
      clear i1 j1 k1 c2 c3
      rw [World.drewN_drewN]
      go_wp2
      go_ret
      exact ⟨false,rfl,⟨(fun h=>by cases h),fun h=>absurd (h k hdk hka) hno.out⟩,ZF (Below.refl _ _) _⟩
  · have hz3:decide ((dn:Int)≤z)=false:=by simp;omega
    go_wp2
    go_ret
    exact ⟨true,rfl,⟨fun _ k h1 h2=>hfit.out k h1 (by omega) h2,fun _=>rfl⟩,ZF (Below.refl _ _) _⟩
set_option maxRecDepth 100000 in
set_option maxHeartbeats 1600000 in
theorem plain_calls (w:World) (g:Nat) (b:Txt) (ad:Addr) (cb a s:Nat) (sm:Bool) (h:TwoIn w g b ad cb a s sm) (hl:b.length≤1000000) (A:Option Addr) (c:Nat) (l:Txt) (hx:Byt w A l) (hll:l.length≤1000000) (p0:Nat) (hp0:p0≤1000000) :
    Calls Tryz.prog 141 #[.pointer (some ⟨g,0,none⟩),.slice A l.length c,.int .i64 (p0:Int)] w (Zfi w (bx b) b.length (bx l) l.length p0):=by
 have H:=As.mk h
 have HX:=As.mk hx
 have hcut:=As.mk h.2.2.2
 have ham:=h.2.2.2.am
 have hs1:=h.2.2.2.s1
 have hsf:=h.2.2.2.far
 have hrg:=As.mk (fun (v:World) (hv:Below w.heap.size w v) p fr h1 h2=>Zcv v g b ad cb a s sm (h.below hv) hl A c l (Row.below hx hv) hll p fr h1 h2)
 have hlf:=As.mk (fun (v:World) (hv:Below w.heap.size w v) p dn h1=>Zdx v g b ad cb a s sm (h.below hv) hl A c l (Row.below hx hv) hll p dn h1)
 clear h hx
 obtain ⟨n,hn⟩:∃ n,b.length=n:=⟨_,rfl⟩
 obtain ⟨m,hm⟩:∃ m,l.length=m:=⟨_,rfl⟩
 rw [hn] at hcut hl ham hsf hrg
 rw [hm] at hll hrg hlf
 rw [hn] at hlf
 rw [hn,hm]
 have hn:=As.mk hn
 have hm:=As.mk hm
 go_enter Tryz.func141,Tryz.ntmps141
 go_wp2
 go_step3
 go_wp2
 go_step3
 go_wp2
 go_loopg [2] (m+2) (fun gk i wr=>∃ p:Nat,As (m+2≤gk+p)∧i=.int .i64 p∧p0≤p∧p≤4000000∧As (∀ j,p0≤j→j<p→¬ XI (bx b) n (bx l) m j)∧As (Below w.heap.size w wr))
 case atStart=>exact ⟨p0,⟨by omega⟩,rfl,Nat.le_refl _,by omega,⟨fun j h1 h2=>by omega⟩,⟨Below.refl _ _⟩⟩
 case round =>
  obtain ⟨p,hgk,rfl,hp1,hp2,hno,hbel⟩:=hrel
  have HI:=H.out.below hbel.out
  have c0:=HI.c0
  have c1:=HI.c1
  have c2:=HI.c2
  rw [hn.out] at c0
  clear HI
  by_cases hlt:p+n≤m
  · obtain ⟨gp,rfl⟩:∃ gp,gk=gp+1:=⟨gk - 1,by have:=hgk.out;omega⟩
    have hlt':decide ((p:Int)+(n:Int)≤(m:Int))=true:=by simp;omega
    go_wp2_with fail
    refine Calls.mono (hrg.out wr hbel.out p a hlt (by omega)) ?_
    rintro e w1 ⟨i,rfl,⟨hi1,hi2,hi3,hi4⟩,hb1⟩
    have hb01:=As.mk (Ze hbel.out hb1)
    have HI:=H.out.below hb01.out
    have d0:=HI.c0
    have d1:=HI.c1
    have d2:=HI.c2
    rw [hn.out] at d0
    replace hi3:=As.mk hi3
    replace hi4:=As.mk hi4
    clear hb1 HI c0 c1 c2
    by_cases hin:i<n
    · have hskip:=hcut.out.skip (y:=bx l) (n:=m) hi1 hin hi3.out (hi4.out hin)
      have hno2:As (∀ j,p0≤j→j<p+(i - a+1)→¬ XI (bx b) n (bx l) m j):=⟨fun j h1 h2=>by
       rcases Nat.lt_or_ge j p with h | h
       · exact hno.out j h1 h
       · exact hskip j h h2⟩
      have hin':decide ((i:Int)<(n:Int))=true:=by simp;omega
      clear hskip
      go_wp2
      go_roundg gp
      case rel=>exact ⟨p+(i - a+1),⟨by have:=hgk.out;omega⟩,(by first | rfl | go_num | (congr 1;omega)),by omega,by omega,hno2,hb01⟩
      case measure=>omega
    · obtain rfl:i=n:=by omega
      go_wp2_with fail
      refine Calls.mono (hlf.out w1 hb01.out p 0 hlt) ?_
      rintro e w2 ⟨r,rfl,hr,hb2⟩
      have hb02:=As.mk (Ze hb01.out hb2)
      have HI:=H.out.below hb02.out
      have e0:=HI.c0
      have e1:=HI.c1
      have e2:=HI.c2
      rw [hn.out] at e0
      replace hr:=As.mk hr
      clear hb2 HI d0 d1 d2
      cases r with
      | true =>
        have hm0:=hr.out.1 rfl
        have hM:XI (bx b) i (bx l) m p:=⟨hlt,fun k hk=>by
         rcases Nat.lt_or_ge k a with h | h
         · exact hm0 k (Nat.zero_le _) h
         · exact hi3.out k h hk⟩
        have hfin:As (Seine.Two.next (bx b) i (bx l) m p0 (p:Int)):=⟨⟨fun _=>⟨by omega,by rw [Int.toNat_natCast];exact hM,fun j h1 h2=>hno.out j h1 (by omega)⟩,fun h=>by omega⟩⟩
        clear hm0 hM
        go_wp2
        try rw [Exit.noGoto_ret]
        go_ret
        exact ⟨(p:Int),rfl,hfin.out,hb02.out⟩
      | false =>
        have hjump:=hcut.out.jump (y:=bx l) (n:=m) hi3.out
        have hno2:As (∀ j,p0≤j→j<p+s→¬ XI (bx b) i (bx l) m j):=⟨fun j h1 h2=>by
         rcases Nat.lt_trichotomy j p with h | h | h
         · exact hno.out j h1 h
         · subst h
           intro hM
           have:=hr.out.2 (fun k h3 h4=>hM.2 k (by omega))
           cases this
         · exact hjump j h h2⟩
        clear hjump
        go_wp2
        go_roundg gp
        case rel=>exact ⟨p+s,⟨by have:=hgk.out;omega⟩,(by first | rfl | go_num | (congr 1;omega)),by omega,by omega,hno2,hb02⟩
        case measure=>omega
  · have hlt':decide ((p:Int)+(n:Int)≤(m:Int))=false:=by simp;omega
    have hfin:As (Seine.Two.next (bx b) n (bx l) m p0 (-1)):=⟨⟨fun h=>by omega,fun _=>⟨rfl,fun j h1 hM=>by
     rcases Nat.lt_or_ge j p with h | h
     · exact hno.out j h1 h hM
     · have:=hM.1;omega⟩⟩⟩
    clear hlt
    go_wp2
    try rw [Exit.noGoto_ret]
    go_ret
    exact ⟨-1,rfl,hfin.out,hbel.out⟩
attribute [local go_sem] Xn XT QM Q9
set_option maxRecDepth 100000 in
set_option maxHeartbeats 1600000 in
theorem lapped_calls (w:World) (g:Nat) (b:Txt) (ad:Addr) (cb a s:Nat) (h:TwoIn w g b ad cb a s true) (hl:b.length≤1000000) (A:Option Addr) (c:Nat) (l:Txt) (hx:Byt w A l) (hll:l.length≤1000000) (p0:Nat) (hp0:p0≤1000000) :
    Calls Tryz.prog 142 #[.pointer (some ⟨g,0,none⟩),.slice A l.length c,.int .i64 (p0:Int)] w (Zfi w (bx b) b.length (bx l) l.length p0):=by
 have H:=As.mk h
 have HX:=As.mk hx
 have hcut:=As.mk h.2.2.2
 have ham:=h.2.2.2.am
 have hs1:=h.2.2.2.s1
 have hsf:=h.2.2.2.far
 have hrg:=As.mk (fun (v:World) (hv:Below w.heap.size w v) p fr h1 h2=>Zcv v g b ad cb a s true (h.below hv) hl A c l (Row.below hx hv) hll p fr h1 h2)
 have hlf:=As.mk (fun (v:World) (hv:Below w.heap.size w v) p dn h1=>Zdx v g b ad cb a s true (h.below hv) hl A c l (Row.below hx hv) hll p dn h1)
 clear h hx
 obtain ⟨n,hn⟩:∃ n,b.length=n:=⟨_,rfl⟩
 obtain ⟨m,hm⟩:∃ m,l.length=m:=⟨_,rfl⟩
 rw [hn] at hcut hl ham hsf hrg
 rw [hm] at hll hrg hlf
 rw [hn] at hlf
 rw [hn,hm]
 have hn:=As.mk hn
 have hm:=As.mk hm
 go_enter Tryz.func142,Tryz.ntmps142
 go_wp2
 go_step3
 go_wp2
 go_step3
 go_wp2
 go_loopg [2,7] (m+2) (fun gk i kw wr=>∃ p kn:Nat,As (m+2≤gk+p)∧i=.int .i64 p∧kw=.int .i64 kn∧kn≤n∧As (∀ k,k<kn→bx l (p+k)=bx b k)∧p0≤p∧p≤4000000∧As (∀ j,p0≤j→j<p→¬ XI (bx b) n (bx l) m j)∧As (Below w.heap.size w wr))
 case atStart=>exact ⟨p0,0,⟨by omega⟩,rfl,rfl,Nat.zero_le _,⟨fun k h=>by omega⟩,Nat.le_refl _,by omega,⟨fun j h1 h2=>by omega⟩,⟨Below.refl _ _⟩⟩
 case round =>
  obtain ⟨p,kn,hgk,rfl,rfl,hkn,hknow,hp1,hp2,hno,hbel⟩:=hrel
  have HI:=H.out.below hbel.out
  have c0:=HI.c0
  have c1:=HI.c1
  have c2:=HI.c2
  rw [hn.out] at c0
  clear HI
  by_cases hlt:p+n≤m
  · obtain ⟨gp,rfl⟩:∃ gp,gk=gp+1:=⟨gk - 1,by have:=hgk.out;omega⟩
    have hlt':decide ((p:Int)+(n:Int)≤(m:Int))=true:=by simp;omega
    obtain ⟨fr,hfr,f1,f2,f3,f4⟩:∃ fr:Nat,max (a:Int) (kn:Int)=(fr:Int)∧a≤fr∧kn≤fr∧fr≤n∧(fr=a∨fr=kn):=⟨max a kn,by omega,by omega,by omega,by omega,by omega⟩
    go_wp2_with fail
    refine Calls.mono (hrg.out wr hbel.out p fr hlt f3) ?_
    rintro e w1 ⟨i,rfl,⟨hi1,hi2,hi3,hi4⟩,hb1⟩
    have hi3:∀ k,a≤k→k<i→bx l (p+k)=bx b k:=fun k h1 h2=>by
     rcases Nat.lt_or_ge k fr with h | h
     · rcases f4 with f4 | f4
       · omega
       · exact hknow.out k (by omega)
     · exact hi3 k h h2
    have hi1:a≤i:=by omega
    have hi0:kn≤i:=by omega
    clear hfr f1 f2 f3 f4
    have hb01:=As.mk (Ze hbel.out hb1)
    have HI:=H.out.below hb01.out
    have d0:=HI.c0
    have d1:=HI.c1
    have d2:=HI.c2
    rw [hn.out] at d0
    replace hi3:=As.mk hi3
    replace hi4:=As.mk hi4
    clear hb1 HI c0 c1 c2
    by_cases hin:i<n
    · have hskip:=hcut.out.skip (y:=bx l) (n:=m) hi1 hin hi3.out (hi4.out hin)
      have hno2:As (∀ j,p0≤j→j<p+(i - a+1)→¬ XI (bx b) n (bx l) m j):=⟨fun j h1 h2=>by
       rcases Nat.lt_or_ge j p with h | h
       · exact hno.out j h1 h
       · exact hskip j h h2⟩
      have hin':decide ((i:Int)<(n:Int))=true:=by simp;omega
      clear hskip
      go_wp2
      go_roundg gp
      case rel=>exact ⟨p+(i - a+1),0,⟨by have:=hgk.out;omega⟩,(by first | rfl | go_num | (congr 1;omega)),rfl,Nat.zero_le _,⟨fun k h=>by omega⟩,by omega,by omega,hno2,hb01⟩
      case measure=>omega
    · obtain rfl:i=n:=by omega
      go_wp2_with fail
      refine Calls.mono (hlf.out w1 hb01.out p kn hlt) ?_
      rintro e w2 ⟨r,rfl,hr,hb2⟩
      have hb02:=As.mk (Ze hb01.out hb2)
      have HI:=H.out.below hb02.out
      have e0:=HI.c0
      have e1:=HI.c1
      have e2:=HI.c2
      rw [hn.out] at e0
      replace hr:=As.mk hr
      clear hb2 HI d0 d1 d2
      cases r with
      | true =>
        have hm0:=hr.out.1 rfl
        have hM:XI (bx b) i (bx l) m p:=⟨hlt,fun k hk=>by
         rcases Nat.lt_or_ge k a with h | h
         · rcases Nat.lt_or_ge k kn with h' | h'
           · exact hknow.out k h'
           · exact hm0 k h' h
         · exact hi3.out k h hk⟩
        have hfin:As (Seine.Two.next (bx b) i (bx l) m p0 (p:Int)):=⟨⟨fun _=>⟨by omega,by rw [Int.toNat_natCast];exact hM,fun j h1 h2=>hno.out j h1 (by omega)⟩,fun h=>by omega⟩⟩
        clear hm0 hM
        go_wp2
        try rw [Exit.noGoto_ret]
        go_ret
        exact ⟨(p:Int),rfl,hfin.out,hb02.out⟩
      | false =>
        have hjump:=hcut.out.jump (y:=bx l) (n:=m) hi3.out
        have hknow2:=hcut.out.known (y:=bx l) hi3.out
        have hsi:s≤i:=hcut.out.least i (by omega) (fun k hk=>by omega)
        have hno2:As (∀ j,p0≤j→j<p+s→¬ XI (bx b) i (bx l) m j):=⟨fun j h1 h2=>by
         rcases Nat.lt_trichotomy j p with h | h | h
         · exact hno.out j h1 h
         · subst h
           intro hM
           have:=hr.out.2 (fun k h3 h4=>hM.2 k (by omega))
           cases this
         · exact hjump j h h2⟩
        replace hknow2:=As.mk hknow2
        clear hjump
        go_wp2
        go_quiet (fail)
        go_wp2
        go_roundg gp
        case rel=>exact ⟨p+s,i - s,⟨by have:=hgk.out;omega⟩,(by first | rfl | go_num | (congr 1;omega)),(by first | rfl | go_num | (congr 1;omega)),by omega,hknow2,by omega,by omega,hno2,⟨ZF hb02.out _⟩⟩
        case measure=>omega
  · have hlt':decide ((p:Int)+(n:Int)≤(m:Int))=false:=by simp;omega
    have hfin:As (Seine.Two.next (bx b) n (bx l) m p0 (-1)):=⟨⟨fun h=>by omega,fun _=>⟨rfl,fun j h1 hM=>by
     rcases Nat.lt_or_ge j p with h | h
     · exact hno.out j h1 h hM
     · have:=hM.1;omega⟩⟩⟩
    clear hlt
    go_wp2
    try rw [Exit.noGoto_ret]
    go_ret
    exact ⟨-1,rfl,hfin.out,hbel.out⟩
end Go.Proofs.YtfdlaomnecjfeaaGreatDoor
end
section
namespace Go.Proofs.YtfdlaomnecjfeaaGreatDoor
open Go.RowKit Seine.Trie Seine.Two Go.Proofs.YtfdlaomnecjfeaaGreatDoorW.PrintWords
theorem ownsRow_blk {w:World} {base b n:Nat} {cs:List Value} {t:TypeId} (h:w.heap[b]? = some (.cells cs.toArray t (0,0))) (hl:cs.length=n) (hb:base≤b) (hn:n≤maxLen):w.ownsRow base t 1 (.slice (some ⟨b,0,none⟩) n n) n cs:=by
 refine ⟨by omega,.inr ⟨b,n,cs.toArray,rfl,hb,h,Nat.le_refl _,hn,by simp [hl],by rw [Nat.mul_one];exact List.take_of_length_le (by simp;omega)⟩⟩
set_option maxRecDepth 100000 in
set_option maxHeartbeats 400000 in
theorem cloneByt_calls (w:World) (ad:Addr) (c:Nat) (b:Txt) (h:Byt w (some ad) b) (hl:b.length≤1000000) (hne:0<b.length) :
    Calls Tryz.prog 104 #[.slice (some ad) b.length c] w fun e w'=>∃ bl cp,e=.returned (.slice (some ⟨bl,0,none⟩) b.length cp)∧b.length≤cp∧Byt w' (some ⟨bl,0,none⟩) b∧w.heap.size≤bl∧Below w.heap.size w w':=by
 obtain ⟨n,hn⟩:∃ n,b.length=n:=⟨_,rfl⟩
 rw [hn] at hl hne ⊢
 have hn:=As.mk hn
 have H:=As.mk h
 clear h
 obtain ⟨i0,hi,hz0,hz1,hz2⟩:=info_parts X2
 have hown:As ((w.alloc (.cells #[] 5)).ownsRow w.heap.size 5 1 (.slice (some ⟨w.heap.size,0,none⟩) 0 0) 0 []):=⟨ownsRow_blk (cs:=[]) (heap_alloc_new w _) rfl (Nat.le_refl _) (Nat.zero_le _)⟩
 have hcells:As (∀ j u,(Zh b)[j]? = some u→(w.alloc (.cells #[] 5)).cell? (ad.add j)=some u):=⟨fun j u hj=>by
  have hjl:j<(Zh b).length:=(List.getElem?_eq_some_iff.1 hj).1
  obtain ⟨ad2,e2,hc2⟩:=Row.at_ (H.out.alloc (.cells #[] 5)) hjl
  injection e2 with e2
  subst e2
  rw [hc2,← hj];exact (List.getElem?_eq_getElem hjl).symm⟩
 have hone:As (∀ u∈Zh b,u.oneCell'=true):=⟨fun u hu=>by obtain ⟨x,_,rfl⟩:=List.mem_map.1 hu;rfl⟩
 have hnl:As ((Zh b).length=n * 1):=⟨by rw [Zt,hn.out,Nat.mul_one]⟩
 have hnil:∀ (w:World) (a:Addr) (n c:Nat),(binOp .eql 22 (.slice (some a) n c) (.slice none 0 0)).run Tryz.prog w=.ok (.bool false) w:=fun w a n c=>Lib.run_eql_slice_nil w _ _ (some a) n c 0 0 Tryz.underlying22
 go_enter Tryz.func104,Tryz.ntmps104
 go_wp2_with (at_builtin
              refine wpList_append_own_at _ rfl (.tmp 5) (.tmp 6) 22 rfl w.heap.size 5 i0 _ 1 1 Tryz.underlying22 hi hz0 hz1 hz2 rfl (by decide) (.slice (some ⟨w.heap.size,0,none⟩) 0 0) 0 [] rfl hown.out ad n c (Zh b) rfl hnl.out hcells.out hone.out (by unfold maxLen;omega) (by omega) (by simp) ?_
              intro v' w' h2 h3 h4 h5)
 go_ret
 have h2:w'.ownsRow w.heap.size 5 1 v' n (Zh b):=by simpa using h2
 obtain ⟨bl,cp,rfl,hbl,_⟩:=h2.form hne
 obtain ⟨A,c2,e2,hc2⟩:=Zk h2
 injection e2 with _ _ e2
 exact ⟨bl,cp,rfl,by omega,Row.of_own h2,(ZM h2 rfl).1,((Below.refl _ _).alloc (Nat.le_refl _) _).grown h3 (by simp) (fun k hk=>Nat.le_of_eq (Option.some.inj hk))⟩
def NewPost2 (w:World) (b:Txt) (e:Ending) (w':World):Prop:=∃ g ad cb a s sm,e=.returned (.tuple #[.pointer (some ⟨g,0,none⟩),.int .i64 0])∧TwoIn w' g b ad cb a s sm∧(w.heap.size≤g∧w.heap.size≤ad.block)∧Below w.heap.size w w'
set_option maxRecDepth 100000 in
set_option maxHeartbeats 1600000 in
theorem new_calls2 (w:World) (ad:Addr) (c:Nat) (b:Txt) (hb:Byt w (some ad) b) (hl:b.length≤1000000) (hne:0<b.length) (hc:b.length≤c):Calls Tryz.prog 92 #[.slice (some ad) b.length c] w (NewPost2 w b):=by
 have HX:=As.mk hb
 clear hb
 have ccl:=As.mk (fun (v:World) (h:Byt v (some ad) b)=>cloneByt_calls v ad c b h hl hne)
 have cfa:=As.mk (fun (v:World) (h:Byt v (some ad) b)=>factor_calls v ad c b h hl hne hc)
 obtain ⟨n,hn⟩:∃ n,b.length=n:=⟨_,rfl⟩
 rw [hn] at ccl cfa hl hne hc
 rw [hn]
 have hn:=As.mk hn
 have hn0:((n:Int) == 0)=false:=by simp;omega
 go_enter Tryz.func92,Tryz.ntmps92
 go_wp2_with fail
 refine Calls.mono (ccl.out w HX.out) ?_
 rintro e w1 ⟨bl,cp,rfl,hcp,hby,hfr,hb1⟩
 have HX1:=As.mk (HX.out.below hb1)
 replace hby:=As.mk hby
 replace hb1:=As.mk hb1
 go_wp2_with fail
 refine Calls.mono (cfa.out w1 HX1.out) ?_
 rintro e w2 ⟨a,s,sm,rfl,hcut,hb2⟩
 have hB2:=As.mk (Ze hb1.out hb2)
 have hby2:=As.mk (Row.below hby.out hb2)
 replace hcut:=As.mk hcut
 replace hb2:=As.mk hb2
 have hsz:w.heap.size≤w2.heap.size:=hB2.out.size
 have z:=heap_alloc_new w2 (.cells #[.slice (some ⟨bl,0,none⟩) n cp,.int .i64 (a:Int),.int .i64 (s:Int),.bool sm,.func (.func 141) #[] #[]] 250)
 have y3:=Za z 3
 have y4:=Za z 4
 have f4:=Zb z 4
 simp at y3 y4
 cases sm with
 | true =>
   replace z:=As.mk z
   go_wp2
   go_ret2
   refine ⟨w2.heap.size,⟨bl,0,none⟩,cp,a,s,true,rfl,⟨?_,by rw [hn.out];exact hcp,?_,by rw [hn.out];exact hcut.out⟩,⟨hsz,hfr⟩,?_⟩
   · rw [hn.out];exact heap_alloc_new w2 _
   · exact Row.alloc hby2.out _
   · exact hB2.out.alloc hsz _
 | false =>
   replace z:=As.mk z
   go_wp2
   go_ret2
   refine ⟨w2.heap.size,⟨bl,0,none⟩,cp,a,s,false,rfl,⟨?_,by rw [hn.out];exact hcp,?_,by rw [hn.out];exact hcut.out⟩,⟨hsz,hfr⟩,?_⟩
   · rw [hn.out];exact heap_alloc_new w2 _
   · exact Row.alloc hby2.out _
   · exact hB2.out.alloc hsz _
end Go.Proofs.YtfdlaomnecjfeaaGreatDoor
end
section
namespace Go.Proofs.YtfdlaomnecjfeaaGreatDoor
open Go.RowKit Seine.Trie Seine.Two Go.Proofs.YtfdlaomnecjfeaaGreatDoorW.PrintWords
/-- b stands in l at i. -/
def Je (b l:Txt) (i:Nat):Bool:=decide (i+b.length≤l.length∧(l.drop i).take b.length=b)
theorem ZbD (b l:Txt) (i:Nat):XI (bx b) b.length (bx l) l.length i↔Je b l i=true:=by
 unfold Je XI
 rw [decide_eq_true_iff]
 constructor
 · rintro ⟨h1,h2⟩
   refine ⟨h1,Zar (by rw [List.length_take,List.length_drop];omega) fun j hj=>?_⟩
   have hjn:j<b.length:=by rw [List.length_take] at hj;omega
   have:=UInt8.toNat_inj.1 (h2 j hjn)
   simp only [List.getD_eq_getElem?_getD,List.getElem?_take,List.getElem?_drop,if_pos hjn] at this ⊢
   exact this
 · rintro ⟨h1,h2⟩
   refine ⟨h1,fun k hk=>?_⟩
   have:=congrArg (fun l=>(l.getD k 0).toNat) h2
   simp only [List.getD_eq_getElem?_getD,List.getElem?_take,List.getElem?_drop,if_pos hk] at this
   unfold bx
   rw [List.getD_eq_getElem?_getD,List.getD_eq_getElem?_getD];exact this
/-- The first place from p on; -1: none. -/
def XJ (b l:Txt) (p:Nat):Int:=match (List.range' p (l.length+1 - p)).find? (Je b l) with | some i=>i | none=>-1
theorem ZaD {b l:Txt} {i:Nat} (h:Je b l i=true):i+b.length≤l.length:=(of_decide_eq_true h).1
theorem ZaX {b l:Txt} {p:Nat} (h:XJ b l p<0):XJ b l p = -1∧∀ j,p≤j→Je b l j=false:=by
 unfold XJ at *
 cases hf:(List.range' p (l.length+1 - p)).find? (Je b l) with
 | some i=>rw [hf] at h;simp at h;omega
 | none =>
   refine ⟨rfl,fun j hj=>?_⟩
   rw [List.find?_eq_none] at hf
   cases hi:Je b l j with
   | false=>rfl
   | true =>
     have:=ZaD hi
     exact absurd hi (hf j (List.mem_range'.2 ⟨j - p,by omega,by omega⟩))
theorem Zdy {q:Nat→Bool}:∀ {k p i:Nat},(List.range' p k).find? q=some i→p≤i∧i<p+k∧q i=true∧(∀ j,p≤j→j<i→q j=false)
 | 0,p,i,h=>by simp at h
 | k+1,p,i,h=>by
   rw [List.range'_succ,List.find?_cons] at h
   cases hp:q p with
   | true=>rw [hp] at h;injection h with h;subst h;exact ⟨Nat.le_refl _,by omega,hp,fun j a b=>by omega⟩
   | false =>
     rw [hp] at h
     obtain ⟨h1,h2,h3,h4⟩:=Zdy h
     refine ⟨by omega,by omega,h3,fun j a b=>?_⟩
     rcases Nat.eq_or_lt_of_le a with e | e
     · subst e;exact hp
     · exact h4 j e b
theorem Jq {b l:Txt} {p:Nat} (h:0≤XJ b l p):∃ i:Nat,XJ b l p=i∧p≤i∧Je b l i=true∧∀ j,p≤j→j<i→Je b l j=false:=by
 unfold XJ at *
 cases hf:(List.range' p (l.length+1 - p)).find? (Je b l) with
 | none=>rw [hf] at h;simp at h
 | some i =>
   obtain ⟨h1,h2,h3,h4⟩:=Zdy hf
   exact ⟨i,rfl,h1,h3,h4⟩
theorem nextF_spec (b l:Txt) (p:Nat):Seine.Two.next (bx b) b.length (bx l) l.length p (XJ b l p):=by
 refine ⟨fun h=>?_,fun h=>?_⟩
 · obtain ⟨i,h1,h2,h3,h4⟩:=Jq h
   rw [h1,Int.toNat_natCast]
   exact ⟨h2,(ZbD _ _ _).2 h3,fun j a c hm=>by rw [ZbD,h4 j a c] at hm;cases hm⟩
 · obtain ⟨h1,h2⟩:=ZaX h
   exact ⟨h1,fun j a hm=>by rw [ZbD,h2 j a] at hm;cases hm⟩
/-- All places from p on. -/
def QP (b l:Txt) (p:Nat):List Pr:=((List.range' p (l.length+1 - p)).filter (Je b l)).map fun (i:Nat)=>((i:Int),(i:Int)+(b.length:Int))
theorem Zcw {q:Nat→Bool}:∀ (k p i:Nat),p≤i→i<p+k→(∀ j,p≤j→j<i→q j=false)→(List.range' p k).filter q=(List.range' i (p+k - i)).filter q
 | 0,p,i,h1,h2,_=>by omega
 | k+1,p,i,h1,h2,h3=>by
   rcases Nat.eq_or_lt_of_le h1 with e | e
   · subst e;congr 2;omega
   · rw [List.range'_succ,List.filter_cons_of_neg (by rw [h3 p (Nat.le_refl _) e];simp),Zcw k (p+1) i e (by omega) (fun j a b=>h3 j (by omega) b)]
     congr 2;omega
theorem occ_some {b l:Txt} {p i:Nat} (hi:XJ b l p=(i:Int)):QP b l p=((i:Int),(i:Int)+(b.length:Int))::QP b l (i+1):=by
 obtain ⟨i',e,h1,h2,h3⟩:=Jq (b:=b) (l:=l) (p:=p) (by omega)
 obtain rfl:i'=i:=by omega
 have:=ZaD h2
 unfold QP
 rw [Zcw (l.length+1 - p) p i' h1 (by omega) h3,show p+(l.length+1 - p) - i'=(l.length+1 - (i'+1))+1 by omega,List.range'_succ,List.filter_cons_of_pos (by rw [h2]),List.map_cons]
theorem occ_none {b l:Txt} {p:Nat} (h:XJ b l p<0):QP b l p=[]:=by
 unfold QP
 rw [List.map_eq_nil_iff,List.filter_eq_nil_iff]
 intro j hj
 obtain ⟨i,_,rfl⟩:=List.mem_range'.1 hj
 rw [(ZaX h).2 _ (by omega)];simp
theorem occ_length (b l:Txt) (p:Nat):(QP b l p).length≤l.length+1:=by
 unfold QP
 rw [List.length_map]
 exact Nat.le_trans (List.length_filter_le _ _) (by rw [List.length_range'];omega)
attribute [local go_sem] Xn XT QM Q9
set_option maxRecDepth 100000 in
set_option maxHeartbeats 1600000 in
theorem next_calls (w:World) (g:Nat) (b:Txt) (ad:Addr) (cb a s:Nat) (sm:Bool) (h:TwoIn w g b ad cb a s sm) (hl:b.length≤1000000) (A:Option Addr) (c:Nat) (l:Txt) (hx:Byt w A l) (hll:l.length≤1000000) (z:Int) :
    Calls Tryz.prog 143 #[.pointer (some ⟨g,0,none⟩),.slice A l.length c,.int .i64 z] w fun e w'=>e=.returned (.int .i64 (XJ b l z.toNat))∧Below w.heap.size w w':=by
 have c4:=h.c4
 have hbl:0<b.length:=by have:=h.2.2.2.am;omega
 obtain ⟨m,hm⟩:∃ m,l.length=m:=⟨_,rfl⟩
 by_cases hz:(m:Int)<z
 · have hno:XJ b l z.toNat = -1:=by
     rcases Int.lt_or_le (XJ b l z.toNat) 0 with h0 | h0
     · exact (ZaX h0).1
     · obtain ⟨i,_,h1,h2,_⟩:=Jq h0
       have:=ZaD h2
       omega
   rw [hno,hm]
   have hz':decide ((m:Int)<z)=true:=by simpa using hz
   clear h hx hno hm c4 hbl
   go_enter Tryz.func143,Tryz.ntmps143
   go_wp2
   go_ret
   exact ⟨rfl,Below.refl _ _⟩
 · have hz':decide ((m:Int)<z)=false:=by simpa using hz
   obtain ⟨p,hp⟩:∃ p:Nat,z.toNat=p:=⟨_,rfl⟩
   have hzn:max z 0=(p:Int):=by omega
   have hzl:p≤1000000:=by omega
   have huni:=As.mk (fun (r:Int) hr=>next_one (nextF_spec b l p) (r':=r) hr)
   rw [hp]
   clear hp hz
   rw [hm] at huni
   cases sm with
   | true =>
     have hq:=As.mk (lapped_calls w g b ad cb a s h hl A c l hx hll p hzl)
     rw [hm] at hq ⊢
     clear h hx hm hbl
     go_enter Tryz.func143,Tryz.ntmps143
     go_wp2_with (go_at_call 142;refine Calls.mono hq.out ?_;rintro e w' ⟨r,rfl,hr,hb⟩)
     go_ret
     exact ⟨QL (huni.out r hr).symm,hb⟩
   | false =>
     have hq:=As.mk (plain_calls w g b ad cb a s false h hl A c l hx hll p hzl)
     rw [hm] at hq ⊢
     clear h hx hm hbl
     go_enter Tryz.func143,Tryz.ntmps143
     go_wp2_with (go_at_call 141;refine Calls.mono hq.out ?_;rintro e w' ⟨r,rfl,hr,hb⟩)
     go_ret
     exact ⟨QL (huni.out r hr).symm,hb⟩
set_option maxRecDepth 100000 in
set_option maxHeartbeats 1600000 in
theorem scan_calls (w:World) (g:Nat) (b:Txt) (ad:Addr) (cb a s:Nat) (sm:Bool) (h:TwoIn w g b ad cb a s sm) (hl:b.length≤1000000) (A:Option Addr) (c:Nat) (l:Txt) (hx:Byt w A l) (hll:l.length≤1000000) :
    Calls Tryz.prog 93 #[.pointer (some ⟨g,0,none⟩),.slice A l.length c] w (RetPrs w (QP b l 0)):=by
 obtain ⟨R,hR⟩:∃ R,QP b l 0=R:=⟨_,rfl⟩
 have hRl:R.length≤l.length+1:=by rw [← hR];exact occ_length b l 0
 have hbl:0<b.length:=by have:=h.2.2.2.am;omega
 rw [hR]
 have hR:=As.mk hR
 have H:=As.mk h
 have hnx:=As.mk (fun (v:World) (hv:Below w.heap.size w v) z=>next_calls v g b ad cb a s sm (h.below hv) hl A c l (Row.below hx hv) hll z)
 clear h hx
 obtain ⟨m,hm⟩:∃ m,l.length=m:=⟨_,rfl⟩
 obtain ⟨n,hn⟩:∃ n,b.length=n:=⟨_,rfl⟩
 rw [hm] at hRl hnx hll
 rw [hn] at hbl hl
 rw [hm]
 have hm:=As.mk hm
 have hn:=As.mk hn
 have hRl:=As.mk hRl
 go_enter Tryz.func93,Tryz.ntmps93
 go_wp2_with fail
 refine Calls.mono (hnx.out w (Below.refl _ _) 0) ?_
 rintro e w1 ⟨he,hb1⟩
 rw [show (0:Int).toNat=0 from rfl] at he
 obtain ⟨r0,hr0⟩:∃ r,XJ b l 0=r:=⟨_,rfl⟩
 rw [hr0] at he
 subst he
 replace hr0:=As.mk hr0
 replace hb1:=As.mk hb1
 go_wp2
 go_loopg [5,6] (m+2) (fun gk v r wr=>∃ (p:Nat) (acc:List Pr) (z:Int),As (m+2≤gk+p)∧r=.int .i64 z∧As (XJ b l p=z)∧As (acc++QP b l p=R)∧As (OwnPrs wr w.heap.size v acc)∧As (Below w.heap.size w wr))
 case atStart=>exact ⟨0,[],r0,⟨by omega⟩,rfl,hr0,⟨hR.out⟩,⟨World.ownsRow_nil _ _ _ _⟩,hb1⟩
 case round =>
  obtain ⟨p,acc,z,hgk,rfl,hz,hacc,hown,hbel⟩:=hrel
  by_cases h0:0≤z
  · obtain ⟨i,h1,h2,h3,h4⟩:=Jq (b:=b) (l:=l) (p:=p) (by rw [hz.out];exact h0)
    obtain rfl:z=(i:Int):=by rw [← hz.out,h1]
    have him:=ZaD h3
    rw [hm.out,hn.out] at him
    have hocc:=occ_some h1
    rw [hn.out] at hocc
    rw [hocc] at hacc
    have haccl:As (acc.length≤m+1):=⟨by have:=hRl.out;rw [← hacc.out,List.length_append] at this;omega⟩
    obtain ⟨gp,rfl⟩:∃ gp,gk=gp+1:=⟨gk - 1,by have:=hgk.out;omega⟩
    have HI:=H.out.below hbel.out
    have c0:=HI.c0
    rw [hn.out] at c0
    clear h1 h3 h4 hocc hz HI
    have hnn:=As.mk (fun v hv=>hnx.out v hv ((i:Int)+1))
    obtain ⟨r2,hr2⟩:∃ r,XJ b l (i+1)=r:=⟨_,rfl⟩
    rw [show ((i:Int)+1).toNat=i+1 by omega,hr2] at hnn
    replace hr2:=As.mk hr2
    go_wp2_with (first
     | (go_at_call 143;refine Calls.mono (hnn.out _ (hbel.out.trans hb4)) ?_;rintro e w5 ⟨rfl,hb5⟩)
     | (at_builtin
        refine ZA _ rfl (.tmp 17) (.tmp 27) 64 rfl w.heap.size 67 _ 2 16 Tryz.underlying64 Xl rfl (by decide) _ acc.length (Zr acc) rfl hown.out [.int .i64 (i:Int),.int .i64 ((i:Int)+(n:Int))] rfl (by simp [Value.oneCell']) _ rfl (by simp) (by have:=haccl.out;omega) (by decide) hbel.out.size ?_
        intro v' w4 hown4 hk4 hat4 hb4
        replace hown4:=As.mk hown4
        replace hk4:=As.mk hk4))
    go_roundg gp
    case rel=>exact ⟨i+1,acc++[((i:Int),(i:Int)+(n:Int))],r2,⟨by have:=hgk.out;omega⟩,rfl,hr2,⟨by rw [List.append_assoc];exact hacc.out⟩,⟨Zo (Zb9 hown4.out) hb5⟩,⟨Ze (hbel.out.trans hb4) hb5⟩⟩
    case measure=>omega
  · have hno:=occ_none (b:=b) (l:=l) (p:=p) (by rw [hz.out];omega)
    rw [hno,List.append_nil] at hacc
    have h0':decide (0≤z)=false:=by simp;omega
    clear hno hz
    go_wp2
    go_ret
    exact ⟨_,rfl,hacc.out ▸ hown.out,hbel.out⟩
end Go.Proofs.YtfdlaomnecjfeaaGreatDoor
end
section
namespace Go.Proofs.YtfdlaomnecjfeaaGreatDoor
open Go.RowKit Seine.Trie Seine.Two
open Seine.Sort (occ mem_occ Occ rise_ext rise_occ Rise lt)
theorem mem_occFrom {b l:Txt} {p:Pr}:p∈QP b l 0↔∃ i:Nat,p=((i:Int),(i:Int)+(b.length:Int))∧Je b l i=true:=by
 unfold QP
 rw [List.mem_map]
 constructor
 · rintro ⟨i,hi,rfl⟩
   exact ⟨i,rfl,(List.mem_filter.1 hi).2⟩
 · rintro ⟨i,rfl,h⟩
   have:=ZaD h
   exact ⟨i,List.mem_filter.2 ⟨by rw [List.mem_range'_1];omega,h⟩,rfl⟩
theorem rise_occFrom (b l:Txt):Rise (QP b l 0):=by
 unfold QP Rise
 rw [List.pairwise_map]
 refine List.Pairwise.filter _ ?_
 have:(List.range' 0 (l.length+1 - 0)).Pairwise (·<·):=List.pairwise_lt_range'
 exact this.imp fun h=>by unfold lt;left;simpa using h
theorem occFrom_occ {b:Txt} (hb:0<b.length) (l:Txt):QP b l 0=occ [b] l:=by
 refine rise_ext (rise_occFrom b l) (rise_occ _ _) fun p=>?_
 rw [mem_occFrom,mem_occ]
 unfold Occ
 constructor
 · rintro ⟨i,rfl,h⟩
   obtain ⟨h1,h2⟩:=of_decide_eq_true h
   refine ⟨i,i+b.length,by rw [Prod.mk.injEq];exact ⟨rfl,by push_cast;rfl⟩,by omega,h1,?_⟩
   rw [show i+b.length - i=b.length by omega,h2];simp
 · rintro ⟨i,j,rfl,h1,h2,h3⟩
   rw [List.mem_singleton] at h3
   have hl:b.length=j - i:=by
    rw [← h3,List.length_take,List.length_drop];omega
   refine ⟨i,by rw [Prod.mk.injEq];exact ⟨rfl,by omega⟩,decide_eq_true ⟨by omega,?_⟩⟩
   rw [hl];exact h3
end Go.Proofs.YtfdlaomnecjfeaaGreatDoor
end
section
namespace Go.Proofs.YtfdlaomnecjfeaaGreatDoor
open Go.RowKit Go.Maps Seine.Trie Seine.Eng
open Seine.Sort (sortP occ rise_sortP sortP_len sortP_ext mem_sortP rise_occ)
theorem Zdz (w:World) (n:Nat) (hn:n≤100000):Calls Tryz.prog 156 #[.int .i64 (n:Int)] w (RetPrs w (Z3 (n+1))):=by
 obtain ⟨R,hR⟩:∃ R,Z3 (n+1)=R:=⟨_,rfl⟩
 rw [hR]
 replace hR:=As.mk hR
 have hu:=Tryz.underlying67
 go_enter Tryz.func156,Tryz.ntmps156
 go_wp2
 go_loopw [3,4] (fun v i wr=>∃ (k:Nat) (u:Value),u=v∧k≤n+1∧i=.int .i64 k∧As (OwnPrs wr w.heap.size u (Z3 k))∧As (Below w.heap.size w wr)) (fun _ i _=>n+1 - (intOf i).toNat)
 case atStart=>exact ⟨0,_,rfl,Nat.zero_le _,rfl,⟨World.ownsRow_nil _ _ _ _⟩,⟨Below.refl _ _⟩⟩
 case round =>
  obtain ⟨k,u,rfl,hk,rfl,ho,hb⟩:=hrel
  by_cases hlt:k≤n
  · have hsz:=hb.out.size
    have hnx:=As.mk (empties_succ k)
    have hel:=Z7 k
    obtain ⟨E,hE⟩:∃ E,Z3 k=E:=⟨_,rfl⟩
    rw [hE] at ho hnx hel
    have hc1:decide ((k:Int)≤(n:Int))=true:=decide_eq_true (by omega)
    have ho':wr.ownsRow w.heap.size 67 2 u k (Zr E):=by have:=ho.out;unfold OwnPrs at this;rwa [hel] at this
    replace ho':=As.mk ho'
    replace hel:=As.mk hel
    clear hE ho
    go_wp2_with (at_builtin
                 (refine ZA wr rfl (.tmp 10) (.tmp 14) 64 rfl w.heap.size 67 _ 2 16 Tryz.underlying64 Xl rfl (by decide) u k (Zr E) rfl ho'.out [.int .i64 (k:Int),.int .i64 (k:Int)] rfl (by simp [Value.oneCell']) _ rfl (by simp) (by omega) (by decide) hsz ?_)
                 intro v6 w6 ho6 hk6 _ hb6)
    go_roundw
    case rel =>
     refine ⟨k+1,_,rfl,by omega,(by first | rfl | go_num | (congr 1;omega)),⟨?_⟩,⟨hb.out.trans hb6⟩⟩
     rw [hnx.out]
     unfold OwnPrs
     rw [List.length_append,hel.out,List.length_singleton,Xa]
     exact ho6
    case measure=>simp [intOf];omega
  · obtain rfl:k=n+1:=by omega
    rw [hR.out] at ho
    have hc1:decide (((n+1:Nat):Int)≤(n:Int))=false:=decide_eq_false (by omega)
    have hc2:decide ((n:Int)+1≤(n:Int))=false:=decide_eq_false (by omega)
    go_wp2_with fail
    go_ret
    exact ⟨_,rfl,ho.out,hb.out⟩
theorem Zcx (w:World) (A:Option Addr) (c:Nat) (a:List Pr) (B:Option Addr) (d:Nat) (b:List Pr) (ha:Prs w A a) (hb:Prs w B b) (hac:a.length≤c) (hbd:b.length≤d) (hcm:c≤maxLen) (hdm:d≤maxLen) (hal:a.length≤1000000) (hbl:b.length≤1000000) :
    Calls Tryz.prog 155 #[.slice A a.length c,.slice B b.length d] w (RetPrs w (sortP (a++b))):=by
 have c1:=As.mk (YB a.length A c a w (Nat.le_refl _) ha hac hcm hal)
 have c2:=As.mk (fun (v:World) (hv:Below w.heap.size w v)=>YB b.length B d b v (Nat.le_refl _) (Row.below hb hv) hbd hdm hbl)
 have hla:=sortP_len a
 have hlb:=sortP_len b
 have he:sortP (sortP a++sortP b)=sortP (a++b):=sortP_ext fun x=>by rw [List.mem_append,List.mem_append,mem_sortP,mem_sortP]
 have hra:=rise_sortP a
 have hrb:=rise_sortP b
 obtain ⟨SA,hSA⟩:∃ S,sortP a=S:=⟨_,rfl⟩
 obtain ⟨SB,hSB⟩:∃ S,sortP b=S:=⟨_,rfl⟩
 rw [hSA] at c1 hla he hra
 rw [hSB] at c2 hlb he hrb
 rw [← he]
 have cj:=As.mk (fun (v:World) (A':Option Addr) (c':Nat) (B':Option Addr) (d':Nat) (h1:Prs v A' SA) (h2:Prs v B' SB) (h3:SA.length≤c') (h4:SB.length≤d') (h5:c'≤maxLen) (h6:d'≤maxLen)=>Zbs A' c' SA B' d' SB v h1 h2 h3 h4 h5 h6 hra hrb (by omega))
 clear ha hb he hSA hSB
 go_enter Tryz.func155,Tryz.ntmps155
 go_wp2_with fail
 refine Calls.mono c1.out ?_
 intro e w1 h1
 obtain ⟨A1,d1,he1,hc1,hm1,hr1,hb1⟩:=h1.row2
 subst he1
 go_wp2_with fail
 refine Calls.mono (c2.out _ hb1) ?_
 intro e w2 h2
 obtain ⟨A2,d2,he2,hc2,hm2,hr2,hb2⟩:=h2.row2
 subst he2
 have hcj:=As.mk (cj.out w2 A1 d1 A2 d2 (Row.below hr1 hb2) hr2 hc1 hc2 hm1 hm2)
 have hb12:=As.mk (Ze hb1 hb2)
 obtain ⟨R,hR⟩:∃ R,sortP (SA++SB)=R:=⟨_,rfl⟩
 rw [hR] at hcj
 replace hR:=As.mk hR
 clear hr1 hr2 hb1 hb2 h1 h2 cj c1 c2
 go_wp2_with fail
 refine Calls.mono hcj.out ?_
 intro e w3 h3
 obtain ⟨v3,he3,ho3,hb3⟩:=h3.out
 subst he3
 have hs:=hb12.out.size
 go_wp2_with fail
 go_ret
 exact ⟨v3,rfl,by rw [hR.out];exact ZB ho3 hs,Ze hb12.out hb3⟩
/-- A scanner that counts nothing. -/
theorem quiet_two (w:World) (p:Option Addr) (mv:Value) (A:Option Addr) (n c:Nat) (R:List Pr) (hc:∀ v,Below w.heap.size w v→Calls Tryz.prog 93 #[.pointer p,.slice A n c] v (RetPrs v R)) :
    Calls Tryz.prog 278 #[.agg #[.func (.func 93) #[.pointer p] #[]],mv,.slice A n c] w (RetPrs w R):=by
 have hB:Below w.heap.size w (w.alloc (.cells #[.func (.func 93) #[.pointer p] #[]] 177)):=(Below.refl _ _).alloc (Nat.le_refl _) _
 have hcc:=As.mk (hc _ hB)
 have hs:=hB.size
 replace hB:=As.mk hB
 clear hc
 go_enter Tryz.func278,Tryz.ntmps278
 go_wp2_with fail
 refine Calls.mono hcc.out ?_
 intro e w3 h3
 obtain ⟨v3,he3,ho3,hb3⟩:=h3.out
 subst he3
 go_wp2_with fail
 go_ret
 exact ⟨v3,rfl,ZB ho3 hs,Ze hB.out hb3⟩
theorem quiet_cw (w:World) (p:Option Addr) (mv:Value) (A:Option Addr) (n c:Nat) (R:List Pr) (hc:∀ v,Below w.heap.size w v→Calls Tryz.prog 95 #[.pointer p,.slice A n c] v (RetPrs v R)) :
    Calls Tryz.prog 278 #[.agg #[.func (.func 95) #[.pointer p] #[]],mv,.slice A n c] w (RetPrs w R):=by
 have hB:Below w.heap.size w (w.alloc (.cells #[.func (.func 95) #[.pointer p] #[]] 177)):=(Below.refl _ _).alloc (Nat.le_refl _) _
 have hcc:=As.mk (hc _ hB)
 have hs:=hB.size
 replace hB:=As.mk hB
 clear hc
 go_enter Tryz.func278,Tryz.ntmps278
 go_wp2_with fail
 refine Calls.mono hcc.out ?_
 intro e w3 h3
 obtain ⟨v3,he3,ho3,hb3⟩:=h3.out
 subst he3
 go_wp2_with fail
 go_ret
 exact ⟨v3,rfl,ZB ho3 hs,Ze hB.out hb3⟩
end Go.Proofs.YtfdlaomnecjfeaaGreatDoor
end
section
namespace Go.Proofs.YtfdlaomnecjfeaaGreatDoor
open Go.RowKit Go.Maps Seine.Trie Seine.Eng
/-- Why there is none such; 0: there is one. -/
def Qe (tag:Int) (l:List Txt):Int :=
 if tag<0∨3<tag then 11 else if tag=2∧((ZH l).length≠1∨[]∈l) then 13 else if tag=1∧¬ (Zl (ZH l)).length≤160 then 14 else 0
/-- The scanner of a way. -/
def ScanVal (w:World) (tag:Int) (ps:List Txt) (v:Value):Prop :=
 (tag=0∧∃ g,v=.iface 167 (.pointer (some ⟨g,0,none⟩))∧AutoAt w g (Zl ps) ps) ∨
 (tag=1∧(Zl ps).length≤160∧∃ g,v=.iface 169 (.pointer (some ⟨g,0,none⟩))∧DfaAt w g (Zl ps) ps) ∨
 (tag=2∧∃ t g ad cb a s sm,ps=[t]∧0<t.length∧v=.iface 177 (.agg #[.func (.func 93) #[.pointer (some ⟨g,0,none⟩)] #[]])∧TwoIn w g t ad cb a s sm) ∨
 (tag=3∧∃ g,v=.iface 177 (.agg #[.func (.func 95) #[.pointer (some ⟨g,0,none⟩)] #[]])∧WalkAt w g (ZK ps))
/-- An engine, in memory. -/
def EngAt (w:World) (g:Nat) (tag:Int) (l:List Txt):Prop :=
 ∃ base x y z sc,w.heap[g]? = some (.cells #[.int .i64 tag,x,y,z,sc] 166 (0,0))∧PsAt w base (.agg #[x,y,z]) l∧ScanVal w tag (ZH l) sc
theorem EngAt.below {w w':World} {g:Nat} {tag:Int} {l:List Txt} (h:EngAt w g tag l) (hb:Below w.heap.size w w'):EngAt w' g tag l:=by
 obtain ⟨base,x,y,z,sc,h1,h2,h3⟩:=h
 refine ⟨base,x,y,z,sc,Zc hb h1,h2.below hb,?_⟩
 rcases h3 with ⟨e,g,h⟩ | ⟨e,e',g,h⟩ | ⟨e,t,g,ad,cb,a,s,sm,h⟩ | ⟨e,g,h⟩
 · exact .inl ⟨e,g,h.1,h.2.below hb⟩
 · exact .inr (.inl ⟨e,e',g,h.1,h.2.below hb⟩)
 · exact .inr (.inr (.inl ⟨e,t,g,ad,cb,a,s,sm,h.1,h.2.1,h.2.2.1,h.2.2.2.below hb⟩))
 · exact .inr (.inr (.inr ⟨e,g,h.1,h.2.below hb⟩))
/-- Blocks of an engine's or of a meter's make. -/
def EMs (w:World) (S:Nat→Prop):Prop:=∀ b,S b→∃ cs t fr,w.heap[b]? = some (.cells cs t fr)∧(t=166∨t=213)
theorem EMs.far {w:World} {S:Nat→Prop} (h:EMs w S) {b t:Nat} {cs:Array Value} {fr:Nat × Nat} (hb:w.heap[b]? = some (.cells cs t fr)) (h1:t≠166) (h2:t≠213):¬ S b:=fun hs=>by
 obtain ⟨cs',t',fr',h3,h4⟩:=h b hs
 rw [hb] at h3
 injection h3 with h3
 injection h3 with _ h3
 subst h3
 exact h4.elim h1 h2
theorem EMs.farMap {w:World} {S:Nat→Prop} (h:EMs w S) {b cl:Nat} {es:Array MapEntry} (hb:w.heap[b]? = some (.map es cl)):¬ S b:=fun hs=>by
 obtain ⟨cs',t',fr',h3,_⟩:=h b hs
 rw [hb] at h3
 injection h3 with h3
 cases h3
theorem AutoAt.keepS {S:Nat→Prop} {w w':World} {g:Nat} {P l:List Txt} (h:AutoAt w g P l) (hk:Keeps S w w') (hS:EMs w S):AutoAt w' g P l:=by
 obtain ⟨B,h1,h2,h3,h4⟩:=h
 exact ⟨B,Zd h1 hk (hS.far h1 (by decide) (by decide)),h2.keepOf hk (fun b hb=>by obtain ⟨cs,t,fr,a,e⟩:=hS b hb;exact ⟨cs,t,fr,a,by rcases e with rfl | rfl <;> decide,by rcases e with rfl | rfl <;> decide⟩),
  LinksAt.keepOf h3 hk (fun b hb=>by obtain ⟨cs,t,fr,a,e⟩:=hS b hb;exact ⟨cs,t,fr,a,by rcases e with rfl | rfl <;> decide,by rcases e with rfl | rfl <;> decide⟩),Zj h4 hk (fun b c _ hb _=>hS.far hb (by decide) (by decide))⟩
theorem DfaAt.keepS {S:Nat→Prop} {w w':World} {g:Nat} {P l:List Txt} (h:DfaAt w g P l) (hk:Keeps S w w') (hS:EMs w S):DfaAt w' g P l:=by
 obtain ⟨B,h1,h2,h3,h4⟩:=h
 have hg:¬ S g:=by
  obtain ⟨D,d1,_⟩:=h1
  exact hS.far d1 (by decide) (by decide)
 exact ⟨B,h1.keep hk hg,h2.keepOf hk (fun b hb=>by obtain ⟨cs,t,fr,a,e⟩:=hS b hb;exact ⟨cs,t,fr,a,by rcases e with rfl | rfl <;> decide,by rcases e with rfl | rfl <;> decide⟩),
  LinksAt.keepOf h3 hk (fun b hb=>by obtain ⟨cs,t,fr,a,e⟩:=hS b hb;exact ⟨cs,t,fr,a,by rcases e with rfl | rfl <;> decide,by rcases e with rfl | rfl <;> decide⟩),Zd h4 hk (hS.far h4 (by decide) (by decide))⟩
theorem WalkAt.keepS {S:Nat→Prop} {w w':World} {g:Nat} {T:List Txt} (h:WalkAt w g T) (hk:Keeps S w w') (hS:EMs w S):WalkAt w' g T:=by
 have hb3:∀ b,S b→∃ cs t fr,w.heap[b]? = some (.cells cs t fr)∧t≠283∧t≠279∧t≠301:=fun b hb=>by obtain ⟨cs,t,fr,a,e⟩:=hS b hb;exact ⟨cs,t,fr,a,by rcases e with rfl | rfl <;> decide,by rcases e with rfl | rfl <;> decide,by rcases e with rfl | rfl <;> decide⟩
 obtain ⟨gb,gs,h1,h2,h3⟩:=h
 refine ⟨gb,gs,Zd h1 hk (hS.far h1 (by decide) (by decide)),h2.keepOf hk hb3,fun hne=>?_⟩
 obtain ⟨base,v,h4⟩:=h3 hne
 exact ⟨base,v,Zd h4.1 hk (hS.far h4.1 (by decide) (by decide)),h4.2.1.keepOf hk hb3,Zj h4.2.2 hk (fun b c _ hb _=>hS.far hb (by decide) (by decide))⟩
theorem PsAt.keepS {S:Nat→Prop} {w w':World} {base:Nat} {V:Value} {l:List Txt} (h:PsAt w base V l) (hk:Keeps S w w') (hS:EMs w S):PsAt w' base V l:=by
 obtain ⟨v,mb,n,f,h1,h2,h3,h4⟩:=h
 obtain ⟨es,cl,hm⟩:=h3.is_map
 exact ⟨v,mb,n,f,h1,h2.keep hk (fun b _ hb=>by obtain ⟨cs,t,fr,a,e⟩:=hS b hb;exact ⟨_,a,fun c=>⟨fun h=>by injection h with _ h;subst h;rcases e with e | e <;> exact absurd e (by decide),fun h=>by injection h with _ h;subst h;rcases e with e | e <;> exact absurd e (by decide)⟩⟩),h3.keep hk (hS.farMap hm),h4⟩
set_option maxRecDepth 100000 in
set_option maxHeartbeats 3200000 in
theorem Zcy (w:World) (tag:Int) (V:Value) (base:Nat) (l:List Txt) (h:PsAt w base V l) (hst:tot l≤60000) (hll:l.length≤1000000) :
    Calls Tryz.prog 45 #[.int .i64 tag,V] w fun e w'=>(if Qe tag l=0 then ∃ g,e=.returned (.tuple #[.pointer (some ⟨g,0,none⟩),.int .i64 0])∧EngAt w' g tag l else e=.returned (.tuple #[.pointer none,.int .i64 (Qe tag l)]))∧Below w.heap.size w w':=by
 have HP:=As.mk h
 obtain ⟨v,mb,nm,f,rfl,h2,h3,h4⟩:=h
 obtain ⟨A,c,rfl,hc,ht⟩:=h2.txts
 have hpl:=JB l
 have cEm:=As.mk (fun (u:World) (hu:Below w.heap.size w u)=>Zbr u base _ l (HP.out.below hu))
 have cPt:=As.mk (fun (u:World) (hu:Below w.heap.size w u)=>patterns_calls u base _ l (HP.out.below hu) (fun t ht=>by have:=X7 ht;omega) (by omega))
 have hps60:∀ t∈ZH l,t.length≤60000:=fun t ht=>Nat.le_trans (X7 (mem_pset.1 ht).1) hst
 have htot:tot (ZH l)≤60000:=Nat.le_trans (Zeq l) hst
 have hne:∀ t∈ZH l,t≠[]:=fun t ht=>Zfv ht
 obtain ⟨e0,he0⟩:∃ e,decide (([]:Txt)∈l)=e:=⟨_,rfl⟩
 rw [he0] at HP cEm cPt ⊢
 obtain ⟨ps,hps⟩:∃ ps,ZH l=ps:=⟨_,rfl⟩
 rw [hps] at ht hpl hc cPt hps60 htot hne HP cEm ⊢
 have hwf:Qe tag l=(if tag<0∨3<tag then 11 else if tag=2∧(ps.length≠1∨e0=true) then 13 else if tag=1∧¬ (Zl ps).length≤160 then 14 else 0):=by
  unfold Qe;rw [hps,← he0];simp only [decide_eq_true_eq]
 obtain ⟨pn,hpn⟩:∃ k,ps.length=k:=⟨_,rfl⟩
 rw [hpn] at hpl hc cPt hwf HP cEm ⊢
 have hz:=heap_alloc_new w (.cells #[.slice A pn c,.map (some mb),.bool e0] 76)
 have hB:Below w.heap.size w (w.alloc (.cells #[.slice A pn c,.map (some mb),.bool e0] 76)):=(Below.refl _ _).alloc (Nat.le_refl _) _
 obtain ⟨gb,hgb⟩:∃ g,w.heap.size=g:=⟨_,rfl⟩
 obtain ⟨W1,hW1⟩:∃ W,w.alloc (.cells #[.slice A pn c,.map (some mb),.bool e0] 76)=W:=⟨_,rfl⟩
 rw [hgb,hW1] at hz
 rw [hW1] at hB
 have c0:W1.cell? ⟨gb,0,none⟩=some (.slice A pn c):=Za hz 0
 have c1:W1.cell? ⟨gb,1,none⟩=some (.map (some mb)):=Za hz 1
 have c2:W1.cell? ⟨gb,2,none⟩=some (.bool e0):=Za hz 2
 have cP1:=As.mk (cPt.out _ hB)
 replace hz:=As.mk hz
 replace hB:=As.mk hB
 replace he0:=As.mk he0
 replace hps:=As.mk hps
 replace hpn:=As.mk hpn
 replace hwf:=As.mk hwf
 replace hps60:=As.mk hps60
 replace hne:=As.mk hne
 clear h2 h3 h4 ht hst
 by_cases t0:tag=0
 · subst t0
   have hw0:Qe 0 l=0:=by rw [hwf.out];rfl
   rw [hw0]
   simp only [if_true]
   go_enter Tryz.func45,Tryz.ntmps45
   go_wp2_with (first | (rw [hW1]) | (rw [hgb]))
   refine Calls.mono cP1.out ?_
   rintro e w2 ⟨A2,cp2,rfl,hd2,hT2,hb2⟩
   have hB2:=As.mk (hB.out.trans (hb2.mono hB.out.size))
   have hz2:=Zc hb2 hz.out
   have d0:w2.cell? ⟨gb,0,none⟩=some (.slice A pn c):=Za hz2 0
   have d1:w2.cell? ⟨gb,1,none⟩=some (.map (some mb)):=Za hz2 1
   have d2:w2.cell? ⟨gb,2,none⟩=some (.bool e0):=Za hz2 2
   have hs2:=hB2.out.size
   have hb0:=heap_alloc_new w2 (.cells #[.int .i64 0,.slice A pn c,.map (some mb),.bool e0,.nilIface] 166)
   have hBe:=hB2.out.alloc hs2 (.cells #[.int .i64 0,.slice A pn c,.map (some mb),.bool e0,.nilIface] 166)
   have hT3:=As.mk (hT2.below ((Below.refl _ _).alloc (Nat.le_refl _) (.cells #[.int .i64 0,.slice A pn c,.map (some mb),.bool e0,.nilIface] 166)))
   have hz3:=As.mk (Zn hz2 (o':=.cells #[.int .i64 0,.slice A pn c,.map (some mb),.bool e0,.nilIface] 166))
   obtain ⟨ge,hge⟩:∃ g,w2.heap.size=g:=⟨_,rfl⟩
   have hgw:w.heap.size≤ge:=by omega
   obtain ⟨W3,hW3⟩:∃ W,w2.alloc (.cells #[.int .i64 0,.slice A pn c,.map (some mb),.bool e0,.nilIface] 166)=W:=⟨_,rfl⟩
   rw [hge] at hb0
   rw [hW3] at hb0 hBe hT3 hz3
   replace hb0:=As.mk hb0
   replace hBe:=As.mk hBe
   clear hT2 hz2 hb2
   have fr4:∀ v,Below W3.heap.size W3 v→v.cell? ⟨ge,4,none⟩=some .nilIface∧v.frozen? ⟨ge,4,none⟩=false:=fun v hv=>⟨Za (Zc hv hb0.out) 4,Zb (Zc hv hb0.out) 4⟩
   have fz:=As.mk fr4
   have k0:W3.cell? ⟨gb,0,none⟩=some (.slice A pn c):=Za hz3.out 0
   have k1:W3.cell? ⟨gb,1,none⟩=some (.map (some mb)):=Za hz3.out 1
   have k2:W3.cell? ⟨gb,2,none⟩=some (.bool e0):=Za hz3.out 2
   clear fr4
   have cN:=As.mk (snew_calls W3 A2 cp2 ps (hT3.out) (by have:=hpn.out;omega) (by have:=hpn.out;omega))
   rw [hpn.out] at cN
   go_wp2_with (first | (rw [hW3]) | (rw [hge]))
   refine Calls.mono cN.out ?_
   rintro e w5 ⟨ga,rfl,hA,hb5⟩
   obtain ⟨q0,q1⟩:=fz.out _ hb5
   have hA':=As.mk hA
   have hb5':=As.mk hb5
   clear hA hb5
   go_wp2_with fail
   go_ret2
   obtain ⟨SC,hSC⟩:∃ s,Value.iface 167 (.pointer (some ⟨ga,0,none⟩))=s:=⟨_,rfl⟩
   rw [hSC]
   have hkE:Keeps (fun q=>q=ge) w5 (w5.setCell ⟨ge,4,none⟩ SC):=(Zm w5 ⟨ge,4,none⟩ _).mono fun _ _ h=>h
   have hb5s:=hb5'.out.size
   have hEM:EMs w5 (fun q=>q=ge):=fun b (hb:b=ge)=>⟨_,_,_,(congrArg (fun k=>w5.heap[k]?) hb).trans (Zc hb5'.out hb0.out),.inl rfl⟩
   have hbe5:=Zc hb5'.out hb0.out
   have hBw5:=hBe.out.trans (hb5'.out.mono hBe.out.size)
   have hblk:(w5.setCell ⟨ge,4,none⟩ SC).heap[ge]? = some (.cells #[.int .i64 0,.slice A pn c,.map (some mb),.bool e0,SC] 166 (0,0)):=by
    have:=Zi hbe5 4 SC
    rw [this];simp
   refine ⟨⟨ge,rfl,base,_,_,_,_,hblk,(HP.out.below hBw5).keepS hkE hEM,.inl ⟨rfl,ga,hSC.symm,?_⟩⟩,hBw5.setCell (p:=⟨ge,4,none⟩) hgw _⟩
   rw [hps.out]
   exact hA'.out.keepS hkE hEM
 by_cases t1:tag=1
 · subst t1
   by_cases h160:(Zl ps).length≤160
   · have hw0:Qe 1 l=0:=by rw [hwf.out];simp [h160]
     rw [hw0]
     simp only [if_true]
     go_enter Tryz.func45,Tryz.ntmps45
     go_wp2_with (first | (rw [hW1]) | (rw [hgb]))
     refine Calls.mono cP1.out ?_
     rintro e w2 ⟨A2,cp2,rfl,hd2,hT2,hb2⟩
     have hB2:=As.mk (hB.out.trans (hb2.mono hB.out.size))
     have hz2:=Zc hb2 hz.out
     have d0:w2.cell? ⟨gb,0,none⟩=some (.slice A pn c):=Za hz2 0
     have d1:w2.cell? ⟨gb,1,none⟩=some (.map (some mb)):=Za hz2 1
     have d2:w2.cell? ⟨gb,2,none⟩=some (.bool e0):=Za hz2 2
     have hs2:=hB2.out.size
     have hb0:=heap_alloc_new w2 (.cells #[.int .i64 1,.slice A pn c,.map (some mb),.bool e0,.nilIface] 166)
     have hBe:=hB2.out.alloc hs2 (.cells #[.int .i64 1,.slice A pn c,.map (some mb),.bool e0,.nilIface] 166)
     have hT3:=As.mk (hT2.below ((Below.refl _ _).alloc (Nat.le_refl _) (.cells #[.int .i64 1,.slice A pn c,.map (some mb),.bool e0,.nilIface] 166)))
     have hz3:=As.mk (Zn hz2 (o':=.cells #[.int .i64 1,.slice A pn c,.map (some mb),.bool e0,.nilIface] 166))
     obtain ⟨ge,hge⟩:∃ g,w2.heap.size=g:=⟨_,rfl⟩
     have hgw:w.heap.size≤ge:=by omega
     obtain ⟨W3,hW3⟩:∃ W,w2.alloc (.cells #[.int .i64 1,.slice A pn c,.map (some mb),.bool e0,.nilIface] 166)=W:=⟨_,rfl⟩
     rw [hge] at hb0
     rw [hW3] at hb0 hBe hT3 hz3
     replace hb0:=As.mk hb0
     replace hBe:=As.mk hBe
     clear hT2 hz2 hb2
     have fr4:∀ v,Below W3.heap.size W3 v→v.cell? ⟨ge,4,none⟩=some .nilIface∧v.frozen? ⟨ge,4,none⟩=false:=fun v hv=>⟨Za (Zc hv hb0.out) 4,Zb (Zc hv hb0.out) 4⟩
     have fz:=As.mk fr4
     have k0:W3.cell? ⟨gb,0,none⟩=some (.slice A pn c):=Za hz3.out 0
     have k1:W3.cell? ⟨gb,1,none⟩=some (.map (some mb)):=Za hz3.out 1
     have k2:W3.cell? ⟨gb,2,none⟩=some (.bool e0):=Za hz3.out 2
     clear fr4
     have cN:=As.mk (Zds W3 A2 cp2 ps (hT3.out) (by have:=hpn.out;omega) (by have:=hpn.out;omega))
     simp only [hpn.out,if_pos h160] at cN
     go_wp2_with (first | (rw [hW3]) | (rw [hge]))
     refine Calls.mono cN.out ?_
     rintro e w5 ⟨⟨ga,rfl,hA⟩,hb5⟩
     obtain ⟨q0,q1⟩:=fz.out _ hb5
     have hA':=As.mk hA
     have hb5':=As.mk hb5
     clear hA hb5
     go_wp2_with fail
     go_ret2
     obtain ⟨SC,hSC⟩:∃ s,Value.iface 169 (.pointer (some ⟨ga,0,none⟩))=s:=⟨_,rfl⟩
     rw [hSC]
     have hkE:Keeps (fun q=>q=ge) w5 (w5.setCell ⟨ge,4,none⟩ SC):=(Zm w5 ⟨ge,4,none⟩ _).mono fun _ _ h=>h
     have hb5s:=hb5'.out.size
     have hEM:EMs w5 (fun q=>q=ge):=fun b (hb:b=ge)=>⟨_,_,_,(congrArg (fun k=>w5.heap[k]?) hb).trans (Zc hb5'.out hb0.out),.inl rfl⟩
     have hbe5:=Zc hb5'.out hb0.out
     have hBw5:=hBe.out.trans (hb5'.out.mono hBe.out.size)
     have hblk:(w5.setCell ⟨ge,4,none⟩ SC).heap[ge]? = some (.cells #[.int .i64 1,.slice A pn c,.map (some mb),.bool e0,SC] 166 (0,0)):=by
      have:=Zi hbe5 4 SC
      rw [this];simp
     refine ⟨⟨ge,rfl,base,_,_,_,_,hblk,(HP.out.below hBw5).keepS hkE hEM,.inr (.inl ⟨rfl,by rw [hps.out];exact h160,ga,hSC.symm,?_⟩)⟩,hBw5.setCell (p:=⟨ge,4,none⟩) hgw _⟩
     rw [hps.out]
     exact hA'.out.keepS hkE hEM
   · have hw0:Qe 1 l=14:=by rw [hwf.out];simp [h160]
     rw [hw0]
     simp only [show ¬ ((14:Int)=0) by decide,if_false]
     go_enter Tryz.func45,Tryz.ntmps45
     go_wp2_with (first | (rw [hW1]) | (rw [hgb]))
     refine Calls.mono cP1.out ?_
     rintro e w2 ⟨A2,cp2,rfl,hd2,hT2,hb2⟩
     have hB2:=As.mk (hB.out.trans (hb2.mono hB.out.size))
     have hz2:=Zc hb2 hz.out
     have d0:w2.cell? ⟨gb,0,none⟩=some (.slice A pn c):=Za hz2 0
     have d1:w2.cell? ⟨gb,1,none⟩=some (.map (some mb)):=Za hz2 1
     have d2:w2.cell? ⟨gb,2,none⟩=some (.bool e0):=Za hz2 2
     have hs2:=hB2.out.size
     have hb0:=heap_alloc_new w2 (.cells #[.int .i64 1,.slice A pn c,.map (some mb),.bool e0,.nilIface] 166)
     have hBe:=hB2.out.alloc hs2 (.cells #[.int .i64 1,.slice A pn c,.map (some mb),.bool e0,.nilIface] 166)
     have hT3:=As.mk (hT2.below ((Below.refl _ _).alloc (Nat.le_refl _) (.cells #[.int .i64 1,.slice A pn c,.map (some mb),.bool e0,.nilIface] 166)))
     have hz3:=As.mk (Zn hz2 (o':=.cells #[.int .i64 1,.slice A pn c,.map (some mb),.bool e0,.nilIface] 166))
     obtain ⟨ge,hge⟩:∃ g,w2.heap.size=g:=⟨_,rfl⟩
     have hgw:w.heap.size≤ge:=by omega
     obtain ⟨W3,hW3⟩:∃ W,w2.alloc (.cells #[.int .i64 1,.slice A pn c,.map (some mb),.bool e0,.nilIface] 166)=W:=⟨_,rfl⟩
     rw [hge] at hb0
     rw [hW3] at hb0 hBe hT3 hz3
     replace hb0:=As.mk hb0
     replace hBe:=As.mk hBe
     clear hT2 hz2 hb2
     have fr4:∀ v,Below W3.heap.size W3 v→v.cell? ⟨ge,4,none⟩=some .nilIface∧v.frozen? ⟨ge,4,none⟩=false:=fun v hv=>⟨Za (Zc hv hb0.out) 4,Zb (Zc hv hb0.out) 4⟩
     have fz:=As.mk fr4
     have k0:W3.cell? ⟨gb,0,none⟩=some (.slice A pn c):=Za hz3.out 0
     have k1:W3.cell? ⟨gb,1,none⟩=some (.map (some mb)):=Za hz3.out 1
     have k2:W3.cell? ⟨gb,2,none⟩=some (.bool e0):=Za hz3.out 2
     clear fr4
     have cN:=As.mk (Zds W3 A2 cp2 ps (hT3.out) (by have:=hpn.out;omega) (by have:=hpn.out;omega))
     simp only [hpn.out,if_neg h160] at cN
     go_wp2_with (first | (rw [hW3]) | (rw [hge]))
     refine Calls.mono cN.out ?_
     rintro e w5 ⟨rfl,hb5⟩
     have hB5:=As.mk (hBe.out.trans (hb5.mono hBe.out.size))
     clear hb5
     go_wp2_with fail
     go_ret2
     exact ⟨rfl,hB5.out⟩
 by_cases t2:tag=2
 · subst t2
   by_cases hbad:pn≠1∨e0=true
   · have hw0:Qe 2 l=13:=by rw [hwf.out];rw [if_neg (by decide),if_pos ⟨rfl,hbad⟩]
     rw [hw0]
     simp only [show ¬ ((13:Int)=0) by decide,if_false]
     by_cases h1:pn=1
     · have h2:e0=true:=hbad.elim (fun h=>absurd h1 h) id
       subst h1
       subst h2
       go_enter Tryz.func45,Tryz.ntmps45
       go_wp2_with (first | (rw [hW1]) | (rw [hgb]))
       refine Calls.mono cP1.out ?_
       rintro e w2 ⟨A2,cp2,rfl,hd2,hT2,hb2⟩
       have hB2:=As.mk (hB.out.trans (hb2.mono hB.out.size))
       have hz2:=Zc hb2 hz.out
       have d0:w2.cell? ⟨gb,0,none⟩=some (.slice A 1 c):=Za hz2 0
       have d1:w2.cell? ⟨gb,1,none⟩=some (.map (some mb)):=Za hz2 1
       have d2:w2.cell? ⟨gb,2,none⟩=some (.bool true):=Za hz2 2
       have hs2:=hB2.out.size
       have hb0:=heap_alloc_new w2 (.cells #[.int .i64 2,.slice A 1 c,.map (some mb),.bool true,.nilIface] 166)
       have hBe:=hB2.out.alloc hs2 (.cells #[.int .i64 2,.slice A 1 c,.map (some mb),.bool true,.nilIface] 166)
       have hT3:=As.mk (hT2.below ((Below.refl _ _).alloc (Nat.le_refl _) (.cells #[.int .i64 2,.slice A 1 c,.map (some mb),.bool true,.nilIface] 166)))
       have hz3:=As.mk (Zn hz2 (o':=.cells #[.int .i64 2,.slice A 1 c,.map (some mb),.bool true,.nilIface] 166))
       obtain ⟨ge,hge⟩:∃ g,w2.heap.size=g:=⟨_,rfl⟩
       have hgw:w.heap.size≤ge:=by omega
       obtain ⟨W3,hW3⟩:∃ W,w2.alloc (.cells #[.int .i64 2,.slice A 1 c,.map (some mb),.bool true,.nilIface] 166)=W:=⟨_,rfl⟩
       rw [hge] at hb0
       rw [hW3] at hb0 hBe hT3 hz3
       replace hb0:=As.mk hb0
       replace hBe:=As.mk hBe
       clear hT2 hz2 hb2
       have fr4:∀ v,Below W3.heap.size W3 v→v.cell? ⟨ge,4,none⟩=some .nilIface∧v.frozen? ⟨ge,4,none⟩=false:=fun v hv=>⟨Za (Zc hv hb0.out) 4,Zb (Zc hv hb0.out) 4⟩
       have fz:=As.mk fr4
       have k0:W3.cell? ⟨gb,0,none⟩=some (.slice A 1 c):=Za hz3.out 0
       have k1:W3.cell? ⟨gb,1,none⟩=some (.map (some mb)):=Za hz3.out 1
       have k2:W3.cell? ⟨gb,2,none⟩=some (.bool true):=Za hz3.out 2
       clear fr4
       go_wp2_with (first | (rw [hW3]) | (rw [hge]) | (go_at_call 91;refine Calls.mono (cEm.out _ hBe.out) ?_;rintro e w5 ⟨rfl,hb5⟩;have hB5:=As.mk (Ze hBe.out hb5)))
       go_ret2
       exact ⟨rfl,hB5.out⟩
     · --
       go_enter Tryz.func45,Tryz.ntmps45
       go_wp2_with (first | (rw [hW1]) | (rw [hgb]))
       refine Calls.mono cP1.out ?_
       rintro e w2 ⟨A2,cp2,rfl,hd2,hT2,hb2⟩
       have hB2:=As.mk (hB.out.trans (hb2.mono hB.out.size))
       have hz2:=Zc hb2 hz.out
       have d0:w2.cell? ⟨gb,0,none⟩=some (.slice A pn c):=Za hz2 0
       have d1:w2.cell? ⟨gb,1,none⟩=some (.map (some mb)):=Za hz2 1
       have d2:w2.cell? ⟨gb,2,none⟩=some (.bool e0):=Za hz2 2
       have hs2:=hB2.out.size
       have hb0:=heap_alloc_new w2 (.cells #[.int .i64 2,.slice A pn c,.map (some mb),.bool e0,.nilIface] 166)
       have hBe:=hB2.out.alloc hs2 (.cells #[.int .i64 2,.slice A pn c,.map (some mb),.bool e0,.nilIface] 166)
       have hT3:=As.mk (hT2.below ((Below.refl _ _).alloc (Nat.le_refl _) (.cells #[.int .i64 2,.slice A pn c,.map (some mb),.bool e0,.nilIface] 166)))
       have hz3:=As.mk (Zn hz2 (o':=.cells #[.int .i64 2,.slice A pn c,.map (some mb),.bool e0,.nilIface] 166))
       obtain ⟨ge,hge⟩:∃ g,w2.heap.size=g:=⟨_,rfl⟩
       have hgw:w.heap.size≤ge:=by omega
       obtain ⟨W3,hW3⟩:∃ W,w2.alloc (.cells #[.int .i64 2,.slice A pn c,.map (some mb),.bool e0,.nilIface] 166)=W:=⟨_,rfl⟩
       rw [hge] at hb0
       rw [hW3] at hb0 hBe hT3 hz3
       replace hb0:=As.mk hb0
       replace hBe:=As.mk hBe
       clear hT2 hz2 hb2
       have fr4:∀ v,Below W3.heap.size W3 v→v.cell? ⟨ge,4,none⟩=some .nilIface∧v.frozen? ⟨ge,4,none⟩=false:=fun v hv=>⟨Za (Zc hv hb0.out) 4,Zb (Zc hv hb0.out) 4⟩
       have fz:=As.mk fr4
       have k0:W3.cell? ⟨gb,0,none⟩=some (.slice A pn c):=Za hz3.out 0
       have k1:W3.cell? ⟨gb,1,none⟩=some (.map (some mb)):=Za hz3.out 1
       have k2:W3.cell? ⟨gb,2,none⟩=some (.bool e0):=Za hz3.out 2
       clear fr4
       have h2:((pn:Int) != 1)=true:=by simp;omega
       have h3:((pn:Int) == 1)=false:=by simp;omega
       go_wp2_with (first | (rw [hW3]) | (rw [hge]) | (go_at_call 91;refine Calls.mono (cEm.out _ hBe.out) ?_;rintro e w5 ⟨rfl,hb5⟩;have hB5:=As.mk (Ze hBe.out hb5)))
       go_ret2
       exact ⟨rfl,hBe.out⟩
   · have hp1:pn=1:=Classical.byContradiction fun h=>hbad (.inl h)
     have he1:e0=false:=by
      cases e0 with
      | true=>exact absurd (.inr rfl) hbad
      | false=>rfl
     have hw0:Qe 2 l=0:=by rw [hwf.out,if_neg (by decide),if_neg (fun h=>hbad h.2)];rfl
     rw [hw0]
     simp only [if_true]
     obtain ⟨t,hpt⟩:∃ t,ps=[t]:=List.length_eq_one_iff.1 (hpn.out.trans hp1)
     have htne:t≠[]:=hne.out t (by rw [hpt];simp)
     have htl:t.length≤60000:=hps60.out t (by rw [hpt];simp)
     have htl0:0<t.length:=List.length_pos_iff.2 htne
     subst hp1
     subst he1
     go_enter Tryz.func45,Tryz.ntmps45
     go_wp2_with (first | (rw [hW1]) | (rw [hgb]))
     refine Calls.mono cP1.out ?_
     rintro e w2 ⟨A2,cp2,rfl,hd2,hT2,hb2⟩
     have hB2:=As.mk (hB.out.trans (hb2.mono hB.out.size))
     have hz2:=Zc hb2 hz.out
     have d0:w2.cell? ⟨gb,0,none⟩=some (.slice A 1 c):=Za hz2 0
     have d1:w2.cell? ⟨gb,1,none⟩=some (.map (some mb)):=Za hz2 1
     have d2:w2.cell? ⟨gb,2,none⟩=some (.bool false):=Za hz2 2
     have hs2:=hB2.out.size
     have hb0:=heap_alloc_new w2 (.cells #[.int .i64 2,.slice A 1 c,.map (some mb),.bool false,.nilIface] 166)
     have hBe:=hB2.out.alloc hs2 (.cells #[.int .i64 2,.slice A 1 c,.map (some mb),.bool false,.nilIface] 166)
     have hT3:=As.mk (hT2.below ((Below.refl _ _).alloc (Nat.le_refl _) (.cells #[.int .i64 2,.slice A 1 c,.map (some mb),.bool false,.nilIface] 166)))
     have hz3:=As.mk (Zn hz2 (o':=.cells #[.int .i64 2,.slice A 1 c,.map (some mb),.bool false,.nilIface] 166))
     obtain ⟨ge,hge⟩:∃ g,w2.heap.size=g:=⟨_,rfl⟩
     have hgw:w.heap.size≤ge:=by omega
     obtain ⟨W3,hW3⟩:∃ W,w2.alloc (.cells #[.int .i64 2,.slice A 1 c,.map (some mb),.bool false,.nilIface] 166)=W:=⟨_,rfl⟩
     rw [hge] at hb0
     rw [hW3] at hb0 hBe hT3 hz3
     replace hb0:=As.mk hb0
     replace hBe:=As.mk hBe
     clear hT2 hz2 hb2
     have fr4:∀ v,Below W3.heap.size W3 v→v.cell? ⟨ge,4,none⟩=some .nilIface∧v.frozen? ⟨ge,4,none⟩=false:=fun v hv=>⟨Za (Zc hv hb0.out) 4,Zb (Zc hv hb0.out) 4⟩
     have fz:=As.mk fr4
     have k0:W3.cell? ⟨gb,0,none⟩=some (.slice A 1 c):=Za hz3.out 0
     have k1:W3.cell? ⟨gb,1,none⟩=some (.map (some mb)):=Za hz3.out 1
     have k2:W3.cell? ⟨gb,2,none⟩=some (.bool false):=Za hz3.out 2
     clear fr4
     obtain ⟨ad,A',c',rfl,ca,hc',hrw⟩:=hT3.out.at_ (i:=0) (by rw [hpt];simp)
     rw [show ps.getD 0 []=t by rw [hpt];rfl] at ca hc' hrw
     obtain ⟨ad',rfl,_⟩:=Byt.at_ hrw htl0
     have cN:=As.mk (fun (u:World) (hu:Below W3.heap.size W3 u)=>new_calls2 u ad' c' t (Row.below hrw hu) (by omega) htl0 hc')
     obtain ⟨tl,htl2⟩:∃ k,t.length=k:=⟨_,rfl⟩
     rw [htl2] at ca cN hc'
     have ca0:W3.cell? ad=some (.slice (some ad') tl c'):=by have:=ca;rwa [show ad.add 0=ad by unfold Addr.add;simp] at this
     have cad:=World.block_lt_of_cell? W3 _ ca0
     have ck:=As.mk (fun (u:World) (hu:Below W3.heap.size W3 u)=>(hu.cell (p:=ad) cad).trans ca0)
     replace hpt:=As.mk hpt
     replace htl2:=As.mk htl2
     clear hrw
     go_wp2_with (first | (rw [hW3]) | (rw [hge]) | (go_at_call 91;refine Calls.mono (cEm.out _ hBe.out) ?_;rintro e w4 ⟨rfl,hb4⟩;have ca4:=ck.out _ hb4;have ca40:w4.cell? (ad.add 0)=some (.slice (some ad') tl c'):=(by rw [show ad.add 0=ad by unfold Addr.add;simp];exact ca4);replace hb4:=As.mk hb4))
     refine Calls.mono (cN.out _ hb4.out) ?_
     rintro e w5 ⟨g2,ad2,cb2,a2,s2,sm2,rfl,hTw,⟨hg2a,hg2b⟩,hb5⟩
     have hb35:=Ze hb4.out hb5
     obtain ⟨q0,q1⟩:=fz.out _ hb35
     have hb5':=As.mk hb35
     have hTw':=As.mk hTw
     have hs34:=hb4.out.size
     have hgeW:=Zf hb0.out
     clear hTw hb5 hb35
     go_wp2_with fail
     go_ret2
     obtain ⟨SC,hSC⟩:∃ s,Value.iface 177 (.agg #[.func (.func 93) #[.pointer (some ⟨g2,0,none⟩)] #[]])=s:=⟨_,rfl⟩
     rw [hSC]
     have hkE:Keeps (fun q=>q=ge) w5 (w5.setCell ⟨ge,4,none⟩ SC):=(Zm w5 ⟨ge,4,none⟩ _).mono fun _ _ h=>h
     have hb5s:=hb5'.out.size
     have hEM:EMs w5 (fun q=>q=ge):=fun b (hb:b=ge)=>⟨_,_,_,(congrArg (fun k=>w5.heap[k]?) hb).trans (Zc hb5'.out hb0.out),.inl rfl⟩
     have hbe5:=Zc hb5'.out hb0.out
     have hBw5:=hBe.out.trans (hb5'.out.mono hBe.out.size)
     have hblk:(w5.setCell ⟨ge,4,none⟩ SC).heap[ge]? = some (.cells #[.int .i64 2,.slice A 1 c,.map (some mb),.bool false,SC] 166 (0,0)):=by
      have:=Zi hbe5 4 SC
      rw [this];simp
     refine ⟨⟨ge,rfl,base,_,_,_,_,hblk,(HP.out.below hBw5).keepS hkE hEM,.inr (.inr (.inl ⟨rfl,t,g2,ad2,cb2,a2,s2,sm2,by rw [hps.out];exact hpt.out,htl0,hSC.symm,?_⟩))⟩,hBw5.setCell (p:=⟨ge,4,none⟩) hgw _⟩
     obtain ⟨h1,h2,h3,h4⟩:=hTw'.out
     exact ⟨Zd h1 hkE (by show ¬ (g2=ge);omega),h2,Row.keep h3 hkE (fun ad e _ hS=>by injection e with e;subst e;have hS:ad2.block=ge:=hS;omega),h4⟩
 by_cases t3:tag=3
 · subst t3
   have hw0:Qe 3 l=0:=by rw [hwf.out];rfl
   rw [hw0]
   simp only [if_true]
   go_enter Tryz.func45,Tryz.ntmps45
   go_wp2_with (first | (rw [hW1]) | (rw [hgb]))
   refine Calls.mono cP1.out ?_
   rintro e w2 ⟨A2,cp2,rfl,hd2,hT2,hb2⟩
   have hB2:=As.mk (hB.out.trans (hb2.mono hB.out.size))
   have hz2:=Zc hb2 hz.out
   have d0:w2.cell? ⟨gb,0,none⟩=some (.slice A pn c):=Za hz2 0
   have d1:w2.cell? ⟨gb,1,none⟩=some (.map (some mb)):=Za hz2 1
   have d2:w2.cell? ⟨gb,2,none⟩=some (.bool e0):=Za hz2 2
   have hs2:=hB2.out.size
   have hb0:=heap_alloc_new w2 (.cells #[.int .i64 3,.slice A pn c,.map (some mb),.bool e0,.nilIface] 166)
   have hBe:=hB2.out.alloc hs2 (.cells #[.int .i64 3,.slice A pn c,.map (some mb),.bool e0,.nilIface] 166)
   have hT3:=As.mk (hT2.below ((Below.refl _ _).alloc (Nat.le_refl _) (.cells #[.int .i64 3,.slice A pn c,.map (some mb),.bool e0,.nilIface] 166)))
   have hz3:=As.mk (Zn hz2 (o':=.cells #[.int .i64 3,.slice A pn c,.map (some mb),.bool e0,.nilIface] 166))
   obtain ⟨ge,hge⟩:∃ g,w2.heap.size=g:=⟨_,rfl⟩
   have hgw:w.heap.size≤ge:=by omega
   obtain ⟨W3,hW3⟩:∃ W,w2.alloc (.cells #[.int .i64 3,.slice A pn c,.map (some mb),.bool e0,.nilIface] 166)=W:=⟨_,rfl⟩
   rw [hge] at hb0
   rw [hW3] at hb0 hBe hT3 hz3
   replace hb0:=As.mk hb0
   replace hBe:=As.mk hBe
   clear hT2 hz2 hb2
   have fr4:∀ v,Below W3.heap.size W3 v→v.cell? ⟨ge,4,none⟩=some .nilIface∧v.frozen? ⟨ge,4,none⟩=false:=fun v hv=>⟨Za (Zc hv hb0.out) 4,Zb (Zc hv hb0.out) 4⟩
   have fz:=As.mk fr4
   have k0:W3.cell? ⟨gb,0,none⟩=some (.slice A pn c):=Za hz3.out 0
   have k1:W3.cell? ⟨gb,1,none⟩=some (.map (some mb)):=Za hz3.out 1
   have k2:W3.cell? ⟨gb,2,none⟩=some (.bool e0):=Za hz3.out 2
   clear fr4
   have cN:=As.mk (cnew_calls W3 A2 cp2 ps (hT3.out) (by have:=hpn.out;omega) (by have:=hpn.out;omega))
   rw [hpn.out] at cN
   go_wp2_with (first | (rw [hW3]) | (rw [hge]))
   refine Calls.mono cN.out ?_
   rintro e w5 ⟨ga,rfl,hA,hb5⟩
   obtain ⟨q0,q1⟩:=fz.out _ hb5
   have hA':=As.mk hA
   have hb5':=As.mk hb5
   clear hA hb5
   go_wp2_with fail
   go_ret2
   obtain ⟨SC,hSC⟩:∃ s,Value.iface 177 (.agg #[.func (.func 95) #[.pointer (some ⟨ga,0,none⟩)] #[]])=s:=⟨_,rfl⟩
   rw [hSC]
   have hkE:Keeps (fun q=>q=ge) w5 (w5.setCell ⟨ge,4,none⟩ SC):=(Zm w5 ⟨ge,4,none⟩ _).mono fun _ _ h=>h
   have hb5s:=hb5'.out.size
   have hEM:EMs w5 (fun q=>q=ge):=fun b (hb:b=ge)=>⟨_,_,_,(congrArg (fun k=>w5.heap[k]?) hb).trans (Zc hb5'.out hb0.out),.inl rfl⟩
   have hbe5:=Zc hb5'.out hb0.out
   have hBw5:=hBe.out.trans (hb5'.out.mono hBe.out.size)
   have hblk:(w5.setCell ⟨ge,4,none⟩ SC).heap[ge]? = some (.cells #[.int .i64 3,.slice A pn c,.map (some mb),.bool e0,SC] 166 (0,0)):=by
    have:=Zi hbe5 4 SC
    rw [this];simp
   refine ⟨⟨ge,rfl,base,_,_,_,_,hblk,(HP.out.below hBw5).keepS hkE hEM,.inr (.inr (.inr ⟨rfl,ga,hSC.symm,?_⟩))⟩,hBw5.setCell (p:=⟨ge,4,none⟩) hgw _⟩
   rw [hps.out]
   exact hA'.out.keepS hkE hEM
 · have hw0:Qe tag l=11:=by rw [hwf.out,if_pos (by omega)]
   rw [hw0]
   simp only [show ¬ ((11:Int)=0) by decide,if_false]
   have e0':(tag == 0)=false:=by simp;exact t0
   have e1':(tag == 1)=false:=by simp;exact t1
   have e2':(tag == 2)=false:=by simp;exact t2
   have e3':(tag == 3)=false:=by simp;exact t3
   go_enter Tryz.func45,Tryz.ntmps45
   go_wp2_with (first | (rw [hW1]) | (rw [hgb]))
   refine Calls.mono cP1.out ?_
   rintro e w2 ⟨A2,cp2,rfl,hd2,hT2,hb2⟩
   have hB2:=As.mk (hB.out.trans (hb2.mono hB.out.size))
   have hz2:=Zc hb2 hz.out
   have d0:w2.cell? ⟨gb,0,none⟩=some (.slice A pn c):=Za hz2 0
   have d1:w2.cell? ⟨gb,1,none⟩=some (.map (some mb)):=Za hz2 1
   have d2:w2.cell? ⟨gb,2,none⟩=some (.bool e0):=Za hz2 2
   have hs2:=hB2.out.size
   have hb0:=heap_alloc_new w2 (.cells #[.int .i64 tag,.slice A pn c,.map (some mb),.bool e0,.nilIface] 166)
   have hBe:=hB2.out.alloc hs2 (.cells #[.int .i64 tag,.slice A pn c,.map (some mb),.bool e0,.nilIface] 166)
   have hT3:=As.mk (hT2.below ((Below.refl _ _).alloc (Nat.le_refl _) (.cells #[.int .i64 tag,.slice A pn c,.map (some mb),.bool e0,.nilIface] 166)))
   have hz3:=As.mk (Zn hz2 (o':=.cells #[.int .i64 tag,.slice A pn c,.map (some mb),.bool e0,.nilIface] 166))
   obtain ⟨ge,hge⟩:∃ g,w2.heap.size=g:=⟨_,rfl⟩
   have hgw:w.heap.size≤ge:=by omega
   obtain ⟨W3,hW3⟩:∃ W,w2.alloc (.cells #[.int .i64 tag,.slice A pn c,.map (some mb),.bool e0,.nilIface] 166)=W:=⟨_,rfl⟩
   rw [hge] at hb0
   rw [hW3] at hb0 hBe hT3 hz3
   replace hb0:=As.mk hb0
   replace hBe:=As.mk hBe
   clear hT2 hz2 hb2
   have fr4:∀ v,Below W3.heap.size W3 v→v.cell? ⟨ge,4,none⟩=some .nilIface∧v.frozen? ⟨ge,4,none⟩=false:=fun v hv=>⟨Za (Zc hv hb0.out) 4,Zb (Zc hv hb0.out) 4⟩
   have fz:=As.mk fr4
   have k0:W3.cell? ⟨gb,0,none⟩=some (.slice A pn c):=Za hz3.out 0
   have k1:W3.cell? ⟨gb,1,none⟩=some (.map (some mb)):=Za hz3.out 1
   have k2:W3.cell? ⟨gb,2,none⟩=some (.bool e0):=Za hz3.out 2
   clear fr4
   go_wp2_with (first | (rw [hW3]) | (rw [hge]))
   go_ret2
   exact ⟨rfl,hBe.out⟩
end Go.Proofs.YtfdlaomnecjfeaaGreatDoor
end
