/- Joined texts: Dfa3, Dfa4, Dfa5, Dfa6, Dfa7. -/
import Derived.Test.YtfdlaomnecjfeaaGreatDoorM6
import Derived.Deep.RegionHeld
import Derived.Laws.CopyOwn
import Derived.Laws.OwnMore
import Derived.Deep.DeepCutAuto
import Derived.Scope
set_option linter.unusedVariables false
set_option linter.unusedSimpArgs false
section
namespace Go.Proofs.YtfdlaomnecjfeaaGreatDoor
open Go.RowKit Seine.Trie Seine.Dfa Seine.Links
/-- What a state's row holds where the rows of `done` are made. -/
def Z5 (P l:List Txt) (done:List Txt) (a k:Nat):Int:=match P[a]? with | some s=>if s∈done then Ym P l s k else 0 | none=>0
theorem gridF_nil (P l:List Txt):Z5 P l []=fun _ _=>0:=by
 funext a k;unfold Z5;split <;> simp
theorem gridF_same (P l:List Txt) (done done':List Txt) (h:∀ x,x∈done↔x∈done'):Z5 P l done=Z5 P l done':=by
 funext a k;unfold Z5;split
 · simp only [h]
 · rfl
theorem gridF_snoc (P l:List Txt) (done:List Txt) {a:Nat} {s:Txt} (ha:P[a]? = some s) (hn:P.Nodup) (b k:Nat) :
    Z5 P l (done++[s]) b k=if b=a then Ym P l s k else Z5 P l done b k:=by
 unfold Z5
 by_cases h:b=a
 · subst h;rw [if_pos rfl,ha];simp
 · rw [if_neg h]
   cases hb:P[b]? with
   | none=>rfl
   | some t =>
     have hts:t≠s:=fun e=>h (by
      subst e
      obtain ⟨ha1,ha2⟩:=List.getElem?_eq_some_iff.1 ha
      obtain ⟨hb1,hb2⟩:=List.getElem?_eq_some_iff.1 hb
      exact (List.getElem_inj hn).1 (hb2.trans ha2.symm))
     simp [hts]
/-- A grid with one row changed. -/
def QF (G:Nat→Nat→Int) (a:Nat) (R:Nat→Int) (b k:Nat):Int:=if b=a then R k else G b k
theorem updF_same (G:Nat→Nat→Int) (a:Nat):QF G a (G a)=G:=by
 funext b k;unfold QF;by_cases h:b=a
 · subst h;rw [if_pos rfl]
 · rw [if_neg h]
theorem YO (G:Nat→Nat→Int) {n W i:Nat} (hW:0<W) (h:i<n * W):(ZP G n W)[i]? = some (.int .i64 (G (i / W) (i % W))):=by
 have h1:i % W<W:=Nat.mod_lt _ hW
 have h2:i / W<n:=by rw [Nat.div_lt_iff_lt_mul hW];exact h
 have:=Zd1 G h2 h1
 rwa [Nat.div_add_mod'] at this
theorem ZaW (G:Nat→Nat→Int) {n W i:Nat} (h:n * W≤i):(ZP G n W)[i]? = none:=List.getElem?_eq_none (by rw [Qk];exact h)
theorem ZfQ {n W i a:Nat} (hW:0<W) (h1:a * W≤i) (h2:i<a * W+W):i / W=a∧i % W=i - a * W:=by
 obtain ⟨k,rfl⟩:∃ k,i=a * W+k:=⟨i - a * W,by omega⟩
 have hk:k<W:=by omega
 refine ⟨?_,?_⟩
 · rw [Nat.mul_comm,Nat.mul_add_div (by omega),Nat.div_eq_of_lt hk];rfl
 · rw [Nat.mul_comm a W,Nat.mul_add_mod,Nat.mod_eq_of_lt hk];omega
theorem Zfz (G:Nat→Nat→Int) {n W a k:Nat} (ha:a<n) (hk:k<W) (R R':Nat→Int) (x:Int) (h:∀ j,R' j=if j=k then x else R j) :
    (ZP (QF G a R) n W).toArray.setIfInBounds (a * W+k) (.int .i64 x)=(ZP (QF G a R') n W).toArray:=by
 apply Array.toList_inj.1
 rw [Array.toList_setIfInBounds]
 apply List.ext_getElem?
 intro i
 have hW:0<W:=by omega
 have hlt:=ZaC ha hk
 show ((ZP (QF G a R) n W).set (a * W+k) (.int .i64 x))[i]? = (ZP (QF G a R') n W)[i]?
 rw [List.getElem?_set]
 by_cases hi:i<n * W
 · rw [YO _ hW hi,YO _ hW hi]
   by_cases e:a * W+k=i
   · subst e
     obtain ⟨e1,e2⟩:=ZfQ (n:=n) (i:=a * W+k) (a:=a) hW (by omega) (by omega)
     rw [if_pos rfl,if_pos (by rw [Qk];exact hlt),e1,e2]
     unfold QF
     rw [if_pos rfl,h,if_pos (by omega)]
   · rw [if_neg e]
     unfold QF
     by_cases hia:i / W=a
     · rw [if_pos hia,if_pos hia,h,if_neg (fun c=>e (by rw [← c,← hia,Nat.div_add_mod']))]
     · rw [if_neg hia,if_neg hia]
 · rw [ZaW _ (by omega),ZaW _ (by omega),if_neg (by omega)]
def Q5 (R:Nat→Int) (W:Nat):List Value:=(List.range W).map fun k=>.int .i64 (R k)
theorem QO (R:Nat→Int) (W:Nat):(Q5 R W).length=W:=by simp [Q5]
theorem Zcp (R:Nat→Int) {W k:Nat} (h:k<W):(Q5 R W)[k]? = some (.int .i64 (R k)):=by
 unfold Q5;rw [List.getElem?_map,List.getElem?_range h];rfl
theorem tab_splice (G:Nat→Nat→Int) {n W a:Nat} (ha:a<n) (hW:0<W) (R:Nat→Int):splice (ZP G n W) (a * W) (Q5 R W)=ZP (QF G a R) n W:=by
 have hlt:a * W+W≤n * W:=by rw [← Nat.succ_mul];exact Nat.mul_le_mul_right _ ha
 unfold splice
 rw [QO]
 apply List.ext_getElem?
 intro i
 have hl1:((ZP G n W).take (a * W)).length=a * W:=by rw [List.length_take,Qk];omega
 by_cases h1:i<a * W
 · rw [List.getElem?_append_left (by omega),List.getElem?_take_of_lt h1,YO _ hW (by omega),YO _ hW (by omega)]
   unfold QF
   rw [if_neg]
   intro e
   have:=Nat.div_lt_iff_lt_mul hW |>.2 h1
   omega
 · rw [List.getElem?_append_right (by omega),hl1]
   by_cases h2:i<a * W+W
   · obtain ⟨e1,e2⟩:=ZfQ (n:=n) (i:=i) (a:=a) hW (by omega) h2
     rw [List.getElem?_append_left (by rw [QO];omega),Zcp _ (by omega),YO _ hW (by omega),e1,e2]
     unfold QF
     rw [if_pos rfl]
   · rw [List.getElem?_append_right (by rw [QO];omega),QO,List.getElem?_drop,show a * W+W+(i - a * W - W)=i by omega]
     by_cases h3:i<n * W
     · rw [YO _ hW h3,YO _ hW h3]
       unfold QF
       rw [if_neg]
       intro e
       have h4:(a+1) * W≤i:=by rw [Nat.succ_mul];omega
       have:=(Nat.le_div_iff_mul_le hW).2 h4
       omega
     · rw [ZaW _ (by omega),ZaW _ (by omega)]
theorem gridF_done (P l done:List Txt) {a:Nat} {s:Txt} (ha:P[a]? = some s) (hn:P.Nodup):Z5 P l (done++[s])=QF (Z5 P l done) a (Ym P l s):=by
 funext b k;rw [gridF_snoc P l done ha hn];rfl
theorem Zfc (P l done:List Txt) {a:Nat} {s:Txt} (ha:P[a]? = some s) (hs:s∈done):Z5 P l done a=Ym P l s:=by
 funext k;unfold Z5;rw [ha];simp [hs]
theorem gridF_out (P l done:List Txt) {a:Nat} {s:Txt} (ha:P[a]? = some s) (hs:s ∉ done):Z5 P l done a=fun _=>0:=by
 funext k;unfold Z5;rw [ha];simp [hs]
theorem order_before {P:List Txt} (hT:Tree P) {i:Nat} {s x:Txt} (h:(op P P.length)[i]? = some s) (hx:x∈P) (hl:x.length<s.length):x∈(op P P.length).take i:=by
 have hi:=(List.getElem?_eq_some_iff.1 h).1
 have hil:i<P.length:=Nat.lt_of_lt_of_le hi (Zay hT _)
 have h2:=ZbX (Nat.le_of_lt hil) h (ZdY (Nat.le_of_lt hil) hi)
 obtain ⟨j,hj,e⟩:=Zen hT i h2 x hx hl
 have e2:=Zbk (Nat.le_of_lt hil) e
 exact List.mem_of_getElem? (by rw [List.getElem?_take_of_lt hj];exact e2)
theorem order_new {P:List Txt} {i n:Nat} {s:Txt} (h:(op P n)[i]? = some s):s ∉ (op P n).take i:=fun hm=>by
 obtain ⟨j,hj,e⟩:=List.mem_iff_getElem.1 hm
 rw [List.length_take] at hj
 rw [List.getElem_take] at e
 have:=Y4 (JC P n) (i:=j) (j:=i) (x:=s) (by rw [List.getElem?_eq_getElem (by omega),e]) h
 omega
theorem gridF_zero (P l:List Txt):Z5 P l ((op P P.length).take 0)=fun _ _=>0:=by rw [List.take_zero];exact gridF_nil P l
theorem tab_zero (n W:Nat):ZP (fun _ _=>0) n W=List.replicate (n * W) (.int .i64 0):=by
 unfold ZP
 apply List.ext_getElem?
 intro i
 by_cases h:i<n * W
 · rw [List.getElem?_map,List.getElem?_range h,List.getElem?_replicate,if_pos h];rfl
 · rw [List.getElem?_eq_none (by simp;omega),List.getElem?_eq_none (by simp;omega)]
theorem DfaBlk.set {w:World} {g tg lg:Nat} {F:UInt8→Nat} {m:Nat} {v:Value} (h:DfaBlk w g tg lg F m v) (u:Value):DfaBlk (w.setCell ⟨g,259,none⟩ u) g tg lg F m u:=by
 obtain ⟨D,h1,h2,h3,h4,h5,h6⟩:=h
 refine ⟨_,Zi h1 259 u,by simpa using h2,?_,?_,fun i x hx=>?_,?_⟩
 · rw [Array.getElem?_setIfInBounds_ne (by omega)];exact h3
 · rw [Array.getElem?_setIfInBounds_ne (by omega)];exact h4
 · have:=(List.getElem?_eq_some_iff.1 hx).1
   rw [ZI] at this
   rw [Array.getElem?_setIfInBounds_ne (by omega)];exact h5 i x hx
 · rw [Array.getElem?_setIfInBounds_self_of_lt (by omega)]
theorem DfaBlk.keep {S:Nat→Prop} {w w':World} {g tg lg:Nat} {F:UInt8→Nat} {m:Nat} {v:Value} (h:DfaBlk w g tg lg F m v) (hk:Keeps S w w') (hS:¬ S g):DfaBlk w' g tg lg F m v:=by
 obtain ⟨D,h1,h2⟩:=h
 exact ⟨D,Zd h1 hk hS,h2⟩
theorem DfaBlk.size {w:World} {g tg lg:Nat} {F:UInt8→Nat} {m:Nat} {v:Value} (h:DfaBlk w g tg lg F m v):w.heap.size > g:=by
 obtain ⟨D,h1,h2⟩:=h
 exact Zf h1
theorem ZcZ (w:World) (g:Nat) (cs:Array Value):Keeps (fun k=>k=g) w (w.setRow g cs):=⟨rfl,rfl,rfl,by simp [World.setRow],fun i hi hn=>setRow_other w g i cs hn⟩
end Go.Proofs.YtfdlaomnecjfeaaGreatDoor
end
section
namespace Go.Proofs.YtfdlaomnecjfeaaGreatDoor
open Go.RowKit Seine.Trie Seine.Dfa Seine.Links
open Go in
theorem Zg {P:Program} {l:List Oper} {Q:Exit→Act→World→Prop} {md:Region.Mode} {S:World→Prop} (i:Nat) {oi:Oper} {v:Value} {fuel:Nat} {listed:Array Bool} {a:Act} {w:World} (hi:(l.drop i).head? = some oi)
    (hs:Region.noSelect l.toArray=true) (hf:Region.free md l.toArray listed i=true) (hr:(Region.ready md l.toArray listed).contains i=true)
    (hQ:∀ c a w,Q (.panic c) (a.put oi.dst v) w→Q (.panic c) a w) (hy:YieldsIf P l.toArray S oi v a) (hS:S w)
    (h:wpAnyH P md l.toArray Q S fuel (listed.setIfInBounds i true) (a.put oi.dst v) w):wpAnyH P md l.toArray Q S (fuel+1) listed a w :=
 wpAnyH_take (by rw [List.getElem?_toArray,← hi,List.head?_drop]) hs hf hr hQ hy hS h
theorem copy_src {w:World} {nb n W f b j:Nat} {G:Nat→Nat→Int} {v:Value} (h:w.heap[nb]? = some (.cells (ZP G n W).toArray 3 (0,0))) (hf:f<n) (hb:f * W=b) (hj:(Q5 (G f) W)[j]? = some v):w.cell? ((⟨nb,b,none⟩:Addr).add j)=some v:=by
 have hjl:=(List.getElem?_eq_some_iff.1 hj).1
 rw [QO] at hjl
 rw [Zcp _ hjl] at hj
 rw [Addr.add_mid,Za h,← hb,List.getElem?_toArray,Zd1 G hf hjl,hj]
set_option maxRecDepth 100000 in
set_option maxHeartbeats 1600000 in
theorem fill_calls (w:World) (base lb g tg lg:Nat) (P l:List Txt) (F:UInt8→Nat) (m W n:Nat) (ht:TrieAt w base tg P (place l)) (hb:DfaBlk w g tg lg F m (.slice none 0 0)) (hm:m≤256) (hW:m+1=W) (hn:P.length=n) (hn2:n≤160) (hlk:YN w lb lg P l) (hl:P.length≤1000000) (hPl:Zl l=P) (hF:∀ c,F c=ZV l c) (hmw:(listTo (stands l) 256).length=m) :
    Calls Tryz.prog 139 #[.pointer (some ⟨g,0,none⟩)] w fun e w'=>e=.returned (.tuple #[])∧∃ nb,w.heap.size≤nb∧w'.heap[nb]? = some (.cells (ZP (Z5 P l P) n W).toArray 3 (0,0))∧DfaBlk w' g tg lg F m (.slice (some ⟨nb,0,none⟩) (n * W) (n * W))∧Keeps (fun k=>k=g) w w':=by
 have hT0:=As.mk ht
 have hTr:=As.mk ht.tree
 have hnd:=As.mk (fun v (hv:Below w.heap.size w v)=>Qv v base tg P (place l) (ht.below hv))
 have hlen:=As.mk (fun v=>ZaV v F m hm)
 rw [hW] at hlen
 rw [hn] at hnd
 obtain ⟨c0,c1,c2⟩:=hb.cells
 have hr:=As.mk hb.range
 have hsz:=zero_cls.2
 obtain ⟨C,hCC⟩:∃ C,ZJ F m=C:=⟨_,rfl⟩
 have hCs:C.length=257:=by rw [← hCC];exact ZI _ _
 have hV:ZS F m=C.toArray:=by rw [← hCC];rfl
 rw [hCC] at hr
 rw [hV] at hlen
 have hglt:=As.mk (World.block_lt_of_cell? w _ c0)
 have hrC:∀ v,Below w.heap.size w v→v.rangeAt g 2 C:=fun v hv j u hu=>(hv.cell (p:=⟨g,2+j,none⟩) hglt.out).trans (hr.out j u hu)
 have hg0:∀ v,Below w.heap.size w v→v.cell? ⟨g,0,none⟩=some (.pointer (some ⟨tg,0,none⟩)):=fun v hv=>(hv.cell (p:=⟨g,0,none⟩) hglt.out).trans c0
 replace hrC:=As.mk hrC
 obtain ⟨N,hN⟩:∃ N,n * W=N:=⟨_,rfl⟩
 have hNb:N≤50000:=by rw [← hN];exact Nat.le_trans (Nat.mul_le_mul hn2 (by omega:W≤257)) (by decide)
 obtain ⟨Z,hZ,hmk⟩:=Zbn N (by omega)
 have hmul:(n:Int) * (W:Int)=(N:Int):=by rw [← hN];push_cast;rfl
 have hwN:IntKind.i64.wrap (N:Int)=(N:Int):=by rw [IntKind.wrap_i64];omega
 replace hN:=As.mk hN
 replace hZ:=As.mk hZ
 have hw0:Below w.heap.size w w.drew:=(Below.refl _ _).drew
 replace hsz:=As.mk hsz
 replace hCC:=As.mk hCC
 clear hV c0
 go_enter Tryz.func139,Tryz.ntmps139
 refine wp_scope_straight ?_
 go_upto_region 0 with fail
 go_cut [9] (fun v9 wx=>v9=.pointer (some ⟨g,0,none⟩)∧∃ nb,As (w.heap.size≤nb)∧As (wx.heap[nb]? = some (.cells (ZP (fun _ _=>0) n W).toArray 3 (0,0)))∧As (DfaBlk wx g tg lg F m (.slice (some ⟨nb,0,none⟩) (n * W) (n * W)))∧As (Keeps (fun k=>k=g) w wx))
 case first =>
  refine wp_region_held_drew (S:=fun v=>Keeps (fun k=>k=g) w v∧v.cell? ⟨g,0,none⟩=some (.pointer (some ⟨tg,0,none⟩))∧v.rangeAt g 2 C) (by kernel_rfl) ⟨Keeps.of_below hw0 _,hg0 _ hw0,hrC.out _ hw0⟩ (fun hHeld=>?_)
  refine Zg 0 (v:=?_) rfl (by kernel_rfl) (by kernel_rfl) (by kernel_rfl) (fun _ _ _ h=>h) (Or.inl ⟨by rfl,?_⟩) (by assumption) ?_
  rotate_left 1
  · (intro w hSw;(try dsimp only at hSw);first | (go_simp;done) | (go_simp;with_reducible rfl))
  (simp only [Act.put,List.setIfInBounds_toArray,List.set_cons_zero,List.set_cons_succ])
  refine Zg 1 (v:=?_) rfl (by kernel_rfl) (by kernel_rfl) (by kernel_rfl) (fun _ _ _ h=>h) (Or.inl ⟨by rfl,?_⟩) (by assumption) ?_
  rotate_left 1
  · (intro w hSw;(try dsimp only at hSw);first | (go_simp;done) | (go_simp;with_reducible rfl))
  (simp only [Act.put,List.setIfInBounds_toArray,List.set_cons_zero,List.set_cons_succ])
  refine Zg 2 (v:=?_) rfl (by kernel_rfl) (by kernel_rfl) (by kernel_rfl) (fun _ _ _ h=>h) (Or.inl ⟨by rfl,?_⟩) (by assumption) ?_
  rotate_left 1
  · (intro w hSw;(try dsimp only at hSw);first | (go_simp;done) | (go_simp;with_reducible rfl))
  (simp only [Act.put,List.setIfInBounds_toArray,List.set_cons_zero,List.set_cons_succ])
  refine Zg 3 (v:=?_) rfl (by kernel_rfl) (by kernel_rfl) (by kernel_rfl) (fun _ _ _ h=>h) (Or.inl ⟨by rfl,?_⟩) (by assumption) ?_
  rotate_left 1
  · (intro w hSw;(try dsimp only at hSw);first | (go_simp;done) | (go_simp;with_reducible rfl))
  (simp only [Act.put,List.setIfInBounds_toArray,List.set_cons_zero,List.set_cons_succ])
  refine Zg 4 (v:=?_) rfl (by kernel_rfl) (by kernel_rfl) (by kernel_rfl) (fun _ _ _ h=>h) (Or.inl ⟨by rfl,?_⟩) (by assumption) ?_
  rotate_left 1
  · (intro w hSw;(try dsimp only at hSw);first | (go_simp;done) | (go_simp;with_reducible rfl))
  (simp only [Act.put,List.setIfInBounds_toArray,List.set_cons_zero,List.set_cons_succ])
  refine Zg 6 (v:=?_) rfl (by kernel_rfl) (by kernel_rfl) (by kernel_rfl) (fun _ _ _ h=>h) (Or.inl ⟨by rfl,?_⟩) (by assumption) ?_
  rotate_left 1
  · (intro w hSw;(try dsimp only at hSw);first | (go_simp;done) | (go_simp;with_reducible rfl))
  (simp only [Act.put,List.setIfInBounds_toArray,List.set_cons_zero,List.set_cons_succ])
  refine Zg 7 (v:=?_) rfl (by kernel_rfl) (by kernel_rfl) (by kernel_rfl) (fun _ _ _ h=>h) (Or.inl ⟨by rfl,?_⟩) (by assumption) ?_
  rotate_left 1
  · (intro w hSw;(try dsimp only at hSw);first | (go_simp;done) | (go_simp;with_reducible rfl))
  (simp only [Act.put,List.setIfInBounds_toArray,List.set_cons_zero,List.set_cons_succ])
  refine Zg 8 (v:=?_) rfl (by kernel_rfl) (by kernel_rfl) (by kernel_rfl) (fun _ _ _ h=>h) (Or.inl ⟨by rfl,?_⟩) (by assumption) ?_
  rotate_left 1
  · (intro w hSw;(try dsimp only at hSw);first | (go_simp;done) | (go_simp;with_reducible rfl))
  (simp only [Act.put,List.setIfInBounds_toArray,List.set_cons_zero,List.set_cons_succ])
  refine Zg 9 rfl (by kernel_rfl) (by kernel_rfl) (by kernel_rfl) (fun _ _ _ h=>h) (yieldsIf_load_mid (by rfl) _ _ rfl _ _ rfl C _ (fun v hv=>hv.2.2) Tryz.underlying240 rfl (by rw [hCs];exact hsz.out)) (by assumption) ?_
  (simp only [Act.put,List.setIfInBounds_toArray,List.set_cons_zero,List.set_cons_succ])
  refine wpAnyH_ready (rs:=[5]) (by kernel_rfl) (by simp) ?_
  refine AllReadyH.cons rfl (fun K hK=>?_) AllReadyH.nil
  go_simp
  go_wp2_with (go_at_call 135;refine Calls.mono (hnd.out _ hw0) ?_;rintro e w' ⟨rfl,rfl⟩)
  refine hK.out _ _ hHeld (fun hHeld=>?_)
  clear hK K
  refine wpAnyH_ready (rs:=[10]) (by kernel_rfl) (by simp) ?_
  refine AllReadyH.cons rfl (fun K hK=>?_) AllReadyH.nil
  go_simp
  go_wp2_with (go_at_call 186;refine Calls.mono (hlen.out _) ?_;rintro e w1 ⟨rfl,hbx⟩)
  have hB1:Below w.heap.size w w1:=Ze hw0 hbx
  refine hK.out _ _ ⟨Keeps.of_below hB1 _,hg0 _ hB1,hrC.out _ hB1⟩ (fun hHeld=>?_)
  clear hK K
  refine Zg 11 (v:=?_) rfl (by kernel_rfl) (by kernel_rfl) (by kernel_rfl) (fun _ _ _ h=>h) (Or.inl ⟨by rfl,?_⟩) (by assumption) ?_
  rotate_left 1
  · (intro w hSw;(try dsimp only at hSw);first | (go_simp;done) | (go_simp;with_reducible rfl))
  (simp only [Act.put,List.setIfInBounds_toArray,List.set_cons_zero,List.set_cons_succ])
  refine wpAnyH_ready (rs:=[12]) (by kernel_rfl) (by simp) ?_
  refine AllReadyH.cons rfl (fun K hK=>?_) AllReadyH.nil
  go_simp
  have ht2:=heap_alloc_new w1 (.cells Z.toArray 3)
  have hs1:=hB1.size
  have hB2:Below w.heap.size w (w1.alloc (.cells Z.toArray 3)):=hB1.alloc hs1 _
  have hnb:w.heap.size≤w1.heap.size:=hs1
  obtain ⟨nb,hnbe⟩:∃ k,w1.heap.size=k:=⟨_,rfl⟩
  rw [hnbe] at ht2 hnb ⊢
  obtain ⟨w2,hw2⟩:∃ v,w1.alloc (.cells Z.toArray 3)=v:=⟨_,rfl⟩
  rw [hw2] at hB2 ht2 ⊢
  refine hK.out _ _ ⟨Keeps.of_below hB2 _,hg0 _ hB2,hrC.out _ hB2⟩ (fun hHeld=>?_)
  clear hK K hw2 hnbe
  refine Zg 13 (v:=?_) rfl (by kernel_rfl) (by kernel_rfl) (by kernel_rfl) (fun _ _ _ h=>h) (Or.inl ⟨by rfl,?_⟩) (by assumption) ?_
  rotate_left 1
  · (intro w hSw;(try dsimp only at hSw);first | (go_simp;done) | (go_simp;with_reducible rfl))
  (simp only [Act.put,List.setIfInBounds_toArray,List.set_cons_zero,List.set_cons_succ])
  refine Zg 14 (v:=?_) rfl (by kernel_rfl) (by kernel_rfl) (by kernel_rfl) (fun _ _ _ h=>h) (Or.inl ⟨by rfl,?_⟩) (by assumption) ?_
  rotate_left 1
  · (intro w hSw;(try dsimp only at hSw);first | (go_simp;done) | (go_simp;with_reducible rfl))
  (simp only [Act.put,List.setIfInBounds_toArray,List.set_cons_zero,List.set_cons_succ])
  obtain ⟨D,k1,k2,k3,k4,k5,k6⟩:=hb.below hB2
  have e259:w2.cell? ⟨g,259,none⟩=some (.slice none 0 0):=by rw [Za k1];exact k6
  have f259:w2.frozen? ⟨g,259,none⟩=false:=Zb k1 _
  replace k1:=As.mk k1
  replace ht2:=As.mk ht2
  refine wpAnyH_ready (rs:=[15]) (by kernel_rfl) (by simp) ?_
  refine AllReadyH.cons rfl (fun K hK=>?_) AllReadyH.nil
  go_simp
  have hD3:=DfaBlk.set (hb.below hB2) (.slice (some ⟨nb,0,none⟩) N N)
  have hK3:Keeps (fun k=>k=g) w (w2.setCell ⟨g,259,none⟩ (.slice (some ⟨nb,0,none⟩) N N)):=(Keeps.of_below hB2 _).trans ((Zm w2 ⟨g,259,none⟩ _).mono fun _ _ h=>h)
  have ht3:(w2.setCell ⟨g,259,none⟩ (.slice (some ⟨nb,0,none⟩) N N)).heap[nb]? = some (.cells (ZP (fun _ _=>0) n W).toArray 3 (0,0)):=by
   rw [tab_zero,hN.out,← hZ.out]
   exact Z2 (p:=⟨g,259,none⟩) ht2.out (by have:=hglt.out;show nb≠g;omega) _
  refine hK.out _ _ ⟨hK3,hD3.cells.1,hCC.out ▸ hD3.range⟩ (fun hHeld=>?_)
  clear hK K
  refine wpAnyH_done (by kernel_rfl) ?_ _
  go_wp2_with fail
  go_meet
  case rel=>exact ⟨rfl,nb,⟨hnb⟩,⟨ht3⟩,⟨hN.out.symm ▸ hD3⟩,⟨hK3⟩⟩
 case rest =>
  obtain ⟨rfl,nb,hnb,htab,hD0,hK0⟩:=hcut
  obtain ⟨W0,hW0⟩:∃ W,wc=W:=⟨_,rfl⟩
  rw [hW0] at htab hD0 hK0 ⊢
  rw [hN.out] at hD0
  clear hW0 hnd hlen hr hrC hg0 hmul hmk hwN hw0 c1 c2
  have hT:=hTr.out
  obtain ⟨D,d1,_⟩:=hb
  have hgblk:∀ b,b=g→∃ cs t fr,w.heap[b]? = some (.cells cs t fr)∧t≠283∧t≠279:=fun b e=>⟨_,_,_,e ▸ d1,by decide,by decide⟩
  have hgblk2:∀ b,b=g→∃ cs t fr,w.heap[b]? = some (.cells cs t fr)∧t≠287∧t≠3:=fun b e=>⟨_,_,_,e ▸ d1,by decide,by decide⟩
  have hL0:=LinksAt.keepOf hlk hK0.out hgblk2
  have cOr:=As.mk (lorder_calls W0 lb lg P l hT hl hL0)
  have hgs:=Zf htab.out
  have hg1:W0.cell? ⟨g,1,none⟩=some (.pointer (some ⟨lg,0,none⟩)):=hD0.out.cells.2.1
  have hol:=orderF_length hT
  go_wp2_with fail
  apply wp_label
  go_wp2_with (go_at_call 187;refine Calls.mono cOr.out ?_;intro e W1 h1;obtain ⟨vO,heO,hoO,hbO⟩:=h1.out;subst heO;obtain ⟨AO,cO,rfl,hcO⟩:=Zk hoO)
  rw [hol,hn] at hcO
  have hS0:=hK0.out.size
  have hS1:=hbO.size
  have KT:=As.mk (fun (v:World) (hv:Keeps (fun k=>k=nb) W1 v)=>(by
   have hk1:Keeps (fun k=>k=g) w v:=by
    have ha:Keeps (fun k=>k=g∨w.heap.size≤k) w W0:=hK0.out.mono fun k _ h=>.inl h
    have hb2:Keeps (fun k=>k=g∨w.heap.size≤k) W0 W1:=Keeps.of_below hbO _
    have hc:Keeps (fun k=>k=g∨w.heap.size≤k) W1 v:=hv.mono fun k _ h=>.inr (by have:=hnb.out;omega)
    exact ((ha.trans hb2).trans hc).mono fun k hk h=>h.elim id (fun h=>absurd h (by omega))
   exact ⟨hT0.out.keepOf hk1 hgblk,LinksAt.keepOf hlk hk1 hgblk2,(hD0.out.below hbO).keep hv (by have:=hnb.out;have:=hglt.out;omega),Zj hoO hv (fun b c hbb _ _ e=>by omega)⟩:TrieAt v base tg P (place l)∧YN v lb lg P l∧DfaBlk v g tg lg F m (.slice (some ⟨nb,0,none⟩) N N)∧OwnInts v W0.heap.size (.slice AO (Xz P).length cO) (Xz P)))
  have htab1:=As.mk (Zc hbO htab.out)
  obtain ⟨O,hO⟩:∃ O,op P P.length=O:=⟨_,rfl⟩
  have hOl:O.length=n:=by rw [← hO,← hn];have h9:=hol;unfold Xz at h9;rw [List.length_map] at h9;exact h9
  go_loopg [30] (n+1) (fun gk v30 wr=>∃ i:Nat,As (n+1≤gk+i)∧i≤n∧v30=.int .i64 i∧As (wr.heap[nb]? = some (.cells (ZP (Z5 P l (O.take i)) n W).toArray 3 (0,0)))∧As (Keeps (fun k=>k=nb) W1 wr))
  case atStart=>exact ⟨0,⟨by omega⟩,Nat.zero_le _,rfl,⟨by rw [← hO,gridF_zero];exact htab1.out⟩,⟨Keeps.refl _ _⟩⟩
  case round =>
   obtain ⟨i,hgk,hi,rfl,htr,hkr⟩:=hrel
   by_cases hlt:i<n
   · obtain ⟨gp,rfl⟩:∃ gp,gk=gp+1:=⟨gk - 1,by have:=hgk.out;omega⟩
     obtain ⟨_,_,hDr,hOr⟩:=KT.out wr hkr.out
     obtain ⟨ado,rfl,hco⟩:=Ints.at_ (Row.of_own hOr) (i:=i) (by rw [hol,hn];exact hlt)
     have hsm:O[i]? = some (O.getD i []):=by rw [List.getD_eq_getElem?_getD,List.getElem?_eq_getElem (by omega)];rfl
     obtain ⟨s,hs⟩:∃ s,O.getD i []=s:=⟨_,rfl⟩
     rw [hs] at hsm
     have hsP:s∈P:=Zdl hT (i:=P.length) (by rw [hO];exact List.mem_of_getElem? hsm)
     obtain ⟨a,hpa,haP⟩:=QR hsP
     have haN:a<n:=by rw [← hn];exact (List.getElem?_eq_some_iff.1 haP).1
     have hga:(Xz P).getD i 0=(a:Int):=by rw [← hpa];unfold Xz;rw [hO,List.getD_eq_getElem?_getD,List.getElem?_map,hsm];rfl
     rw [hga] at hco
     have htk:O.take (i+1)=O.take i++[s]:=by rw [List.take_succ_eq_append_getElem (by omega)];congr 2;exact (List.getElem?_eq_some_iff.1 hsm).2
     have hdone:As (Z5 P l (O.take (i+1))=QF (Z5 P l (O.take i)) a (Ym P l s)):=⟨by rw [htk];exact gridF_done P l _ haP hT.nodup⟩
     have hW1:0<W:=by omega
     obtain ⟨b0,hb0⟩:∃ b,a * W=b:=⟨_,rfl⟩
     have hb0N:b0+W≤N:=by rw [← hb0,← hN.out,← Nat.succ_mul];exact Nat.mul_le_mul_right _ haN
     have cRow:=As.mk (fun (v:World) (hk:Keeps (fun k=>k=nb) W1 v) (x b:Nat) (hx:x≤1000000) (hxb:x * W=b) (hbN:b+W≤N)=>(by
      obtain ⟨_,_,k3,_⟩:=KT.out v hk
      exact row_calls v g nb N N m W x b F (x:Int) hm hW k3.range k3.size k3.cells.2.2 rfl hx hxb hbN (Nat.le_refl _) (by omega) :
      Calls Tryz.prog 188 #[.pointer (some ⟨g,0,none⟩),.int .i64 (x:Int)] v fun e w'=>e=.returned (.slice (some ⟨nb,b,none⟩) W (N - b))∧Below v.heap.size v w'))
     have cRa:=As.mk (fun (v:World) (hk:Keeps (fun k=>k=nb) W1 v)=>cRow.out v hk a b0 (by omega) hb0 hb0N)
     have cKid:=As.mk (fun (v:World) (hk:Keeps (fun k=>k=nb) W1 v)=>(by
      have:=Zdg v base tg P (place l) (KT.out v hk).1 hl (a:Int)
      rw [ZcU haP] at this;exact this:Calls Tryz.prog 178 #[.pointer (some ⟨tg,0,none⟩),.int .i64 (a:Int)] v (RetByt v (Qf P s))))
     have cFa:=As.mk (fun (v:World) (hk:Keeps (fun k=>k=nb) W1 v)=>(by
      have:=Zag v lb lg P (ZN P) _ _ _ (KT.out v hk).2.1 (a:Int)
      rw [show askF P (ZN P) (-1) (a:Int)=ZN P s by unfold askF;rw [if_pos (by omega),Int.toNat_natCast,List.getD_eq_getElem?_getD,haP];rfl] at this;exact this:Calls Tryz.prog 189 #[.pointer (some ⟨lg,0,none⟩),.int .i64 (a:Int)] v fun e w'=>e=.returned (.int .i64 (ZN P s))∧v=w'))
     have hg0:=As.mk (fun (v:World) (hk:Keeps (fun k=>k=nb) W1 v)=>(KT.out v hk).2.2.1.cells.1)
     have hg1:=As.mk (fun (v:World) (hk:Keeps (fun k=>k=nb) W1 v)=>(KT.out v hk).2.2.1.cells.2.1)
     obtain ⟨G,hG⟩:∃ G,Z5 P l (O.take i)=G:=⟨_,rfl⟩
     rw [hG] at htr hdone
     replace hG:=As.mk hG
     replace hpa:=As.mk hpa
     replace hs:=As.mk hs
     replace hb0:=As.mk hb0
     clear hga htk
     by_cases hs0:s=[]
     · have hf:ZN P s = -1:=by rw [hs0];rfl
       rw [hf] at cFa
       go_wp2_with (first
        | (go_at_call 188;refine Calls.mono (cRa.out _ hkr.out) ?_;rintro e w3 ⟨rfl,hb3⟩;have hk3:=As.mk (hkr.out.trans (Keeps.of_below hb3 _));have d1:=hg1.out _ hk3.out;have d0:=hg0.out _ hk3.out;have ht3:=As.mk (Zc hb3 htr.out);clear hb3)
        | (go_at_call 189;refine Calls.mono (cFa.out _ hk3.out) ?_;rintro e w4 ⟨rfl,rfl⟩))
       have hq:=As.mk (show w3.heap[nb]? = some (.cells (ZP (QF G a (fun _=>0)) n W).toArray 3 (0,0)) by
        have h9:=gridF_out P l (O.take i) haP (by rw [← hO] at hsm ⊢;exact order_new hsm)
        rw [hG.out] at h9
        rw [← h9,updF_same];exact ht3.out)
       have hbase:As (∀ k,Qj P l s (fun _=>0) (Qf P s).length k=Ym P l s k):=⟨fun k=>by have:=rowK_root l k;rw [hPl,← hs0] at this;exact this⟩
       obtain ⟨base0,hbs⟩:∃ b:Nat→Int,(fun _=>(0:Int))=b:=⟨_,rfl⟩
       rw [hbs] at hq hbase
       clear hbs ht3
       obtain ⟨wq,hwq⟩:∃ v,w3=v:=⟨_,rfl⟩
       rw [hwq] at hq hk3 d0 ⊢
       have hkq:=hk3
       clear hwq d1 hk3
       replace hs0:=As.mk hs0
       replace hf:=As.mk hf
       have hstep:=As.mk (fun (j:Nat) (c:UInt8) (hj:(Qf P s)[j]? = some c) (k:Nat)=>(by have:=Zet l s base0 j c (by rw [hPl];exact hj) k;rw [hPl,← hF] at this;exact this:Qj P l s base0 (j+1) k=if k=F c then place P (s++[c]) else Qj P l s base0 j k))
       obtain ⟨kn,hkn⟩:∃ k,(Qf P s).length=k:=⟨_,rfl⟩
       have hkn2:kn≤256:=by rw [← hkn];unfold Qf;exact Nat.le_trans (List.length_filter_le _ _) (by simp)
       have hqs:=Zf hq.out
       rcases Nat.eq_zero_or_pos kn with hkz | hkp
       · --
         have hfin:As (QF G a base0=Z5 P l (O.take (i+1))):=⟨by rw [hdone.out];congr 1;funext k;rw [← hbase.out,hkn,hkz,JY]⟩
         rw [hkz] at hkn
         go_wp2_with (go_at_call 178;refine Calls.mono (cKid.out _ hkq.out) ?_;intro e w6 h6;obtain ⟨A6,c6,he6,hc6,hr6,hg6,hb6⟩:=h6.rowg;subst he6;clear h6)
         go_roundg gp
         case measure=>exact Nat.lt_succ_self _
         case rel=>exact ⟨i+1,⟨by have:=hgk.out;omega⟩,hlt,(by first | rfl | go_num | (congr 1;omega)),⟨by rw [← hfin.out];exact Zc hb6 hq.out⟩,⟨hkq.out.trans (Keeps.of_below hb6 _)⟩⟩
       · --
         have hkz:¬ kn=0:=by omega
         have hkz2:((kn:Int) == 0)=false:=by simp;omega
         go_wp2_with (go_at_call 178;refine Calls.mono (cKid.out _ hkq.out) ?_;intro e w6 h6;obtain ⟨A6,c6,he6,hc6,hr6,hg6,hb6⟩:=h6.rowg;subst he6;clear h6)
         have hk6:=As.mk (hkq.out.trans (Keeps.of_below hb6 _))
         have hq6:=As.mk (Zc hb6 hq.out)
         obtain ⟨Kd,hKd⟩:∃ q,Qf P s=q:=⟨_,rfl⟩
         rw [hKd] at hkn hc6 hr6 hbase hstep cKid
         rw [hkn] at hc6 hbase
         replace hKd:=As.mk hKd
         replace hkn:=As.mk hkn
         replace hr6:=As.mk hr6
         replace hg6:=As.mk hg6
         have hrk0:Qj P l s base0 0=base0:=funext fun k=>JY P l s base0 k
         clear hb6
         go_loopg [61] (kn+1) (fun g2 v61 wy=>∃ j:Nat,As (kn+1≤g2+j)∧j≤kn∧v61=.int .i64 j∧As (wy.heap[nb]? = some (.cells (ZP (QF G a (Qj P l s base0 j)) n W).toArray 3 (0,0)))∧As (Keeps (fun k=>k=nb) w6 wy))
         case atStart=>exact ⟨0,⟨by omega⟩,Nat.zero_le _,rfl,⟨by rw [hrk0];exact hq6.out⟩,⟨Keeps.refl _ _⟩⟩
         case round =>
          obtain ⟨j,hgk2,hj,rfl,htq,hkw⟩:=hrel
          by_cases hjl:j<kn
          · --
            obtain ⟨gq,rfl⟩:∃ gq,gk=gq+1:=⟨gk - 1,by have:=hgk2.out;omega⟩
            have hrw:=Row.keep hr6.out hkw.out (fun ad e _ hS=>by have:=hg6.out ad e;omega)
            obtain ⟨adk,rfl,hck⟩:=Byt.at_ hrw (i:=j) (by rw [hkn.out];exact hjl)
            have hKj:Kd[j]? = some (Kd.getD j 0):=by rw [List.getD_eq_getElem?_getD,List.getElem?_eq_getElem (by rw [hkn.out];exact hjl)];rfl
            obtain ⟨c,hc⟩:∃ c,Kd.getD j 0=c:=⟨_,rfl⟩
            rw [hc] at hck hKj
            have hst:=hstep.out j c hKj
            have hFlt:F c<W:=by rw [hF,← hW,← hmw];exact ZbZ l c
            have cCls:=As.mk (fun v=>Zco v F m c (c.toNat:Int) rfl)
            rw [show ZS F m=C.toArray by rw [← hCC.out];rfl] at cCls
            have cStp:=As.mk (fun (v:World) (hk:Keeps (fun k=>k=nb) W1 v)=>XC v base tg P (place l) (KT.out v hk).1 hl (a:Int) (c.toNat:Int) c rfl)
            rw [JD haP c] at cStp
            obtain ⟨k0,hk0⟩:∃ k,F c=k:=⟨_,rfl⟩
            rw [hk0] at cCls hFlt hst
            obtain ⟨x0,hx0⟩:∃ x,place P (s++[c])=x:=⟨_,rfl⟩
            rw [hx0] at cStp hst
            have hkW:=hk6.out.trans hkw.out
            have hkd:Keeps (fun k=>k=nb) W1 wr.drew:=hkW.drew
            have hg0p:=hg0.out
            have hset:=As.mk (Zfz G haN hFlt (Qj P l s base0 j) (Qj P l s base0 (j+1)) x0 hst)
            rw [hb0.out] at hset
            have hsl:=As.mk (by have h9:=ZaC haN hFlt;rw [hb0.out,hN.out] at h9;exact h9:b0+k0<N)
            replace hst:=As.mk hst
            replace hc:=As.mk hc
            replace hk0:=As.mk hk0
            replace hx0:=As.mk hx0
            clear hrw hKj d0
            go_wp2_with fail
            refine wp_region_held_drew (S:=fun v=>Keeps (fun k=>k=nb) W1 v) (by kernel_rfl) hkd (fun hHeld=>?_)
            refine Zg 0 (v:=?_) rfl (by kernel_rfl) (by kernel_rfl) (by kernel_rfl) (fun _ _ _ h=>h) (Or.inl ⟨by rfl,?_⟩) (by assumption) ?_
            rotate_left 1
            · (intro w hSw;(try dsimp only at hSw);first | (go_simp;done) | (go_simp;with_reducible rfl))
            (simp only [Act.put,List.setIfInBounds_toArray,List.set_cons_zero,List.set_cons_succ])
            refine Zg 1 (v:=?_) rfl (by kernel_rfl) (by kernel_rfl) (by kernel_rfl) (fun _ _ _ h=>h) (Or.inl ⟨by rfl,?_⟩) (by assumption) ?_
            rotate_left 1
            · (intro w hSw;(try dsimp only at hSw);first | (go_simp;done) | (go_simp;with_reducible rfl))
            (simp only [Act.put,List.setIfInBounds_toArray,List.set_cons_zero,List.set_cons_succ])
            refine Zg 2 (v:=?_) rfl (by kernel_rfl) (by kernel_rfl) (by kernel_rfl) (fun _ _ _ h=>h) (Or.inl ⟨by rfl,?_⟩) (by assumption) ?_
            rotate_left 1
            · (intro w hSw;(try dsimp only at hSw);first | (go_simp;done) | (go_simp;with_reducible rfl))
            (simp only [Act.put,List.setIfInBounds_toArray,List.set_cons_zero,List.set_cons_succ])
            refine Zg 3 (v:=?_) rfl (by kernel_rfl) (by kernel_rfl) (by kernel_rfl) (fun _ _ _ h=>h) (Or.inl ⟨by rfl,?_⟩) (by assumption) ?_
            rotate_left 1
            · (intro w hSw;(try dsimp only at hSw);first | (go_simp;done) | (go_simp;with_reducible rfl))
            (simp only [Act.put,List.setIfInBounds_toArray,List.set_cons_zero,List.set_cons_succ])
            refine Zg 4 rfl (by kernel_rfl) (by kernel_rfl) (by kernel_rfl) (fun _ _ _ h=>h) (yieldsIf_load_mid (by rfl) _ _ rfl _ _ rfl C _ (fun v hv=>hCC.out ▸ (KT.out v hv).2.2.1.range) Tryz.underlying240 rfl (by rw [hCs];exact hsz.out)) (by assumption) ?_
            (simp only [Act.put,List.setIfInBounds_toArray,List.set_cons_zero,List.set_cons_succ])
            refine Zg 5 (v:=?_) rfl (by kernel_rfl) (by kernel_rfl) (by kernel_rfl) (fun _ _ _ h=>h) (Or.inl ⟨by rfl,?_⟩) (by assumption) ?_
            rotate_left 1
            · (intro w hSw;(try dsimp only at hSw);first | (go_simp;done) | (go_simp;with_reducible rfl))
            (simp only [Act.put,List.setIfInBounds_toArray,List.set_cons_zero,List.set_cons_succ])
            refine Zg 7 (v:=?_) rfl (by kernel_rfl) (by kernel_rfl) (by kernel_rfl) (fun _ _ _ h=>h) (Or.inl ⟨by rfl,?_⟩) (by assumption) ?_
            rotate_left 1
            · (intro w hSw;(try dsimp only at hSw);first | (go_simp;done) | (go_simp;with_reducible rfl))
            (simp only [Act.put,List.setIfInBounds_toArray,List.set_cons_zero,List.set_cons_succ])
            refine Zg 8 (v:=?_) rfl (by kernel_rfl) (by kernel_rfl) (by kernel_rfl) (fun _ _ _ h=>h) (Or.inl ⟨by rfl,?_⟩) (by assumption) ?_
            rotate_left 1
            · (intro w hSw;(try dsimp only at hSw);first | (go_simp;done) | (go_simp;with_reducible rfl))
            (simp only [Act.put,List.setIfInBounds_toArray,List.set_cons_zero,List.set_cons_succ])
            refine Zg 9 (v:=?_) rfl (by kernel_rfl) (by kernel_rfl) (by kernel_rfl) (fun _ _ _ h=>h) (Or.inl ⟨by rfl,?_⟩) (by assumption) ?_
            rotate_left 1
            · (intro w hSw;(try dsimp only at hSw);first | (go_simp;done) | (go_simp;with_reducible rfl))
            (simp only [Act.put,List.setIfInBounds_toArray,List.set_cons_zero,List.set_cons_succ])
            refine Zg 10 (v:=?_) rfl (by kernel_rfl) (by kernel_rfl) (by kernel_rfl) (fun _ _ _ h=>h) (Or.inl ⟨by rfl,?_⟩) (by assumption) ?_
            rotate_left 1
            · (intro w hSw;(try dsimp only at hSw);first | (go_simp;done) | (go_simp;with_reducible rfl))
            (simp only [Act.put,List.setIfInBounds_toArray,List.set_cons_zero,List.set_cons_succ])
            refine Zg 11 (v:=?_) rfl (by kernel_rfl) (by kernel_rfl) (by kernel_rfl) (fun _ _ _ h=>h) (Or.inl ⟨by rfl,?_⟩) (by assumption) ?_
            rotate_left 1
            · (intro w hSw;(try dsimp only at hSw);first | (go_simp;done) | (go_simp;with_reducible rfl))
            (simp only [Act.put,List.setIfInBounds_toArray,List.set_cons_zero,List.set_cons_succ])
            refine Zg 12 (v:=?_) rfl (by kernel_rfl) (by kernel_rfl) (by kernel_rfl) (fun _ _ _ h=>h) (Or.inl ⟨by rfl,?_⟩) (by assumption) ?_
            rotate_left 1
            · (intro w hSw;(try dsimp only at hSw);first | (go_simp;done) | (go_simp;with_reducible rfl))
            (simp only [Act.put,List.setIfInBounds_toArray,List.set_cons_zero,List.set_cons_succ])
            refine wpAnyH_ready (rs:=[6]) (by kernel_rfl) (by simp) ?_
            refine AllReadyH.cons rfl (fun K hK=>?_) AllReadyH.nil
            go_simp
            go_wp2_with (go_at_call 190;refine Calls.mono (cCls.out _) ?_;rintro e w7 ⟨rfl,hb7⟩)
            have hk7:Keeps (fun k=>k=nb) W1 w7:=hkd.trans (Keeps.of_below hb7 _)
            have hk7w:Keeps (fun k=>k=nb) w6 w7:=hkw.out.drew.trans (Keeps.of_below hb7 _)
            have ht7:w7.heap[nb]? = some (.cells (ZP (QF G a (Qj P l s base0 j)) n W).toArray 3 (0,0)):=Zc hb7 htq.out
            clear hb7
            refine hK.out _ _ hk7 (fun hHeld=>?_)
            clear hK K
            refine wpAnyH_ready (rs:=[13]) (by kernel_rfl) (by simp) ?_
            refine AllReadyH.cons rfl (fun K hK=>?_) AllReadyH.nil
            go_simp
            go_wp2_with (go_at_call 179;refine Calls.mono (cStp.out _ hk7) ?_;rintro e w8 ⟨rfl,rfl⟩)
            refine hK.out _ _ hk7 (fun hHeld=>?_)
            clear hK K
            have hcell:w7.cell? ⟨nb,b0+k0,none⟩=some ((ZP (QF G a (Qj P l s base0 j)) n W)[b0+k0]'(by rw [Qk,hN.out];exact hsl.out)):=by rw [Za ht7,List.getElem?_toArray,List.getElem?_eq_getElem]
            have hfro:w7.frozen? ⟨nb,b0+k0,none⟩=false:=Zb ht7 _
            obtain ⟨uu,huu⟩:∃ u,(ZP (QF G a (Qj P l s base0 j)) n W)[b0+k0]'(by rw [Qk,hN.out];exact hsl.out)=u:=⟨_,rfl⟩
            rw [huu] at hcell
            clear huu
            replace ht7:=As.mk ht7
            refine Zg 14 (v:=?_) rfl (by kernel_rfl) (by kernel_rfl) (by kernel_rfl) (fun _ _ _ h=>h) (Or.inl ⟨by rfl,?_⟩) (by assumption) ?_
            rotate_left 1
            · (intro w hSw;(try dsimp only at hSw);first | (go_simp;done) | (go_simp;with_reducible rfl))
            (simp only [Act.put,List.setIfInBounds_toArray,List.set_cons_zero,List.set_cons_succ])
            refine wpAnyH_ready (rs:=[15]) (by kernel_rfl) (by simp) ?_
            refine AllReadyH.cons rfl (fun K hK=>?_) AllReadyH.nil
            go_simp
            have hk9:Keeps (fun k=>k=nb) w7 (w7.setCell ⟨nb,b0+k0,none⟩ (.int .i64 x0)):=(Zm w7 ⟨nb,b0+k0,none⟩ _).mono fun _ _ h=>h
            refine hK.out _ _ (hk7.trans hk9) (fun hHeld=>?_)
            clear hK K
            refine wpAnyH_done (by kernel_rfl) ?_ _
            go_wp2_with fail
            go_roundg gq
            case measure=>exact Nat.lt_succ_self _
            case rel=>exact ⟨j+1,⟨by have:=hgk2.out;omega⟩,hjl,(by first | rfl | go_num | (congr 1;omega)),⟨by rw [← hset.out];exact Zi ht7.out (b0+k0) _⟩,⟨hk7w.trans hk9⟩⟩
          · --
            obtain rfl:j=kn:=by omega
            have hfin:As (QF G a (Qj P l s base0 j)=Z5 P l (O.take (i+1))):=⟨by rw [hdone.out];congr 1;funext k;exact hbase.out k⟩
            rw [hfin.out] at htq
            go_wp2_with fail
            go_roundg gp
            case measure=>exact Nat.lt_succ_self _
            case rel=>exact ⟨i+1,⟨by have:=hgk.out;omega⟩,hlt,(by first | rfl | go_num | (congr 1;omega)),htq,⟨hk6.out.trans hkw.out⟩⟩
     · --
       obtain ⟨m0,hm0⟩:=Y3 hT hs0
       obtain ⟨z1,z2,z3,_⟩:=Qx hm0
       have hf:ZN P s=place P (s.drop m0):=by unfold ZN;rw [hm0]
       obtain ⟨f0,hpf,hfP⟩:=QR z3
       rw [hpf] at hf
       rw [hf] at cFa
       have hfN:f0<n:=by rw [← hn];exact (List.getElem?_eq_some_iff.1 hfP).1
       obtain ⟨b1,hb1⟩:∃ b,f0 * W=b:=⟨_,rfl⟩
       have hb1N:b1+W≤N:=by rw [← hb1,← hN.out,← Nat.succ_mul];exact Nat.mul_le_mul_right _ hfN
       have hGf:As (G f0=Ym P l (s.drop m0)):=⟨by rw [← hG.out];exact Zfc P l _ hfP (by rw [← hO] at hsm ⊢;exact order_before hT hsm z3 (by rw [List.length_drop];omega))⟩
       have cRf:=As.mk (fun (v:World) (hk:Keeps (fun k=>k=nb) W1 v)=>cRow.out v hk f0 b1 (by omega) hb1 hb1N)
       have haf:a≠f0:=fun e=>by
        rw [e,hfP] at haP
        injection haP with haP
        have:=congrArg List.length haP
        rw [List.length_drop] at this;omega
       have hszi:(Tryz.prog.info? 3).map (·.size)=some 1:=by kernel_rfl
       replace hb1:=As.mk hb1
       clear hpf
       go_wp2_with (first
        | (go_at_call 188;with_reducible refine Calls.mono (cRa.out _ hkr.out) ?_;rintro e w3 ⟨rfl,hb3⟩;have hk3:=As.mk (hkr.out.trans (Keeps.of_below hb3 _));have d1:=hg1.out _ hk3.out;have ht3:=As.mk (Zc hb3 htr.out);clear hb3)
        | (go_at_call 188;with_reducible refine Calls.mono (cRf.out _ hk3.out) ?_;rintro e w5 ⟨rfl,hb5⟩;have hk5:=As.mk (hk3.out.trans (Keeps.of_below hb5 _));have ht5:=As.mk (Zc hb5 ht3.out);clear hb5)
        | (go_at_call 189;refine Calls.mono (cFa.out _ hk3.out) ?_;rintro e w4 ⟨rfl,rfl⟩)
        | (refine wpList_copy_own rfl (.tmp 45) (.tmp 48) 45 45 rfl 3 Tryz.underlying45 hszi nb b0 W (N - b0) ⟨nb,b1,none⟩ W (N - b1) rfl rfl _ 3 ht5.out (Q5 (G f0) W) (by rw [QO];show W=min W W;omega) (fun j v hj=>copy_src ht5.out hfN hb1.out hj) (by rw [QO,List.size_toArray,Qk,hN.out];exact hb0N) (fun v hv=>by obtain ⟨x,_,rfl⟩:=List.mem_map.1 hv;rfl) ?_
           have hk6:As (Keeps (fun k=>k=nb) W1 (w5.setRow nb ((ZP G n W).toArray.toList.take b0++(Q5 (G f0) W++(ZP G n W).toArray.toList.drop (b0+(Q5 (G f0) W).length))).toArray)):=⟨hk5.out.trans (ZcZ _ _ _)⟩
           have hq:As ((w5.setRow nb ((ZP G n W).toArray.toList.take b0++(Q5 (G f0) W++(ZP G n W).toArray.toList.drop (b0+(Q5 (G f0) W).length))).toArray).heap[nb]? = some (.cells (ZP (QF G a (G f0)) n W).toArray 3 (0,0))):=⟨by rw [setRow_heap _ _ _ _ _ _ ht5.out,← tab_splice G haN hW1 (G f0),hb0.out];rfl⟩
           generalize w5.setRow nb ((ZP G n W).toArray.toList.take b0++(Q5 (G f0) W++(ZP G n W).toArray.toList.drop (b0+(Q5 (G f0) W).length))).toArray=wq at hk6 hq ⊢
           have d0:=hg0.out _ hk6.out))
       have hkq:=hk6
       have hbase:As (∀ k,Qj P l s (G f0) (Qf P s).length k=Ym P l s k):=⟨fun k=>by have:=rowK_done l s m0 (by rw [hPl];exact hm0) k;rw [hPl] at this;rw [hGf.out];exact this⟩
       obtain ⟨base0,hbs⟩:∃ b:Nat→Int,G f0=b:=⟨_,rfl⟩
       rw [hbs] at hq hbase
       clear hbs ht3 ht5 hk3 hk5 hk6 d1 hGf cRf
       replace hs0:=As.mk hs0
       replace hf:=As.mk hf
       have hstep:=As.mk (fun (j:Nat) (c:UInt8) (hj:(Qf P s)[j]? = some c) (k:Nat)=>(by have:=Zet l s base0 j c (by rw [hPl];exact hj) k;rw [hPl,← hF] at this;exact this:Qj P l s base0 (j+1) k=if k=F c then place P (s++[c]) else Qj P l s base0 j k))
       obtain ⟨kn,hkn⟩:∃ k,(Qf P s).length=k:=⟨_,rfl⟩
       have hkn2:kn≤256:=by rw [← hkn];unfold Qf;exact Nat.le_trans (List.length_filter_le _ _) (by simp)
       have hqs:=Zf hq.out
       rcases Nat.eq_zero_or_pos kn with hkz | hkp
       · --
         have hfin:As (QF G a base0=Z5 P l (O.take (i+1))):=⟨by rw [hdone.out];congr 1;funext k;rw [← hbase.out,hkn,hkz,JY]⟩
         rw [hkz] at hkn
         go_wp2_with (go_at_call 178;refine Calls.mono (cKid.out _ hkq.out) ?_;intro e w6 h6;obtain ⟨A6,c6,he6,hc6,hr6,hg6,hb6⟩:=h6.rowg;subst he6;clear h6)
         go_roundg gp
         case measure=>exact Nat.lt_succ_self _
         case rel=>exact ⟨i+1,⟨by have:=hgk.out;omega⟩,hlt,(by first | rfl | go_num | (congr 1;omega)),⟨by rw [← hfin.out];exact Zc hb6 hq.out⟩,⟨hkq.out.trans (Keeps.of_below hb6 _)⟩⟩
       · --
         have hkz:¬ kn=0:=by omega
         have hkz2:((kn:Int) == 0)=false:=by simp;omega
         go_wp2_with (go_at_call 178;refine Calls.mono (cKid.out _ hkq.out) ?_;intro e w6 h6;obtain ⟨A6,c6,he6,hc6,hr6,hg6,hb6⟩:=h6.rowg;subst he6;clear h6)
         have hk6:=As.mk (hkq.out.trans (Keeps.of_below hb6 _))
         have hq6:=As.mk (Zc hb6 hq.out)
         obtain ⟨Kd,hKd⟩:∃ q,Qf P s=q:=⟨_,rfl⟩
         rw [hKd] at hkn hc6 hr6 hbase hstep cKid
         rw [hkn] at hc6 hbase
         replace hKd:=As.mk hKd
         replace hkn:=As.mk hkn
         replace hr6:=As.mk hr6
         replace hg6:=As.mk hg6
         have hrk0:Qj P l s base0 0=base0:=funext fun k=>JY P l s base0 k
         clear hb6
         go_loopg [61] (kn+1) (fun g2 v61 wy=>∃ j:Nat,As (kn+1≤g2+j)∧j≤kn∧v61=.int .i64 j∧As (wy.heap[nb]? = some (.cells (ZP (QF G a (Qj P l s base0 j)) n W).toArray 3 (0,0)))∧As (Keeps (fun k=>k=nb) w6 wy))
         case atStart=>exact ⟨0,⟨by omega⟩,Nat.zero_le _,rfl,⟨by rw [hrk0];exact hq6.out⟩,⟨Keeps.refl _ _⟩⟩
         case round =>
          obtain ⟨j,hgk2,hj,rfl,htq,hkw⟩:=hrel
          by_cases hjl:j<kn
          · --
            obtain ⟨gq,rfl⟩:∃ gq,gk=gq+1:=⟨gk - 1,by have:=hgk2.out;omega⟩
            have hrw:=Row.keep hr6.out hkw.out (fun ad e _ hS=>by have:=hg6.out ad e;omega)
            obtain ⟨adk,rfl,hck⟩:=Byt.at_ hrw (i:=j) (by rw [hkn.out];exact hjl)
            have hKj:Kd[j]? = some (Kd.getD j 0):=by rw [List.getD_eq_getElem?_getD,List.getElem?_eq_getElem (by rw [hkn.out];exact hjl)];rfl
            obtain ⟨c,hc⟩:∃ c,Kd.getD j 0=c:=⟨_,rfl⟩
            rw [hc] at hck hKj
            have hst:=hstep.out j c hKj
            have hFlt:F c<W:=by rw [hF,← hW,← hmw];exact ZbZ l c
            have cCls:=As.mk (fun v=>Zco v F m c (c.toNat:Int) rfl)
            rw [show ZS F m=C.toArray by rw [← hCC.out];rfl] at cCls
            have cStp:=As.mk (fun (v:World) (hk:Keeps (fun k=>k=nb) W1 v)=>XC v base tg P (place l) (KT.out v hk).1 hl (a:Int) (c.toNat:Int) c rfl)
            rw [JD haP c] at cStp
            obtain ⟨k0,hk0⟩:∃ k,F c=k:=⟨_,rfl⟩
            rw [hk0] at cCls hFlt hst
            obtain ⟨x0,hx0⟩:∃ x,place P (s++[c])=x:=⟨_,rfl⟩
            rw [hx0] at cStp hst
            have hkW:=hk6.out.trans hkw.out
            have hkd:Keeps (fun k=>k=nb) W1 wr.drew:=hkW.drew
            have hg0p:=hg0.out
            have hset:=As.mk (Zfz G haN hFlt (Qj P l s base0 j) (Qj P l s base0 (j+1)) x0 hst)
            rw [hb0.out] at hset
            have hsl:=As.mk (by have h9:=ZaC haN hFlt;rw [hb0.out,hN.out] at h9;exact h9:b0+k0<N)
            replace hst:=As.mk hst
            replace hc:=As.mk hc
            replace hk0:=As.mk hk0
            replace hx0:=As.mk hx0
            clear hrw hKj d0
            go_wp2_with fail
            refine wp_region_held_drew (S:=fun v=>Keeps (fun k=>k=nb) W1 v) (by kernel_rfl) hkd (fun hHeld=>?_)
            refine Zg 0 (v:=?_) rfl (by kernel_rfl) (by kernel_rfl) (by kernel_rfl) (fun _ _ _ h=>h) (Or.inl ⟨by rfl,?_⟩) (by assumption) ?_
            rotate_left 1
            · (intro w hSw;(try dsimp only at hSw);first | (go_simp;done) | (go_simp;with_reducible rfl))
            (simp only [Act.put,List.setIfInBounds_toArray,List.set_cons_zero,List.set_cons_succ])
            refine Zg 1 (v:=?_) rfl (by kernel_rfl) (by kernel_rfl) (by kernel_rfl) (fun _ _ _ h=>h) (Or.inl ⟨by rfl,?_⟩) (by assumption) ?_
            rotate_left 1
            · (intro w hSw;(try dsimp only at hSw);first | (go_simp;done) | (go_simp;with_reducible rfl))
            (simp only [Act.put,List.setIfInBounds_toArray,List.set_cons_zero,List.set_cons_succ])
            refine Zg 2 (v:=?_) rfl (by kernel_rfl) (by kernel_rfl) (by kernel_rfl) (fun _ _ _ h=>h) (Or.inl ⟨by rfl,?_⟩) (by assumption) ?_
            rotate_left 1
            · (intro w hSw;(try dsimp only at hSw);first | (go_simp;done) | (go_simp;with_reducible rfl))
            (simp only [Act.put,List.setIfInBounds_toArray,List.set_cons_zero,List.set_cons_succ])
            refine Zg 3 (v:=?_) rfl (by kernel_rfl) (by kernel_rfl) (by kernel_rfl) (fun _ _ _ h=>h) (Or.inl ⟨by rfl,?_⟩) (by assumption) ?_
            rotate_left 1
            · (intro w hSw;(try dsimp only at hSw);first | (go_simp;done) | (go_simp;with_reducible rfl))
            (simp only [Act.put,List.setIfInBounds_toArray,List.set_cons_zero,List.set_cons_succ])
            refine Zg 4 rfl (by kernel_rfl) (by kernel_rfl) (by kernel_rfl) (fun _ _ _ h=>h) (yieldsIf_load_mid (by rfl) _ _ rfl _ _ rfl C _ (fun v hv=>hCC.out ▸ (KT.out v hv).2.2.1.range) Tryz.underlying240 rfl (by rw [hCs];exact hsz.out)) (by assumption) ?_
            (simp only [Act.put,List.setIfInBounds_toArray,List.set_cons_zero,List.set_cons_succ])
            refine Zg 5 (v:=?_) rfl (by kernel_rfl) (by kernel_rfl) (by kernel_rfl) (fun _ _ _ h=>h) (Or.inl ⟨by rfl,?_⟩) (by assumption) ?_
            rotate_left 1
            · (intro w hSw;(try dsimp only at hSw);first | (go_simp;done) | (go_simp;with_reducible rfl))
            (simp only [Act.put,List.setIfInBounds_toArray,List.set_cons_zero,List.set_cons_succ])
            refine Zg 7 (v:=?_) rfl (by kernel_rfl) (by kernel_rfl) (by kernel_rfl) (fun _ _ _ h=>h) (Or.inl ⟨by rfl,?_⟩) (by assumption) ?_
            rotate_left 1
            · (intro w hSw;(try dsimp only at hSw);first | (go_simp;done) | (go_simp;with_reducible rfl))
            (simp only [Act.put,List.setIfInBounds_toArray,List.set_cons_zero,List.set_cons_succ])
            refine Zg 8 (v:=?_) rfl (by kernel_rfl) (by kernel_rfl) (by kernel_rfl) (fun _ _ _ h=>h) (Or.inl ⟨by rfl,?_⟩) (by assumption) ?_
            rotate_left 1
            · (intro w hSw;(try dsimp only at hSw);first | (go_simp;done) | (go_simp;with_reducible rfl))
            (simp only [Act.put,List.setIfInBounds_toArray,List.set_cons_zero,List.set_cons_succ])
            refine Zg 9 (v:=?_) rfl (by kernel_rfl) (by kernel_rfl) (by kernel_rfl) (fun _ _ _ h=>h) (Or.inl ⟨by rfl,?_⟩) (by assumption) ?_
            rotate_left 1
            · (intro w hSw;(try dsimp only at hSw);first | (go_simp;done) | (go_simp;with_reducible rfl))
            (simp only [Act.put,List.setIfInBounds_toArray,List.set_cons_zero,List.set_cons_succ])
            refine Zg 10 (v:=?_) rfl (by kernel_rfl) (by kernel_rfl) (by kernel_rfl) (fun _ _ _ h=>h) (Or.inl ⟨by rfl,?_⟩) (by assumption) ?_
            rotate_left 1
            · (intro w hSw;(try dsimp only at hSw);first | (go_simp;done) | (go_simp;with_reducible rfl))
            (simp only [Act.put,List.setIfInBounds_toArray,List.set_cons_zero,List.set_cons_succ])
            refine Zg 11 (v:=?_) rfl (by kernel_rfl) (by kernel_rfl) (by kernel_rfl) (fun _ _ _ h=>h) (Or.inl ⟨by rfl,?_⟩) (by assumption) ?_
            rotate_left 1
            · (intro w hSw;(try dsimp only at hSw);first | (go_simp;done) | (go_simp;with_reducible rfl))
            (simp only [Act.put,List.setIfInBounds_toArray,List.set_cons_zero,List.set_cons_succ])
            refine Zg 12 (v:=?_) rfl (by kernel_rfl) (by kernel_rfl) (by kernel_rfl) (fun _ _ _ h=>h) (Or.inl ⟨by rfl,?_⟩) (by assumption) ?_
            rotate_left 1
            · (intro w hSw;(try dsimp only at hSw);first | (go_simp;done) | (go_simp;with_reducible rfl))
            (simp only [Act.put,List.setIfInBounds_toArray,List.set_cons_zero,List.set_cons_succ])
            refine wpAnyH_ready (rs:=[6]) (by kernel_rfl) (by simp) ?_
            refine AllReadyH.cons rfl (fun K hK=>?_) AllReadyH.nil
            go_simp
            go_wp2_with (go_at_call 190;refine Calls.mono (cCls.out _) ?_;rintro e w7 ⟨rfl,hb7⟩)
            have hk7:Keeps (fun k=>k=nb) W1 w7:=hkd.trans (Keeps.of_below hb7 _)
            have hk7w:Keeps (fun k=>k=nb) w6 w7:=hkw.out.drew.trans (Keeps.of_below hb7 _)
            have ht7:w7.heap[nb]? = some (.cells (ZP (QF G a (Qj P l s base0 j)) n W).toArray 3 (0,0)):=Zc hb7 htq.out
            clear hb7
            refine hK.out _ _ hk7 (fun hHeld=>?_)
            clear hK K
            refine wpAnyH_ready (rs:=[13]) (by kernel_rfl) (by simp) ?_
            refine AllReadyH.cons rfl (fun K hK=>?_) AllReadyH.nil
            go_simp
            go_wp2_with (go_at_call 179;refine Calls.mono (cStp.out _ hk7) ?_;rintro e w8 ⟨rfl,rfl⟩)
            refine hK.out _ _ hk7 (fun hHeld=>?_)
            clear hK K
            have hcell:w7.cell? ⟨nb,b0+k0,none⟩=some ((ZP (QF G a (Qj P l s base0 j)) n W)[b0+k0]'(by rw [Qk,hN.out];exact hsl.out)):=by rw [Za ht7,List.getElem?_toArray,List.getElem?_eq_getElem]
            have hfro:w7.frozen? ⟨nb,b0+k0,none⟩=false:=Zb ht7 _
            obtain ⟨uu,huu⟩:∃ u,(ZP (QF G a (Qj P l s base0 j)) n W)[b0+k0]'(by rw [Qk,hN.out];exact hsl.out)=u:=⟨_,rfl⟩
            rw [huu] at hcell
            clear huu
            replace ht7:=As.mk ht7
            refine Zg 14 (v:=?_) rfl (by kernel_rfl) (by kernel_rfl) (by kernel_rfl) (fun _ _ _ h=>h) (Or.inl ⟨by rfl,?_⟩) (by assumption) ?_
            rotate_left 1
            · (intro w hSw;(try dsimp only at hSw);first | (go_simp;done) | (go_simp;with_reducible rfl))
            (simp only [Act.put,List.setIfInBounds_toArray,List.set_cons_zero,List.set_cons_succ])
            refine wpAnyH_ready (rs:=[15]) (by kernel_rfl) (by simp) ?_
            refine AllReadyH.cons rfl (fun K hK=>?_) AllReadyH.nil
            go_simp
            have hk9:Keeps (fun k=>k=nb) w7 (w7.setCell ⟨nb,b0+k0,none⟩ (.int .i64 x0)):=(Zm w7 ⟨nb,b0+k0,none⟩ _).mono fun _ _ h=>h
            refine hK.out _ _ (hk7.trans hk9) (fun hHeld=>?_)
            clear hK K
            refine wpAnyH_done (by kernel_rfl) ?_ _
            go_wp2_with fail
            go_roundg gq
            case measure=>exact Nat.lt_succ_self _
            case rel=>exact ⟨j+1,⟨by have:=hgk2.out;omega⟩,hjl,(by first | rfl | go_num | (congr 1;omega)),⟨by rw [← hset.out];exact Zi ht7.out (b0+k0) _⟩,⟨hk7w.trans hk9⟩⟩
          · --
            obtain rfl:j=kn:=by omega
            have hfin:As (QF G a (Qj P l s base0 j)=Z5 P l (O.take (i+1))):=⟨by rw [hdone.out];congr 1;funext k;exact hbase.out k⟩
            rw [hfin.out] at htq
            go_wp2_with fail
            go_roundg gp
            case measure=>exact Nat.lt_succ_self _
            case rel=>exact ⟨i+1,⟨by have:=hgk.out;omega⟩,hlt,(by first | rfl | go_num | (congr 1;omega)),htq,⟨hk6.out.trans hkw.out⟩⟩
   · obtain rfl:i=n:=by omega
     obtain ⟨_,_,hDr,_⟩:=KT.out wr hkr.out
     rw [show O.take i=O by rw [← hOl,List.take_length]] at htr
     rw [gridF_same P l O P (fun x=>by rw [← hO];exact ⟨fun h=>Zdl hT h,fun h=>Ze5 hT _ x rfl h⟩)] at htr
     rw [← hN.out] at hDr
     have hKw:Keeps (fun k=>k=g) w wr:=by
      have ha:Keeps (fun k=>k=g∨w.heap.size≤k) w W0:=hK0.out.mono fun k _ h=>.inl h
      have hb2:Keeps (fun k=>k=g∨w.heap.size≤k) W0 W1:=Keeps.of_below hbO _
      have hc:Keeps (fun k=>k=g∨w.heap.size≤k) W1 wr:=hkr.out.mono fun k _ h=>.inr (by have:=hnb.out;omega)
      exact ((ha.trans hb2).trans hc).mono fun k hk h=>h.elim id (fun h=>absurd h (by omega))
     replace hDr:=As.mk hDr
     replace hKw:=As.mk hKw
     go_wp2_with fail
     unfold Exit.noGoto
     go_end0
     exact ⟨rfl,nb,hnb.out,htr.out,hDr.out,hKw.out⟩
end Go.Proofs.YtfdlaomnecjfeaaGreatDoor
end
section
namespace Go.Proofs.YtfdlaomnecjfeaaGreatDoor
open Go.RowKit Seine.Trie Seine.Dfa Seine.Links
/-- All bytes' classes. -/
def XG (F:UInt8→Nat):List Value:=(List.range 256).map fun i=>Value.int .i64 (F (UInt8.ofNat i):Int)
theorem J1 (F:UInt8→Nat):(XG F).length=256:=by simp [XG]
theorem tblCells_at (F:UInt8→Nat) (c:UInt8):(XG F)[c.toNat]? = some (.int .i64 (F c:Int)):=by
 unfold XG
 rw [List.getElem?_map,List.getElem?_range c.toNat_lt];simp
theorem tbl_cls (F:UInt8→Nat) (n:Nat) {i:Nat} {u:Value} (h:(XG F)[i]? = some u):(ZJ F n)[i]? = some u:=by
 have hi:=(List.getElem?_eq_some_iff.1 h).1
 unfold ZJ XG at *
 rw [List.getElem?_append_left hi];exact h
def YP (F:UInt8→Nat):Array Value:=(XG F).toArray
theorem Zbt (F:UInt8→Nat):(YP F).size=256:=by simp [YP,J1]
theorem tblV_one (F:UInt8→Nat):(YP F).all (·.oneCell')=true:=by
 refine all_oneCell_toArray ?_
 intro v hv
 obtain ⟨i,_,rfl⟩:=List.mem_map.1 hv;rfl
theorem zero_tbl:(∀ w,(zeroValue 238).run Tryz.prog w=.ok (.agg (YP (fun _=>0))) w)∧(Tryz.prog.info? 238).map (·.size)=some 256 :=
 zero_of_info (by kernel_rfl)
set_option maxRecDepth 100000 in
set_option maxHeartbeats 1600000 in
theorem ctable_calls (w:World) (F:UInt8→Nat) (n:Nat) :
    Calls Tryz.prog 276 #[.agg (ZS F n)] w fun e w'=>e=.returned (.agg (YP F))∧Below w.heap.size w w':=by
 have hzv:=zero_tbl.1
 have hsz:=zero_tbl.2
 obtain ⟨Z,hZ⟩:∃ Z,YP (fun _=>0)=Z:=⟨_,rfl⟩
 have hZs:Z.size=256:=by rw [← hZ];exact Zbt _
 rw [hZ] at hzv
 have hr:∀ (i:Nat) (u:Value),(XG F)[i]? = some u→(ZS F n)[i]? = some u:=fun i u h=>by
  have:=tbl_cls F n h
  unfold ZS;rw [List.getElem?_toArray];exact this
 obtain ⟨C,hC⟩:∃ C,ZS F n=C:=⟨_,rfl⟩
 rw [hC] at hr ⊢
 obtain ⟨T,hT⟩:∃ T,XG F=T:=⟨_,rfl⟩
 have hTl:T.length=256:=by rw [← hT];exact J1 _
 have hTV:YP F=T.toArray:=by rw [← hT];rfl
 have hT1:T.toArray.all (·.oneCell')=true:=by rw [← hTV];exact tblV_one F
 rw [hT] at hr
 rw [hTV]
 obtain ⟨gb,hgb⟩:∃ g,w.heap.size=g:=⟨_,rfl⟩
 have z0:((w.alloc (.cells C 240)).alloc (.cells Z 238)).heap[gb]? = some (.cells C 240 (0,0)):=by rw [← hgb];exact Zn (heap_alloc_new w _)
 have z1:((w.alloc (.cells C 240)).alloc (.cells Z 238)).heap[gb+1]? = some (.cells Z 238 (0,0)):=by rw [← hgb];exact Q8 w _ _
 have zB:Below gb w ((w.alloc (.cells C 240)).alloc (.cells Z 238)):=by rw [← hgb];exact ((Below.refl _ _).alloc (Nat.le_refl _) _).alloc (by simp) _
 obtain ⟨W1,hW1⟩:∃ W,(w.alloc (.cells C 240)).alloc (.cells Z 238)=W:=⟨_,rfl⟩
 rw [hW1] at z0 z1 zB
 have hra:As (W1.rangeAt gb 0 T):=⟨fun j u hu=>by rw [Nat.zero_add,Za z0];exact hr j u hu⟩
 have hq0:=ZaB (d:=T.toArray) z1 (by rw [List.size_toArray,hTl,hZs])
 have hl0:=X4 (base:=gb) (Nat.le_succ gb) T 0 zB
 have hth:=Y5 z1 (o:=0) (n:=256) (by omega)
 replace z0:=As.mk z0
 replace z1:=As.mk z1
 replace zB:=As.mk zB
 replace hth:=As.mk hth
 replace hsz:=As.mk hsz
 replace hr:=As.mk hr
 replace hgb:=As.mk hgb
 replace hq0:=As.mk hq0
 replace hl0:=As.mk hl0
 clear hC hT hTV hZ
 go_enter Tryz.func276,Tryz.ntmps276
 go_wp2_with (first
  | (rw [hW1])
  | (rw [hgb.out])
  | (refine wpList_load_mid (w:=W1) rfl 238 (.tmp 3) rfl gb 0 rfl T _ hra.out Tryz.underlying238 rfl (by rw [hTl];exact hsz.out) ?_)
  | (refine wpList_store_mid (w:=W1) rfl 238 (.tmp 2) (.tmp 4) rfl (gb+1) 0 T.toArray rfl rfl (by rw [List.size_toArray,hTl];exact hth.out) (by rw [List.size_toArray,hTl];exact hsz.out) hT1 ?_))
 refine bodyPost_ret (v:=.agg T.toArray) (results_cell_row (p:=2) (ty:=238) rfl _ _ (gb+1) _ T.toArray _ _ rfl hq0.out Tryz.underlying238 rfl (by rw [List.size_toArray,hTl];exact hsz.out)) rfl ⟨rfl,hl0.out⟩
/-- A table's numbers, row by row. -/
def Zc0 (G:Nat→Nat→Int) (n W:Nat):List Int:=(List.range (n * W)).map fun i=>G (i / W) (i % W)
theorem tabI_length (G:Nat→Nat→Int) (n W:Nat):(Zc0 G n W).length=n * W:=by simp [Zc0]
theorem Zeu (G:Nat→Nat→Int) (n W:Nat):Z9 (Zc0 G n W)=ZP G n W:=by unfold Z9 Zc0 ZP;rw [List.map_map];rfl
/-- A dense handle on a table. -/
def TabD (w:World) (eb:Nat) (mo:Option Nat) (F:UInt8→Nat) (n W:Nat) (G:Nat→Nat→Int):Prop :=
 ∃ cb wb sb A c,w.heap[eb]? = some (.cells #[.pointer (Xk mo),.func (.func 277) #[] #[.pointer (some ⟨cb,0,none⟩),.pointer (some ⟨wb,0,none⟩),.pointer (some ⟨sb,0,none⟩)]] 375 (0,0)) ∧
   w.heap[cb]? = some (.cells (YP F) 238 (0,0))∧w.heap[wb]? = some (.cells #[.int .i64 (W:Int)] 3 (0,0))∧w.heap[sb]? = some (.cells #[.slice A (n * W) c] 45 (0,0))∧n * W≤c∧Row w A (ZP G n W)∧(∀ ad,A=some ad→¬ Zu mo ad.block)
theorem TabD.below {w w':World} {eb:Nat} {mo:Option Nat} {F:UInt8→Nat} {n W:Nat} {G:Nat→Nat→Int} (h:TabD w eb mo F n W G) (hb:Below w.heap.size w w'):TabD w' eb mo F n W G:=by
 obtain ⟨cb,wb,sb,A,c,h1,h2,h3,h4,h5,h6,h7⟩:=h
 exact ⟨cb,wb,sb,A,c,Zc hb h1,Zc hb h2,Zc hb h3,Zc hb h4,h5,Row.below h6 hb,h7⟩
theorem TabD.keep {w w':World} {eb:Nat} {mo:Option Nat} {F:UInt8→Nat} {n W:Nat} {G:Nat→Nat→Int} {cn:Cn} (h:TabD w eb mo F n W G) (hm:Mo w mo cn) (hk:Keeps (Zu mo) w w'):TabD w' eb mo F n W G:=by
 obtain ⟨cb,wb,sb,A,c,h1,h2,h3,h4,h5,h6,h7⟩:=h
 exact ⟨cb,wb,sb,A,c,Zd h1 hk (hm.far h1 (.inl (by simp))),Zd h2 hk (hm.far h2 (.inl (by rw [Zbt];decide))),Zd h3 hk (hm.far h3 (.inl (by simp))),Zd h4 hk (hm.far h4 (.inl (by simp))),h5,Row.keep h6 hk (fun ad e _=>h7 ad e),h7⟩
set_option maxRecDepth 100000 in
set_option maxHeartbeats 1600000 in
theorem mdense_calls (w:World) (mo:Option Nat) (cn:Cn) (hm:Mo w mo cn) (F:UInt8→Nat) (n W:Nat) (G:Nat→Nat→Int) (nb:Nat) (ht:w.heap[nb]? = some (.cells (ZP G n W).toArray 3 (0,0))) (hNb:n * W≤50000) :
    Calls Tryz.prog 275 #[.pointer (Xk mo),.agg (YP F),.int .i64 (W:Int),.slice (some ⟨nb,0,none⟩) (n * W) (n * W)] w fun e w'=>∃ eb,e=.returned (.pointer (some ⟨eb,0,none⟩))∧TabD w' eb mo F n W G∧Below w.heap.size w w':=by
 obtain ⟨N,hN⟩:∃ N,n * W=N:=⟨_,rfl⟩
 have hIl:(Zc0 G n W).length=N:=by rw [tabI_length,hN]
 have hrow:Ints w (some ⟨nb,0,none⟩) (Zc0 G n W):=by
  unfold Ints;rw [Zeu];exact ZcQ ht
 have cCl:=As.mk (fun v (hv:Below w.heap.size w v)=>J0 v ⟨nb,0,none⟩ N (Zc0 G n W) (Row.below hrow hv) (by omega))
 rw [hIl] at cCl
 rw [hN] at hNb ⊢
 have hmo:=As.mk hm
 obtain ⟨T,hT⟩:∃ T,YP F=T:=⟨_,rfl⟩
 have hTs:T.size=256:=by rw [← hT];exact Zbt _
 rw [hT]
 replace hT:=As.mk hT
 replace hN:=As.mk hN
 replace hIl:=As.mk hIl
 clear ht hm
 obtain ⟨gb,hgb⟩:∃ g,w.heap.size=g:=⟨_,rfl⟩
 have b3:(((w.alloc (.cells T 238)).alloc (.cells #[.int .i64 (W:Int)] 3)).alloc (.cells #[.slice (some ⟨nb,0,none⟩) N N] 45)).heap[gb+1+1]? = some (.cells #[.slice (some ⟨nb,0,none⟩) N N] 45 (0,0)):=by
  rw [← hgb]
  have:=heap_alloc_new ((w.alloc (.cells T 238)).alloc (.cells #[.int .i64 (W:Int)] 3)) (.cells #[.slice (some ⟨nb,0,none⟩) N N] 45)
  simpa using this
 have b2:(((w.alloc (.cells T 238)).alloc (.cells #[.int .i64 (W:Int)] 3)).alloc (.cells #[.slice (some ⟨nb,0,none⟩) N N] 45)).heap[gb+1]? = some (.cells #[.int .i64 (W:Int)] 3 (0,0)):=by rw [← hgb];exact Zn (Q8 _ _ _)
 have b1:(((w.alloc (.cells T 238)).alloc (.cells #[.int .i64 (W:Int)] 3)).alloc (.cells #[.slice (some ⟨nb,0,none⟩) N N] 45)).heap[gb]? = some (.cells T 238 (0,0)):=by rw [← hgb];exact Zn (Zn (heap_alloc_new _ _))
 have hB:Below w.heap.size w (((w.alloc (.cells T 238)).alloc (.cells #[.int .i64 (W:Int)] 3)).alloc (.cells #[.slice (some ⟨nb,0,none⟩) N N] 45)):=(((Below.refl _ _).alloc (Nat.le_refl _) _).alloc (by simp) _).alloc (by simp;omega) _
 obtain ⟨W1,hW1⟩:∃ W',(((w.alloc (.cells T 238)).alloc (.cells #[.int .i64 (W:Int)] 3)).alloc (.cells #[.slice (some ⟨nb,0,none⟩) N N] 45))=W':=⟨_,rfl⟩
 rw [hW1] at b1 b2 b3 hB
 have s0:W1.cell? ⟨gb+1+1,0,none⟩=some (.slice (some ⟨nb,0,none⟩) N N):=Za b3 0
 replace b1:=As.mk b1
 replace b2:=As.mk b2
 replace b3:=As.mk b3
 replace hB:=As.mk hB
 go_enter Tryz.func275,Tryz.ntmps275
 go_wp2_with (first
  | (rw [hW1])
  | (rw [hgb])
  | (go_at_call 214;refine Calls.mono (cCl.out _ hB.out) ?_;intro e w2 h2;obtain ⟨v2,he2,ho2',hb2⟩:=h2.out;subst he2;have ho2:w2.ownsRow W1.heap.size 3 1 v2 N (ZP G n W):=(by rw [← Zeu,← hIl.out];exact ho2');obtain ⟨A2,c2,rfl,hc2⟩:=Zk ho2;have e3:=Zc hb2 b3.out;have f3:w2.cell? ⟨gb+1+1,0,none⟩=some (.slice (some ⟨nb,0,none⟩) N N):=Za e3 0;have g3:w2.frozen? ⟨gb+1+1,0,none⟩=false:=Zb e3 0;replace e3:=As.mk e3))
 go_ret
 have hrw:=Row.of_own ho2
 have hW1s:=Zf b3.out
 have hAg:∀ ad,A2=some ad→W1.heap.size≤ad.block:=fun ad e=>by
  rcases own_addr ho2 with e' | ⟨q,e',hq⟩
  · rw [e] at e';cases e'
  · rw [e] at e';injection e' with e';subst e';exact hq
 have k0:Keeps (fun k=>k=gb+1+1) w2 (w2.setCell ⟨gb+1+1,0,none⟩ (.slice A2 N c2)):=(Zm w2 ⟨gb+1+1,0,none⟩ _).mono fun _ _ h=>h
 have kB:Below w.heap.size w (w2.setCell ⟨gb+1+1,0,none⟩ (.slice A2 N c2)):=((hB.out.trans (hb2.mono hB.out.size)).setCell (p:=⟨gb+1+1,0,none⟩) (by rw [hgb];show gb≤gb+1+1;omega) _)
 have s3:=kB.size
 refine ⟨_,rfl,⟨gb,gb+1,gb+1+1,A2,c2,?_,?_,?_,?_,by rw [hN.out];exact hc2,?_,fun ad e hS=>?_⟩,?_⟩
 · have:=heap_alloc_new (w2.setCell ⟨gb+1+1,0,none⟩ (.slice A2 N c2)) (.cells #[.pointer (Xk mo),.func (.func 277) #[] #[.pointer (some ⟨gb,0,none⟩),.pointer (some ⟨gb+1,0,none⟩),.pointer (some ⟨gb+1+1,0,none⟩)]] 375)
   rw [show (w2.setCell ⟨gb+1+1,0,none⟩ (.slice A2 N c2)).heap.size=w2.heap.size by simp [World.setCell]] at this
   exact this
 · rw [hT.out];exact Zn (Zd (Zc hb2 b1.out) k0 (by omega))
 · exact Zn (Zd (Zc hb2 b2.out) k0 (by omega))
 · rw [hN.out];exact Zn (Zi e3.out 0 _)
 · exact Row.alloc (Row.keep hrw k0 (fun ad e _ hS=>by have:=hAg ad e;omega)) _
 · have h1:=Zf (hmo.out _ hS)
   have h2:=hAg ad e
   have h3:=hB.out.size
   omega
 · rw [hgb] at kB s3;exact kB.alloc s3 _
set_option maxRecDepth 100000 in
set_option maxHeartbeats 1600000 in
theorem Zbu (w:World) (cb wb sb:Nat) (F:UInt8→Nat) (n W:Nat) (G:Nat→Nat→Int) (A:Option Addr) (cp:Nat) (h2:w.heap[cb]? = some (.cells (YP F) 238 (0,0))) (h3:w.heap[wb]? = some (.cells #[.int .i64 (W:Int)] 3 (0,0))) (h4:w.heap[sb]? = some (.cells #[.slice A (n * W) cp] 45 (0,0))) (h5:n * W≤cp) (h6:Row w A (ZP G n W))
    (hNb:n * W≤50000) (a:Nat) (ha:a<n) (c:UInt8) (hc:F c<W) :
    Calls Tryz.prog 277 #[.agg #[.int .i64 (a:Int),.int .u8 (c.toNat:Int)],.pointer (some ⟨cb,0,none⟩),.pointer (some ⟨wb,0,none⟩),.pointer (some ⟨sb,0,none⟩)] w fun e w'=>e=.returned (.int .i64 (G a (F c)))∧Below w.heap.size w w':=by
 have hB:Below w.heap.size w (w.alloc (.cells #[.int .i64 (a:Int),.int .u8 (c.toNat:Int)] 372)):=(Below.refl _ _).alloc (Nat.le_refl _) _
 have hlt:=ZaC ha hc
 obtain ⟨ad,rfl,hcell⟩:=Row.at_ (Row.below h6 hB) (j:=a * W+F c) (by rw [Qk];exact hlt)
 have hc256:=c.toNat_lt
 have c1:(w.alloc (.cells #[.int .i64 (a:Int),.int .u8 (c.toNat:Int)] 372)).cell? ⟨cb,c.toNat,none⟩=some (.int .i64 (F c:Int)):=by
  rw [Za (Zn h2)];unfold YP;rw [List.getElem?_toArray];exact tblCells_at F c
 have c2:(w.alloc (.cells #[.int .i64 (a:Int),.int .u8 (c.toNat:Int)] 372)).cell? ⟨wb,0,none⟩=some (.int .i64 (W:Int)):=Za (Zn h3) 0
 have c3:(w.alloc (.cells #[.int .i64 (a:Int),.int .u8 (c.toNat:Int)] 372)).cell? ⟨sb,0,none⟩=some (.slice (some ad) (n * W) cp):=Za (Zn h4) 0
 have hv:(ZP G n W)[a * W+F c]'(by rw [Qk];exact hlt)=.int .i64 (G a (F c)):=by
  have:=Zd1 G ha hc
  rw [List.getElem?_eq_getElem (by rw [Qk];exact hlt)] at this
  injection this
 rw [hv] at hcell
 clear hv h2 h3 h4 h6
 obtain ⟨r,hr⟩:∃ r,G a (F c)=r:=⟨_,rfl⟩
 rw [hr] at hcell ⊢
 clear hr
 obtain ⟨k,hk⟩:∃ k,F c=k:=⟨_,rfl⟩
 rw [hk] at hc hlt hcell c1
 clear hk
 obtain ⟨x,hx⟩:∃ x,c.toNat=x:=⟨_,rfl⟩
 rw [hx] at hc256 c1 ⊢
 rw [hx] at hB hcell c2 c3
 clear hx
 have haN:(a+1) * W≤n * W:=Nat.mul_le_mul_right _ ha
 rw [Nat.succ_mul] at haN
 obtain ⟨N,hN⟩:∃ N,n * W=N:=⟨_,rfl⟩
 obtain ⟨p,hp⟩:∃ p,a * W=p:=⟨_,rfl⟩
 have hmul:(a:Int) * (W:Int)=(p:Int):=by rw [← hp];push_cast;rfl
 have hquo:(a:Int)≤((N:Int) - 1 - (k:Int)) / (W:Int):=by
  rw [Int.le_ediv_iff_mul_le (by omega),hmul];rw [hp,hN] at haN;omega
 rw [hN,hp] at hlt haN
 rw [hN] at h5 hNb c3
 rw [hp] at hcell
 replace hN:=As.mk hN
 replace hp:=As.mk hp
 obtain ⟨W1,hW1⟩:∃ W',w.alloc (.cells #[.int .i64 (a:Int),.int .u8 (x:Int)] 372)=W':=⟨_,rfl⟩
 have e0:W1.cell? ⟨w.heap.size,0,none⟩=some (.int .i64 (a:Int)):=by rw [← hW1];exact Za (heap_alloc_new _ _) 0
 have e1:W1.cell? ⟨w.heap.size,1,none⟩=some (.int .u8 (x:Int)):=by rw [← hW1];exact Za (heap_alloc_new _ _) 1
 rw [hW1] at hB hcell c1 c2 c3
 obtain ⟨gb,hgb⟩:∃ g,w.heap.size=g:=⟨_,rfl⟩
 rw [hgb] at e0 e1
 replace hB:=As.mk hB
 have d1:decide ((a:Int)<0)=false:=decide_eq_false (by omega)
 have d2:decide ((k:Int)<0)=false:=decide_eq_false (by omega)
 have d3:decide (W≤k)=false:=decide_eq_false (by omega)
 have d4:decide (N≤k)=false:=decide_eq_false (by omega)
 have w1:IntKind.i64.wrap ((N:Int) - 1)=(N:Int) - 1:=by rw [IntKind.wrap_i64];omega
 have w2:IntKind.i64.wrap ((N:Int) - 1 - (k:Int))=(N:Int) - 1 - (k:Int):=by rw [IntKind.wrap_i64];omega
 have hW0:((W:Int) == 0)=false:=by simp;omega
 have hW0':¬ (W:Int)=0:=by omega
 have hW00:¬ W=0:=by omega
 go_enter Tryz.func277,Tryz.ntmps277
 go_wp2_with (first | (rw [hW1]) | (rw [hgb]))
 go_quiet (fail)
 go_wp2
 go_ret
 exact ⟨rfl,ZF hB.out _⟩
theorem mlookd_calls (w:World) (eb:Nat) (mo:Option Nat) (F:UInt8→Nat) (n W:Nat) (G:Nat→Nat→Int) (ht:TabD w eb mo F n W G) (cn:Cn) (hm:Mo w mo cn) (hok:cn.ok) (hNb:n * W≤50000) (a:Nat) (ha:a<n) (c:UInt8) (hc:F c<W) :
    Calls Tryz.prog 273 #[.pointer (some ⟨eb,0,none⟩),.int .i64 (a:Int),.int .u8 (c.toNat:Int)] w fun e w'=>e=.returned (.int .i64 (G a (F c)))∧Mo w' mo { cn with l:=cn.l+1 }∧Keeps (Zu mo) w w':=by
 have hk:=As.mk (fun (w':World) (k:Keeps (Zu mo) w w')=>ht.keep hm k)
 have hmo:=As.mk hm
 obtain ⟨cb,wb,sb,A,cp,h1,h2,h3,h4,h5,h6,h7⟩:=ht
 have c0:w.cell? ⟨eb,0,none⟩=some (.pointer (Xk mo)):=Za h1 0
 have hlt:=Zf h1
 obtain ⟨s,l,hh,m⟩:=cn
 have hs1:IntKind.i64.wrap (l+1)=l+1:=by have:=hok.2.2.1;have:=hok.2.2.2.1;simp only [IntKind.wrap,IntKind.signed,IntKind.bits] at *;simp;omega
 cases mo with
 | none =>
   have hB:Below w.heap.size w (w.alloc (.cells #[.int .i64 0,.int .i64 1,.int .i64 0,.int .i64 0] 29)):=(Below.refl _ _).alloc (Nat.le_refl _) _
   have d1:=(hB.cell (p:=⟨eb,1,none⟩) hlt).trans (Za h1 1)
   have cl:=As.mk (fun v (hv:Below w.heap.size w v)=>Zbu v cb wb sb F n W G A cp (Zc hv h2) (Zc hv h3) (Zc hv h4) h5 (Row.below h6 hv) hNb a ha c hc)
   unfold Xk at c0
   simp only [Option.map_none,Option.map_some] at c0
   simp at d1
   generalize G a (F c)=r at *
   replace hB:=As.mk hB
   clear h1 h2 h3 h4 h5 h6 h7 hk hmo hok hm
   go_enter Tryz.func273,Tryz.ntmps273
   go_wp2_with (first
    | (go_at_call 277;refine Calls.mono (cl.out _ hB.out) ?_;rintro e w1 ⟨rfl,hb⟩)
    | (go_at_call 165;refine Calls.mono (Zac _) ?_;rintro e w1 ⟨rfl,rfl⟩))
   go_ret
   exact ⟨rfl,Mo.none_ _ _,(Keeps.of_below hB.out _).trans (Keeps.of_below hb _)⟩
 | some g =>
   have hg:=hmo.out g rfl
   have g0:w.cell? ⟨g,1,none⟩=some (.int .i64 l):=Za hg 1
   have f0:w.frozen? ⟨g,1,none⟩=false:=Zb hg 1
   have hK:Keeps (Zu (some g)) w (w.setCell ⟨g,1,none⟩ (.int .i64 (l+1))):=(Zm w ⟨g,1,none⟩ _).mono fun k _ e=>by unfold Zu;exact congrArg some e.symm
   have hM:MtAt (w.setCell ⟨g,1,none⟩ (.int .i64 (l+1))) g ⟨s,l+1,hh,m⟩:=by
    have:=Zi hg 1 (.int .i64 (l+1))
    unfold MtAt
    rw [this]
    simp [Qr]
   obtain ⟨cb',wb',sb',A',cp',k1,k2,k3,k4,k5,k6,_⟩:=hk.out _ hK
   have d1:(w.setCell ⟨g,1,none⟩ (.int .i64 (l+1))).cell? ⟨eb,1,none⟩=some (.func (.func 277) #[] #[.pointer (some ⟨cb',0,none⟩),.pointer (some ⟨wb',0,none⟩),.pointer (some ⟨sb',0,none⟩)]):=Za k1 1
   have cl:=As.mk (Zbu _ cb' wb' sb' F n W G A' cp' k2 k3 k4 k5 k6 hNb a ha c hc)
   unfold Xk at c0
   simp only [Option.map_none,Option.map_some] at c0
   generalize G a (F c)=r at *
   replace hK:=As.mk hK
   replace hM:=As.mk hM
   clear h1 h2 h3 h4 h5 h6 h7 hk hmo hok k1 k2 k3 k4 k5 k6 hg hm
   go_enter Tryz.func273,Tryz.ntmps273
   go_wp2_with (first
    | (go_at_call 277;refine Calls.mono cl.out ?_;rintro e w1 ⟨rfl,hb⟩)
    | (go_at_call 165;refine Calls.mono (XN _ _) ?_;rintro e w1 ⟨rfl,rfl⟩))
   go_ret
   exact ⟨rfl,Mo.some_ (hM.out.below hb),hK.out.trans (Keeps.of_below hb _)⟩
end Go.Proofs.YtfdlaomnecjfeaaGreatDoor
end
section
namespace Go.Proofs.YtfdlaomnecjfeaaGreatDoor
open Go.RowKit Seine.Trie Seine.Dfa Seine.Links Seine.Sparse
structure DfaB where
 tb:Nat
 tg:Nat
 lb:Nat
 lg:Nat
 nb:Nat
def Jc (l:List Txt):Nat:=(listTo (stands l) 256).length
theorem ZfA (l:List Txt):Jc l≤256:=ZaT _ _
/-- A table machine of some texts, in memory. -/
structure DfaIn (w:World) (g:Nat) (P l:List Txt) (B:DfaB):Prop where
 blk:DfaBlk w g B.tg B.lg (ZV l) (Jc l) (.slice (some ⟨B.nb,0,none⟩) (P.length * XM l) (P.length * XM l))
 trie:TrieAt w B.tb B.tg P (place l)
 lnk:YN w B.lb B.lg P l
 tab:w.heap[B.nb]? = some (.cells (ZP (Z5 P l P) P.length (XM l)).toArray 3 (0,0))
def DfaAt (w:World) (g:Nat) (P l:List Txt):Prop:=∃ B,DfaIn w g P l B
theorem DfaAt.below {w w':World} {g:Nat} {P l:List Txt} (h:DfaAt w g P l) (hb:Below w.heap.size w w'):DfaAt w' g P l:=by
 obtain ⟨B,h1,h2,h3,h4⟩:=h
 exact ⟨B,h1.below hb,h2.below hb,LinksAt.below h3 hb,Zc hb h4⟩
theorem DfaAt.keepM {w w':World} {g:Nat} {P l:List Txt} {mo:Option Nat} {c:Cn} (h:DfaAt w g P l) (hm:Mo w mo c) (hk:Keeps (Zu mo) w w'):DfaAt w' g P l:=by
 obtain ⟨B,h1,h2,h3,h4⟩:=h
 have hg:¬ Zu mo g:=by
  obtain ⟨D,d1,d2,_⟩:=h1
  exact hm.far d1 (.inl (by omega))
 exact ⟨B,h1.keep hk hg,h2.keepM hm hk,LinksAt.keepM h3 hm hk,Zd h4 hk (hm.far h4 (.inr (by decide)))⟩
theorem widthF_cls (l:List Txt):Jc l+1=XM l:=rfl
/-- The table says the step. -/
theorem grid_step {l:List Txt} {a:Nat} {s:Txt} (h:(Zl l)[a]? = some s) (c:UInt8):Z5 (Zl l) l (Zl l) a (ZV l c)=place (Zl l) (lng (Zl l) (s++[c])):=by
 rw [Zfc (Zl l) l (Zl l) h (List.mem_of_getElem? h)]
 exact rowF_cls l s c
/-- What `build` makes of a machine's parts. -/
def Zaj (tg lg:Nat) (C Z:Array Value):Array Value:=Array.foldl (fun cs x=>cs.setIfInBounds (2+x.snd) x.fst) ((Z.setIfInBounds 0 (.pointer (some ⟨tg,0,none⟩))).setIfInBounds 1 (.pointer (some ⟨lg,0,none⟩))) C.zipIdx 0 257
theorem Zev (o:Nat):∀ (L:List Value) (k:Nat) (Z:Array Value),((L.zipIdx k).foldl (fun cs x=>cs.setIfInBounds (o+x.2) x.1) Z).size=Z.size
 | [],_,_=>rfl
 | v::r,k,Z=>by rw [List.zipIdx_cons,List.foldl_cons,Zev o r (k+1)];simp
theorem fold_arr_size (o n:Nat) (C Z:Array Value) (hn:C.size=n):(Array.foldl (fun cs x=>cs.setIfInBounds (o+x.2) x.1) Z C.zipIdx 0 n).size=Z.size:=by
 subst hn
 refine Eq.trans ?_ (Zev o C.toList 0 Z)
 rw [← Array.toList_zipIdx,Array.foldl_toList]
 simp
theorem dfaD_size (tg lg:Nat) (C Z:Array Value) (hC:C.size=257):(Zaj tg lg C Z).size=Z.size:=by
 unfold Zaj
 rw [fold_arr_size 2 257 C _ hC];simp
theorem dfaD_blk {w:World} {g tg lg:Nat} {F:UInt8→Nat} {m:Nat} {Z:Array Value} (hZ:Z.size=260) (hZ9:Z[259]? = some (.slice none 0 0)) (hb:w.heap[g]? = some (.cells (Zaj tg lg (ZS F m) Z) 243 (0,0))):DfaBlk w g tg lg F m (.slice none 0 0):=by
 have hs:(ZS F m).size=257:=JZ F m
 have key:∀ i,(Zaj tg lg (ZS F m) Z)[i]? = if 2≤i∧i<2+257 then (ZS F m)[i - 2]? else ((Z.setIfInBounds 0 (.pointer (some ⟨tg,0,none⟩))).setIfInBounds 1 (.pointer (some ⟨lg,0,none⟩)))[i]?:=fun i=>by
  unfold Zaj
  exact fold_arr 2 257 (ZS F m) _ hs i (by simp;omega)
 have k259:=key 259
 rw [if_neg (by omega),Array.getElem?_setIfInBounds_ne (by omega),Array.getElem?_setIfInBounds_ne (by omega),hZ9] at k259
 refine ⟨_,hb,?_,?_,?_,fun i u hu=>?_,k259⟩
 · rw [dfaD_size _ _ _ _ hs,hZ]
 · rw [key,if_neg (by omega),Array.getElem?_setIfInBounds_ne (by omega),Array.getElem?_setIfInBounds_self_of_lt (by omega)]
 · rw [key,if_neg (by omega),Array.getElem?_setIfInBounds_self_of_lt (by simp;omega)]
 · have hi:=(List.getElem?_eq_some_iff.1 hu).1
   rw [ZI] at hi
   rw [key,if_pos (by omega),show 2+i - 2=i by omega]
   unfold ZS
   rw [List.getElem?_toArray];exact hu
set_option maxRecDepth 100000 in
set_option maxHeartbeats 1600000 in
theorem Zds (w:World) (A:Option Addr) (c:Nat) (l:List Txt) (hx:Txts w A l) (hl:tot l≤100000) (hll:l.length≤1000000) :
    Calls Tryz.prog 90 #[.slice A l.length c] w fun e w'=>(if (Zl l).length≤160 then ∃ g,e=.returned (.tuple #[.pointer (some ⟨g,0,none⟩),.int .i64 0])∧DfaAt w' g (Zl l) l else e=.returned (.tuple #[.pointer none,.int .i64 14]))∧Below w.heap.size w w':=by
 have cb:=As.mk (Zaf w A c l hx (by omega) hll)
 have hTr:=As.mk (ZC l)
 have hPl:=Yq l
 have hlP:=As.mk (fun x (hx:x∈l)=>Qp hx)
 have hd:As (∀ p∈Zl l,p.length≤100000):=⟨fun p hp=>JI hl p hp⟩
 have HX:=As.mk hx
 have hlt:As (∀ t∈l,t.length≤1000000):=⟨fun t ht=>by have:=JI hl t (Qp ht);omega⟩
 obtain ⟨P,hP⟩:∃ P,Zl l=P:=⟨_,rfl⟩
 rw [hP] at cb hTr hPl hlP hd ⊢
 obtain ⟨n,hn⟩:∃ n,P.length=n:=⟨_,rfl⟩
 rw [hn] at hPl ⊢
 have hn0:=hTr.out.len
 rw [hn] at hn0
 replace hn:=As.mk hn
 replace hP:=As.mk hP
 clear hx
 by_cases h160:n≤160
 · simp only [if_pos h160]
   have hno:decide (160<n)=false:=decide_eq_false (by omega)
   go_enter Tryz.func90,Tryz.ntmps90
   go_wp2_with fail
   refine Calls.mono cb.out ?_
   rintro e w1 ⟨tg,rfl,hT,hb1⟩
   have cl:=As.mk (Zbo w1 _ tg P l hT (by have:=hn.out;omega) hd.out hlP.out)
   have cN:=As.mk (Qv w1 _ tg P (place l) hT)
   rw [hn.out] at cN
   replace hT:=As.mk hT
   replace hb1:=As.mk hb1
   go_wp2_with (go_at_call 135;refine Calls.mono cN.out ?_;rintro e w' ⟨rfl,rfl⟩)
   refine Calls.mono cl.out ?_
   rintro e w2 ⟨lg,rfl,hL,hb2⟩
   have hT2:=As.mk (hT.out.below hb2)
   replace hL:=As.mk hL
   have hB2:=As.mk (Ze hb1.out hb2)
   have cC:=As.mk (cof_calls w2 A c l (HX.out.below hB2.out) hlt.out hll)
   go_wp2_with fail
   refine Calls.mono cC.out ?_
   rintro e w3 ⟨rfl,hb3⟩
   have hT3:=As.mk (hT2.out.below hb3)
   have hL3:=As.mk (LinksAt.below hL.out hb3)
   have hB3:=As.mk (Ze hB2.out hb3)
   obtain ⟨V,hV⟩:∃ V,ZS (ZV l) (listTo (stands l) 256).length=V:=⟨_,rfl⟩
   have hVs:V.size=257:=by rw [← hV];exact JZ _ _
   have hz1:Tryz.zeroCells243.size=260:=by kernel_rfl
   have hz2:Tryz.zeroCells243[259]? = some (.slice none 0 0):=by kernel_rfl
   have hblk:=heap_alloc_new w3 (.cells (Zaj tg lg V Tryz.zeroCells243) 243)
   have hD4:=dfaD_blk (F:=ZV l) (m:=Jc l) hz1 hz2 (show (w3.alloc (.cells (Zaj tg lg (ZS (ZV l) (Jc l)) Tryz.zeroCells243) 243)).heap[w3.heap.size]? = _ from heap_alloc_new w3 _)
   rw [show ZS (ZV l) (Jc l)=V from hV] at hD4
   have ha4:Below w3.heap.size w3 (w3.alloc (.cells (Zaj tg lg V Tryz.zeroCells243) 243)):=(Below.refl _ _).alloc (Nat.le_refl _) _
   have hT4:=hT3.out.below ha4
   have hL4:=LinksAt.below hL3.out ha4
   have hB4:=As.mk (hB3.out.trans (ha4.mono hB3.out.size))
   have cF:=As.mk (fill_calls _ _ _ w3.heap.size tg lg P l (ZV l) (Jc l) (XM l) n hT4 hD4 (ZfA l) (widthF_cls l) hn.out h160 hL4 (by have:=hn.out;omega) hP.out (fun _=>rfl) rfl)
   replace hT4:=As.mk hT4
   replace hL4:=As.mk hL4
   replace hblk:=As.mk hblk
   replace hV:=As.mk hV
   clear hz1 hz2 hD4 ha4
   rw [hV.out]
   go_wp2_with fail
   refine Calls.mono cF.out ?_
   rintro e w5 ⟨rfl,nb,hnb,htab,hD5,hK5⟩
   go_wp2_with fail
   go_ret2
   have hg1:∀ b,b=w3.heap.size→∃ cs t fr,(w3.alloc (.cells (Zaj tg lg V Tryz.zeroCells243) 243)).heap[b]? = some (.cells cs t fr)∧t≠283∧t≠279:=fun b e=>⟨_,_,_,e ▸ hblk.out,by decide,by decide⟩
   have hg2:∀ b,b=w3.heap.size→∃ cs t fr,(w3.alloc (.cells (Zaj tg lg V Tryz.zeroCells243) 243)).heap[b]? = some (.cells cs t fr)∧t≠287∧t≠3:=fun b e=>⟨_,_,_,e ▸ hblk.out,by decide,by decide⟩
   have hs3:=hB3.out.size
   have hlen:=hn.out
   refine ⟨⟨_,rfl,⟨⟨_,tg,_,lg,nb⟩,?_,hT4.out.keepOf hK5 hg1,LinksAt.keepOf hL4.out hK5 hg2,?_⟩⟩,?_⟩
   · show DfaBlk _ _ _ _ _ _ (.slice (some ⟨nb,0,none⟩) (P.length * XM l) (P.length * XM l))
     rw [hlen];exact hD5
   · show w5.heap[nb]? = some (.cells (ZP (Z5 P l P) P.length (XM l)).toArray 3 (0,0))
     rw [hlen];exact htab
   · exact hB4.out.trans (hK5.below (fun k hk e=>by omega) hB4.out.size)
 · simp only [if_neg h160]
   have hno:decide (160<n)=true:=decide_eq_true (by omega)
   go_enter Tryz.func90,Tryz.ntmps90
   go_wp2_with fail
   refine Calls.mono cb.out ?_
   rintro e w1 ⟨tg,rfl,hT,hb1⟩
   have cN:=As.mk (Qv w1 _ tg P (place l) hT)
   rw [hn.out] at cN
   replace hT:=As.mk hT
   replace hb1:=As.mk hb1
   go_wp2_with (go_at_call 135;refine Calls.mono cN.out ?_;rintro e w' ⟨rfl,rfl⟩)
   go_ret2
   exact ⟨rfl,hb1.out⟩
end Go.Proofs.YtfdlaomnecjfeaaGreatDoor
end
section
namespace Go.Proofs.YtfdlaomnecjfeaaGreatDoor
open Go.RowKit Seine.Trie Seine.Dfa Seine.Links Seine.Sparse
end Go.Proofs.YtfdlaomnecjfeaaGreatDoor
end
