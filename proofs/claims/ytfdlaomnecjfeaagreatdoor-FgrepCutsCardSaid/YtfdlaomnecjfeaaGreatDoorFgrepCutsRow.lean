/- The law FgrepCuts of the given program is true for every input, and its arguments read behind the call as before: no condition. -/
import Derived.Test.YtfdlaomnecjfeaaGreatDoorRows
import Derived.Test.YtfdlaomnecjfeaaGreatDoorM1
import Derived.Test.YtfdlaomnecjfeaaGreatDoorM14
import Derived.Test.YtfdlaomnecjfeaaGreatDoorFgLawA
import Derived.Test.YtfdlaomnecjfeaaGreatDoorM18
import Derived.WalkKit
import Derived.ProofKit
import Derived.OpenShut
import Derived.Carry
import Derived.Below
set_option linter.unusedVariables false
namespace Go.Proofs.YtfdlaomnecjfeaaGreatDoor
open Go.ChangeShapes Go.WideShapes Go.ChangeAt Go.RowKit
set_option maxRecDepth 100000 in
theorem fgrepCuts_lifted (os:Os) (started:os.Started) (H:Type) (enc:TypeId × Value→H) :
    ReturnsInHanded {} Tryz.checked os 8 .any (fun w args=>(Rows.fgrepCutsSpec.pre enc Tryz.prog Tryz.f8 [] false w args∧laidMetH Tryz.prog ZdR w)∧sizedMet enc Tryz.prog Tryz.f8 (OpenSpec.ofChange Rows.fgrepCutsSpec) false w args) (Rows.fgrepCutsSpec.post enc Tryz.prog Tryz.f8 false true false false):=by
 refine returnsInHanded_of_change_and (C:=Tryz.checked) (X:=fun w _=>laidMetH Tryz.prog ZdR w) (fun _ _ _ hh h=>h.of_heap hh) own started (by kernel_rfl) Tryz.func8
  (ChangeSpec.witness_shaped (enc:=enc) (C:=Tryz.checked) (os:=os) (X:=fun w _=>laidMetH Tryz.prog ZdR w) false (World.doorLaid Tryz.prog 24 os) #[.slice none 0 0,.agg #[.bool false,.bool false,.bool false,.bool false,.bool false,.bool false,.bool false],.int .u8 0,.int .u8 0,.slice none 0 0,.slice none 0 0,.slice none 0 0] 8 rfl (World.shaped_of_RefB (by kernel_rfl) (by kernel_rfl)) (by kernel_rfl) (by kernel_rfl) (by kernel_rfl) (door_met os _)) ?_
 intro W base args ds gs before hval0 hW hcnd hsz0 hL _
 have hval:∀ (j:Nat) t v,Tryz.f8.params[j]? = some t→args[j]? = some v→Value.okWide Tryz.prog W .any base t v:=hval0
 have hW':=hW
 obtain ⟨p,q,hA0,hV,rfl,hfz,hnd⟩:=hW
 have hA:DataW.TrodAll enc Tryz.prog W 0 (fun _=>true) true Tryz.f8.params.toList args.toList ds p:=hA0
 rw [Tryz.params8] at hA hval
 obtain ⟨v0,vs0,d0,ds0,p0,q0,hargs,rfl,rfl,h0,r0⟩:=trodAll_cons hA
 obtain ⟨v1,vs1,d1,ds1,p1,q1,rfl,rfl,rfl,h1,r1⟩:=trodAll_cons r0
 obtain ⟨v2,vs2,d2,ds2,p2,q2,rfl,rfl,rfl,h2,r2⟩:=trodAll_cons r1
 obtain ⟨v3,vs3,d3,ds3,p3,q3,rfl,rfl,rfl,h3,r3⟩:=trodAll_cons r2
 obtain ⟨v4,vs4,d4,ds4,p4,q4,rfl,rfl,rfl,h4,r4⟩:=trodAll_cons r3
 obtain ⟨v5,vs5,d5,ds5,p5,q5,rfl,rfl,rfl,h5,r5⟩:=trodAll_cons r4
 obtain ⟨v6,vs6,d6,ds6,p6,q6,rfl,rfl,rfl,h6,r6⟩:=trodAll_cons r5
 obtain ⟨rfl,rfl,rfl⟩:=trodAll_nil r6
 obtain rfl:args=#[v0,v1,v2,v3,v4,v5,v6]:=by cases args;simp_all
 obtain ⟨rfl,rfl⟩:=trodVars_none hV
 have k0:=h0
 have lt0:∀ x∈p0,x.block<W.heap.size:=by obtain ⟨m,hm⟩:=k0;exact DataW.trod_lt m _ _ _ hm
 obtain ⟨A0,c0,l0,rfl,rr0,lc0,cm0,w0⟩:=Zea (hval 0 22 v0 rfl rfl) h0
 have k1:=h1
 have lt1:∀ x∈p1,x.block<W.heap.size:=by obtain ⟨m,hm⟩:=k1;exact DataW.trod_lt m _ _ _ hm
 obtain ⟨o1,rfl⟩:=arg_options (hval 1 24 v1 rfl rfl) h1
 obtain ⟨a2,rfl,rfl,rfl,w2⟩:=open_int Tryz.underlying5 (hval 2 5 v2 rfl rfl) h2
 obtain ⟨a3,rfl,rfl,rfl,w3⟩:=open_int Tryz.underlying5 (hval 3 5 v3 rfl rfl) h3
 have k4:=h4
 have lt4:∀ x∈p4,x.block<W.heap.size:=by obtain ⟨m,hm⟩:=k4;exact DataW.trod_lt m _ _ _ hm
 obtain ⟨A4,c4,l4,rfl,rr4,lc4,cm4,w4⟩:=Zea (hval 4 22 v4 rfl rfl) h4
 have k5:=h5
 have lt5:∀ x∈p5,x.block<W.heap.size:=by obtain ⟨m,hm⟩:=k5;exact DataW.trod_lt m _ _ _ hm
 obtain ⟨A5,c5,l5,rfl,rr5,lc5,cm5,w5⟩:=ZcP Tryz.underlying45 Tryz.underlying3 (by kernel_rfl) (hval 5 45 v5 rfl rfl) h5
 have k6:=h6
 have lt6:∀ x∈p6,x.block<W.heap.size:=by obtain ⟨m,hm⟩:=k6;exact DataW.trod_lt m _ _ _ hm
 obtain ⟨A6,c6,l6,rfl,rr6,lc6,cm6,w6⟩:=ZcP Tryz.underlying45 Tryz.underlying3 (by kernel_rfl) (hval 6 45 v6 rfl rfl) h6
 clear hA0 hval0
 refine (cuts_said A0 c0 l0 o1 a2 a3 A4 c4 l4 A5 c5 l5 A6 c6 l6 W rr0 lc0 cm0 w2 w3 rr4 lc4 cm4 rr5 lc5 cm5 w5 rr6 lc6 cm6 w6 (tab_of_laid hL)).mono fun e W' ⟨he,bel⟩=>?_
 subst he
 exact ⟨_,rfl,_,_,_,[],_,[],hW',trodAll_mk1 (shut_bool Tryz.underlying4 _),(trodAll_cons_mk (Below.trod Zao (by kernel_rfl) (of_decide_eq_true (by kernel_rfl)) k0 bel lt0) (trodAll_cons_mk (Below.trod Zao (by kernel_rfl) (of_decide_eq_true (by kernel_rfl)) k1 bel lt1) (trodAll_cons_mk (shut_int Tryz.underlying5 w2) (trodAll_cons_mk (shut_int Tryz.underlying5 w3) (trodAll_cons_mk (Below.trod Zao (by kernel_rfl) (of_decide_eq_true (by kernel_rfl)) k4 bel lt4) (trodAll_cons_mk (Below.trod Zao (by kernel_rfl) (of_decide_eq_true (by kernel_rfl)) k5 bel lt5) (trodAll_cons_mk (Below.trod Zao (by kernel_rfl) (of_decide_eq_true (by kernel_rfl)) k6 bel lt6) trodAll_mk0))))))),rfl,bel.frame _,fun h=>by cases h⟩
set_option maxHeartbeats 4000000 in
theorem fgrepCuts_joined:joinedFacts Tryz.pinned.checked.prog 8 Tryz.f8 Rows.fgrepCutsSpec Rows.fgrepCutsRow=true:=by
 unfold joinedFacts
 simp only [Bool.and_eq_true]
 and_intros
 · as_aux_lemma=>kernel_rfl
 · exact jp_laid
 · exact jp_maps
 · as_aux_lemma=>kernel_rfl
 · as_aux_lemma=>kernel_rfl
 · as_aux_lemma=>kernel_rfl
 · as_aux_lemma=>kernel_rfl
 · as_aux_lemma=>kernel_rfl
 · as_aux_lemma=>kernel_rfl
 · as_aux_lemma=>kernel_rfl
 · as_aux_lemma=>kernel_rfl
 · as_aux_lemma=>kernel_rfl
 · as_aux_lemma=>kernel_rfl
 · as_aux_lemma=>kernel_rfl
 · as_aux_lemma=>kernel_rfl
 · as_aux_lemma=>kernel_rfl
 · as_aux_lemma=>kernel_rfl
 · as_aux_lemma=>kernel_rfl
 · as_aux_lemma=>kernel_rfl
 · as_aux_lemma=>kernel_rfl
 · as_aux_lemma=>kernel_rfl
 · as_aux_lemma=>kernel_rfl
 · exact jp_keys
 · as_aux_lemma=>kernel_rfl
 · exact jp_heard
 · exact jp_enter
 · exact jp_lifts
 · as_aux_lemma=>kernel_rfl
 · as_aux_lemma=>kernel_rfl
 · as_aux_lemma=>kernel_rfl
 · as_aux_lemma=>kernel_rfl
 · as_aux_lemma=>kernel_rfl
theorem fgrepCuts_holds:Rows.FgrepCutsSaid :=
 OpenClaim.holds_of_wide 8 Tryz.f8 rfl rfl rfl rfl rfl rfl rfl ⟨rfl,rfl,rfl,rfl,rfl⟩ rfl rfl rfl rfl rfl (by kernel_rfl) Tryz.func8 fgrepCuts_joined
  (of_decide_eq_true (by kernel_rfl)) (by unfold Func.isWrapper;first | (rw [if_pos (by decide +kernel)];kernel_rfl) | (rw [if_neg (by decide +kernel)];exact ⟨rfl,rfl⟩))
  (fun os started H enc _=>fgrepCuts_lifted os started H enc)
theorem fgrepCuts_card_holds:Rows.FgrepCutsCardSaid :=
 Claim7.holds_tied_plain_at .later [] [.data,.data,.data] true Rows.fgrepCutsCard.stood.harness true
  fgrepCuts_holds (fun _ h=>by cases h) (by as_aux_lemma=>kernel_rfl) (fun _ h=>by cases h) fgrepCuts_row_tie rfl ⟨rfl,rfl⟩ (by as_aux_lemma=>kernel_rfl) rfl
  (fun f fn hf hfn=>by
   obtain rfl : f = 8 := Option.some.inj ((show Tryz.prog.funcNamed "seine/seinelaw25.FgrepCuts" = some 8 by as_aux_lemma => kernel_rfl).symm.trans hf) |>.symm
   obtain rfl:fn=Tryz.f8:=(Option.some.inj (Tryz.func8.symm.trans hfn)).symm
   exact ⟨by as_aux_lemma=>kernel_rfl,fun j t ht=>by
    have hall:(Tryz.f8.params.toList.all fun u=>!Tryz.prog.wantsStandIn u)=true:=by as_aux_lemma=>kernel_rfl
    have hm:t∈Tryz.f8.params.toList:=by simpa using Array.mem_of_getElem? ht
    exact (show Tryz.prog.wantsStandIn t=false by simpa using List.all_eq_true.1 hall t hm)⟩)
  (by as_aux_lemma=>kernel_rfl)
#print axioms fgrepCuts_card_holds
end Go.Proofs.YtfdlaomnecjfeaaGreatDoor
