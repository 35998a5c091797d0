/- Joined texts: WLast, WQPut, WApart, WArr, WZeros, WFoot, WKept, WShare, WN, WNEv, WMore, Str, App, Meter, SortPure, EngPure. -/
import Derived.OrdersHeld
import Derived.Deep.RegionHeld3
import Derived.Laws.BitsLemmas
import Derived.RowKit
import Derived.Test.YtdiljmhikajjiaaGreatM3
import Derived.Test.YtdiljmhikajjiaaGreatM1
import Derived.ArgAppend
import Derived.Deep.QuietTactic
import Derived.BigQuiet
import Derived.Laws.StructEq
import Derived.WalkSpells
set_option linter.unusedVariables false
set_option linter.unusedSimpArgs false
section
namespace Go.Proofs.YtdiljmhikajjiaaGreatW.PrintLast
section
variable {P : Program} {ops : Array Oper} {Q : Exit → Act → World → Prop} {md : Region.Mode} {S : World → Prop} {ds : List Nat}
/-- Operation d waits for operation i, by a chain of at most 'fuel' edges. -/
def Region.reachB (md : Region.Mode) (ops : Array Oper) (i : Nat) : Nat → Nat → Bool
  | 0, _ => false
  | fuel + 1, d => match ops[d]? with
    | some o => o.after.any fun e => Region.binds md e && (e.on == i || Region.reachB md ops i fuel e.on)
    | none => false
/-- What is listed is closed under the edges. -/
def Region.closedB (md : Region.Mode) (ops : Array Oper) (listed : Array Bool) : Bool :=
  (List.range ops.size).all fun j => !listed.getD j false || match ops[j]? with
    | some o => o.after.all fun e => !Region.binds md e || listed.getD e.on false
    | none => true
/-- Each of ds that has not come up yet waits for number i. -/
def Region.lastB (md : Region.Mode) (ops : Array Oper) (listed : Array Bool) (ds : List Nat) (i : Nat) : Bool :=
  ds.all fun d => listed.getD d true || Region.reachB md ops i ops.size d
def ListedClosed (md : Region.Mode) (ops : Array Oper) (listed : Array Bool) : Prop :=
  ∀ j oj, ops[j]? = some oj → listed.getD j false = true → ∀ e ∈ oj.after, Region.binds md e = true → listed.getD e.on false = true
theorem Region.closedB_spec {listed : Array Bool} (h : Region.closedB md ops listed = true) : ListedClosed md ops listed := by
  intro j oj hj hl e he hb
  have hlt : j < ops.size := (Array.getElem?_eq_some_iff.1 hj).1
  have h1 := List.all_eq_true.1 h j (List.mem_range.2 hlt)
  simp only [hl, hj, Bool.not_true, Bool.false_or] at h1
  have h2 := Array.all_eq_true_iff_forall_mem.1 h1 e he
  simpa [hb] using h2
theorem ListedClosed.set {listed : Array Bool} {i : Nat} (h : ListedClosed md ops listed) (hi : i ∈ Region.ready md ops listed) : ListedClosed md ops (listed.setIfInBounds i true) := by
  obtain ⟨_, oi, hoi, hall⟩ := mem_ready.1 hi
  intro j oj hj hl e he hb
  by_cases hij : i = j
  · subst hij
    have : oj = oi := Option.some.inj (hj.symm.trans hoi)
    subst this
    exact getD_set_true (hall e he hb)
  · rw [getD_set_ne false hij] at hl
    exact getD_set_true (h j oj hj hl e he hb)
theorem Region.reach_listed {listed : Array Bool} {i : Nat} (hc : ListedClosed md ops listed) : ∀ (fuel d : Nat), Region.reachB md ops i fuel d = true → listed.getD d false = true → listed.getD i false = true
  | 0, _, h, _ => by simp [Region.reachB] at h
  | fuel + 1, d, h, hl => by
    unfold Region.reachB at h
    cases ho : ops[d]? with
    | none => rw [ho] at h; simp at h
    | some o =>
      rw [ho] at h
      obtain ⟨e, he, h1⟩ := Array.any_eq_true'.1 h
      simp only [Bool.and_eq_true, Bool.or_eq_true, beq_iff_eq] at h1
      have hle := hc d o ho hl e he h1.1
      rcases h1.2 with h2 | h2
      · rw [← h2]; exact hle
      · exact Region.reach_listed hc fuel e.on h2 hle
/-- What waits for i cannot come up before i is listed. -/
theorem Region.reach_not_ready {listed : Array Bool} {i d fuel : Nat} (hc : ListedClosed md ops listed) (hr : Region.reachB md ops i fuel d = true) (hun : listed.getD i true = false) : d ∉ Region.ready md ops listed := by
  intro hd
  obtain ⟨_, o, ho, hall⟩ := mem_ready.1 hd
  have hi : listed.getD i false = true := by
    cases fuel with
    | zero => simp [Region.reachB] at hr
    | succ n =>
      unfold Region.reachB at hr
      rw [ho] at hr
      obtain ⟨e, he, h1⟩ := Array.any_eq_true'.1 hr
      simp only [Bool.and_eq_true, Bool.or_eq_true, beq_iff_eq] at h1
      have hle := hall e he h1.1
      rcases h1.2 with h2 | h2
      · rw [← h2]; exact hle
      · exact Region.reach_listed hc n e.on h2 hle
  rcases Nat.lt_or_ge i listed.size with h' | h'
  · simp [h'] at hun hi
    rw [hun] at hi
    cases hi
  · simp [Array.getElem?_eq_none h'] at hun
/-- Whatever order is picked from here on, AND 'S' HOLDS BEHIND EVERY OPERATION THAT IS CARRIED OUT, those of ds apart. -/
def wpAnyLast (P : Program) (md : Region.Mode) (ops : Array Oper) (Q : Exit → Act → World → Prop) (S : World → Prop) (ds : List Nat) : Nat → Array Bool → Act → World → Prop
  | 0, listed, a, w => Region.ready md ops listed = [] ∧ Q .normal a w
  | fuel + 1, listed, a, w =>
    (Region.ready md ops listed = [] → Q .normal a w) ∧
    ∀ i ∈ Region.ready md ops listed, wpOp P ops Q i (fun a' w' => (i ∉ ds → S w → S w') ∧ wpAnyLast P md ops Q S ds fuel (listed.setIfInBounds i true) a' w') a w
theorem wpAny_of_last : ∀ (fuel : Nat) (listed : Array Bool) (a : Act) (w : World), wpAnyLast P md ops Q S ds fuel listed a w → wpAny P md ops Q fuel listed a w
  | 0, _, _, _, h => h
  | fuel + 1, _, _, _, h => ⟨h.1, fun i hi => wpOp_mono (fun a' w' h' => wpAny_of_last fuel _ a' w' h'.2) (h.2 i hi)⟩
theorem wpAnyLast_first {i : Nat} {oi : Oper} {v : Value} (hi : ops[i]? = some oi) (hsel : ∀ (j : Nat) (o : Oper) cs b, ops[j]? = some o → o.op ≠ .select cs b)
    (hQ : ∀ c a w, Q (.panic c) (a.put oi.dst v) w → Q (.panic c) a w) (n : Nat) :
    ∀ (fuel : Nat) (listed : Array Bool) (a : Act) (w : World),
      (∀ j oj, ops[j]? = some oj → j ≠ i → listed.getD j true = false → (∀ e ∈ oj.after, Region.binds md e = true → e.on ≠ i) → oi.apart ops oj = true) →
      ListedClosed md ops listed → (∀ d ∈ ds, listed.getD d true = false → Region.reachB md ops i n d = true) →
      i ∈ Region.ready md ops listed → YieldsIf P ops S oi v a → S w →
      wpAnyLast P md ops Q S ds fuel (listed.setIfInBounds i true) (a.put oi.dst v) w → wpAnyLast P md ops Q S ds (fuel + 1) listed a w := by
  intro fuel
  induction fuel with
  | zero =>
    intro listed a w _ _ _ hr hy hS H
    refine ⟨fun h => (by rw [h] at hr; cases hr), fun j hj => ?_⟩
    by_cases hji : j = i
    · subst hji; exact hy.wpOp hi hS ⟨fun _ h => h, H⟩
    · have := ready_mono hj hji
      rw [H.1] at this
      cases this
  | succ fuel ih =>
    intro listed a w hfree hc hd hr hy hS H
    refine ⟨fun h => (by rw [h] at hr; cases hr), fun j hj => ?_⟩
    by_cases hji : j = i
    · subst hji; exact hy.wpOp hi hS ⟨fun _ h => h, H⟩
    · have h1 := H.2 j (ready_mono hj hji)
      obtain ⟨hjun, oj, hoj, hall⟩ := mem_ready.1 hj
      have hiun := (mem_ready.1 hr).1
      have hnot : ∀ e ∈ oj.after, Region.binds md e = true → e.on ≠ i := fun e he hb heq => by
        have h1 := hall e he hb
        rw [heq] at h1
        rcases Nat.lt_or_ge i listed.size with h' | h'
        · simp [h'] at hiun h1; rw [hiun] at h1; cases h1
        · simp [Array.getElem?_eq_none h'] at h1
      have hjd : j ∉ ds := fun hm => Region.reach_not_ready hc (hd j hm hjun) hiun hj
      have h2 := wpOp_putIf hoj (hfree j oj hoj hji hjun hnot) (fun cs b => hsel i oi cs b hi) (fun cs b => hsel j oj cs b hoj) hQ hy h1
      have hfree' : ∀ k ok, ops[k]? = some ok → k ≠ i → (listed.setIfInBounds j true).getD k true = false →
          (∀ e ∈ ok.after, Region.binds md e = true → e.on ≠ i) → oi.apart ops ok = true := fun k ok hk hki hun hno => by
        refine hfree k ok hk hki ?_ hno
        by_cases hjk : j = k
        · subst hjk; exact hjun
        · rw [getD_set_ne true hjk] at hun; exact hun
      have hd' : ∀ d ∈ ds, (listed.setIfInBounds j true).getD d true = false → Region.reachB md ops i n d = true := fun d hm hun => by
        refine hd d hm ?_
        by_cases hjk : j = d
        · subst hjk; exact hjun
        · rw [getD_set_ne true hjk] at hun; exact hun
      refine wpOp_mono (fun a' w' h3 => ⟨h3.2.1, ih (listed.setIfInBounds j true) a' w' hfree' (hc.set hj) hd' (ready_mono hr (Ne.symm hji)) h3.1 (h3.2.1 hjd hS) ?_⟩) h2
      rw [Array.setIfInBounds_comm _ _ hji]
      exact h3.2.2
/-- Take number 'i' first, which yields whatever the world: no S is asked for, nor that anything waits for it. -/
theorem wpAnyLast_any {i : Nat} {oi : Oper} {v : Value} (hi : ops[i]? = some oi) (hsel : ∀ (j : Nat) (o : Oper) cs b, ops[j]? = some o → o.op ≠ .select cs b)
    (hQ : ∀ c a w, Q (.panic c) (a.put oi.dst v) w → Q (.panic c) a w) :
    ∀ (fuel : Nat) (listed : Array Bool) (a : Act) (w : World),
      (∀ j oj, ops[j]? = some oj → j ≠ i → listed.getD j true = false → (∀ e ∈ oj.after, Region.binds md e = true → e.on ≠ i) → oi.apart ops oj = true) →
      i ∈ Region.ready md ops listed → Yields P ops oi v a →
      wpAnyLast P md ops Q S ds fuel (listed.setIfInBounds i true) (a.put oi.dst v) w → wpAnyLast P md ops Q S ds (fuel + 1) listed a w := by
  intro fuel
  induction fuel with
  | zero =>
    intro listed a w _ hr hy H
    refine ⟨fun h => (by rw [h] at hr; cases hr), fun j hj => ?_⟩
    by_cases hji : j = i
    · subst hji; exact (hy.yieldsIf (S := fun _ => True)).wpOp hi trivial ⟨fun _ h => h, H⟩
    · have := ready_mono hj hji
      rw [H.1] at this
      cases this
  | succ fuel ih =>
    intro listed a w hfree hr hy H
    refine ⟨fun h => (by rw [h] at hr; cases hr), fun j hj => ?_⟩
    by_cases hji : j = i
    · subst hji; exact (hy.yieldsIf (S := fun _ => True)).wpOp hi trivial ⟨fun _ h => h, H⟩
    · have h1 := H.2 j (ready_mono hj hji)
      obtain ⟨hjun, oj, hoj, hall⟩ := mem_ready.1 hj
      have hiun := (mem_ready.1 hr).1
      have hnot : ∀ e ∈ oj.after, Region.binds md e = true → e.on ≠ i := fun e he hb heq => by
        have h1 := hall e he hb
        rw [heq] at h1
        rcases Nat.lt_or_ge i listed.size with h' | h'
        · simp [h'] at hiun h1; rw [hiun] at h1; cases h1
        · simp [Array.getElem?_eq_none h'] at h1
      have h2 := wpOp_put hoj (hfree j oj hoj hji hjun hnot) (fun cs b => hsel i oi cs b hi) (fun cs b => hsel j oj cs b hoj) hQ hy h1
      have hfree' : ∀ k ok, ops[k]? = some ok → k ≠ i → (listed.setIfInBounds j true).getD k true = false →
          (∀ e ∈ ok.after, Region.binds md e = true → e.on ≠ i) → oi.apart ops ok = true := fun k ok hk hki hun hno => by
        refine hfree k ok hk hki ?_ hno
        by_cases hjk : j = k
        · subst hjk; exact hjun
        · rw [getD_set_ne true hjk] at hun; exact hun
      refine wpOp_mono (fun a' w' h3 => ⟨h3.2.1, ih (listed.setIfInBounds j true) a' w' hfree' (ready_mono hr (Ne.symm hji)) h3.1 ?_⟩) h2
      rw [Array.setIfInBounds_comm _ _ hji]
      exact h3.2.2
/-- Take number 'i' first. -/
theorem wpAnyLast_take {i : Nat} {oi : Oper} {v : Value} {fuel : Nat} {listed : Array Bool} {a : Act} {w : World} (hi : ops[i]? = some oi)
    (hs : Region.noSelect ops = true) (hf : Region.free md ops listed i = true) (hr : (Region.ready md ops listed).contains i = true)
    (hc : Region.closedB md ops listed = true) (hl : Region.lastB md ops listed ds i = true)
    (hQ : ∀ c a w, Q (.panic c) (a.put oi.dst v) w → Q (.panic c) a w) (hy : YieldsIf P ops S oi v a) (hS : S w)
    (h : wpAnyLast P md ops Q S ds fuel (listed.setIfInBounds i true) (a.put oi.dst v) w) : wpAnyLast P md ops Q S ds (fuel + 1) listed a w :=
  wpAnyLast_first hi (Region.noSelect_spec hs) hQ ops.size fuel listed a w (Region.free_spec hi hf) (Region.closedB_spec hc)
    (fun d hm hun => by have := List.all_eq_true.1 hl d hm; rw [hun] at this; simpa using this) (by simpa using hr) hy hS h
theorem wpAnyLast_all {rs : List Nat} {fuel : Nat} {listed : Array Bool} {a : Act} {w : World} (hr : Region.ready md ops listed = rs) (hne : rs ≠ [])
    (h : ∀ i ∈ rs, wpOp P ops Q i (fun a' w' => (i ∉ ds → S w → S w') ∧ wpAnyLast P md ops Q S ds fuel (listed.setIfInBounds i true) a' w') a w) : wpAnyLast P md ops Q S ds (fuel + 1) listed a w :=
  ⟨fun h0 => absurd (hr ▸ h0) hne, hr ▸ h⟩
theorem wpAnyLast_done {listed : Array Bool} {a : Act} {w : World} (hr : Region.ready md ops listed = []) (h : Q .normal a w) :
    ∀ fuel, wpAnyLast P md ops Q S ds fuel listed a w
  | 0 => ⟨hr, h⟩
  | _ + 1 => ⟨fun _ => h, by rw [hr]; simp⟩
theorem wp_region_last {id : Nat} {a : Act} {w : World} (hm : P.follows .mixedOrders = true)
    (h : wpAnyLast P .any ops Q S ds ops.size (Array.replicate ops.size false) a { w with drawn := w.drawn + 1 }) : (Code.region id ops true).wp P Q a w :=
  wp_region_any hm (wpAny_of_last _ _ _ _ h)
end
section
variable {P : Program} {ops : Array Oper} {Q : Exit → Act → World → Prop} {md : Region.Mode} {S : World → Prop} {ds : List Nat}
def AllReadyL (P : Program) (md : Region.Mode) (ops : Array Oper) (Q : Exit → Act → World → Prop) (S : World → Prop) (ds : List Nat) (fuel : Nat) (listed : Array Bool) (a : Act) (w : World) (rs : List Nat) : Prop :=
  ∀ i ∈ rs, wpOp P ops Q i (fun a' w' => (i ∉ ds → S w → S w') ∧ wpAnyLast P md ops Q S ds fuel (listed.setIfInBounds i true) a' w') a w
theorem AllReadyL.nil {fuel : Nat} {listed : Array Bool} {a : Act} {w : World} : AllReadyL P md ops Q S ds fuel listed a w [] := fun _ h => by cases h
theorem AllReadyL.cons {fuel : Nat} {listed : Array Bool} {a : Act} {w : World} {i : Nat} {o : Oper} {rs : List Nat} (ho : ops[i]? = some o) (hd : i ∉ ds)
    (h : ∀ K' : Act → World → Prop, Shut (∀ a w, S w → (S w → wpAnyLast P md ops Q S ds fuel (listed.setIfInBounds i true) a w) → K' a w) → if Region.wanted o (yielded ops a.tmps) = true then Oper.wp P o a w K' Q else K' (a.put o.dst undef) w)
    (hs : AllReadyL P md ops Q S ds fuel listed a w rs) : AllReadyL P md ops Q S ds fuel listed a w (i :: rs) := fun j hj => by
  rcases List.mem_cons.1 hj with rfl | hj
  · exact wpOp_step ho (fun K' hK => h K' (fun a w hS hW => hK a w ⟨fun _ _ => hS, hW hS⟩))
  · exact hs j hj
/-- Behind an operation of ds nothing is shown. -/
theorem AllReadyL.cons_last {fuel : Nat} {listed : Array Bool} {a : Act} {w : World} {i : Nat} {o : Oper} {rs : List Nat} (ho : ops[i]? = some o) (hd : i ∈ ds)
    (h : ∀ K' : Act → World → Prop, Shut (∀ a w, wpAnyLast P md ops Q S ds fuel (listed.setIfInBounds i true) a w → K' a w) → if Region.wanted o (yielded ops a.tmps) = true then Oper.wp P o a w K' Q else K' (a.put o.dst undef) w)
    (hs : AllReadyL P md ops Q S ds fuel listed a w rs) : AllReadyL P md ops Q S ds fuel listed a w (i :: rs) := fun j hj => by
  rcases List.mem_cons.1 hj with rfl | hj
  · exact wpOp_step ho (fun K' hK => h K' (fun a w hW => hK a w ⟨fun hn => absurd hd hn, hW⟩))
  · exact hs j hj
theorem wpAnyLast_ready {rs : List Nat} {fuel : Nat} {listed : Array Bool} {a : Act} {w : World} (hr : Region.ready md ops listed = rs) (hne : rs ≠ [])
    (h : AllReadyL P md ops Q S ds fuel listed a w rs) : wpAnyLast P md ops Q S ds (fuel + 1) listed a w := wpAnyLast_all hr hne h
/-- THE SAME STEPS WITH WHAT HAS COME UP WRITTEN OUT (a literal array of Bools) and one check a step: quicker, and what is printed stays short. -/
theorem start_ {id n : Nat} {a : Act} {w : World} (l : Array Bool) (hm : P.follows .mixedOrders = true) (hn : ops.size = n) (hl : Array.replicate n false = l) (hS : S w.drew)
    (h : S w.drew → wpAnyLast P .any ops Q S ds n l a w.drew) : (Code.region id ops true).wp P Q a w := by
  subst hn
  subst hl
  exact wp_region_last hm (h hS)
def takeB (md : Region.Mode) (ops : Array Oper) (ds : List Nat) (l l' : Array Bool) (i : Nat) : Bool :=
  Region.noSelect ops && Region.free md ops l i && (Region.ready md ops l).contains i && Region.closedB md ops l && Region.lastB md ops l ds i && (l.setIfInBounds i true == l')
theorem take_ {i : Nat} {N : Option Tmp} {oi : Oper} {v : Value} {fuel : Nat} {l : Array Bool} {a : Act} {w : World} (l' : Array Bool) (hi : ops[i]? = some oi) (hN : oi.dst = N) (hc : takeB md ops ds l l' i = true)
    (hQ : ∀ c a w, Q (.panic c) (a.put oi.dst v) w → Q (.panic c) a w) (hy : YieldsIf P ops S oi v a) (hS : S w) {a' : Act} (ha : a.put N v = a')
    (h : wpAnyLast P md ops Q S ds fuel l' a' w) : wpAnyLast P md ops Q S ds (fuel + 1) l a w := by
  subst ha
  subst hN
  simp only [takeB, Bool.and_eq_true, beq_iff_eq] at hc
  obtain ⟨⟨⟨⟨⟨h1, h2⟩, h3⟩, h4⟩, h5⟩, h6⟩ := hc
  subst h6
  exact wpAnyLast_take hi h1 h2 h3 h4 h5 hQ hy hS h
def anyB (md : Region.Mode) (ops : Array Oper) (l l' : Array Bool) (i : Nat) : Bool :=
  Region.noSelect ops && Region.free md ops l i && (Region.ready md ops l).contains i && (l.setIfInBounds i true == l')
/-- An operation that yields in every world (a move, a number, an address): taken first wherever it may come up, behind a store too. -/
theorem pure_ {i : Nat} {N : Option Tmp} {oi : Oper} {v : Value} {fuel : Nat} {l : Array Bool} {a : Act} {w : World} (l' : Array Bool) (hi : ops[i]? = some oi) (hN : oi.dst = N) (hc : anyB md ops l l' i = true)
    (hQ : ∀ c a w, Q (.panic c) (a.put oi.dst v) w → Q (.panic c) a w) (hy : Yields P ops oi v a) {a' : Act} (ha : a.put N v = a')
    (h : wpAnyLast P md ops Q S ds fuel l' a' w) : wpAnyLast P md ops Q S ds (fuel + 1) l a w := by
  subst ha
  subst hN
  simp only [anyB, Bool.and_eq_true, beq_iff_eq] at hc
  obtain ⟨⟨⟨h1, h2⟩, h3⟩, h6⟩ := hc
  subst h6
  exact wpAnyLast_any hi (Region.noSelect_spec h1) hQ fuel l a w (Region.free_spec hi h2) (by simpa using h3) hy h
def readyB (md : Region.Mode) (ops : Array Oper) (l l' : Array Bool) (i : Nat) : Bool := (Region.ready md ops l == [i]) && (l.setIfInBounds i true == l')
/-- One operation alone may come up now (a call, a build, an append ..): it is run, S is shown behind it. -/
theorem one_ {i : Nat} {N : Option Tmp} {oi : Oper} {fuel : Nat} {l : Array Bool} {a : Act} {w : World} (l' : Array Bool) (hi : ops[i]? = some oi) (hN : oi.dst = N) (hc : readyB md ops l l' i = true) (hd : i ∉ ds)
    (h : ∀ K : Act → World → Prop, Shut (∀ a' w', S w' → (S w' → wpAnyLast P md ops Q S ds fuel l' a' w') → K a' w') → if Region.wanted oi (yielded ops a.tmps) = true then Oper.wp P oi a w K Q else K (a.put N undef) w) :
    wpAnyLast P md ops Q S ds (fuel + 1) l a w := by
  subst hN
  simp only [readyB, Bool.and_eq_true, beq_iff_eq] at hc
  obtain ⟨h1, h2⟩ := hc
  subst h2
  exact wpAnyLast_ready h1 (by simp) (AllReadyL.cons hi hd (fun K hK => h K hK) AllReadyL.nil)
/-- The same for one of ds: nothing is shown behind it. -/
theorem last_ {i : Nat} {N : Option Tmp} {oi : Oper} {fuel : Nat} {l : Array Bool} {a : Act} {w : World} (l' : Array Bool) (hi : ops[i]? = some oi) (hN : oi.dst = N) (hc : readyB md ops l l' i = true) (hd : i ∈ ds)
    (h : ∀ K : Act → World → Prop, Shut (∀ a' w', wpAnyLast P md ops Q S ds fuel l' a' w' → K a' w') → if Region.wanted oi (yielded ops a.tmps) = true then Oper.wp P oi a w K Q else K (a.put N undef) w) :
    wpAnyLast P md ops Q S ds (fuel + 1) l a w := by
  subst hN
  simp only [readyB, Bool.and_eq_true, beq_iff_eq] at hc
  obtain ⟨h1, h2⟩ := hc
  subst h2
  exact wpAnyLast_ready h1 (by simp) (AllReadyL.cons_last hi hd (fun K hK => h K hK) AllReadyL.nil)
theorem done_ {l : Array Bool} {a : Act} {w : World} {n : Nat} (hr : (Region.ready md ops l == []) = true) (h : Q .normal a w) : wpAnyLast P md ops Q S ds n l a w := wpAnyLast_done (by simpa using hr) h n
/-- The act written out. -/
theorem norm_ {fuel : Nat} {l : Array Bool} {a a' : Act} {w : World} (ha : a = a') (h : wpAnyLast P md ops Q S ds fuel l a' w) : wpAnyLast P md ops Q S ds fuel l a w := by
  subst ha
  exact h
/-- A call of a Go function, by its contract. -/
theorem call_ {oi : Oper} {N : Option Tmp} {a : Act} {w : World} {K : Act → World → Prop} (f : FuncId) (args : Array Value) (hw : Region.wanted oi (yielded ops a.tmps) = true) (hN : oi.dst = N) (hrun : (execOp a.eval oi).run P w = .ok (.enter f args) w)
    (h : Calls P f args w fun e w' => ∃ v, e = .returned v ∧ K (a.put N v) w') : if Region.wanted oi (yielded ops a.tmps) = true then Oper.wp P oi a w K Q else K (a.put N undef) w := by
  rw [if_pos hw]
  subst hN
  unfold Oper.wp
  rw [hrun, Oper.upon_enter]
  refine h.mono fun e w'' hh => ?_
  obtain ⟨v, rfl, hk⟩ := hh
  exact hk
theorem enters_ {f : FuncId} {fn : Func} (hf : P.funcs[f]? = some fn) (hname : (fn.name == "runtime.NumGoroutine") = false) (hb : fn.body.isSome = true) (args : Array Value) (w : World) : (callFunc f args).run P w = .ok (.enter f args) w := by
  have h1 : fn.name ≠ "runtime.NumGoroutine" := by simpa using hname
  obtain ⟨c, hc⟩ := Option.isSome_iff_exists.1 hb
  simp [callFunc, hf, h1, hc]
/-- The same, the operation's run shown here: 'goes_ A.func3 (by kernel_rfl) rfl #[..] (by rfl) rfl rfl (by rfl) ?_'. -/
theorem goes_ {oi : Oper} {N : Option Tmp} {a : Act} {w : World} {K : Act → World → Prop} {f : FuncId} {fn : Func} {asx : Array Operand} {ts : Array TypeId} (hf : P.funcs[f]? = some fn) (hname : (fn.name == "runtime.NumGoroutine") = false) (hb : fn.body.isSome = true) (args : Array Value)
    (hw : Region.wanted oi (yielded ops a.tmps) = true) (hN : oi.dst = N) (hop : oi.op = .call { callee := .value (.func f), args := asx, argTypes := ts }) (hargs : asx.map a.eval = args)
    (h : Calls P f args w fun e w' => ∃ v, e = .returned v ∧ K (a.put N v) w') : if Region.wanted oi (yielded ops a.tmps) = true then Oper.wp P oi a w K Q else K (a.put N undef) w := by
  refine call_ f args hw hN ?_ h
  have he := enters_ hf hname hb args w
  unfold execOp
  simp [hop, resolve, Deferred.ofValue, invoke, Act.eval, hargs, he]
/-- A call in a plain region, asx an arm of go_wp2_with ('hd' first: it fails at once at another operation). -/
theorem goesL_ {rest : List Oper} {oi : Oper} {a : Act} {w : World} (N : Option Tmp) (hd : oi.dst = N) (hg : oi.guard = none) {f : FuncId} {fn : Func} {asx : Array Operand} {ts : Array TypeId} (hf : P.funcs[f]? = some fn) (hname : (fn.name == "runtime.NumGoroutine") = false) (hb : fn.body.isSome = true) (args : Array Value)
    (hop : oi.op = .call { callee := .value (.func f), args := asx, argTypes := ts }) (hargs : asx.map a.eval = args)
    (h : Calls P f args w fun e w' => ∃ v, e = .returned v ∧ wpList P ops Q rest (a.put N v) w') : wpList P ops Q (oi :: rest) a w := by
  refine wpList_plain hg fun K hK => ?_
  have he := enters_ hf hname hb args w
  have hrun : (execOp a.eval oi).run P w = .ok (.enter f args) w := by
    unfold execOp
    simp [hop, resolve, Deferred.ofValue, invoke, Act.eval, hargs, he]
  unfold Oper.wp
  rw [hrun, Oper.upon_enter]
  refine h.mono fun e w'' hh => ?_
  obtain ⟨v, rfl, hk⟩ := hh
  subst hd
  exact hK _ _ hk
/-- An operation that yields a value (and may make memory). -/
theorem value_ {oi : Oper} {N : Option Tmp} {a : Act} {w w1 : World} {v : Value} {K : Act → World → Prop} (hw : Region.wanted oi (yielded ops a.tmps) = true) (hN : oi.dst = N) (hrun : (execOp a.eval oi).run P w = .ok (.value v) w1)
    (h : K (a.put N v) w1) : if Region.wanted oi (yielded ops a.tmps) = true then Oper.wp P oi a w K Q else K (a.put N undef) w := by
  rw [if_pos hw]
  subst hN
  unfold Oper.wp
  rw [hrun]
  exact h
/-- A store. -/
theorem skip_ {oi : Oper} {a : Act} {w w1 : World} {K : Act → World → Prop} (hw : Region.wanted oi (yielded ops a.tmps) = true) (hN : oi.dst = none) (hrun : (execOp a.eval oi).run P w = .ok .skip w1)
    (h : K a w1) : if Region.wanted oi (yielded ops a.tmps) = true then Oper.wp P oi a w K Q else K (a.put none undef) w := by
  rw [if_pos hw]
  unfold Oper.wp
  rw [hrun]
  show K (a.put oi.dst undef) w1
  rw [hN]
  exact h
theorem i64_w (n : Int) : IntKind.i64.wrap n = Go.RowKit.wrap64 n := by unfold Go.RowKit.wrap64; exact IntKind.wrap_i64 n
theorem i32_w (n : Int) : IntKind.i32.wrap n = Go.RowKit.wrap32 n := by unfold Go.RowKit.wrap32; exact IntKind.wrap_i32 n
end
end Go.Proofs.YtdiljmhikajjiaaGreatW.PrintLast
end
section
namespace Go.Proofs.YtdiljmhikajjiaaGreatW.PrintWords
open Go.RowKit
namespace Kd
section
variable {α : Type} {d : Kd α} {e base g o n cap : Nat} {ok okp : Nat → Prop} {w W : World} {v : Value} {xs : List α}
end
section
variable {α : Type} {enc : α → Value} {h1 : ∀ x, (enc x).oneCell' = true} {e base g o n cap : Nat} {ok : Nat → Prop} {W : World} {xs : List α}
end
end Kd
end Go.Proofs.YtdiljmhikajjiaaGreatW.PrintWords
end
section
namespace Go.Proofs.YtdiljmhikajjiaaGreatW.PrintWords
open Go.RowKit
namespace Kd
/-- An element with its index: its blocks are those that f gives to it. -/
def tag {α : Type} (f : Nat → Nat) (d : Kd α) : Kd (α × Nat) where
  sz := d.sz
  E := d.E
  K := fun w x cs => d.K w x.1 cs
  M := fun w base ok x cs => d.M w base (fun k => ok k ∧ f k = x.2) x.1 cs
  K_len := fun h => d.K_len h
  K_one := fun h => d.K_one h
  K_below := fun hb h => d.K_below hb h
  K_of_M := fun h => d.K_of_M h
  M_mono := fun hok h => d.M_mono (fun k hk => ⟨hok k hk.1, hk.2⟩) h
  M_bound := fun h => d.M_mono (fun _ hk => ⟨⟨hk.1.1, hk.2⟩, hk.1.2⟩) (d.M_bound h)
  M_move := fun hm h => d.M_move (fun k hk => hm k hk.1) h
  M_lower := fun hb h => d.M_lower hb h
/-- The cells themselves. -/
def raw (sz : Nat) : Kd (List Value) where
  sz := sz
  E := []
  K := fun _ x cs => cs = x ∧ cs.length = sz ∧ ∀ u ∈ cs, u.oneCell' = true
  M := fun _ _ _ x cs => cs = x ∧ cs.length = sz ∧ ∀ u ∈ cs, u.oneCell' = true
  K_len := fun h => h.2.1
  K_one := fun h => h.2.2
  K_below := fun _ h => h
  K_of_M := fun h => h
  M_mono := fun _ h => h
  M_bound := fun h => h
  M_move := fun _ h => h
  M_lower := fun _ h => h
/-- A row of elements (type e) of the call's own, no two of which lead to one block. -/
def S {α : Type} (d : Kd α) (e : Nat) (w : World) (base : Nat) (ok : Nat → Prop) (v : Value) (xs : List α) : Prop := ∃ f, (tag f d).R e w base ok v xs.zipIdx
section
variable {α β : Type} {d : Kd α} {d' : Kd β} {e e' : Nat} {w w1 W : World} {base b : Nat} {ok ok' okv oku : Nat → Prop} {u v : Value} {xs : List α} {ys : List β}
theorem S_nil (d : Kd α) (e : Nat) (w : World) (base : Nat) (ok : Nat → Prop) : S d e w base ok (.slice none 0 0) [] := ⟨fun _ => 0, R_nil _ _ _ _ _⟩
end
section
variable {α β : Type} {d : Kd α} {d' : Kd β} {e e' g : Nat} {w w1 W : World} {base b : Nat} {ok ok' okv oku : Nat → Prop} {u v : Value} {xs : List α} {ys : List β}
end
section
variable {P : Program} {ops : Array Oper} {rest : List Oper} {o : Oper} {a : Act} {Q : Exit → Act → World → Prop} {Kc : Act → World → Prop} {α : Type}
end
/-- Element i is these cells; the others are d's. -/
def gap {α : Type} (f : Nat → Nat) (d : Kd α) (i : Nat) (c : List Value) : Kd (α × Nat) where
  sz := d.sz
  E := d.E
  K := fun w x cs => (x.2 = i → cs = c ∧ cs.length = d.sz ∧ ∀ u ∈ cs, u.oneCell' = true) ∧ (x.2 ≠ i → d.K w x.1 cs)
  M := fun w base ok x cs => (x.2 = i → cs = c ∧ cs.length = d.sz ∧ ∀ u ∈ cs, u.oneCell' = true) ∧ (x.2 ≠ i → d.M w base (fun k => ok k ∧ f k = x.2) x.1 cs)
  K_len := fun {w x cs} h => by
    by_cases hx : x.2 = i
    · exact (h.1 hx).2.1
    · exact d.K_len (h.2 hx)
  K_one := fun {w x cs} h => by
    by_cases hx : x.2 = i
    · exact (h.1 hx).2.2
    · exact d.K_one (h.2 hx)
  K_below := fun hb h => ⟨h.1, fun hx => d.K_below hb (h.2 hx)⟩
  K_of_M := fun h => ⟨h.1, fun hx => d.K_of_M (h.2 hx)⟩
  M_mono := fun hok h => ⟨h.1, fun hx => d.M_mono (fun k hk => ⟨hok k hk.1, hk.2⟩) (h.2 hx)⟩
  M_bound := fun h => ⟨h.1, fun hx => d.M_mono (fun _ hk => ⟨⟨hk.1.1, hk.2⟩, hk.1.2⟩) (d.M_bound (h.2 hx))⟩
  M_move := fun hm h => ⟨h.1, fun hx => d.M_move (fun k hk => hm k hk.1) (h.2 hx)⟩
  M_lower := fun hb h => ⟨h.1, fun hx => d.M_lower hb (h.2 hx)⟩
def H {α : Type} (d : Kd α) (e : Nat) (w : World) (base : Nat) (ok : Nat → Prop) (v : Value) (xs : List α) (i : Int) (oki : Nat → Prop) (c : List Value) : Prop :=
  (∀ k, oki k → ok k) ∧ ∃ f, (gap f d i.toNat c).R e w base (fun k => ok k ∧ ¬ oki k) v xs.zipIdx
section
variable {α β : Type} {d : Kd α} {e e' g n cap : Nat} {w w1 W : World} {base : Nat} {ok ok' oki okp : Nat → Prop} {u v : Value} {xs : List α} {i : Int} {c : List Value}
end
section
variable {P : Program} {ops : Array Oper} {rest : List Oper} {o : Oper} {a : Act} {Q : Exit → Act → World → Prop} {α : Type}
end
end Kd
end Go.Proofs.YtdiljmhikajjiaaGreatW.PrintWords
end
section
namespace Go.Proofs.YtdiljmhikajjiaaGreatW.PrintWords
open Go.RowKit
namespace Kd
section
variable {α : Type} {n : Nat} {d : Kd α} {hs : 0 < d.sz} {w : World} {base : Nat} {ok : Nat → Prop} {xs : List α} {cs : List Value}
end
section
variable {α : Type} {n : Nat} {enc : α → Value} {h1 : ∀ x, (enc x).oneCell' = true} {hs : 0 < (scalar enc h1).sz} {w : World} {base : Nat} {ok : Nat → Prop} {xs : List α} {cs : List Value}
end
end Kd
end Go.Proofs.YtdiljmhikajjiaaGreatW.PrintWords
end
section
namespace Go.Proofs.YtdiljmhikajjiaaGreatW.PrintWords
open Go.RowKit
section
variable {P : Program}
end
namespace Kd
section
variable {P : Program} {ops : Array Oper} {rest : List Oper} {o : Oper} {a : Act} {Q : Exit → Act → World → Prop} {Kc : Act → World → Prop} {α : Type}
end
section
variable {α : Type} {d : Kd α} {e : Nat} {w : World} {base : Nat} {ok : Nat → Prop} {v : Value} {xs : List α}
end
section
variable {P : Program} {ops : Array Oper} {rest : List Oper} {o : Oper} {a : Act} {Q : Exit → Act → World → Prop} {Kc : Act → World → Prop} {α : Type}
end
end Kd
end Go.Proofs.YtdiljmhikajjiaaGreatW.PrintWords
end
section
namespace Go.Proofs.YtdiljmhikajjiaaGreatW.PrintWords
open Go.RowKit
namespace Kd
section
variable {α : Type} {d : Kd α} {e base g n c : Nat} {ok : Nat → Prop} {w w0 W : World} {A : Option Addr} {xs : List α}
end
end Kd
end Go.Proofs.YtdiljmhikajjiaaGreatW.PrintWords
end
section
namespace Go.Proofs.YtdiljmhikajjiaaGreatW.PrintWords
open Go.RowKit
section
variable {w W W2 : World} {S S2 S' : Nat → Prop}
end
namespace Kd
section
variable {α : Type} {d : Kd α} {e base n c : Nat} {ok oki S S2 : Nat → Prop} {w w0 W W1 W2 : World} {v : Value} {A : Option Addr} {xs : List α} {i : Int} {cs : List Value}
end
end Kd
end Go.Proofs.YtdiljmhikajjiaaGreatW.PrintWords
end
section
namespace Go.Proofs.YtdiljmhikajjiaaGreatW.PrintWords
open Go.RowKit
/-- P holds in W and in every world that has W's blocks of ok. -/
def Foot (P : World → Prop) (W : World) (ok : Nat → Prop) : Prop := ∀ W' : World, (∀ k, ok k → k < W.heap.size → W'.heap[k]? = W.heap[k]?) → P W'
theorem heap_lt {W W1 : World} {k : Nat} (h : W1.heap[k]? = W.heap[k]?) (hlt : k < W.heap.size) : k < W1.heap.size := by
  rw [Array.getElem?_eq_getElem hlt] at h
  exact (Array.getElem?_eq_some_iff.1 h).1
namespace Foot
variable {P Q : World → Prop} {W W1 : World} {ok ok' : Nat → Prop}
theorem now (h : Foot P W ok) : P W := h W (fun _ _ _ => rfl)
theorem mono (h : Foot P W ok) (hok : ∀ k, ok k → ok' k) : Foot P W ok' := fun W' hW => h W' (fun k hk hlt => hW k (hok k hk) hlt)
theorem bound (h : Foot P W ok) : Foot P W (fun k => ok k ∧ k < W.heap.size) := fun W' hW => h W' (fun k hk hlt => hW k ⟨hk, hlt⟩ hlt)
theorem step (h : Foot P W ok) (hm : ∀ k, ok k → k < W.heap.size → W1.heap[k]? = W.heap[k]?) : Foot P W1 ok := fun W' hW => h W' (fun k hk hlt => (hW k hk (heap_lt (hm k hk hlt) hlt)).trans (hm k hk hlt))
theorem imp (h : Foot P W ok) (hi : ∀ W', P W' → Q W') : Foot Q W ok := fun W' hW => hi W' (h W' hW)
/-- Moved, and still elder than what is new since W. -/
theorem old (h : Foot P W ok) (hb : Below W.heap.size W W1) : Foot P W1 (fun k => ok k ∧ k < W.heap.size) := (h.bound).step (fun k _ hlt => hb.block k hlt)
end Foot
namespace Kd
/-- A row that is only read: what it leads to lies in ok. -/
def F {α : Type} (d : Kd α) (W : World) (ok : Nat → Prop) (A : Option Addr) (n : Nat) (xs : List α) : Prop := Foot (fun W => d.C W A n xs) W ok
/-- An element's cells: what they lead to lies in ok. -/
def FK {α : Type} (d : Kd α) (W : World) (ok : Nat → Prop) (x : α) (c : List Value) : Prop := Foot (fun W => d.K W x c) W ok
section
variable {α β : Type} {d : Kd α} {e base n n' cc g N : Nat} {ok ok' okp S : Nat → Prop} {w w0 w1 W W1 : World} {A A' : Option Addr} {u v v1 : Value} {xs : List α} {xs' : List β} {d' : Kd β} {x : α} {c : List Value}
theorem F_nil (d : Kd α) (W : World) (ok : Nat → Prop) : F d W ok none ([] : List α).length [] := fun W' _ => C_nil d W'
theorem FK_of_M (h : d.M W base ok x c) : FK d W ok x c := fun _ hW => d.K_of_M (M_step h hW)
end
end Kd
end Go.Proofs.YtdiljmhikajjiaaGreatW.PrintWords
end
section
namespace Go.Proofs.YtdiljmhikajjiaaGreatW.PrintWords
open Go.RowKit
namespace Kd
/-- The cells one behind the other, element by element. -/
def chunks (sz : Nat) (n : Nat) (inner : List Value) : List (List Value) := (List.range n).map fun j => (inner.drop (j * sz)).take sz
theorem chunks_length (sz n : Nat) (inner : List Value) : (chunks sz n inner).length = n := by simp [chunks]
theorem chunks_at {sz n : Nat} {inner : List Value} {j : Nat} (hj : j < n) : (chunks sz n inner)[j]? = some ((inner.drop (j * sz)).take sz) := by simp [chunks, hj]
theorem chunks_get {sz n : Nat} {inner : List Value} {j : Nat} {c : List Value} (h : (chunks sz n inner)[j]? = some c) : c = (inner.drop (j * sz)).take sz := by
  have hj : j < n := by have := (List.getElem?_eq_some_iff.1 h).1; rwa [chunks_length] at this
  rw [chunks_at hj] at h
  injection h with h
  exact h.symm
theorem reps_raw {α : Type} {Rr : α → List Value → Prop} {sz : Nat} {xs : List α} {inner : List Value} (h : Reps Rr sz xs inner) (hR : ∀ x c, Rr x c → c.length = sz ∧ ∀ u ∈ c, u.oneCell' = true) : Reps (fun x cs => cs = x ∧ cs.length = sz ∧ ∀ u ∈ cs, u.oneCell' = true) sz (chunks sz xs.length inner) inner := by
  refine ⟨by rw [chunks_length]; exact h.1, fun j p hj => ?_⟩
  have hjl : j < xs.length := by have := (List.getElem?_eq_some_iff.1 hj).1; rwa [chunks_length] at this
  have hp := chunks_get hj
  exact ⟨hp.symm, hR _ _ (h.2 j _ (List.getElem?_eq_getElem hjl))⟩
section
variable {α : Type} {d : Kd α} {e base n cc g : Nat} {ok ok' okp S : Nat → Prop} {w w1 W W1 : World} {A : Option Addr} {u v v1 : Value} {xs : List α} {x : α} {c : List Value}
/-- A row of elements (type e) of the call's own; what the elements lead to is only read, and is not this row. -/
def N {α : Type} (d : Kd α) (e : Nat) (w : World) (base : Nat) (ok : Nat → Prop) (v : Value) (xs : List α) : Prop :=
  (∀ k, v.ownBlock = some k → ok k) ∧ ∃ rows : List (List Value), rows.length = xs.length ∧ (raw d.sz).R e w base (fun k => some k = v.ownBlock) v rows ∧ ∀ (j : Nat) (x : α) (c : List Value), xs[j]? = some x → rows[j]? = some c → FK d w (fun k => ok k ∧ some k ≠ v.ownBlock) x c
theorem R_N (h : d.R e w base ok v xs) : N d e w base ok v xs := by
  obtain ⟨h0, inner, ho, hr⟩ := h
  refine ⟨h0, chunks d.sz xs.length inner, chunks_length _ _ _, ⟨fun k hk => hk.symm, inner, by rw [chunks_length]; exact ho, reps_raw hr (fun x c hp => ⟨d.K_len (d.K_of_M hp), d.K_one (d.K_of_M hp)⟩)⟩, fun j x c hx hc => ?_⟩
  rw [chunks_get hc]
  exact FK_of_M (hr.2 j x hx)
theorem N_nil (d : Kd α) (e : Nat) (w : World) (base : Nat) (ok : Nat → Prop) : N d e w base ok (.slice none 0 0) [] := R_N (R_nil _ _ _ _ _)
end
end Kd
end Go.Proofs.YtdiljmhikajjiaaGreatW.PrintWords
end
section
namespace Go.Proofs.YtdiljmhikajjiaaGreatW.PrintWords
open Go.RowKit
namespace Kd
section
variable {α : Type} {d : Kd α} {e base n cap g : Nat} {ok ok' okp : Nat → Prop} {w w1 W : World} {v v1 : Value} {xs ys : List α}
end
section
variable {P : Program} {ops : Array Oper} {rest : List Oper} {o : Oper} {a : Act} {Q : Exit → Act → World → Prop} {Kc : Act → World → Prop} {α : Type}
end
end Kd
end Go.Proofs.YtdiljmhikajjiaaGreatW.PrintWords
end
section
namespace Go.Proofs.YtdiljmhikajjiaaGreatW.PrintMore
open Go.RowKit Go.Proofs.YtdiljmhikajjiaaGreatW.PrintWords
namespace Kd
open Go.Proofs.YtdiljmhikajjiaaGreatW.PrintWords.Kd
end Kd
namespace Kd
open Go.Proofs.YtdiljmhikajjiaaGreatW.PrintWords.Kd
section
variable {α : Type} {d : Kd α} {e base g N : Nat} {ok : Nat → Prop} {W w1 : World} {u v : Value} {xs : List α}
end
end Kd
/-- 'max' and 'min' of two whole numbers. -/
theorem max2_int (k k' : IntKind) (x y : Int) : Builtin.max2 (.int k x) (.int k' y) = pure (.int k (if x < y then y else x)) := by simp only [Builtin.max2, gt_iff_lt]
theorem min2_int (k k' : IntKind) (x y : Int) : Builtin.min2 (.int k x) (.int k' y) = pure (.int k (if y < x then y else x)) := by simp only [Builtin.min2]
theorem max_two (ats : Array TypeId) (ty : TypeId) (a b : Value) : Builtin.max_ ats ty #[a, b] = (Builtin.max2 a b >>= fun s => pure s) := by simp only [Builtin.max_, List.foldlM_cons, List.foldlM_nil]
theorem min_two (ats : Array TypeId) (ty : TypeId) (a b : Value) : Builtin.min_ ats ty #[a, b] = (Builtin.min2 a b >>= fun s => pure s) := by simp only [Builtin.min_, List.foldlM_cons, List.foldlM_nil]
theorem max_three (ats : Array TypeId) (ty : TypeId) (a b c : Value) : Builtin.max_ ats ty #[a, b, c] = (Builtin.max2 a b >>= fun s => Builtin.max2 s c >>= fun s => pure s) := by simp only [Builtin.max_, List.foldlM_cons, List.foldlM_nil]
theorem min_three (ats : Array TypeId) (ty : TypeId) (a b c : Value) : Builtin.min_ ats ty #[a, b, c] = (Builtin.min2 a b >>= fun s => Builtin.min2 s c >>= fun s => pure s) := by simp only [Builtin.min_, List.foldlM_cons, List.foldlM_nil]
theorem max_four (ats : Array TypeId) (ty : TypeId) (a b c d : Value) : Builtin.max_ ats ty #[a, b, c, d] = (Builtin.max2 a b >>= fun s => Builtin.max2 s c >>= fun s => Builtin.max2 s d >>= fun s => pure s) := by simp only [Builtin.max_, List.foldlM_cons, List.foldlM_nil]
theorem min_four (ats : Array TypeId) (ty : TypeId) (a b c d : Value) : Builtin.min_ ats ty #[a, b, c, d] = (Builtin.min2 a b >>= fun s => Builtin.min2 s c >>= fun s => Builtin.min2 s d >>= fun s => pure s) := by simp only [Builtin.min_, List.foldlM_cons, List.foldlM_nil]
end Go.Proofs.YtdiljmhikajjiaaGreatW.PrintMore
namespace Go.Proofs.YtdiljmhikajjiaaGreatW.PrintWords
open Go.RowKit
section
variable {P : Program} {ops : Array Oper} {rest : List Oper} {o : Oper} {a : Act} {Q : Exit → Act → World → Prop} {W : World}
/-- The operation is a call of this function (a cheap look ahead of a dear step). -/
theorem gate_callee {f : FuncId} {asx : Array Operand} {ts : Array TypeId} (_ho : o.op = .call { callee := .value (.func f), args := asx, argTypes := ts }) (h : wpList P ops Q (o :: rest) a W) : wpList P ops Q (o :: rest) a W := h
/-- The operation is a builtin over these places. -/
theorem gate_builtin {b : Builtin} {xs : Array Operand} {ts : Array TypeId} (_ho : o.op = .call { callee := .builtin b, args := xs, argTypes := ts }) (h : wpList P ops Q (o :: rest) a W) : wpList P ops Q (o :: rest) a W := h
end
/-- It says x = x, and that is its use: 'rw [drewN_self w]' fails where the world was not drawn, and the row behind it is skipped. -/
theorem drewN_self (w : World) (n : Nat) : w.drewN n = w.drewN n := rfl
namespace Kd
section
variable {α : Type} {d : Kd α} {e base : Nat} {ok : Nat → Prop} {W w1 : World} {v : Value} {xs : List α}
end
section
variable {α : Type} {d : Kd α} {e base g n cap : Nat} {ok oki okp : Nat → Prop} {W : World} {xs : List α} {i : Int} {c : List Value}
end
section
variable {α : Type} {d : Kd α} {e base b b' g N : Nat} {ok ok1 : Nat → Prop} {W W2 w1 : World} {u v : Value} {xs ys : List α} {S : Nat → Prop}
end
end Kd
end Go.Proofs.YtdiljmhikajjiaaGreatW.PrintWords
namespace Go.Proofs.YtdiljmhikajjiaaGreatW.PrintWords
open Go.RowKit
namespace Kd
/-- A row that is only read, told by its value: its form, its length, what it leads to (in ok). e and base say nothing; they make it asx the others are. -/
def V {α : Type} (d : Kd α) (_e : Nat) (W : World) (_base : Nat) (ok : Nat → Prop) (v : Value) (xs : List α) : Prop := ∃ A c, v = .slice A xs.length c ∧ xs.length ≤ c ∧ F d W ok A xs.length xs
section
variable {α β : Type} {d : Kd α} {e base base' n m c g N' lo hi : Nat} {ok ok' S : Nat → Prop} {w W w1 : World} {A : Option Addr} {ad : Addr} {u v v1 : Value} {xs : List α}
theorem V_nil (d : Kd α) (e : Nat) (W : World) (base : Nat) (ok : Nat → Prop) : V d e W base ok (.slice none 0 0) [] := ⟨none, 0, rfl, Nat.le_refl _, F_nil d W ok⟩
end
end Kd
end Go.Proofs.YtdiljmhikajjiaaGreatW.PrintWords
end
section
namespace Go.Proofs.YtdiljmhikajjiaaGreat
open Go.RowKit Seine.Trie Go.Proofs.YtdiljmhikajjiaaGreatW.PrintWords
def bb (l : Txt) : ByteArray := ⟨l.toArray⟩
def nb (l : Txt) : List Int := l.map fun c => (c.toNat : Int)
theorem nb_length (l : Txt) : (nb l).length = l.length := by simp [nb]
theorem bb_data (l : Txt) : (bb l).data.toList = l := by simp [bb]
theorem bb_of (s : ByteArray) : bb s.data.toList = s := by cases s; simp [bb]
theorem bb_ext {a b : ByteArray} (h : a.data.toList = b.data.toList) : a = b := by rw [← bb_of a, ← bb_of b, h]
theorem bb_size (l : Txt) : (bb l).size = l.length := by simp [bb, ByteArray.size]
theorem bb_toList (l : Txt) : (bb l).toList = l := by rw [ByteArray.toList_eq, bb_data]
theorem bb_inj {a b : Txt} (h : bb a = bb b) : a = b := by rw [← bb_data a, h, bb_data]
theorem bb_append (a b : Txt) : bb a ++ bb b = bb (a ++ b) := bb_ext (by rw [bb_data, ByteArray.data_append, Array.toList_append, bb_data, bb_data])
theorem bb_extract (l : Txt) (a b : Nat) : (bb l).extract a b = bb ((l.drop a).take (b - a)) := bb_ext (by
  rw [bb_data, ByteArray.data_extract, Array.toList_extract, bb_data, List.extract_eq_take_drop])
theorem bb_from (l : Txt) (a : Nat) : (bb l).extract a (bb l).size = bb (l.drop a) := by
  rw [bb_extract, bb_size, List.take_of_length_le (by simp)]
theorem bb_to (l : Txt) (b : Nat) : (bb l).extract 0 b = bb (l.take b) := by rw [bb_extract]; simp
theorem bb_nums (l : Txt) : strOfNums (nb l) = bb l := by
  apply bb_ext
  rw [bb_data]
  simp [strOfNums, nb, Function.comp_def]
theorem rdOf_bb (l : List Txt) (i : Nat) (h : i < l.length) : rdOf ByteArray.empty (l.map bb) (i : Int) = bb (l.getD i []) := by
  unfold rdOf
  rw [Int.toNat_natCast]
  simp [List.getD_eq_getElem?_getD, h]
theorem bt_bb (l : Txt) (i : Nat) (h : i < l.length) : bt (bb l) (i : Int) = ((l.getD i 0).toNat : Int) := by
  unfold bt
  rw [Int.toNat_natCast, dif_pos (by rw [bb_size]; exact h)]
  simp [bb, List.getD_eq_getElem?_getD, h, ByteArray.getElem_eq_getElem_data]
theorem w64s (m : Nat) (h : m ≤ 1000000000000) : wrap64 ((m : Int) + 1) = ((m + 1 : Nat) : Int) := by unfold wrap64; omega
theorem w64 {x : Int} (h0 : -9223372036854775808 ≤ x) (h1 : x < 9223372036854775808) : wrap64 x = x := by unfold wrap64; omega
/-- f answers r, with enough rounds. -/
def Evl {α : Type} (f : Nat → Option α) (r : α) : Prop := ∃ N, ∀ k, N ≤ k → f k = some r
theorem Evl.step {α : Type} {f g : Nat → Option α} {r : α} (h : Evl g r) (e : ∀ k, f (k + 1) = g k) : Evl f r := by
  obtain ⟨N, h⟩ := h
  exact ⟨N + 1, fun k hk => by obtain ⟨m, rfl⟩ : ∃ m, k = m + 1 := ⟨k - 1, by omega⟩; rw [e, h m (by omega)]⟩
theorem Evl.bind {α β : Type} {f : Nat → Option α} {g : Nat → α → Option β} {a : α} {r : β} (h : Evl f a) (k : Evl (fun n => g n a) r) : Evl (fun n => (f n).bind (g n)) r := by
  obtain ⟨N, h⟩ := h
  obtain ⟨M, k⟩ := k
  exact ⟨max N M, fun n hn => by
    show (f n).bind (g n) = some r
    rw [h n (by omega)]; exact k n (by omega)⟩
theorem Evl.of {α : Type} {f : Nat → Option α} {r : α} (h : ∀ k, f k = some r) : Evl f r := ⟨0, fun k _ => h k⟩
theorem Evl.congr {α : Type} {f g : Nat → Option α} {r : α} (h : Evl g r) (e : ∀ k, f k = g k) : Evl f r := by
  obtain ⟨N, h⟩ := h
  exact ⟨N, fun k hk => (e k).trans (h k hk)⟩
theorem Evl.get {α : Type} {f : Nat → Option α} {r : α} (h : Evl f r) : ∃ k, f k = some r := by
  obtain ⟨N, h⟩ := h
  exact ⟨N, h N (Nat.le_refl _)⟩
theorem kdU8 {w : World} {A : Option Addr} {b : Txt} (h : Byt w A b) (hl : b.length ≤ 9223372036854775807) : Kd.C (Kd.int .u8) w A b.length (nb b) := by
  refine ⟨nb_length b, hl, fun h0 => ?_⟩
  rcases h with h | ⟨ad, hA, _, hc⟩
  · have := congrArg List.length h; rw [byCells_length] at this; simp at this; simp [this] at h0
  · refine ⟨ad, hA, fun j p hp => ⟨[.int .u8 p], rfl, rfl, fun i u hu => ?_⟩⟩
    have hi : i = 0 := by
      have := (List.getElem?_eq_some_iff.1 hu).1
      simpa using this
    subst hi
    injection hu with hu
    subst hu
    have e : (Kd.int .u8).sz = 1 := rfl
    rw [e, Nat.mul_one, Nat.add_zero]
    refine hc j _ ?_
    unfold nb at hp
    unfold byCells
    rw [List.getElem?_map] at hp ⊢
    cases hb : b[j]? with
    | none => rw [hb] at hp; cases hp
    | some c => rw [hb] at hp; injection hp with hp; subst hp; rfl
/-- Rows of whole numbers. -/
def intVals (xs : List Int) : List Value := xs.map (Value.int .i64)
theorem intVals_length (xs : List Int) : (intVals xs).length = xs.length := by simp [intVals]
abbrev Ints (w : World) (A : Option Addr) (xs : List Int) : Prop := Row w A (intVals xs)
theorem conv_byt {w : World} {src : TypeId} {A : Option Addr} {b : Txt} {c : Nat} (hs : Tryz.prog.underlying src = some (.slice 5)) (h : Byt w A b) (hl : b.length ≤ 9223372036854775807) : (convert src 9 (.slice A b.length c)).run Tryz.prog w = .ok (.string (bb b)) w := by
  have := Kd.C_string (P := Tryz.prog) (src := src) (dst := 9) (c := c) hs Tryz.underlying5 Tryz.underlying9 (kdU8 h hl)
  rw [bb_nums] at this
  exact this
end Go.Proofs.YtdiljmhikajjiaaGreat
end
section
namespace Go.Proofs.YtdiljmhikajjiaaGreat
open Go.RowKit
theorem wpList_app0 {P : Program} {ops : Array Oper} {rest : List Oper} {o : Oper} {a : Act} {Q : Exit → Act → World → Prop} (w : World) (hgd : o.guard = none) (s x : Operand) (t : TypeId)
    (ho : o.op = .call { callee := .builtin .append, args := #[s, x], argTypes := #[t, t] })
    (e : TypeId) (i : TypeInfo) (ht : P.underlying t = some (.slice e)) (hi : P.info? e = some i)
    (A B : Option Addr) (n c d : Nat) (hs : a.eval s = .slice A n c) (hn : n ≤ c) (hx : a.eval x = .slice B 0 d)
    (h : wpList P ops Q rest (a.put o.dst (.slice A n c)) w) :
    wpList P ops Q (o :: rest) a w := by
  refine wpList_plain hgd fun K hK => ?_
  have hr : (Builtin.append_ #[t, t] o.type #[.slice A n c, .slice B 0 d]).run P w = .ok (.slice A n c) w := by
    have hfc : (Builtin.firstCells i.size 0 (.slice B 0 d)).run P w = .ok #[] w := by
      cases B with
      | none => rfl
      | some b => exact run_firstCells_some (P := P) w i.size 0 b 0 d [] (by simp) (by simp)
    cases A <;> simp [Builtin.append_, run_underlying ht, sizeOf, typeInfo, hi, Builtin.lenOf, hn, hfc, storeCells]
  unfold Oper.wp execOp
  simp only [ho, resolve, invoke, builtin, Sem.run_bind, Sem.run_pure, Result.andThen_ok, List.map_toArray, List.map_cons, List.map_nil, hs, hx, hr]
  exact hK _ _ h
theorem wpList_apps {P : Program} {ops : Array Oper} {rest : List Oper} {o : Oper} {a : Act} {Q : Exit → Act → World → Prop} (w : World) (hgd : o.guard = none) (s x : Operand) (t : TypeId)
    (ho : o.op = .call { callee := .builtin .append, args := #[s, x], argTypes := #[t, t] })
    (base : Nat) (e : TypeId) (z : Value) (size bytes : Nat) (ht : P.underlying t = some (.slice e)) (hi : (P.info? e).map (fun i => (i.zero, i.size, i.bytes)) = some (some z, size, bytes))
    (hzs : z.cells.size = size) (hsz : 0 < size)
    (v : Value) (n : Nat) (xs : List Value) (hs : a.eval s = v) (hown : w.ownsRow base e size v n xs)
    (A : Option Addr) (m c : Nat) (cs : List Value) (hrow : Row w A cs) (hl : cs.length = m * size) (h1 : ∀ u ∈ cs, u.oneCell' = true) (hx : a.eval x = .slice A m c)
    (hlen : n + m ≤ 1000000000000) (hby : bytes ≤ 100) (hbase : base ≤ w.heap.size)
    (h : ∀ v' w', w'.ownsRow base e size v' (n + m) (xs ++ cs) → Below base w w' → wpList P ops Q rest (a.put o.dst v') w') :
    wpList P ops Q (o :: rest) a w := by
  obtain ⟨i, hi, hz, hsize, hbytes⟩ := info_parts hi
  rcases hrow with rfl | ⟨ad, rfl, hlt, hc⟩
  · obtain rfl : m = 0 := by
      have hl : 0 = m * size := by simpa using hl
      rcases Nat.mul_eq_zero.1 hl.symm with h | h
      · exact h
      · omega
    obtain ⟨A0, c0, rfl, hc0⟩ := own_slice hown
    refine wpList_app0 w hgd s x t ho e i ht hi A0 A n c0 c hs hc0 hx ?_
    exact h _ _ (by simpa using hown) (Below.refl _ _)
  · refine wpList_append_own_at w hgd s x t ho base e i z size bytes ht hi hz hsize hbytes hzs hsz v n xs hs hown ad m c cs hx hl hc h1
      (by simp only [maxLen]; omega) ?_ hbase ?_
    · have : (n + m) * bytes ≤ (n + m) * 100 := Nat.mul_le_mul_left _ hby
      omega
    · intro v' w' h2 h3 _ h5
      refine h v' w' h2 ((Below.refl base w).grown h3 hbase (fun k hk => ?_))
      rcases hown.2 with ⟨rfl, _⟩ | ⟨g, cap, cur, rfl, hg, _⟩
      · simp [Value.ownBlock] at hk
      · simp [Value.ownBlock] at hk; omega
end Go.Proofs.YtdiljmhikajjiaaGreat
end
section
namespace Go.Proofs.YtdiljmhikajjiaaGreat
open Go.RowKit Seine.Trie
/-- How often what was done. -/
structure Cn where
  s : Int
  l : Int
  h : Int
  m : Int
def Cn.zero : Cn := ⟨0, 0, 0, 0⟩
def Cn.ok (c : Cn) : Prop := 0 ≤ c.s ∧ c.s ≤ 1000000000000 ∧ 0 ≤ c.l ∧ c.l ≤ 1000000000000 ∧ 0 ≤ c.h ∧ c.h ≤ 1000000000000 ∧ 0 ≤ c.m ∧ c.m ≤ 1000000000000
def cnCells (c : Cn) : Array Value := #[.int .i64 c.s, .int .i64 c.l, .int .i64 c.h, .int .i64 c.m]
/-- Block g counts c. -/
def MtAt (w : World) (g : Nat) (c : Cn) : Prop := w.heap[g]? = some (.cells (cnCells c) 86 (0, 0))
/-- The meter, if there is one, counts c. -/
def Mo (w : World) (mo : Option Nat) (c : Cn) : Prop := ∀ g, mo = some g → MtAt w g c
def madr (mo : Option Nat) : Option Addr := mo.map fun g => ⟨g, 0, none⟩
def OnlyM (mo : Option Nat) (k : Nat) : Prop := mo = some k
theorem MtAt.below {w w' : World} {g : Nat} {c : Cn} (h : MtAt w g c) (hb : Below w.heap.size w w') : MtAt w' g c := (hb.block g (block_lt h)).trans h
theorem Mo.below {w w' : World} {mo : Option Nat} {c : Cn} (h : Mo w mo c) (hb : Below w.heap.size w w') : Mo w' mo c := fun g e => (h g e).below hb
theorem Mo.none_ (w : World) (c : Cn) : Mo w none c := fun g e => by cases e
theorem Mo.some_ {w : World} {g : Nat} {c : Cn} (h : MtAt w g c) : Mo w (some g) c := fun g' e => by injection e with e; subst e; exact h
/-- A block of another make is not the meter's. -/
theorem Mo.far {w : World} {mo : Option Nat} {c : Cn} (h : Mo w mo c) {b t : Nat} {cs : Array Value} {fr : Nat × Nat} (hb : w.heap[b]? = some (.cells cs t fr)) (hs : cs.size ≠ 4 ∨ t ≠ 86) : ¬ OnlyM mo b := fun e => by
  have := h b e
  unfold MtAt at this
  rw [hb] at this
  injection this with this
  injection this with e1 e2
  rcases hs with hs | hs
  · exact hs (by rw [e1]; rfl)
  · exact hs e2
theorem Mo.farMap {w : World} {mo : Option Nat} {c : Cn} (h : Mo w mo c) {b : Nat} {es : Array MapEntry} {cl : Nat} (hb : w.heap[b]? = some (.map es cl)) : ¬ OnlyM mo b := fun e => by
  have := h b e
  unfold MtAt at this
  rw [hb] at this
  injection this with this
  cases this
theorem mcount_none (w : World) : Calls Tryz.prog 132 #[.pointer none] w fun e w' => e = .returned (.pointer (some ⟨w.heap.size, 0, none⟩)) ∧ w.alloc (.cells #[.int .i64 0, .int .i64 0, .int .i64 0, .int .i64 0] 49) = w' := by
  go_enter Tryz.func132, Tryz.ntmps132
  go_wp2
  go_ret
  exact ⟨rfl, rfl⟩
theorem mcount_some (w : World) (g : Nat) : Calls Tryz.prog 132 #[.pointer (some ⟨g, 0, none⟩)] w fun e w' => e = .returned (.pointer (some ⟨g, 0, none⟩)) ∧ w = w' := by
  go_enter Tryz.func132, Tryz.ntmps132
  go_wp2
  go_ret
  exact ⟨rfl, rfl⟩
theorem mnew_calls (w : World) : Calls Tryz.prog 18 #[] w fun e w' => e = .returned (.pointer (some ⟨w.heap.size, 0, none⟩)) ∧ MtAt w' w.heap.size Cn.zero ∧ Below w.heap.size w w' := by
  go_enter Tryz.func18, Tryz.ntmps18
  go_wp2
  go_ret
  exact ⟨rfl, heap_alloc_new _ _, (Below.refl _ _).alloc (Nat.le_refl _) _⟩
theorem mcounts_calls (w : World) (g : Nat) (c : Cn) (h : MtAt w g c) : Calls Tryz.prog 19 #[.pointer (some ⟨g, 0, none⟩)] w fun e w' => e = .returned (.agg (cnCells c)) ∧ Below w.heap.size w w' := by
  have c0 : w.cell? ⟨g, 0, none⟩ = some (.int .i64 c.s) := cell_of_blk h 0
  have c1 : w.cell? ⟨g, 1, none⟩ = some (.int .i64 c.l) := cell_of_blk h 1
  have c2 : w.cell? ⟨g, 2, none⟩ = some (.int .i64 c.h) := cell_of_blk h 2
  have c3 : w.cell? ⟨g, 3, none⟩ = some (.int .i64 c.m) := cell_of_blk h 3
  have hlt := block_lt h
  obtain ⟨s, l, hh, m⟩ := c
  have hb : Below w.heap.size w (w.alloc (.cells #[.int .i64 s, .int .i64 l, .int .i64 hh, .int .i64 m] 49)) := (Below.refl _ _).alloc (Nat.le_refl _) _
  simp only at c0 c1 c2 c3
  have d0 := cell_of_blk (heap_alloc_new w (.cells #[.int .i64 s, .int .i64 l, .int .i64 hh, .int .i64 m] 49)) 0
  have d1 := cell_of_blk (heap_alloc_new w (.cells #[.int .i64 s, .int .i64 l, .int .i64 hh, .int .i64 m] 49)) 1
  have d2 := cell_of_blk (heap_alloc_new w (.cells #[.int .i64 s, .int .i64 l, .int .i64 hh, .int .i64 m] 49)) 2
  have d3 := cell_of_blk (heap_alloc_new w (.cells #[.int .i64 s, .int .i64 l, .int .i64 hh, .int .i64 m] 49)) 3
  simp at d0 d1 d2 d3
  clear h
  go_enter Tryz.func19, Tryz.ntmps19
  go_wp2
  refine bodyPost_ret (v := .agg (cnCells ⟨s, l, hh, m⟩)) (by simp [results, Tryz.results19, go_sem, d0, d1, d2, d3, cnCells]) rfl ⟨rfl, hb⟩
theorem RetByt.rowg {w w' : World} {b : Txt} {e : Ending} (h : RetByt w b e w') : ∃ A c, e = .returned (.slice A b.length c) ∧ b.length ≤ c ∧ Byt w' A b ∧ (∀ ad, A = some ad → w.heap.size ≤ ad.block) ∧ Below w.heap.size w w' := by
  obtain ⟨v, rfl, ho, hb⟩ := h
  obtain ⟨A, c, rfl, hc, hr⟩ := ho.row
  refine ⟨A, c, rfl, hc, hr, fun ad e => ?_, hb⟩
  rcases own_addr ho with e' | ⟨g, e', hg⟩
  · rw [e] at e'; cases e'
  · rw [e] at e'
    injection e' with e'
    subst e'
    exact hg
/-- A text that is scanned through a meter. -/
def TextAt (w : World) (tb : Nat) (mo : Option Nat) (b : Txt) : Prop :=
  ∃ A c, w.heap[tb]? = some (.cells #[.pointer (madr mo), .slice A b.length c] 205 (0, 0)) ∧ Byt w A b ∧ ∀ ad, A = some ad → ¬ OnlyM mo ad.block
theorem TextAt.below {w w' : World} {tb : Nat} {mo : Option Nat} {b : Txt} (h : TextAt w tb mo b) (hb : Below w.heap.size w w') : TextAt w' tb mo b := by
  obtain ⟨A, c, h1, h2, h3⟩ := h
  exact ⟨A, c, (hb.block tb (block_lt h1)).trans h1, Row.below h2 hb, h3⟩
theorem TextAt.keep {w w' : World} {tb : Nat} {mo : Option Nat} {b : Txt} {c : Cn} (h : TextAt w tb mo b) (hm : Mo w mo c) (hk : Keeps (OnlyM mo) w w') : TextAt w' tb mo b := by
  obtain ⟨A, d, h1, h2, h3⟩ := h
  exact ⟨A, d, blk_keep h1 hk (hm.far h1 (.inl (by simp))), Row.keep h2 hk (fun ad e _ => h3 ad e), h3⟩
theorem cloneByt2_calls (w : World) (A : Option Addr) (c : Nat) (b : Txt) (h : Byt w A b) (hl : b.length ≤ 1000000) :
    Calls Tryz.prog 26 #[.slice A b.length c] w (RetByt w b) := by
  obtain ⟨n, hn⟩ : ∃ n, b.length = n := ⟨_, rfl⟩
  rw [hn] at hl ⊢
  replace hn := As.mk hn
  have H := As.mk h
  clear h
  cases A with
  | none =>
    have hl0 : b = [] := by
      rcases H.out with h | ⟨ad, e, _⟩
      · have := congrArg List.length h; rw [byCells_length] at this; exact List.eq_nil_of_length_eq_zero (by rw [List.length_nil] at this; omega)
      · cases e
    subst hl0
    have hnil : ∀ (w : World) (n c : Nat), (binOp .eql 23 (.slice none n c) (.slice none 0 0)).run Tryz.prog w = .ok (.bool true) w := fun w n c => Lib.run_eql_slice_nil w _ _ none n c 0 0 Tryz.underlying23
    go_enter Tryz.func26, Tryz.ntmps26
    go_wp2
    go_ret
    exact ⟨_, rfl, World.ownsRow_nil _ _ _ _, Below.refl _ _⟩
  | some ad =>
    have hown : As ((w.alloc (.cells #[] 5)).ownsRow w.heap.size 5 1 (.slice (some ⟨w.heap.size, 0, none⟩) 0 0) 0 []) := ⟨⟨rfl, .inr ⟨_, 0, #[], rfl, Nat.le_refl _, heap_alloc_new w _, Nat.le_refl _, Nat.zero_le _, rfl, rfl⟩⟩⟩
    have hrow := As.mk (Row.alloc H.out (.cells #[] 5))
    have hnl : As ((byCells b).length = n * 1) := ⟨by rw [byCells_length, hn.out, Nat.mul_one]⟩
    have hnil : ∀ (w : World) (a : Addr) (n c : Nat), (binOp .eql 23 (.slice (some a) n c) (.slice none 0 0)).run Tryz.prog w = .ok (.bool false) w := fun w a n c => Lib.run_eql_slice_nil w _ _ (some a) n c 0 0 Tryz.underlying23
    go_enter Tryz.func26, Tryz.ntmps26
    go_wp2_with (at_builtin
                 refine wpList_apps _ rfl (.tmp 5) (.tmp 6) 23 rfl w.heap.size 5 _ 1 1 Tryz.underlying23 info_u8 rfl (by decide) _ 0 [] rfl hown.out (some ad) n c (byCells b) hrow.out hnl.out byt_one2 rfl (by omega) (by decide) (by simp) ?_
                 intro v' w' h2 h3)
    go_ret
    exact ⟨v', rfl, by unfold OwnByt; rw [hn.out]; simpa using h2, ((Below.refl _ _).alloc (Nat.le_refl _) _).trans h3⟩
theorem mtext_calls (w : World) (mo : Option Nat) (cn : Cn) (hm : Mo w mo cn) (A : Option Addr) (c : Nat) (b : Txt) (h : Byt w A b) (hl : b.length ≤ 1000000) :
    Calls Tryz.prog 124 #[.pointer (madr mo), .slice A b.length c] w fun e w' => ∃ tb, e = .returned (.pointer (some ⟨tb, 0, none⟩)) ∧ TextAt w' tb mo b ∧ Below w.heap.size w w' := by
  have cc := As.mk (cloneByt2_calls w A c b h hl)
  have hmo := As.mk hm
  clear h hm
  go_enter Tryz.func124, Tryz.ntmps124
  go_wp2_with (go_at_call 26; refine Calls.mono cc.out ?_; intro e w1 h1; obtain ⟨A1, c1, he, hc1, hr1, hg1, hb⟩ := h1.rowg; subst he)
  go_ret
  refine ⟨_, rfl, ⟨A1, c1, heap_alloc_new _ _, Row.alloc hr1 _, fun ad e hk => ?_⟩, hb.alloc hb.size _⟩
  have h1 := block_lt (hmo.out _ hk)
  have h2 := hg1 ad e
  omega
theorem mlen_calls (w : World) (tb : Nat) (mo : Option Nat) (b : Txt) (h : TextAt w tb mo b) : Calls Tryz.prog 126 #[.pointer (some ⟨tb, 0, none⟩)] w fun e w' => e = .returned (.int .i64 (b.length : Int)) ∧ w = w' := by
  obtain ⟨A, c, h1, _, _⟩ := h
  have c1 : w.cell? ⟨tb, 1, none⟩ = some (.slice A b.length c) := cell_of_blk h1 1
  clear h1
  go_enter Tryz.func126, Tryz.ntmps126
  go_wp2
  go_ret
  exact ⟨rfl, rfl⟩
theorem mat_calls (w : World) (tb : Nat) (mo : Option Nat) (b : Txt) (h : TextAt w tb mo b) (cn : Cn) (hm : Mo w mo cn) (hok : cn.ok) (i : Nat) (hi : i < b.length) :
    Calls Tryz.prog 128 #[.pointer (some ⟨tb, 0, none⟩), .int .i64 (i : Int)] w fun e w' => e = .returned (.int .i64 ((b.getD i 0).toNat : Int)) ∧ Mo w' mo { cn with s := cn.s + 1 } ∧ Keeps (OnlyM mo) w w' := by
  have hlen := As.mk (mlen_calls w tb mo b h)
  have hk := As.mk (fun (w' : World) (k : Keeps (OnlyM mo) w w') => h.keep hm k)
  have hmo := As.mk hm
  obtain ⟨A, c, h1, h2, h3⟩ := h
  have c0 : w.cell? ⟨tb, 0, none⟩ = some (.pointer (madr mo)) := cell_of_blk h1 0
  have hlt := block_lt h1
  obtain ⟨s, l, hh, m⟩ := cn
  have hs1 : IntKind.i64.wrap (s + 1) = s + 1 := by have := hok.1; have := hok.2.1; simp only [IntKind.wrap, IntKind.signed, IntKind.bits] at *; simp; omega
  cases mo with
  | none =>
    have hB : Below w.heap.size w (w.alloc (.cells #[.int .i64 1, .int .i64 0, .int .i64 0, .int .i64 0] 49)) := (Below.refl _ _).alloc (Nat.le_refl _) _
    obtain ⟨ad, rfl, hc⟩ := Byt.at_ (Row.below h2 hB) hi
    have d1 := (hB.cell (p := ⟨tb, 1, none⟩) hlt).trans (cell_of_blk h1 1)
    unfold madr at c0
    simp only [Option.map_none, Option.map_some] at c0
    simp at d1
    generalize b.getD i 0 = x at *
    have hx : wrap64 (x.toNat : Int) = (x.toNat : Int) := by have := x.toNat_lt; unfold wrap64; omega
    generalize b.length = n at *
    clear h1 h2 h3 hk hmo hok
    go_enter Tryz.func128, Tryz.ntmps128
    go_wp2_with (first
      | (go_at_call 126; refine Calls.mono hlen.out ?_; rintro e w1 ⟨rfl, rfl⟩)
      | (go_at_call 132; refine Calls.mono (mcount_none _) ?_; rintro e w1 ⟨rfl, rfl⟩))
    go_ret
    exact ⟨ret_int hx, Mo.none_ _ _, Keeps.of_below hB _⟩
  | some g =>
    have hg := hmo.out g rfl
    have g0 : w.cell? ⟨g, 0, none⟩ = some (.int .i64 s) := cell_of_blk hg 0
    have f0 : w.frozen? ⟨g, 0, none⟩ = false := free_of_blk hg 0
    have hne : tb ≠ g := fun e => hmo.out.far h1 (.inl (by simp)) (by rw [e]; rfl)
    have hK : Keeps (OnlyM (some g)) w (w.setCell ⟨g, 0, none⟩ (.int .i64 (s + 1))) := (keepsSt w ⟨g, 0, none⟩ _).mono fun k _ e => by unfold OnlyM; exact congrArg some e.symm
    have hM : MtAt (w.setCell ⟨g, 0, none⟩ (.int .i64 (s + 1))) g ⟨s + 1, l, hh, m⟩ := by
      have := blk_set hg 0 (.int .i64 (s + 1))
      unfold MtAt
      rw [this]
      simp [cnCells]
    obtain ⟨A', c', k1, k2, _⟩ := hk.out _ hK
    have d1 : (w.setCell ⟨g, 0, none⟩ (.int .i64 (s + 1))).cell? ⟨tb, 1, none⟩ = some (.slice A' b.length c') := cell_of_blk k1 1
    obtain ⟨ad, rfl, hc⟩ := Byt.at_ k2 hi
    unfold madr at c0
    simp only [Option.map_none, Option.map_some] at c0
    generalize b.getD i 0 = x at *
    have hx : wrap64 (x.toNat : Int) = (x.toNat : Int) := by have := x.toNat_lt; unfold wrap64; omega
    generalize b.length = n at *
    replace hK := As.mk hK
    replace hM := As.mk hM
    clear h1 h2 h3 hk hmo hok k1 k2 hg
    go_enter Tryz.func128, Tryz.ntmps128
    go_wp2_with (first
      | (go_at_call 126; refine Calls.mono hlen.out ?_; rintro e w1 ⟨rfl, rfl⟩)
      | (go_at_call 132; refine Calls.mono (mcount_some _ _) ?_; rintro e w1 ⟨rfl, rfl⟩))
    go_ret
    exact ⟨ret_int hx, Mo.some_ hM.out, hK.out⟩
end Go.Proofs.YtdiljmhikajjiaaGreat
end
section
namespace Seine.Sort
open Seine.Trie
abbrev Pr := Int × Int
def lt (a b : Pr) : Prop := a.1 < b.1 ∨ (a.1 = b.1 ∧ a.2 < b.2)
instance : DecidableRel lt := fun a b => inferInstanceAs (Decidable (_ ∨ _))
theorem lt_trans {a b c : Pr} (h : lt a b) (k : lt b c) : lt a c := by unfold lt at *; omega
theorem lt_irr (a : Pr) : ¬ lt a a := by unfold lt; omega
theorem lt_tri (a b : Pr) : lt a b ∨ a = b ∨ lt b a := by
  obtain ⟨x, y⟩ := a
  obtain ⟨u, v⟩ := b
  simp only [lt, Prod.mk.injEq]
  omega
def Rise (l : List Pr) : Prop := l.Pairwise lt
theorem Rise.nil : Rise [] := List.Pairwise.nil
theorem rise_cons {x : Pr} {l : List Pr} : Rise (x :: l) ↔ (∀ y ∈ l, lt x y) ∧ Rise l := List.pairwise_cons
theorem rise_app {a b : List Pr} : Rise (a ++ b) ↔ Rise a ∧ Rise b ∧ ∀ x ∈ a, ∀ y ∈ b, lt x y := List.pairwise_append
/-- Two lists in order of the same things are one. -/
theorem rise_ext : ∀ {a b : List Pr}, Rise a → Rise b → (∀ x, x ∈ a ↔ x ∈ b) → a = b
  | [], [], _, _, _ => rfl
  | [], y :: b, _, _, h => by have := (h y).2 (by simp); simp at this
  | x :: a, [], _, _, h => by have := (h x).1 (by simp); simp at this
  | x :: a, y :: b, ha, hb, h => by
    obtain ⟨h1, ka⟩ := rise_cons.1 ha
    obtain ⟨h2, kb⟩ := rise_cons.1 hb
    have hxy : x = y := by
      have hx := (h x).1 (by simp)
      have hy := (h y).2 (by simp)
      rcases List.mem_cons.1 hx with e | e
      · exact e
      · rcases List.mem_cons.1 hy with f | f
        · exact f.symm
        · exact absurd (lt_trans (h1 y f) (h2 x e)) (lt_irr x)
    subst hxy
    have hz : ∀ z, z ∈ a ↔ z ∈ b := by
      intro z
      constructor
      · intro hz
        rcases List.mem_cons.1 ((h z).1 (List.mem_cons_of_mem _ hz)) with e | e
        · subst e; exact absurd (h1 _ hz) (lt_irr _)
        · exact e
      · intro hz
        rcases List.mem_cons.1 ((h z).2 (List.mem_cons_of_mem _ hz)) with e | e
        · subst e; exact absurd (h2 _ hz) (lt_irr _)
        · exact e
    rw [rise_ext ka kb hz]
/-- One thing more, in order, once. -/
def put : List Pr → Pr → List Pr
  | [], p => [p]
  | x :: l, p => if lt x p then x :: put l p else if x = p then x :: l else p :: x :: l
theorem mem_put {l : List Pr} {p x : Pr} : x ∈ put l p ↔ x ∈ l ∨ x = p := by
  induction l with
  | nil => simp [put]
  | cons y l ih =>
    unfold put
    by_cases h1 : lt y p
    · rw [if_pos h1]; simp only [List.mem_cons, ih]; exact or_assoc.symm
    · rw [if_neg h1]
      by_cases h2 : y = p
      · rw [if_pos h2]; subst h2
        constructor
        · exact .inl
        · rintro (h | rfl)
          · exact h
          · simp
      · rw [if_neg h2]; simp only [List.mem_cons]
        constructor
        · rintro (h | h | h)
          · exact .inr h
          · exact .inl (.inl h)
          · exact .inl (.inr h)
        · rintro ((h | h) | h)
          · exact .inr (.inl h)
          · exact .inr (.inr h)
          · exact .inl h
theorem rise_put {l : List Pr} {p : Pr} (h : Rise l) : Rise (put l p) := by
  induction l with
  | nil => simp [put, Rise]
  | cons y l ih =>
    obtain ⟨h1, h2⟩ := rise_cons.1 h
    unfold put
    by_cases k1 : lt y p
    · rw [if_pos k1]
      refine rise_cons.2 ⟨fun z hz => ?_, ih h2⟩
      rcases mem_put.1 hz with hz | rfl
      · exact h1 z hz
      · exact k1
    · rw [if_neg k1]
      by_cases k2 : y = p
      · rw [if_pos k2]; exact h
      · rw [if_neg k2]
        have hp : lt p y := by
          rcases lt_tri y p with e | e | e
          · exact absurd e k1
          · exact absurd e k2
          · exact e
        refine rise_cons.2 ⟨fun z hz => ?_, h⟩
        rcases List.mem_cons.1 hz with rfl | hz
        · exact hp
        · exact lt_trans hp (h1 z hz)
/-- In order, each once. -/
def sortP (l : List Pr) : List Pr := l.foldl put []
theorem foldl_put (l : List Pr) : ∀ (a : List Pr), Rise a → Rise (l.foldl put a) ∧ ∀ x, x ∈ l.foldl put a ↔ x ∈ a ∨ x ∈ l := by
  induction l with
  | nil => intro a h; exact ⟨h, fun x => by simp⟩
  | cons y l ih =>
    intro a h
    obtain ⟨h1, h2⟩ := ih (put a y) (rise_put h)
    refine ⟨h1, fun x => ?_⟩
    rw [List.foldl_cons, h2, mem_put, List.mem_cons, or_assoc]
theorem rise_sortP (l : List Pr) : Rise (sortP l) := (foldl_put l [] Rise.nil).1
theorem mem_sortP {l : List Pr} {x : Pr} : x ∈ sortP l ↔ x ∈ l := by rw [sortP, (foldl_put l [] Rise.nil).2]; simp
theorem sortP_ext {a b : List Pr} (h : ∀ x, x ∈ a ↔ x ∈ b) : sortP a = sortP b := rise_ext (rise_sortP a) (rise_sortP b) fun x => by rw [mem_sortP, mem_sortP, h]
theorem sortP_rise {a : List Pr} (h : Rise a) : sortP a = a := rise_ext (rise_sortP a) h fun x => mem_sortP
theorem sortP_eq {a b : List Pr} (hb : Rise b) (h : ∀ x, x ∈ a ↔ x ∈ b) : sortP a = b := (sortP_ext h).trans (sortP_rise hb)
theorem put_len (l : List Pr) (p : Pr) : (put l p).length ≤ l.length + 1 := by
  induction l with
  | nil => simp [put]
  | cons y l ih => unfold put; split <;> (try split) <;> simp <;> omega
theorem sortP_len (l : List Pr) : (sortP l).length ≤ l.length := by
  have : ∀ (l a : List Pr), (l.foldl put a).length ≤ a.length + l.length := by
    intro l
    induction l with
    | nil => intro a; simp
    | cons y l ih => intro a; rw [List.foldl_cons]; have := ih (put a y); have := put_len a y; simp; omega
  have := this l []
  simpa [sortP] using this
theorem sortP_short {l : List Pr} (h : l.length < 2) : sortP l = l := by
  match l, h with
  | [], _ => rfl
  | [x], _ => rfl
theorem sortP_split (l : List Pr) (m : Nat) : sortP (sortP (l.take m) ++ sortP (l.drop m)) = sortP l := by
  refine sortP_ext fun x => ?_
  rw [List.mem_append, mem_sortP, mem_sortP, ← List.mem_append, List.take_append_drop]
def push (out : List Pr) (x : Pr) : List Pr := if out.getLast? = some x then out else out ++ [x]
theorem push_len (out : List Pr) (x : Pr) : (push out x).length ≤ out.length + 1 := by unfold push; split <;> simp
structure Join (A B a b out : List Pr) : Prop where
  ra : Rise a
  rb : Rise b
  ro : Rise out
  mem : ∀ z, (z ∈ out ∨ z ∈ a ∨ z ∈ b) ↔ (z ∈ A ∨ z ∈ B)
  le : ∀ x ∈ out, ∀ y, y ∈ a ∨ y ∈ b → lt x y ∨ x = y
theorem Join.start {A B : List Pr} (ha : Rise A) (hb : Rise B) : Join A B A B [] := ⟨ha, hb, Rise.nil, by simp, by simp⟩
theorem mem_push {out : List Pr} {x z : Pr} : z ∈ push out x ↔ z ∈ out ∨ z = x := by
  unfold push
  split
  · rename_i h
    have := List.mem_of_getLast? h
    constructor
    · exact .inl
    · rintro (h | rfl)
      · exact h
      · exact this
  · simp
theorem rise_push {out : List Pr} {x : Pr} (h : Rise out) (hx : ∀ o ∈ out, lt o x ∨ o = x) : Rise (push out x) := by
  unfold push
  split
  · exact h
  · rename_i hl
    refine rise_app.2 ⟨h, by simp [Rise], fun o ho y hy => ?_⟩
    rw [List.mem_singleton] at hy
    subst hy
    rcases hx o ho with e | e
    · exact e
    · subst e
      exfalso
      obtain ⟨pre, z, rfl⟩ : ∃ pre z, out = pre ++ [z] := ⟨out.dropLast, out.getLast (by intro e; rw [e] at ho; simp at ho), (List.dropLast_concat_getLast _).symm⟩
      rw [List.getLast?_concat] at hl
      have hz : z ≠ o := fun e => hl (by rw [e])
      obtain ⟨_, _, h3⟩ := rise_app.1 h
      have ho2 : o ∈ pre := by
        rcases List.mem_append.1 ho with e | e
        · exact e
        · rw [List.mem_singleton] at e; exact absurd e.symm hz
      have h4 := h3 o ho2 z (by simp)
      rcases hx z (by simp) with e | e
      · exact lt_irr _ (lt_trans h4 e)
      · exact hz e
theorem Join.takeA {A B a b out : List Pr} {x : Pr} (h : Join A B (x :: a) b out) (hb : ∀ y ∈ b, lt x y ∨ x = y) : Join A B a b (push out x) := by
  obtain ⟨h1, h2⟩ := rise_cons.1 h.ra
  refine ⟨h2, h.rb, rise_push h.ro fun o ho => h.le o ho x (.inl (by simp)), fun z => ?_, fun o ho y hy => ?_⟩
  · rw [← h.mem z, mem_push, List.mem_cons]
    constructor
    · rintro ((h | h) | h | h)
      · exact .inl h
      · exact .inr (.inl (.inl h))
      · exact .inr (.inl (.inr h))
      · exact .inr (.inr h)
    · rintro (h | (h | h) | h)
      · exact .inl (.inl h)
      · exact .inl (.inr h)
      · exact .inr (.inl h)
      · exact .inr (.inr h)
  · rcases mem_push.1 ho with ho | rfl
    · exact h.le o ho y (hy.imp (List.mem_cons_of_mem _) id)
    · rcases hy with hy | hy
      · exact .inl (h1 y hy)
      · exact hb y hy
theorem Join.swap {A B a b out : List Pr} (h : Join A B a b out) : Join B A b a out := by
  refine ⟨h.rb, h.ra, h.ro, fun z => ?_, fun x hx z hz => h.le x hx z hz.symm⟩
  have := h.mem z
  constructor
  · rintro (q | q | q)
    · exact (this.1 (.inl q)).symm
    · exact (this.1 (.inr (.inr q))).symm
    · exact (this.1 (.inr (.inl q))).symm
  · intro q
    rcases this.2 q.symm with q | q | q
    · exact .inl q
    · exact .inr (.inr q)
    · exact .inr (.inl q)
theorem Join.takeB {A B a b out : List Pr} {y : Pr} (h : Join A B a (y :: b) out) (ha : ∀ x ∈ a, lt y x ∨ y = x) : Join A B a b (push out y) := (h.swap.takeA ha).swap
theorem Join.done {A B out : List Pr} (h : Join A B [] [] out) : out = sortP (A ++ B) := by
  refine (sortP_eq h.ro fun x => ?_).symm
  rw [List.mem_append, ← h.mem x]; simp
/-- What stands ahead in a row in order. -/
theorem rise_head {x y : Pr} {l : List Pr} (h : Rise (x :: l)) (hy : lt y x ∨ y = x) : ∀ z ∈ x :: l, lt y z ∨ y = z := by
  obtain ⟨h1, _⟩ := rise_cons.1 h
  intro z hz
  rcases List.mem_cons.1 hz with e | hz
  · rw [e]; exact hy
  · rcases hy with hy | hy
    · exact .inl (lt_trans hy (h1 z hz))
    · rw [hy]; exact .inl (h1 z hz)
/-- A pair that is a piece of a line, not empty, which is one of some texts. -/
def Occ (T : List Txt) (L : Txt) (p : Pr) : Prop := ∃ i j : Nat, p = ((i : Int), (j : Int)) ∧ i < j ∧ j ≤ L.length ∧ (L.drop i).take (j - i) ∈ T
def occRow (T : List Txt) (L : Txt) (i k : Nat) : List Pr := ((List.range' (i + 1) k).filter fun j => decide ((L.drop i).take (j - i) ∈ T)).map fun (j : Nat) => ((i : Int), (j : Int))
def occTo (T : List Txt) (L : Txt) (n : Nat) : List Pr := (List.range n).flatMap fun i => occRow T L i (L.length - i)
def occ (T : List Txt) (L : Txt) : List Pr := occTo T L L.length
theorem mem_occRow {T : List Txt} {L : Txt} {i k : Nat} {p : Pr} : p ∈ occRow T L i k ↔ ∃ j : Nat, p = ((i : Int), (j : Int)) ∧ i < j ∧ j ≤ i + k ∧ (L.drop i).take (j - i) ∈ T := by
  unfold occRow
  simp only [List.mem_map, List.mem_filter, List.mem_range'_1, decide_eq_true_eq]
  constructor
  · rintro ⟨j, ⟨⟨h1, h2⟩, h3⟩, rfl⟩
    exact ⟨j, rfl, by omega, by omega, h3⟩
  · rintro ⟨j, rfl, h1, h2, h3⟩
    exact ⟨j, ⟨⟨by omega, by omega⟩, h3⟩, rfl⟩
theorem mem_occTo {T : List Txt} {L : Txt} {n : Nat} (hn : n ≤ L.length) {p : Pr} : p ∈ occTo T L n ↔ ∃ i j : Nat, p = ((i : Int), (j : Int)) ∧ i < n ∧ i < j ∧ j ≤ L.length ∧ (L.drop i).take (j - i) ∈ T := by
  unfold occTo
  simp only [List.mem_flatMap, List.mem_range, mem_occRow]
  constructor
  · rintro ⟨i, hi, j, rfl, h1, h2, h3⟩
    exact ⟨i, j, rfl, hi, h1, by omega, h3⟩
  · rintro ⟨i, j, rfl, hi, h1, h2, h3⟩
    exact ⟨i, hi, j, rfl, h1, by omega, h3⟩
theorem mem_occ {T : List Txt} {L : Txt} {p : Pr} : p ∈ occ T L ↔ Occ T L p := by
  rw [occ, mem_occTo (Nat.le_refl _)]
  constructor
  · rintro ⟨i, j, h1, _, h2, h3, h4⟩; exact ⟨i, j, h1, h2, h3, h4⟩
  · rintro ⟨i, j, h1, h2, h3, h4⟩; exact ⟨i, j, h1, by omega, h2, h3, h4⟩
theorem rise_occRow (T : List Txt) (L : Txt) (i k : Nat) : Rise (occRow T L i k) := by
  unfold occRow Rise
  rw [List.pairwise_map]
  refine List.Pairwise.filter _ ?_
  have : (List.range' (i + 1) k).Pairwise (· < ·) := List.pairwise_lt_range'
  exact this.imp fun h => .inr ⟨rfl, by simpa using h⟩
theorem occTo_succ (T : List Txt) (L : Txt) (n : Nat) : occTo T L (n + 1) = occTo T L n ++ occRow T L n (L.length - n) := by
  unfold occTo
  rw [List.range_succ, List.flatMap_append]; simp
theorem rise_occTo (T : List Txt) (L : Txt) : ∀ n, Rise (occTo T L n)
  | 0 => Rise.nil
  | n + 1 => by
    rw [occTo_succ]
    refine rise_app.2 ⟨rise_occTo T L n, rise_occRow T L n _, fun x hx y hy => ?_⟩
    obtain ⟨i, hi, h2⟩ := List.mem_flatMap.1 hx
    obtain ⟨j, rfl, _⟩ := mem_occRow.1 h2
    obtain ⟨k, rfl, _⟩ := mem_occRow.1 hy
    have := List.mem_range.1 hi
    exact .inl (by simp; omega)
theorem rise_occ (T : List Txt) (L : Txt) : Rise (occ T L) := rise_occTo T L _
theorem occ_ext {T T' : List Txt} {L : Txt} (h : ∀ x, x ≠ [] → (x ∈ T ↔ x ∈ T')) : occ T L = occ T' L :=
  rise_ext (rise_occ T L) (rise_occ T' L) fun p => by
    rw [mem_occ, mem_occ]
    constructor
    · rintro ⟨i, j, e, h1, h2, h3⟩
      refine ⟨i, j, e, h1, h2, (h _ fun e => ?_).1 h3⟩
      have := congrArg List.length e; rw [List.length_take, List.length_drop] at this; simp at this; omega
    · rintro ⟨i, j, e, h1, h2, h3⟩
      refine ⟨i, j, e, h1, h2, (h _ fun e => ?_).2 h3⟩
      have := congrArg List.length e; rw [List.length_take, List.length_drop] at this; simp at this; omega
theorem occRow_len (T : List Txt) (L : Txt) (i k : Nat) : (occRow T L i k).length ≤ k := by
  unfold occRow
  rw [List.length_map]
  exact Nat.le_trans (List.length_filter_le _ _) (by simp)
theorem occTo_len (T : List Txt) (L : Txt) : ∀ n, (occTo T L n).length ≤ n * L.length
  | 0 => by simp [occTo]
  | n + 1 => by
    rw [occTo_succ, List.length_append]
    have h1 := occTo_len T L n
    have h2 := occRow_len T L n (L.length - n)
    rw [Nat.succ_mul]; omega
end Seine.Sort
end
section
namespace Seine.Eng
open Seine.Trie Seine.Sort
/-- One text more. -/
def addP (acc : List Txt) (t : Txt) : List Txt := if t = [] ∨ t ∈ acc then acc else acc ++ [t]
/-- Patterns that aren't empty, each once, in the order in which they come. -/
def pset (l : List Txt) : List Txt := l.foldl addP []
theorem pset_nil : pset [] = [] := rfl
theorem pset_snoc (l : List Txt) (t : Txt) : pset (l ++ [t]) = addP (pset l) t := by unfold pset; rw [List.foldl_append]; rfl
theorem pset_take {l : List Txt} {k : Nat} (h : k < l.length) : pset (l.take (k + 1)) = addP (pset (l.take k)) (l.getD k []) := by
  rw [List.take_succ_eq_append_getElem h, pset_snoc]
  congr 1
  simp [h]
theorem mem_addP {acc : List Txt} {t x : Txt} : x ∈ addP acc t ↔ x ∈ acc ∨ (x = t ∧ t ≠ []) := by
  unfold addP
  split
  · rename_i h
    constructor
    · exact .inl
    · rintro (h' | ⟨rfl, h'⟩)
      · exact h'
      · exact h.elim (fun e => absurd e h') id
  · rename_i h
    rw [List.mem_append, List.mem_singleton]
    constructor
    · rintro (h' | rfl)
      · exact .inl h'
      · exact .inr ⟨rfl, fun e => h (.inl e)⟩
    · rintro (h' | ⟨rfl, _⟩)
      · exact .inl h'
      · exact .inr rfl
theorem mem_foldl : ∀ (l acc : List Txt) (x : Txt), x ∈ l.foldl addP acc ↔ x ∈ acc ∨ (x ∈ l ∧ x ≠ [])
  | [], acc, x => by simp
  | t :: l, acc, x => by
    rw [List.foldl_cons, mem_foldl l, mem_addP]
    constructor
    · rintro ((h | ⟨rfl, h⟩) | ⟨h, h'⟩)
      · exact .inl h
      · exact .inr ⟨by simp, h⟩
      · exact .inr ⟨by simp [h], h'⟩
    · rintro (h | ⟨h, h'⟩)
      · exact .inl (.inl h)
      · rcases List.mem_cons.1 h with rfl | h
        · exact .inl (.inr ⟨rfl, h'⟩)
        · exact .inr ⟨h, h'⟩
theorem mem_pset {l : List Txt} {x : Txt} : x ∈ pset l ↔ x ∈ l ∧ x ≠ [] := by unfold pset; rw [mem_foldl]; simp
theorem addP_len (acc : List Txt) (t : Txt) : (addP acc t).length ≤ acc.length + 1 := by unfold addP; split <;> simp
theorem foldl_len : ∀ (l acc : List Txt), (l.foldl addP acc).length ≤ acc.length + l.length
  | [], acc => by simp
  | t :: l, acc => by
    rw [List.foldl_cons]
    have := foldl_len l (addP acc t)
    have h2 := addP_len acc t
    simp only [List.length_cons]; omega
theorem pset_len (l : List Txt) : (pset l).length ≤ l.length := by have := foldl_len l []; simpa [pset] using this
theorem foldl_tot : ∀ (l acc : List Txt), ((l.foldl addP acc).map List.length).sum ≤ (acc.map List.length).sum + (l.map List.length).sum
  | [], acc => by simp
  | t :: l, acc => by
    rw [List.foldl_cons]
    have := foldl_tot l (addP acc t)
    have h2 : ((addP acc t).map List.length).sum ≤ (acc.map List.length).sum + t.length := by
      unfold addP; split
      · omega
      · simp
    simp only [List.map_cons, List.sum_cons]; omega
theorem occ_pset (l : List Txt) (L : Txt) : occ (pset l) L = occ l L := occ_ext fun x hx => by rw [mem_pset]; simp [hx]
theorem pset_ne {l : List Txt} {x : Txt} (h : x ∈ pset l) : x ≠ [] := (mem_pset.1 h).2
/-- How many bytes the shortest one has; 0: there is none. -/
def leastTo (acc : Nat) (t : Txt) : Nat := if acc = 0 ∨ t.length < acc then t.length else acc
def leastP (l : List Txt) : Nat := l.foldl leastTo 0
theorem leastP_snoc (l : List Txt) (t : Txt) : leastP (l ++ [t]) = leastTo (leastP l) t := by unfold leastP; rw [List.foldl_append]; rfl
theorem leastP_take {l : List Txt} {k : Nat} (h : k < l.length) : leastP (l.take (k + 1)) = leastTo (leastP (l.take k)) (l.getD k []) := by
  rw [List.take_succ_eq_append_getElem h, leastP_snoc]
  congr 1
  simp [h]
theorem leastTo_pos {acc : Nat} {t : Txt} (h : t ≠ []) : 0 < leastTo acc t := by
  have := List.length_pos_iff.2 h
  unfold leastTo
  split <;> omega
theorem foldl_least : ∀ (l : List Txt) (acc : Nat), 0 < acc → (∀ x ∈ l, x ≠ []) → 0 < l.foldl leastTo acc
  | [], acc, h, _ => h
  | t :: l, acc, _, hl => by
    rw [List.foldl_cons]
    exact foldl_least l _ (leastTo_pos (hl t (by simp))) fun x hx => hl x (by simp [hx])
theorem leastP_pos {l : List Txt} (h : l ≠ []) (hl : ∀ x ∈ l, x ≠ []) : 0 < leastP l := by
  cases l with
  | nil => exact absurd rfl h
  | cons t l =>
    unfold leastP
    rw [List.foldl_cons]
    exact foldl_least l _ (leastTo_pos (hl t (by simp))) fun x hx => hl x (by simp [hx])
theorem foldl_least_le : ∀ (l : List Txt) (acc m : Nat), acc ≤ m → (∀ x ∈ l, x.length ≤ m) → l.foldl leastTo acc ≤ m
  | [], acc, m, h, _ => h
  | t :: l, acc, m, h, hl => by
    rw [List.foldl_cons]
    refine foldl_least_le l _ m ?_ fun x hx => hl x (by simp [hx])
    have := hl t (by simp)
    unfold leastTo; split <;> omega
theorem leastP_le {l : List Txt} {m : Nat} (hl : ∀ x ∈ l, x.length ≤ m) : leastP l ≤ m := foldl_least_le l 0 m (Nat.zero_le _) hl
/-- All empty pieces of a line. -/
def empties (n : Nat) : List Pr := (List.range n).map fun (i : Nat) => ((i : Int), (i : Int))
theorem empties_succ (n : Nat) : empties (n + 1) = empties n ++ [((n : Int), (n : Int))] := by unfold empties; rw [List.range_succ, List.map_append]; rfl
theorem empties_length (n : Nat) : (empties n).length = n := by simp [empties]
theorem rise_empties : ∀ n, Rise (empties n)
  | 0 => Rise.nil
  | n + 1 => by
    rw [empties_succ, rise_app]
    refine ⟨rise_empties n, ?_, ?_⟩
    · exact List.pairwise_singleton _ _
    · intro x hx y hy
      rw [List.mem_singleton] at hy
      subst hy
      unfold empties at hx
      obtain ⟨i, hi, rfl⟩ := List.mem_map.1 hx
      have := List.mem_range.1 hi
      unfold lt; simp only; omega
theorem mem_empties {n : Nat} {p : Pr} : p ∈ empties n ↔ ∃ i : Nat, i < n ∧ p = ((i : Int), (i : Int)) := by
  unfold empties
  rw [List.mem_map]
  constructor
  · rintro ⟨i, hi, rfl⟩; exact ⟨i, List.mem_range.1 hi, rfl⟩
  · rintro ⟨i, hi, rfl⟩; exact ⟨i, List.mem_range.2 hi, rfl⟩
/-- What is found. -/
def findF (l : List Txt) (L : Txt) : List Pr := if [] ∈ l then sortP (occ l L ++ empties (L.length + 1)) else occ l L
end Seine.Eng
end
