/- Joined texts: SortWalk2, Sparse4, Dfa4. -/
import Derived.Test.YtglalojbdlepfaaM5
import Derived.WalkSpells
import Derived.Test.YtglalojbdlepfaaM4
import Derived.Laws.OwnMore
import Derived.Deep.DeepCutAuto
import Derived.Scope
section
/- The walks of package pairs: a copy, pairs in order. -/
set_option linter.unusedVariables false
set_option linter.unusedSimpArgs false
namespace Go.Proofs.Ytglalojbdlepfaa
open Go.RowKit Seine.Sort
theorem prs_one {b : List Pr} : ∀ u ∈ prCells b, u.oneCell' = true := fun u hu => by
  obtain ⟨x, _, hx⟩ := List.mem_flatMap.1 hu
  rcases List.mem_cons.1 hx with rfl | hx
  · rfl
  · rw [List.mem_singleton] at hx; subst hx; rfl
set_option maxRecDepth 100000 in
set_option maxHeartbeats 400000 in
theorem clonePrs_calls (A : Option Addr) (c : Nat) (l : List Pr) (w : World) (h : Prs w A l) (hl : l.length ≤ 1000000) :
    Calls Try.prog 68 #[.slice A l.length c] w (RetPrs w l) := by
  obtain ⟨n, hn⟩ : ∃ n, l.length = n := ⟨_, rfl⟩
  rw [hn] at hl ⊢
  replace hn := As.mk hn
  have H := As.mk h
  clear h
  cases A with
  | none =>
    have hl0 : l = [] := by
      rcases H.out with h | ⟨ad, e, _⟩
      · have := congrArg List.length h; rw [prCells_length] at this; exact List.eq_nil_of_length_eq_zero (by rw [List.length_nil] at this; omega)
      · cases e
    subst hl0
    have hnil : ∀ (w : World) (n c : Nat), (binOp .eql 36 (.slice none n c) (.slice none 0 0)).run Try.prog w = .ok (.bool true) w := fun w n c => Lib.run_eql_slice_nil w _ _ none n c 0 0 Try.underlying36
    go_enter Try.func68, Try.ntmps68
    go_wp2
    go_ret
    exact ⟨_, rfl, World.ownsRow_nil _ _ _ _, Below.refl _ _⟩
  | some ad =>
    have hown : As ((w.alloc (.cells #[] 65)).ownsRow w.heap.size 65 2 (.slice (some ⟨w.heap.size, 0, none⟩) 0 0) 0 []) := ⟨⟨rfl, .inr ⟨_, 0, #[], rfl, Nat.le_refl _, heap_alloc_new w _, Nat.le_refl _, Nat.zero_le _, rfl, rfl⟩⟩⟩
    have hrow := As.mk (Row.alloc H.out (.cells #[] 65))
    have hnl : As ((prCells l).length = n * 2) := ⟨by rw [prCells_length, hn.out]⟩
    have hnil : ∀ (w : World) (a : Addr) (n c : Nat), (binOp .eql 36 (.slice (some a) n c) (.slice none 0 0)).run Try.prog w = .ok (.bool false) w := fun w a n c => Lib.run_eql_slice_nil w _ _ (some a) n c 0 0 Try.underlying36
    go_enter Try.func68, Try.ntmps68
    go_wp2_with (at_builtin
                 refine wpList_apps _ rfl (.tmp 5) (.tmp 6) 36 rfl w.heap.size 65 _ 2 16 Try.underlying36 info_pr rfl (by decide) _ 0 [] rfl hown.out (some ad) n c (prCells l) hrow.out hnl.out prs_one rfl (by omega) (by decide) (by simp) ?_
                 intro v' w' h2 h3)
    go_ret
    exact ⟨v', rfl, by unfold OwnPrs; rw [hn.out]; simpa using h2, ((Below.refl _ _).alloc (Nat.le_refl _) _).trans h3⟩
theorem Prs.take_ {w : World} {A : Option Addr} {l : List Pr} (h : Prs w A l) (m : Nat) : Prs w A (l.take m) := by
  rcases h with h | ⟨ad, e, hlt, hc⟩
  · have h0 : l = [] := by have := congrArg List.length h; rw [prCells_length] at this; exact List.eq_nil_of_length_eq_zero (by rw [List.length_nil] at this; omega)
    subst h0
    exact .inl (by simp [prCells])
  · refine .inr ⟨ad, e, hlt, fun j u hu => hc j u ?_⟩
    have : prCells l = prCells (l.take m) ++ prCells (l.drop m) := by unfold prCells; rw [← List.flatMap_append, List.take_append_drop]
    rw [this, List.getElem?_append_left (List.getElem?_eq_some_iff.1 hu).1]; exact hu
theorem Prs.drop_ {w : World} {ad : Addr} {l : List Pr} (h : Prs w (some ad) l) (m : Nat) (hm : m ≤ l.length) : Prs w (some (ad.add (m * 2))) (l.drop m) := by
  rcases h with h | ⟨ad', e, hlt, hc⟩
  · have h0 : l = [] := by have := congrArg List.length h; rw [prCells_length] at this; exact List.eq_nil_of_length_eq_zero (by rw [List.length_nil] at this; omega)
    subst h0
    exact .inl (by simp [prCells])
  · injection e with e
    subst e
    refine .inr ⟨_, rfl, by rw [Addr.block_add]; exact hlt, fun j u hu => ?_⟩
    rw [Addr.add_add']
    refine hc _ u ?_
    have : prCells l = prCells (l.take m) ++ prCells (l.drop m) := by unfold prCells; rw [← List.flatMap_append, List.take_append_drop]
    rw [this, List.getElem?_append_right (by rw [prCells_length, List.length_take]; omega), prCells_length, List.length_take, Nat.min_eq_left hm, Nat.add_sub_cancel_left]; exact hu
theorem RetPrs.out {w w' : World} {xs : List Pr} {e : Ending} (h : RetPrs w xs e w') : ∃ v, e = .returned v ∧ OwnPrs w' w.heap.size v xs ∧ Below w.heap.size w w' := h
theorem RetPrs.row2 {w w' : World} {xs : List Pr} {e : Ending} (h : RetPrs w xs e w') : ∃ A c, e = .returned (.slice A xs.length c) ∧ xs.length ≤ c ∧ c ≤ maxLen ∧ Prs w' A xs ∧ Below w.heap.size w w' := by
  obtain ⟨v, rfl, ho, hb⟩ := h
  obtain ⟨A, c, rfl, hc, hr⟩ := OwnPrs.row ho
  refine ⟨A, c, rfl, hc, ?_, hr, hb⟩
  rcases ho.2 with ⟨hv, _⟩ | ⟨g, cap, cur, hv, _, _, _, hcm, _⟩
  · injection hv with _ _ h; omega
  · injection hv with _ _ h; omega
set_option maxRecDepth 100000 in
set_option maxHeartbeats 1600000 in
theorem sort_calls (k : Nat) : ∀ (A : Option Addr) (c : Nat) (l : List Pr) (w : World), l.length ≤ k → Prs w A l → l.length ≤ c → c ≤ maxLen → l.length ≤ 1000000 →
    Calls Try.prog 44 #[.slice A l.length c] w (RetPrs w (sortP l)) := by
  induction k with
  | zero =>
    intro A c l w hk h hc hcm hl
    obtain rfl : l = [] := List.eq_nil_of_length_eq_zero (by omega)
    have cc := As.mk (clonePrs_calls A c [] w h (by simp))
    rw [List.length_nil] at cc ⊢
    clear h
    go_enter Try.func44, Try.ntmps44
    go_wp2_with (go_at_call 68; refine Calls.mono cc.out ?_; rintro e w1 ⟨v, rfl, ho, hb⟩)
    go_ret
    exact ⟨v, rfl, ho, hb⟩
  | succ k ih =>
    intro A c l w hk h hc hcm hl
    unfold maxLen at hcm
    by_cases h2 : l.length < 2
    · have hs := As.mk (sortP_short h2)
      have cc := As.mk (clonePrs_calls A c l w h hl)
      obtain ⟨n, hn⟩ : ∃ n, l.length = n := ⟨_, rfl⟩
      rw [hn] at h2 cc ⊢
      rw [hs.out]
      clear h hn
      go_enter Try.func44, Try.ntmps44
      go_wp2_with (go_at_call 68; refine Calls.mono cc.out ?_; rintro e w1 ⟨v, rfl, ho, hb⟩)
      go_ret
      exact ⟨v, rfl, ho, hb⟩
    · obtain ⟨ad, rfl, _, _⟩ := Prs.at_ h (i := 0) (by omega)
      have HX := As.mk h
      obtain ⟨n, hn⟩ : ∃ n, l.length = n := ⟨_, rfl⟩
      obtain ⟨m, hm⟩ : ∃ m, n / 2 = m := ⟨_, rfl⟩
      have ct := As.mk (fun v (hv : Below w.heap.size w v) => (by have := ih (some ad) c (l.take m) v (by rw [List.length_take]; omega) ((Prs.take_ HX.out m).below hv) (by rw [List.length_take]; omega) (by unfold maxLen; omega) (by rw [List.length_take]; omega); rw [List.length_take, Nat.min_eq_left (by omega)] at this; exact this : Calls Try.prog 44 #[.slice (some ad) m c] v (RetPrs v (sortP (l.take m)))))
      have cd := As.mk (fun v (hv : Below w.heap.size w v) => (by have := ih (some (ad.add (m * 2))) (c - m) (l.drop m) v (by rw [List.length_drop]; omega) ((Prs.drop_ HX.out m (by omega)).below hv) (by rw [List.length_drop]; omega) (by unfold maxLen; omega) (by rw [List.length_drop]; omega); rw [List.length_drop, hn] at this; exact this : Calls Try.prog 44 #[.slice (some (ad.add (m * 2))) (n - m) (c - m)] v (RetPrs v (sortP (l.drop m)))))
      have hlt := As.mk (show (sortP (l.take m)).length ≤ 1000000 by have := sortP_len (l.take m); rw [List.length_take] at this; omega)
      have hld := As.mk (show (sortP (l.drop m)).length ≤ 1000000 by have := sortP_len (l.drop m); rw [List.length_drop] at this; omega)
      have hrt := As.mk (rise_sortP (l.take m))
      have hrd := As.mk (rise_sortP (l.drop m))
      rw [← sortP_split l m]
      rw [hn] at hk hc hl h2 ⊢
      replace hn := As.mk hn
      generalize sortP (l.take m) = S1 at *
      generalize sortP (l.drop m) = S2 at *
      have hm1 : m < n := by omega
      have hm2 : 1 ≤ m := by omega
      have hmc : ¬ c = m := by omega
      have hmc1 : m ≤ c := by omega
      have hmn : m ≤ n := by omega
      have hq : (n : Int) / 2 = (m : Int) := by omega
      replace hm := As.mk hm
      clear h ih
      go_enter Try.func44, Try.ntmps44
      go_wp2_with fail
      go_region_with (first
        | (go_at_call 44; with_reducible refine Calls.mono (ct.out _ ?hb) ?_; (case hb => (repeat (first | (with_reducible assumption) | (with_reducible exact Below.refl _ _) | (with_reducible refine Below.drew ?_) | (with_reducible refine below_drewN ?_ _) | (with_reducible refine Below.alloc ?_ (by (first | omega | (simp only [World.size_alloc, World.size_drew]; done) | (simp only [World.size_alloc, World.size_drew]; omega))) _) | (refine Below.trans ?_ (Below.mono (by with_reducible assumption) (by (first | omega | (simp only [World.size_alloc, World.size_drew]; done) | (simp only [World.size_alloc, World.size_drew]; omega)))))))); intro e w1 h1; obtain ⟨A1, c1, he, hc1, hm1', hr1, hb1⟩ := h1.row2; subst he; clear h1)
        | (go_at_call 44; with_reducible refine Calls.mono (cd.out _ ?hb) ?_; (case hb => (repeat (first | (with_reducible assumption) | (with_reducible exact Below.refl _ _) | (with_reducible refine Below.drew ?_) | (with_reducible refine below_drewN ?_ _) | (with_reducible refine Below.alloc ?_ (by (first | omega | (simp only [World.size_alloc, World.size_drew]; done) | (simp only [World.size_alloc, World.size_drew]; omega))) _) | (refine Below.trans ?_ (Below.mono (by with_reducible assumption) (by (first | omega | (simp only [World.size_alloc, World.size_drew]; done) | (simp only [World.size_alloc, World.size_drew]; omega)))))))); intro e w2 h2; obtain ⟨A2, c2, he, hc2, hm2', hr2, hb2⟩ := h2.row2; subst he; clear h2)
        | (go_at_call 69; with_reducible refine Calls.mono (joined_calls A1 c1 S1 A2 c2 S2 _ ?p1 ?p2 hc1 hc2 hm1' hm2' hrt.out hrd.out ?p3) ?_; (case p1 => first | exact hr1 | exact Row.below hr1 hb2); (case p2 => first | exact hr2 | exact Row.below hr2 hb1); (case p3 => have := hlt.out; have := hld.out; omega); intro e w3 h3; obtain ⟨v3, he, ho3, hb3⟩ := h3.out; subst he))
      all_goals
        go_wp2_with fail
        go_ret
        have e1 := hb1.size
        have e2 := hb2.size
        simp only [World.size_drew] at e1 e2
        refine ⟨v3, rfl, own_base ho3 (by omega), ?_⟩
        (repeat (first | (with_reducible assumption) | (with_reducible exact Below.refl _ _) | (with_reducible refine Below.drew ?_) | (with_reducible refine below_drewN ?_ _) | (with_reducible refine Below.alloc ?_ (by (first | omega | (simp only [World.size_alloc, World.size_drew]; done) | (simp only [World.size_alloc, World.size_drew]; omega))) _) | (refine Below.trans ?_ (Below.mono (by with_reducible assumption) (by (first | omega | (simp only [World.size_alloc, World.size_drew]; done) | (simp only [World.size_alloc, World.size_drew]; omega)))))))
end Go.Proofs.Ytglalojbdlepfaa
end
section
/- The walk of sparse.Scan. -/
set_option linter.unusedVariables false
set_option linter.unusedSimpArgs false
namespace Go.Proofs.Ytglalojbdlepfaa
open Go.RowKit Go.Maps Seine.Trie Seine.Links Seine.Sparse
open Seine.Sort (sortP sortP_len)
/-- A counting that has room. -/
def Cn.room (c : Cn) : Prop := 0 ≤ c.s ∧ c.s ≤ 100000000000 ∧ 0 ≤ c.l ∧ c.l ≤ 100000000000 ∧ 0 ≤ c.h ∧ c.h ≤ 100000000000 ∧ 0 ≤ c.m ∧ c.m ≤ 100000000000
def Cn.more (c : Cn) (i k : Nat) : Cn := ⟨c.s + (i : Int), c.l + (k : Int), c.h, c.m⟩
theorem Cn.more_zero (c : Cn) : c.more 0 0 = c := by unfold Cn.more; simp
theorem Cn.more_ok {c : Cn} (h : c.room) {i k : Nat} (hi : i ≤ 1000000) (hk : k ≤ 2000000) : (c.more i k).ok := by unfold Cn.room at h; unfold Cn.more Cn.ok; simp only; omega
theorem Keeps.transBelow {S : Nat → Prop} {w0 wr w4 : World} (h : Keeps S w0 wr) (k : Below w0.heap.size wr w4) : Keeps S w0 w4 :=
  ⟨k.os.trans h.os, k.tape.trans h.tape, k.output.trans h.output, Nat.le_trans h.size k.size, fun i hi hn => (k.block i hi).trans (h.block i hi hn)⟩
theorem Mo.belowAt {w w' : World} {mo : Option Nat} {c : Cn} {base : Nat} (h : Mo w mo c) (hlt : ∀ g, mo = some g → g < base) (hb : Below base w w') : Mo w' mo c := fun g e => (hb.block g (hlt g e)).trans (h g e)
theorem OwnPrs.row2 {w : World} {base : Nat} {v : Value} {xs : List Pr} (h : OwnPrs w base v xs) : ∃ A c, v = .slice A xs.length c ∧ xs.length ≤ c ∧ c ≤ maxLen ∧ Prs w A xs := by
  obtain ⟨A, c, rfl, hc, hr⟩ := OwnPrs.row h
  refine ⟨A, c, rfl, hc, ?_, hr⟩
  rcases h.2 with ⟨hv, _⟩ | ⟨g, cap, cur, hv, _, _, _, hcm, _⟩
  · injection hv with _ _ h; omega
  · injection hv with _ _ h; omega
/-- Pairs in new memory; all that was there stays, but for what counts. -/
def RetPrsM (w : World) (mo : Option Nat) (xs : List Pr) (cn : Cn) (e : Ending) (w' : World) : Prop := ∃ v, e = .returned v ∧ OwnPrs w' w.heap.size v xs ∧ Mo w' mo cn ∧ Keeps (OnlyM mo) w w'
theorem RetPrsM.out {w w' : World} {mo : Option Nat} {xs : List Pr} {cn : Cn} {e : Ending} (h : RetPrsM w mo xs cn e w') : ∃ A c, e = .returned (.slice A xs.length c) ∧ xs.length ≤ c ∧ c ≤ maxLen ∧ Prs w' A xs ∧ Mo w' mo cn ∧ Keeps (OnlyM mo) w w' ∧ OwnPrs w' w.heap.size (.slice A xs.length c) xs := by
  obtain ⟨v, rfl, ho, hm, hk⟩ := h
  obtain ⟨A, c, rfl, hc, hcm, hr⟩ := OwnPrs.row2 ho
  exact ⟨A, c, rfl, hc, hcm, hr, hm, hk, ho⟩
/-- What a scan hands from byte to byte. -/
structure ScanAt (w wr : World) (P l : List Txt) (L : Txt) (mo : Option Nat) (cn : Cn) (i : Nat) (v : Value) : Prop where
  own : OwnPrs wr w.heap.size v (hitsTo P l L i)
  mt : Mo wr mo (cn.more i (looksTo P L i))
  keep : Keeps (OnlyM mo) w wr
theorem sscan_none (w : World) (mv lv : Value) : Calls Try.prog 32 #[.pointer none, mv, lv] w fun e w' => e = .returned (.slice none 0 0) ∧ w = w' := by
  go_enter Try.func32, Try.ntmps32
  go_wp2
  go_ret
  exact ⟨rfl, rfl⟩
theorem RetInts.out {w w' : World} {xs : List Int} {e : Ending} (h : RetInts w xs e w') : ∃ v, e = .returned v ∧ OwnInts w' w.heap.size v xs ∧ Below w.heap.size w w' := h
theorem endsAt_eq {P l : List Txt} (hT : Tree P) (t : Txt) : endsAt P l (place P (lng P t)) = endsF l (lng P t) := by
  obtain ⟨a, ea, ha⟩ := place_nat' (lng_mem hT t)
  rw [ea]; exact endsAt_place hT ha
theorem endsF_range {l : List Txt} {s : Txt} {n : Int} (h : n ∈ endsF l s) : 1 ≤ n ∧ n ≤ s.length := by
  obtain ⟨k, h1, _, rfl⟩ := mem_endsF.1 h; omega
set_option maxRecDepth 100000 in
set_option maxHeartbeats 3200000 in
theorem sscan_calls (w : World) (g : Nat) (P l : List Txt) (h : AutoAt w g P l) (mo : Option Nat) (cn : Cn) (hm : Mo w mo cn) (hok : cn.room) (hT : Tree P) (hlP : ∀ x, x ∈ l → x ∈ P) (m : Nat) (hpm : ∀ p ∈ P, p.length ≤ m) (hm1 : m ≤ 100000) (hl : P.length ≤ 1000000)
    (A : Option Addr) (c : Nat) (L : Txt) (hx : Byt w A L) (hL : L.length ≤ 1000000) (hLm : L.length * m ≤ 1000000) :
    Calls Try.prog 32 #[.pointer (some ⟨g, 0, none⟩), .pointer (madr mo), .slice A L.length c] w (RetPrsM w mo (sortP (hitsTo P l L L.length)) (cn.more L.length (looksTo P L L.length))) := by
  have HA := As.mk h
  have HM := As.mk hm
  have hTr := As.mk hT
  have ctx := As.mk (fun v (hv : Below w.heap.size w v) => mtext_calls v mo cn (HM.out.below hv) A c L (Row.below hx hv) hL)
  obtain ⟨B, h1, h2, h3, h4⟩ := h
  obtain ⟨Av, cv, hv, hcv⟩ := own_slice h4
  have hrow := Row.of_own (by rw [hv] at h4; exact h4)
  have csp := As.mk (fun v (hb : Below w.heap.size w v) => msparse_calls v mo Av cv (P.length - 1) P hT hl (Row.below hrow hb) rfl)
  have hc2 := As.mk (fun v (hb : Below w.heap.size w v) => (show v.cell? ⟨g, 2, none⟩ = some (.slice Av (P.length - 1) cv) by rw [← hv]; exact cell_of_blk (blkBelow hb h1) 2))
  have d0 := hc2.out _ ((Below.refl _ _).drew)
  obtain ⟨n, hn⟩ : ∃ k, L.length = k := ⟨_, rfl⟩
  obtain ⟨pl, hpl⟩ : ∃ k, P.length - 1 = k := ⟨_, rfl⟩
  rw [hn] at ctx hL hLm ⊢
  rw [hpl] at csp hc2 d0
  have hn' := As.mk hn
  have hpm' := As.mk hpm
  have hlP' := As.mk hlP
  have hpl' := As.mk hpl
  clear h1 h2 h3 h4 hv hrow hm hT hx hn hpm hlP hpl
  go_enter Try.func32, Try.ntmps32
  go_wp2_with fail
  go_cut [7, 8] (fun v7 v8 wx => ∃ tb eb, v7 = .pointer (some ⟨tb, 0, none⟩) ∧ v8 = .pointer (some ⟨eb, 0, none⟩) ∧ As (TextAt wx tb mo L) ∧ As (TabS wx eb mo P) ∧ As (Below w.heap.size w wx))
  case first =>
    have hwd : Below w.heap.size w w.drew := (Below.refl _ _).drew
    go_region_with (first
      | (go_at_call 37; with_reducible refine Calls.mono (ctx.out _ ?hv) ?_; (case hv => with_reducible assumption); rintro e w1 ⟨tb, rfl, ht1, hb1⟩; have hw1 : Below w.heap.size w w1 := belowNext (by with_reducible assumption) hb1; have d1 := hc2.out _ hw1)
      | (go_at_call 55; with_reducible refine Calls.mono (csp.out _ ?hv) ?_; (case hv => with_reducible assumption); rintro e w2 ⟨eb, rfl, ht2, hb2⟩; have hw2 : Below w.heap.size w w2 := belowNext (by with_reducible assumption) hb2))
    all_goals
      go_wp2_with fail
      go_meet
      case rel => first
        | exact ⟨tb, eb, rfl, rfl, ⟨ht1.below hb2⟩, ⟨ht2⟩, ⟨hw2⟩⟩
        | exact ⟨tb, eb, rfl, rfl, ⟨ht1⟩, ⟨ht2.below hb1⟩, ⟨hw1⟩⟩
  case rest =>
    obtain ⟨tb, eb, rfl, rfl, hTx, hTab, hbw⟩ := hcut
    obtain ⟨W0, hW0⟩ : ∃ W, wc = W := ⟨_, rfl⟩
    rw [hW0] at hTx hTab hbw ⊢
    clear hW0 ctx csp hc2 d0
    have hA0 := As.mk (HA.out.below hbw.out)
    have hM0 := As.mk (HM.out.below hbw.out)
    have hglt := As.mk (fun g (e : mo = some g) => (block_lt (hM0.out g e) : g < W0.heap.size))
    have clen := As.mk (mlen_calls W0 tb mo L hTx.out)
    rw [hn'.out] at clen
    have hS0 : As (ScanAt W0 W0 P l L mo cn 0 (.slice none 0 0)) := ⟨⟨World.ownsRow_nil _ _ _ _, by rw [show looksTo P L 0 = 0 from rfl, Cn.more_zero]; exact hM0.out, Keeps.refl _ _⟩⟩
    have hp0 : place P (lng P (L.take 0)) = 0 := by rw [List.take_zero, lng_nil, place_at hTr.out.nodup hTr.out.root]; rfl
    go_wp2_with (go_at_call 40; refine Calls.mono clen.out ?_; rintro e w' ⟨rfl, rfl⟩)
    go_loopg [9, 10, 27] (n + 1) (fun gk v9 v10 v27 wr => ∃ (i : Nat) (u : Value), u = v9 ∧ As (n + 1 ≤ gk + i) ∧ i ≤ n ∧ v27 = .int .i64 i ∧ v10 = .int .i64 (place P (lng P (L.take i))) ∧ As (ScanAt W0 wr P l L mo cn i u))
    case atStart => exact ⟨0, _, rfl, ⟨by omega⟩, Nat.zero_le _, rfl, by rw [hp0], hS0⟩
    case round =>
      obtain ⟨i, u, rfl, hgk, hi, rfl, rfl, hS⟩ := hrel
      by_cases hlt : i < n
      · obtain ⟨gp, rfl⟩ : ∃ gp, gk = gp + 1 := ⟨gk - 1, by have := hgk.out; omega⟩
        have hlook := looksTo_cost hTr.out L (i + 1) (by rw [hn'.out]; omega)
        have hlook0 := looksTo_cost hTr.out L i (by rw [hn'.out]; omega)
        have cat := As.mk (mat_calls wr tb mo L (hTx.out.keep hM0.out hS.out.keep) _ hS.out.mt (Cn.more_ok hok (by omega) (by omega)) i (by rw [hn'.out]; exact hlt))
        have hsm := lng_mem hTr.out (L.take i)
        have hsx : looksTo P L (i + 1) = looksTo P L i + looks1 P (lng P (L.take i)) (L.getD i 0) := rfl
        have hnx : lng P (lng P (L.take i) ++ [L.getD i 0]) = lng P (L.take (i + 1)) := by rw [take_snoc' L i (by rw [hn'.out]; exact hlt), ← lng_step hTr.out]
        have cst := As.mk (fun v (hk : Keeps (OnlyM mo) W0 v) (hmv : Mo v mo (cn.more (i + 1) (looksTo P L i))) => sstep_calls v g eb P l (hA0.out.keepM hM0.out hk) mo (hTab.out.keep hM0.out hk) _ hmv hTr.out hl _ hsm (L.getD i 0) ⟨by
          have h1 : (cn.more (i + 1) (looksTo P L i)).looked (looks1 P (lng P (L.take i)) (L.getD i 0)) = cn.more (i + 1) (looksTo P L (i + 1)) := by rw [hsx]; unfold Cn.more Cn.looked; simp only [Cn.mk.injEq, true_and, and_true]; push_cast; omega
          rw [h1]; exact Cn.more_ok hok (by omega) (by omega), Cn.more_ok hok (by omega) (by omega)⟩)
        have hlk : (cn.more (i + 1) (looksTo P L i)).looked (looks1 P (lng P (L.take i)) (L.getD i 0)) = cn.more (i + 1) (looksTo P L (i + 1)) := by rw [hsx]; unfold Cn.more Cn.looked; simp only [Cn.mk.injEq, true_and, and_true]; push_cast; omega
        rw [hnx, hlk] at cst
        have hmS : { cn.more i (looksTo P L i) with s := (cn.more i (looksTo P L i)).s + 1 } = cn.more (i + 1) (looksTo P L i) := by unfold Cn.more; simp only [Cn.mk.injEq, true_and, and_true]; push_cast; omega
        rw [hmS] at cat
        have hendE := endsAt_eq (l := l) hTr.out (L.take (i + 1))
        have hEl := endsF_len l (lng P (L.take (i + 1)))
        have hEm := hpm'.out _ (lng_mem hTr.out (L.take (i + 1)))
        have hEr := As.mk (fun z (hz : z ∈ endsF l (lng P (L.take (i + 1)))) => endsF_range hz)
        have hh : hitsTo P l L (i + 1) = hitsTo P l L i ++ (endsF l (lng P (L.take (i + 1)))).map fun z => (((i + 1 : Nat) : Int) - z, ((i + 1 : Nat) : Int)) := rfl
        have hhl := hitsTo_len (l := l) hTr.out L m hpm'.out i
        have hll := lng_len hTr.out (L.take (i + 1))
        rw [List.length_take, hn'.out] at hll
        have cen := As.mk (fun v (hk : Keeps (OnlyM mo) W0 v) => (by
          obtain ⟨B, h1, h2, h3, h4⟩ := hA0.out.keepM hM0.out hk
          have := lends_calls v B.lb B.lg P l hTr.out hlP'.out (fun p hp => Nat.le_trans (hpm'.out p hp) hm1) h3 (place P (lng P (L.take (i + 1))))
          rw [hendE] at this
          exact ⟨_, cell_of_blk h1 1, this⟩ : ∃ lg, v.cell? ⟨g, 1, none⟩ = some (.pointer (some ⟨lg, 0, none⟩)) ∧ Calls Try.prog 43 #[.pointer (some ⟨lg, 0, none⟩), .int .i64 (place P (lng P (L.take (i + 1))))] v (RetInts v (endsF l (lng P (L.take (i + 1)))))))
        generalize endsF l (lng P (L.take (i + 1))) = E at *
        obtain ⟨st2, hst2⟩ : ∃ x, place P (lng P (L.take (i + 1))) = x := ⟨_, rfl⟩
        rw [hst2] at cst hendE cen
        replace hst2 := As.mk hst2
        generalize place P (lng P (L.take i)) = st1 at *
        generalize L.getD i 0 = x at *
        have hwx : IntKind.u8.wrap (x.toNat : Int) = (x.toNat : Int) := by have := x.toNat_lt; simp only [IntKind.wrap, IntKind.signed, IntKind.bits]; simp; omega
        replace hh := As.mk hh
        clear hsx hnx hlk hmS hendE hsm hlook hlook0
        go_wp2_with (first
          | (go_at_call 42; refine Calls.mono cat.out ?_; rintro e w4 ⟨rfl, hm4, hk4⟩; have hk4' := hS.out.keep.trans hk4)
          | (go_at_call 56; refine Calls.mono (cst.out _ hk4' hm4) ?_; rintro e w5 ⟨rfl, hm5, hk5⟩; have hk5' := hk4'.trans hk5; obtain ⟨lg, hlg, cE⟩ := cen.out _ hk5')
          | (go_at_call 43; refine Calls.mono cE ?_; intro e w6 h6; obtain ⟨vE, heE, hoE, hb6⟩ := h6.out; subst heE; obtain ⟨AE, cE', rfl, hcE⟩ := own_slice hoE))
        obtain ⟨H, hH⟩ : ∃ H, hitsTo P l L i = H := ⟨_, rfl⟩
        obtain ⟨hSo, hSm, hSk⟩ := hS.out
        rw [hH] at hSo hh hhl
        obtain ⟨el, hel⟩ : ∃ k, E.length = k := ⟨_, rfl⟩
        have hown6 : OwnPrs w6 W0.heap.size u H := own_below (own_keep (own_keep hSo hk4 (fun b c' _ hb _ => hSm.far hb (.inr (by decide)))) hk5 (fun b c' _ hb _ => hm4.far hb (.inr (by decide)))) hb6
        have hin : As (OwnPrs w6 W0.heap.size u (H ++ (E.take 0).map fun z => (((i + 1 : Nat) : Int) - z, ((i + 1 : Nat) : Int)))) := ⟨by rw [List.take_zero, List.map_nil, List.append_nil]; exact hown6⟩
        have hmo6 := As.mk (hm5.below hb6)
        have hkp6 := As.mk (hk5'.trans (Keeps.of_below hb6 _))
        have hoE' := As.mk hoE
        have hW5 := hk5'.size
        rw [hel] at hcE ⊢
        have hHl : As (H.length + el ≤ 1000000) := ⟨by
          have : (i + 1) * m ≤ n * m := Nat.mul_le_mul_right _ (by omega)
          rw [Nat.succ_mul] at this
          omega⟩
        have hel6 : el ≤ 1000000 := by have := hHl.out; omega
        replace hel := As.mk hel
        replace hH := As.mk hH
        clear cat cst cen cE hm4 hk4 hk4' hm5 hk5 hk5' hb6 h6 hoE hown6 hS hSo hSm hSk hhl hlg
        go_loopg [9, 45] (el + 1) (fun g2 v9 v45 wq => ∃ (j : Nat) (u2 : Value), u2 = v9 ∧ As (el + 1 ≤ g2 + j) ∧ j ≤ el ∧ v45 = .int .i64 j ∧ As (OwnPrs wq W0.heap.size u2 (H ++ (E.take j).map fun z => (((i + 1 : Nat) : Int) - z, ((i + 1 : Nat) : Int)))) ∧ As (Mo wq mo (cn.more (i + 1) (looksTo P L (i + 1)))) ∧ As (Keeps (OnlyM mo) W0 wq) ∧ As (wq.ownsRow w5.heap.size 3 1 (.slice AE el cE') el (intVals E)))
        case atStart => exact ⟨0, _, rfl, ⟨by omega⟩, Nat.zero_le _, rfl, hin, hmo6, hkp6, ⟨by rw [← hel.out]; exact hoE'.out⟩⟩
        case round =>
          obtain ⟨j, u2, rfl, hgk2, hj, rfl, hown, hmq, hkq, hoq⟩ := hrel
          by_cases hjl : j < el
          · obtain ⟨gq, rfl⟩ : ∃ gq, gk = gq + 1 := ⟨gk - 1, by have := hgk2.out; omega⟩
            obtain ⟨ad, rfl, hc0⟩ := Ints.at_ (Row.of_own hoq.out) (i := j) (by rw [hel.out]; exact hjl)
            have hjE : j < E.length := by rw [hel.out]; exact hjl
            have hzz := hEr.out (E.getD j 0) (by rw [List.getD_eq_getElem?_getD, List.getElem?_eq_getElem hjE]; exact List.getElem_mem hjE)
            have htk : (E.take (j + 1)).map (fun z => (((i + 1 : Nat) : Int) - z, ((i + 1 : Nat) : Int))) = (E.take j).map (fun z => (((i + 1 : Nat) : Int) - z, ((i + 1 : Nat) : Int))) ++ [(((i + 1 : Nat) : Int) - E.getD j 0, ((i + 1 : Nat) : Int))] := by
              rw [List.take_succ_eq_append_getElem hjE, List.map_append, List.getD_eq_getElem?_getD, List.getElem?_eq_getElem hjE]; rfl
            have hql : (H ++ (E.take j).map fun z => (((i + 1 : Nat) : Int) - z, ((i + 1 : Nat) : Int))).length + 1 ≤ 1000000 := by
              rw [List.length_append, List.length_map, List.length_take]
              have := hHl.out; omega
            generalize (E.take j).map (fun z => (((i + 1 : Nat) : Int) - z, ((i + 1 : Nat) : Int))) = Q at *
            generalize E.getD j 0 = z at *
            obtain ⟨ql, hqq⟩ : ∃ k, (H ++ Q).length = k := ⟨_, rfl⟩
            rw [hqq] at hql
            have hown' : wr.ownsRow W0.heap.size 65 2 u2 ql (prCells (H ++ Q)) := by have := hown.out; unfold OwnPrs at this; rwa [hqq] at this
            have hz0 := hzz.1
            have hz1 := hzz.2
            have hsq := hkq.out.size
            have hwz : IntKind.i64.wrap ((i : Int) + 1 - z) = (i : Int) + 1 - z := by simp only [IntKind.wrap, IntKind.signed, IntKind.bits]; simp; omega
            replace hown' := As.mk hown'
            replace hqq := As.mk hqq
            replace htk := As.mk htk
            clear hjE hzz hown
            go_wp2_with (at_builtin
                         (refine wpList_app1 wr rfl (.tmp 49) (.tmp 57) 36 rfl W0.heap.size 65 _ 2 16 Try.underlying36 info_pr rfl (by decide) u2 ql (prCells (H ++ Q)) rfl hown'.out [.int .i64 ((i : Int) + 1 - z), .int .i64 ((i : Int) + 1)] rfl (by simp [Value.oneCell']) _ rfl (by simp) (by omega) (by decide) hsq ?_)
                         intro v8 w8 ho8 hk8 _ hb8)
            have hoq8 := own_keep hoq.out hk8 (fun b c' _ hb _ hS => own_not_type hown'.out hb (by decide) hS)
            have hkq8 := hkq.out.transBelow hb8
            have hmq8 := hmq.out.belowAt hglt.out hb8
            go_roundg gq
            case rel =>
              refine ⟨j + 1, _, rfl, ⟨by have := hgk2.out; omega⟩, by omega, (by first | rfl | go_num | (congr 1; omega)), ⟨?_⟩, ⟨hmq8⟩, ⟨hkq8⟩, ⟨hoq8⟩⟩
              rw [htk.out, ← List.append_assoc]
              unfold OwnPrs
              rw [List.length_append, hqq.out, List.length_singleton, prCells_snoc]
              push_cast
              exact ho8
            case measure => omega
          · obtain rfl : el = j := by omega
            have hfin : As (ScanAt W0 wr P l L mo cn (i + 1) u2) := ⟨⟨by rw [hh.out]; have := hown.out; rw [List.take_of_length_le (by rw [hel.out]; exact Nat.le_refl _)] at this; exact this, hmq.out, hkq.out⟩⟩
            go_wp2
            go_roundg gp
            case rel => exact ⟨i + 1, _, rfl, ⟨by have := hgk.out; omega⟩, by omega, (by first | rfl | go_num | (congr 1; omega)), congrArg _ hst2.out.symm, hfin⟩
            case measure => omega
      · obtain rfl : n = i := by omega
        have hhl := hitsTo_len (l := l) hTr.out L m hpm'.out n
        have hso : RetPrsM w mo (sortP (hitsTo P l L n)) (cn.more n (looksTo P L n)) = RetPrsM w mo (sortP (hitsTo P l L n)) (cn.more n (looksTo P L n)) := rfl
        have hSo := hS.out.own
        have hSm := As.mk hS.out.mt
        have hSk := As.mk hS.out.keep
        obtain ⟨Ao, co, rfl, hco, hcm, hro⟩ := OwnPrs.row2 hSo
        have cso := As.mk (sort_calls _ Ao co (hitsTo P l L n) wr (Nat.le_refl _) hro hco hcm (by omega))
        have hss := hS.out.keep.size
        clear hSo hro hS hso
        generalize sortP (hitsTo P l L n) = R at *
        go_wp2_with (go_at_call 44; refine Calls.mono cso.out ?_; intro e w9 h9; obtain ⟨v9, he, ho9, hb9⟩ := h9.out; subst he)
        go_ret
        have hs0 := hbw.out.size
        exact ⟨v9, rfl, own_base ho9 (by omega), hSm.out.below hb9, ((Keeps.of_below hbw.out _).trans hSk.out).trans (Keeps.of_below hb9 _)⟩
end Go.Proofs.Ytglalojbdlepfaa
end
section
/- The walk of dfa's fill. -/
set_option linter.unusedVariables false
set_option linter.unusedSimpArgs false
namespace Go.Proofs.Ytglalojbdlepfaa
open Go.RowKit Seine.Trie Seine.Dfa Seine.Links
open Go in
theorem take_lit {P : Program} {l : List Oper} {Q : Exit → Act → World → Prop} {md : Region.Mode} {S : World → Prop} (i : Nat) {oi : Oper} {v : Value} {fuel : Nat} {listed : Array Bool} {a : Act} {w : World} (hi : (l.drop i).head? = some oi)
    (hs : Region.noSelect l.toArray = true) (hf : Region.free md l.toArray listed i = true) (hr : (Region.ready md l.toArray listed).contains i = true)
    (hQ : ∀ c a w, Q (.panic c) (a.put oi.dst v) w → Q (.panic c) a w) (hy : YieldsIf P l.toArray S oi v a) (hS : S w)
    (h : wpAnyH P md l.toArray Q S fuel (listed.setIfInBounds i true) (a.put oi.dst v) w) : wpAnyH P md l.toArray Q S (fuel + 1) listed a w :=
  wpAnyH_take (by rw [List.getElem?_toArray, ← hi, List.head?_drop]) hs hf hr hQ hy hS h
theorem copy_src {w : World} {nb n W f b j : Nat} {G : Nat → Nat → Int} {v : Value} (h : w.heap[nb]? = some (.cells (tabL G n W).toArray 3 (0, 0))) (hf : f < n) (hb : f * W = b) (hj : (rowVals (G f) W)[j]? = some v) : w.cell? ((⟨nb, b, none⟩ : Addr).add j) = some v := by
  have hjl := (List.getElem?_eq_some_iff.1 hj).1
  rw [rowVals_length] at hjl
  rw [rowVals_get _ hjl] at hj
  rw [Addr.add_mid, cell_of_blk h, ← hb, List.getElem?_toArray, tabL_at G hf hjl, hj]
set_option maxRecDepth 100000 in
set_option maxHeartbeats 1600000 in
theorem fill_calls (w : World) (base lb g tg lg : Nat) (P l : List Txt) (F : UInt8 → Nat) (m W n : Nat) (ht : TrieAt w base tg P (place l)) (hb : DfaBlk w g tg lg F m (.slice none 0 0)) (hm : m ≤ 256) (hW : m + 1 = W) (hn : P.length = n) (hn2 : n ≤ 160) (hlk : LinksOf w lb lg P l) (hl : P.length ≤ 1000000) (hPl : paths l = P) (hF : ∀ c, F c = clsF l c) (hmw : (listTo (stands l) 256).length = m) :
    Calls Try.prog 35 #[.pointer (some ⟨g, 0, none⟩)] w fun e w' => e = .returned (.tuple #[]) ∧ ∃ nb, w.heap.size ≤ nb ∧ w'.heap[nb]? = some (.cells (tabL (gridF P l P) n W).toArray 3 (0, 0)) ∧ DfaBlk w' g tg lg F m (.slice (some ⟨nb, 0, none⟩) (n * W) (n * W)) ∧ Keeps (fun k => k = g) w w' := by
  have hT0 := As.mk ht
  have hTr := As.mk ht.tree
  have hnd := As.mk (fun v (hv : Below w.heap.size w v) => nodes_calls v base tg P (place l) (ht.below hv))
  have hlen := As.mk (fun v => clen_calls v F m hm)
  rw [hW] at hlen
  rw [hn] at hnd
  obtain ⟨c0, c1, c2⟩ := hb.cells
  have hr := As.mk hb.range
  have hsz := zero_cls.2
  obtain ⟨C, hCC⟩ : ∃ C, clsCells F m = C := ⟨_, rfl⟩
  have hCs : C.length = 257 := by rw [← hCC]; exact clsCells_length _ _
  have hV : clsV F m = C.toArray := by rw [← hCC]; rfl
  rw [hCC] at hr
  rw [hV] at hlen
  have hglt := As.mk (World.block_lt_of_cell? w _ c0)
  have hrC : ∀ v, Below w.heap.size w v → v.rangeAt g 2 C := fun v hv j u hu => (hv.cell (p := ⟨g, 2 + j, none⟩) hglt.out).trans (hr.out j u hu)
  have hg0 : ∀ v, Below w.heap.size w v → v.cell? ⟨g, 0, none⟩ = some (.pointer (some ⟨tg, 0, none⟩)) := fun v hv => (hv.cell (p := ⟨g, 0, none⟩) hglt.out).trans c0
  replace hrC := As.mk hrC
  obtain ⟨N, hN⟩ : ∃ N, n * W = N := ⟨_, rfl⟩
  have hNb : N ≤ 50000 := by rw [← hN]; exact Nat.le_trans (Nat.mul_le_mul hn2 (by omega : W ≤ 257)) (by decide)
  obtain ⟨Z, hZ, hmk⟩ := make_ints N (by omega)
  have hmul : (n : Int) * (W : Int) = (N : Int) := by rw [← hN]; push_cast; rfl
  have hwN : IntKind.i64.wrap (N : Int) = (N : Int) := by rw [IntKind.wrap_i64]; omega
  replace hN := As.mk hN
  replace hZ := As.mk hZ
  have hw0 : Below w.heap.size w w.drew := (Below.refl _ _).drew
  replace hsz := As.mk hsz
  replace hCC := As.mk hCC
  clear hV c0
  go_enter Try.func35, Try.ntmps35
  refine wp_scope_straight ?_
  go_upto_region 0 with fail
  go_cut [9] (fun v9 wx => v9 = .pointer (some ⟨g, 0, none⟩) ∧ ∃ nb, As (w.heap.size ≤ nb) ∧ As (wx.heap[nb]? = some (.cells (tabL (fun _ _ => 0) n W).toArray 3 (0, 0))) ∧ As (DfaBlk wx g tg lg F m (.slice (some ⟨nb, 0, none⟩) (n * W) (n * W))) ∧ As (Keeps (fun k => k = g) w wx))
  case first =>
    refine wp_region_held_drew (S := fun v => Keeps (fun k => k = g) w v ∧ v.cell? ⟨g, 0, none⟩ = some (.pointer (some ⟨tg, 0, none⟩)) ∧ v.rangeAt g 2 C) (by kernel_rfl) ⟨Keeps.of_below hw0 _, hg0 _ hw0, hrC.out _ hw0⟩ (fun hHeld => ?_)
    refine take_lit 0 (v := ?_) rfl (by kernel_rfl) (by kernel_rfl) (by kernel_rfl) (fun _ _ _ h => h) (Or.inl ⟨by rfl, ?_⟩) (by assumption) ?_
    rotate_left 1
    · (intro w hSw; (try dsimp only at hSw); first | (go_simp; done) | (go_simp; with_reducible rfl))
    (simp only [Act.put, List.setIfInBounds_toArray, List.set_cons_zero, List.set_cons_succ])
    refine take_lit 1 (v := ?_) rfl (by kernel_rfl) (by kernel_rfl) (by kernel_rfl) (fun _ _ _ h => h) (Or.inl ⟨by rfl, ?_⟩) (by assumption) ?_
    rotate_left 1
    · (intro w hSw; (try dsimp only at hSw); first | (go_simp; done) | (go_simp; with_reducible rfl))
    (simp only [Act.put, List.setIfInBounds_toArray, List.set_cons_zero, List.set_cons_succ])
    refine take_lit 2 (v := ?_) rfl (by kernel_rfl) (by kernel_rfl) (by kernel_rfl) (fun _ _ _ h => h) (Or.inl ⟨by rfl, ?_⟩) (by assumption) ?_
    rotate_left 1
    · (intro w hSw; (try dsimp only at hSw); first | (go_simp; done) | (go_simp; with_reducible rfl))
    (simp only [Act.put, List.setIfInBounds_toArray, List.set_cons_zero, List.set_cons_succ])
    refine take_lit 3 (v := ?_) rfl (by kernel_rfl) (by kernel_rfl) (by kernel_rfl) (fun _ _ _ h => h) (Or.inl ⟨by rfl, ?_⟩) (by assumption) ?_
    rotate_left 1
    · (intro w hSw; (try dsimp only at hSw); first | (go_simp; done) | (go_simp; with_reducible rfl))
    (simp only [Act.put, List.setIfInBounds_toArray, List.set_cons_zero, List.set_cons_succ])
    refine take_lit 4 (v := ?_) rfl (by kernel_rfl) (by kernel_rfl) (by kernel_rfl) (fun _ _ _ h => h) (Or.inl ⟨by rfl, ?_⟩) (by assumption) ?_
    rotate_left 1
    · (intro w hSw; (try dsimp only at hSw); first | (go_simp; done) | (go_simp; with_reducible rfl))
    (simp only [Act.put, List.setIfInBounds_toArray, List.set_cons_zero, List.set_cons_succ])
    refine take_lit 6 (v := ?_) rfl (by kernel_rfl) (by kernel_rfl) (by kernel_rfl) (fun _ _ _ h => h) (Or.inl ⟨by rfl, ?_⟩) (by assumption) ?_
    rotate_left 1
    · (intro w hSw; (try dsimp only at hSw); first | (go_simp; done) | (go_simp; with_reducible rfl))
    (simp only [Act.put, List.setIfInBounds_toArray, List.set_cons_zero, List.set_cons_succ])
    refine take_lit 7 (v := ?_) rfl (by kernel_rfl) (by kernel_rfl) (by kernel_rfl) (fun _ _ _ h => h) (Or.inl ⟨by rfl, ?_⟩) (by assumption) ?_
    rotate_left 1
    · (intro w hSw; (try dsimp only at hSw); first | (go_simp; done) | (go_simp; with_reducible rfl))
    (simp only [Act.put, List.setIfInBounds_toArray, List.set_cons_zero, List.set_cons_succ])
    refine take_lit 8 (v := ?_) rfl (by kernel_rfl) (by kernel_rfl) (by kernel_rfl) (fun _ _ _ h => h) (Or.inl ⟨by rfl, ?_⟩) (by assumption) ?_
    rotate_left 1
    · (intro w hSw; (try dsimp only at hSw); first | (go_simp; done) | (go_simp; with_reducible rfl))
    (simp only [Act.put, List.setIfInBounds_toArray, List.set_cons_zero, List.set_cons_succ])
    refine take_lit 9 rfl (by kernel_rfl) (by kernel_rfl) (by kernel_rfl) (fun _ _ _ h => h) (yieldsIf_load_mid (by rfl) _ _ rfl _ _ rfl C _ (fun v hv => hv.2.2) Try.underlying47 rfl (by rw [hCs]; exact hsz.out)) (by assumption) ?_
    (simp only [Act.put, List.setIfInBounds_toArray, List.set_cons_zero, List.set_cons_succ])
    refine wpAnyH_ready (rs := [5]) (by kernel_rfl) (by simp) ?_
    refine AllReadyH.cons rfl (fun K hK => ?_) AllReadyH.nil
    go_simp
    go_wp2_with (go_at_call 29; refine Calls.mono (hnd.out _ hw0) ?_; rintro e w' ⟨rfl, rfl⟩)
    refine hK.out _ _ hHeld (fun hHeld => ?_)
    clear hK K
    refine wpAnyH_ready (rs := [10]) (by kernel_rfl) (by simp) ?_
    refine AllReadyH.cons rfl (fun K hK => ?_) AllReadyH.nil
    go_simp
    go_wp2_with (go_at_call 24; refine Calls.mono (hlen.out _) ?_; rintro e w1 ⟨rfl, hbx⟩)
    have hB1 : Below w.heap.size w w1 := belowNext hw0 hbx
    refine hK.out _ _ ⟨Keeps.of_below hB1 _, hg0 _ hB1, hrC.out _ hB1⟩ (fun hHeld => ?_)
    clear hK K
    refine take_lit 11 (v := ?_) rfl (by kernel_rfl) (by kernel_rfl) (by kernel_rfl) (fun _ _ _ h => h) (Or.inl ⟨by rfl, ?_⟩) (by assumption) ?_
    rotate_left 1
    · (intro w hSw; (try dsimp only at hSw); first | (go_simp; done) | (go_simp; with_reducible rfl))
    (simp only [Act.put, List.setIfInBounds_toArray, List.set_cons_zero, List.set_cons_succ])
    refine wpAnyH_ready (rs := [12]) (by kernel_rfl) (by simp) ?_
    refine AllReadyH.cons rfl (fun K hK => ?_) AllReadyH.nil
    go_simp
    have ht2 := heap_alloc_new w1 (.cells Z.toArray 3)
    have hs1 := hB1.size
    have hB2 : Below w.heap.size w (w1.alloc (.cells Z.toArray 3)) := hB1.alloc hs1 _
    have hnb : w.heap.size ≤ w1.heap.size := hs1
    obtain ⟨nb, hnbe⟩ : ∃ k, w1.heap.size = k := ⟨_, rfl⟩
    rw [hnbe] at ht2 hnb ⊢
    obtain ⟨w2, hw2⟩ : ∃ v, w1.alloc (.cells Z.toArray 3) = v := ⟨_, rfl⟩
    rw [hw2] at hB2 ht2 ⊢
    refine hK.out _ _ ⟨Keeps.of_below hB2 _, hg0 _ hB2, hrC.out _ hB2⟩ (fun hHeld => ?_)
    clear hK K hw2 hnbe
    refine take_lit 13 (v := ?_) rfl (by kernel_rfl) (by kernel_rfl) (by kernel_rfl) (fun _ _ _ h => h) (Or.inl ⟨by rfl, ?_⟩) (by assumption) ?_
    rotate_left 1
    · (intro w hSw; (try dsimp only at hSw); first | (go_simp; done) | (go_simp; with_reducible rfl))
    (simp only [Act.put, List.setIfInBounds_toArray, List.set_cons_zero, List.set_cons_succ])
    refine take_lit 14 (v := ?_) rfl (by kernel_rfl) (by kernel_rfl) (by kernel_rfl) (fun _ _ _ h => h) (Or.inl ⟨by rfl, ?_⟩) (by assumption) ?_
    rotate_left 1
    · (intro w hSw; (try dsimp only at hSw); first | (go_simp; done) | (go_simp; with_reducible rfl))
    (simp only [Act.put, List.setIfInBounds_toArray, List.set_cons_zero, List.set_cons_succ])
    obtain ⟨D, k1, k2, k3, k4, k5, k6⟩ := hb.below hB2
    have e259 : w2.cell? ⟨g, 259, none⟩ = some (.slice none 0 0) := by rw [cell_of_blk k1]; exact k6
    have f259 : w2.frozen? ⟨g, 259, none⟩ = false := free_of_blk k1 _
    replace k1 := As.mk k1
    replace ht2 := As.mk ht2
    refine wpAnyH_ready (rs := [15]) (by kernel_rfl) (by simp) ?_
    refine AllReadyH.cons rfl (fun K hK => ?_) AllReadyH.nil
    go_simp
    have hD3 := DfaBlk.set (hb.below hB2) (.slice (some ⟨nb, 0, none⟩) N N)
    have hK3 : Keeps (fun k => k = g) w (w2.setCell ⟨g, 259, none⟩ (.slice (some ⟨nb, 0, none⟩) N N)) := (Keeps.of_below hB2 _).trans ((keepsSt w2 ⟨g, 259, none⟩ _).mono fun _ _ h => h)
    have ht3 : (w2.setCell ⟨g, 259, none⟩ (.slice (some ⟨nb, 0, none⟩) N N)).heap[nb]? = some (.cells (tabL (fun _ _ => 0) n W).toArray 3 (0, 0)) := by
      rw [tab_zero, hN.out, ← hZ.out]
      exact blk_far (p := ⟨g, 259, none⟩) ht2.out (by have := hglt.out; show nb ≠ g; omega) _
    refine hK.out _ _ ⟨hK3, hD3.cells.1, hCC.out ▸ hD3.range⟩ (fun hHeld => ?_)
    clear hK K
    refine wpAnyH_done (by kernel_rfl) ?_ _
    go_wp2_with fail
    go_meet
    case rel => exact ⟨rfl, nb, ⟨hnb⟩, ⟨ht3⟩, ⟨hN.out.symm ▸ hD3⟩, ⟨hK3⟩⟩
  case rest =>
    obtain ⟨rfl, nb, hnb, htab, hD0, hK0⟩ := hcut
    obtain ⟨W0, hW0⟩ : ∃ W, wc = W := ⟨_, rfl⟩
    rw [hW0] at htab hD0 hK0 ⊢
    rw [hN.out] at hD0
    clear hW0 hnd hlen hr hrC hg0 hmul hmk hwN hw0 c1 c2
    have hT := hTr.out
    obtain ⟨D, d1, _⟩ := hb
    have hgblk : ∀ b, b = g → ∃ cs t fr, w.heap[b]? = some (.cells cs t fr) ∧ t ≠ 96 ∧ t ≠ 92 := fun b e => ⟨_, _, _, e ▸ d1, by decide, by decide⟩
    have hgblk2 : ∀ b, b = g → ∃ cs t fr, w.heap[b]? = some (.cells cs t fr) ∧ t ≠ 106 ∧ t ≠ 3 := fun b e => ⟨_, _, _, e ▸ d1, by decide, by decide⟩
    have hL0 := LinksAt.keepOf hlk hK0.out hgblk2
    have cOr := As.mk (lorder_calls W0 lb lg P l hT hl hL0)
    have hgs := block_lt htab.out
    have hg1 : W0.cell? ⟨g, 1, none⟩ = some (.pointer (some ⟨lg, 0, none⟩)) := hD0.out.cells.2.1
    have hol := orderF_length hT
    go_wp2_with fail
    apply wp_label
    go_wp2_with (go_at_call 61; refine Calls.mono cOr.out ?_; intro e W1 h1; obtain ⟨vO, heO, hoO, hbO⟩ := h1.out; subst heO; obtain ⟨AO, cO, rfl, hcO⟩ := own_slice hoO)

    rw [hol, hn] at hcO
    have hS0 := hK0.out.size
    have hS1 := hbO.size
    have KT := As.mk (fun (v : World) (hv : Keeps (fun k => k = nb) W1 v) => (by
      have hk1 : Keeps (fun k => k = g) w v := by
        have ha : Keeps (fun k => k = g ∨ w.heap.size ≤ k) w W0 := hK0.out.mono fun k _ h => .inl h
        have hb2 : Keeps (fun k => k = g ∨ w.heap.size ≤ k) W0 W1 := Keeps.of_below hbO _
        have hc : Keeps (fun k => k = g ∨ w.heap.size ≤ k) W1 v := hv.mono fun k _ h => .inr (by have := hnb.out; omega)
        exact ((ha.trans hb2).trans hc).mono fun k hk h => h.elim id (fun h => absurd h (by omega))
      exact ⟨hT0.out.keepOf hk1 hgblk, LinksAt.keepOf hlk hk1 hgblk2, (hD0.out.below hbO).keep hv (by have := hnb.out; have := hglt.out; omega), own_keep hoO hv (fun b c hbb _ _ e => by omega)⟩ : TrieAt v base tg P (place l) ∧ LinksOf v lb lg P l ∧ DfaBlk v g tg lg F m (.slice (some ⟨nb, 0, none⟩) N N) ∧ OwnInts v W0.heap.size (.slice AO (orderF P).length cO) (orderF P)))
    have htab1 := As.mk (blkBelow hbO htab.out)
    obtain ⟨O, hO⟩ : ∃ O, op P P.length = O := ⟨_, rfl⟩
    have hOl : O.length = n := by rw [← hO, ← hn]; have h9 := hol; unfold orderF at h9; rw [List.length_map] at h9; exact h9
    go_loopg [30] (n + 1) (fun gk v30 wr => ∃ i : Nat, As (n + 1 ≤ gk + i) ∧ i ≤ n ∧ v30 = .int .i64 i ∧ As (wr.heap[nb]? = some (.cells (tabL (gridF P l (O.take i)) n W).toArray 3 (0, 0))) ∧ As (Keeps (fun k => k = nb) W1 wr))
    case atStart => exact ⟨0, ⟨by omega⟩, Nat.zero_le _, rfl, ⟨by rw [← hO, gridF_zero]; exact htab1.out⟩, ⟨Keeps.refl _ _⟩⟩
    case round =>
      obtain ⟨i, hgk, hi, rfl, htr, hkr⟩ := hrel
      by_cases hlt : i < n
      · obtain ⟨gp, rfl⟩ : ∃ gp, gk = gp + 1 := ⟨gk - 1, by have := hgk.out; omega⟩
        obtain ⟨_, _, hDr, hOr⟩ := KT.out wr hkr.out
        obtain ⟨ado, rfl, hco⟩ := Ints.at_ (Row.of_own hOr) (i := i) (by rw [hol, hn]; exact hlt)
        have hsm : O[i]? = some (O.getD i []) := by rw [List.getD_eq_getElem?_getD, List.getElem?_eq_getElem (by omega)]; rfl
        obtain ⟨s, hs⟩ : ∃ s, O.getD i [] = s := ⟨_, rfl⟩
        rw [hs] at hsm
        have hsP : s ∈ P := op_sub hT (i := P.length) (by rw [hO]; exact List.mem_of_getElem? hsm)
        obtain ⟨a, hpa, haP⟩ := place_nat' hsP
        have haN : a < n := by rw [← hn]; exact (List.getElem?_eq_some_iff.1 haP).1
        have hga : (orderF P).getD i 0 = (a : Int) := by rw [← hpa]; unfold orderF; rw [hO, List.getD_eq_getElem?_getD, List.getElem?_map, hsm]; rfl
        rw [hga] at hco
        have htk : O.take (i + 1) = O.take i ++ [s] := by rw [List.take_succ_eq_append_getElem (by omega)]; congr 2; exact (List.getElem?_eq_some_iff.1 hsm).2
        have hdone : As (gridF P l (O.take (i + 1)) = updF (gridF P l (O.take i)) a (rowF P l s)) := ⟨by rw [htk]; exact gridF_done P l _ haP hT.nodup⟩
        have hW1 : 0 < W := by omega
        obtain ⟨b0, hb0⟩ : ∃ b, a * W = b := ⟨_, rfl⟩
        have hb0N : b0 + W ≤ N := by rw [← hb0, ← hN.out, ← Nat.succ_mul]; exact Nat.mul_le_mul_right _ haN
        have cRow := As.mk (fun (v : World) (hk : Keeps (fun k => k = nb) W1 v) (x b : Nat) (hx : x ≤ 1000000) (hxb : x * W = b) (hbN : b + W ≤ N) => (by
          obtain ⟨_, _, k3, _⟩ := KT.out v hk
          exact row_calls v g nb N N m W x b F (x : Int) hm hW k3.range k3.size k3.cells.2.2 rfl hx hxb hbN (Nat.le_refl _) (by omega) :
          Calls Try.prog 48 #[.pointer (some ⟨g, 0, none⟩), .int .i64 (x : Int)] v fun e w' => e = .returned (.slice (some ⟨nb, b, none⟩) W (N - b)) ∧ Below v.heap.size v w'))
        have cRa := As.mk (fun (v : World) (hk : Keeps (fun k => k = nb) W1 v) => cRow.out v hk a b0 (by omega) hb0 hb0N)
        have cKid := As.mk (fun (v : World) (hk : Keeps (fun k => k = nb) W1 v) => (by
          have := kids_calls v base tg P (place l) (KT.out v hk).1 hl (a : Int)
          rw [kidsF_eq haP] at this; exact this : Calls Try.prog 58 #[.pointer (some ⟨tg, 0, none⟩), .int .i64 (a : Int)] v (RetByt v (kids P s))))
        have cFa := As.mk (fun (v : World) (hk : Keeps (fun k => k = nb) W1 v) => (by
          have := lfail_calls v lb lg P (failF P) _ _ _ (KT.out v hk).2.1 (a : Int)
          rw [show askF P (failF P) (-1) (a : Int) = failF P s by unfold askF; rw [if_pos (by omega), Int.toNat_natCast, List.getD_eq_getElem?_getD, haP]; rfl] at this; exact this : Calls Try.prog 62 #[.pointer (some ⟨lg, 0, none⟩), .int .i64 (a : Int)] v fun e w' => e = .returned (.int .i64 (failF P s)) ∧ v = w'))
        have hg0 := As.mk (fun (v : World) (hk : Keeps (fun k => k = nb) W1 v) => (KT.out v hk).2.2.1.cells.1)
        have hg1 := As.mk (fun (v : World) (hk : Keeps (fun k => k = nb) W1 v) => (KT.out v hk).2.2.1.cells.2.1)
        obtain ⟨G, hG⟩ : ∃ G, gridF P l (O.take i) = G := ⟨_, rfl⟩
        rw [hG] at htr hdone
        replace hG := As.mk hG
        replace hpa := As.mk hpa
        replace hs := As.mk hs
        replace hb0 := As.mk hb0
        clear hga htk
        by_cases hs0 : s = []
        · have hf : failF P s = -1 := by rw [hs0]; rfl
          rw [hf] at cFa
          go_wp2_with (first
            | (go_at_call 48; refine Calls.mono (cRa.out _ hkr.out) ?_; rintro e w3 ⟨rfl, hb3⟩; have hk3 := As.mk (hkr.out.trans (Keeps.of_below hb3 _)); have d1 := hg1.out _ hk3.out; have d0 := hg0.out _ hk3.out; have ht3 := As.mk (blkBelow hb3 htr.out); clear hb3)
            | (go_at_call 62; refine Calls.mono (cFa.out _ hk3.out) ?_; rintro e w4 ⟨rfl, rfl⟩))
          have hq := As.mk (show w3.heap[nb]? = some (.cells (tabL (updF G a (fun _ => 0)) n W).toArray 3 (0, 0)) by
            have h9 := gridF_out P l (O.take i) haP (by rw [← hO] at hsm ⊢; exact order_new hsm)
            rw [hG.out] at h9
            rw [← h9, updF_same]; exact ht3.out)
          have hbase : As (∀ k, rowK P l s (fun _ => 0) (kids P s).length k = rowF P l s k) := ⟨fun k => by have := rowK_root l k; rw [hPl, ← hs0] at this; exact this⟩
          obtain ⟨base0, hbs⟩ : ∃ b : Nat → Int, (fun _ => (0 : Int)) = b := ⟨_, rfl⟩
          rw [hbs] at hq hbase
          clear hbs ht3
          obtain ⟨wq, hwq⟩ : ∃ v, w3 = v := ⟨_, rfl⟩
          rw [hwq] at hq hk3 d0 ⊢
          have hkq := hk3
          clear hwq d1 hk3
          replace hs0 := As.mk hs0
          replace hf := As.mk hf
          have hstep := As.mk (fun (j : Nat) (c : UInt8) (hj : (kids P s)[j]? = some c) (k : Nat) => (by have := rowK_step l s base0 j c (by rw [hPl]; exact hj) k; rw [hPl, ← hF] at this; exact this : rowK P l s base0 (j + 1) k = if k = F c then place P (s ++ [c]) else rowK P l s base0 j k))
          obtain ⟨kn, hkn⟩ : ∃ k, (kids P s).length = k := ⟨_, rfl⟩
          have hkn2 : kn ≤ 256 := by rw [← hkn]; unfold kids; exact Nat.le_trans (List.length_filter_le _ _) (by simp)
          have hqs := block_lt hq.out
          rcases Nat.eq_zero_or_pos kn with hkz | hkp
          · --
            have hfin : As (updF G a base0 = gridF P l (O.take (i + 1))) := ⟨by rw [hdone.out]; congr 1; funext k; rw [← hbase.out, hkn, hkz, rowK_zero]⟩
            rw [hkz] at hkn
            go_wp2_with (go_at_call 58; refine Calls.mono (cKid.out _ hkq.out) ?_; intro e w6 h6; obtain ⟨A6, c6, he6, hc6, hr6, hg6, hb6⟩ := h6.rowg; subst he6; clear h6)
            go_roundg gp
            case measure => exact Nat.lt_succ_self _
            case rel => exact ⟨i + 1, ⟨by have := hgk.out; omega⟩, hlt, (by first | rfl | go_num | (congr 1; omega)), ⟨by rw [← hfin.out]; exact blkBelow hb6 hq.out⟩, ⟨hkq.out.trans (Keeps.of_below hb6 _)⟩⟩
          · --
            have hkz : ¬ kn = 0 := by omega
            have hkz2 : ((kn : Int) == 0) = false := by simp; omega
            go_wp2_with (go_at_call 58; refine Calls.mono (cKid.out _ hkq.out) ?_; intro e w6 h6; obtain ⟨A6, c6, he6, hc6, hr6, hg6, hb6⟩ := h6.rowg; subst he6; clear h6)
            have hk6 := As.mk (hkq.out.trans (Keeps.of_below hb6 _))
            have hq6 := As.mk (blkBelow hb6 hq.out)
            obtain ⟨Kd, hKd⟩ : ∃ q, kids P s = q := ⟨_, rfl⟩
            rw [hKd] at hkn hc6 hr6 hbase hstep cKid
            rw [hkn] at hc6 hbase
            replace hKd := As.mk hKd
            replace hkn := As.mk hkn
            replace hr6 := As.mk hr6
            replace hg6 := As.mk hg6
            have hrk0 : rowK P l s base0 0 = base0 := funext fun k => rowK_zero P l s base0 k
            clear hb6
            go_loopg [61] (kn + 1) (fun g2 v61 wy => ∃ j : Nat, As (kn + 1 ≤ g2 + j) ∧ j ≤ kn ∧ v61 = .int .i64 j ∧ As (wy.heap[nb]? = some (.cells (tabL (updF G a (rowK P l s base0 j)) n W).toArray 3 (0, 0))) ∧ As (Keeps (fun k => k = nb) w6 wy))
            case atStart => exact ⟨0, ⟨by omega⟩, Nat.zero_le _, rfl, ⟨by rw [hrk0]; exact hq6.out⟩, ⟨Keeps.refl _ _⟩⟩
            case round =>
              obtain ⟨j, hgk2, hj, rfl, htq, hkw⟩ := hrel
              by_cases hjl : j < kn
              · --
                obtain ⟨gq, rfl⟩ : ∃ gq, gk = gq + 1 := ⟨gk - 1, by have := hgk2.out; omega⟩
                have hrw := Row.keep hr6.out hkw.out (fun ad e _ hS => by have := hg6.out ad e; omega)
                obtain ⟨adk, rfl, hck⟩ := Byt.at_ hrw (i := j) (by rw [hkn.out]; exact hjl)
                have hKj : Kd[j]? = some (Kd.getD j 0) := by rw [List.getD_eq_getElem?_getD, List.getElem?_eq_getElem (by rw [hkn.out]; exact hjl)]; rfl
                obtain ⟨c, hc⟩ : ∃ c, Kd.getD j 0 = c := ⟨_, rfl⟩
                rw [hc] at hck hKj
                have hst := hstep.out j c hKj
                have hFlt : F c < W := by rw [hF, ← hW, ← hmw]; exact clsF_lt l c
                have cCls := As.mk (fun v => class_calls v F m c (c.toNat : Int) rfl)
                rw [show clsV F m = C.toArray by rw [← hCC.out]; rfl] at cCls
                have cStp := As.mk (fun (v : World) (hk : Keeps (fun k => k = nb) W1 v) => step_calls v base tg P (place l) (KT.out v hk).1 hl (a : Int) (c.toNat : Int) c rfl)
                rw [stepF_at haP c] at cStp
                obtain ⟨k0, hk0⟩ : ∃ k, F c = k := ⟨_, rfl⟩
                rw [hk0] at cCls hFlt hst
                obtain ⟨x0, hx0⟩ : ∃ x, place P (s ++ [c]) = x := ⟨_, rfl⟩
                rw [hx0] at cStp hst
                have hkW := hk6.out.trans hkw.out
                have hkd : Keeps (fun k => k = nb) W1 wr.drew := hkW.drew
                have hg0p := hg0.out
                have hset := As.mk (tab_set G haN hFlt (rowK P l s base0 j) (rowK P l s base0 (j + 1)) x0 hst)
                rw [hb0.out] at hset
                have hsl := As.mk (by have h9 := tabL_lt haN hFlt; rw [hb0.out, hN.out] at h9; exact h9 : b0 + k0 < N)
                replace hst := As.mk hst
                replace hc := As.mk hc
                replace hk0 := As.mk hk0
                replace hx0 := As.mk hx0
                clear hrw hKj d0
                go_wp2_with fail
                refine wp_region_held_drew (S := fun v => Keeps (fun k => k = nb) W1 v) (by kernel_rfl) hkd (fun hHeld => ?_)
                refine take_lit 0 (v := ?_) rfl (by kernel_rfl) (by kernel_rfl) (by kernel_rfl) (fun _ _ _ h => h) (Or.inl ⟨by rfl, ?_⟩) (by assumption) ?_
                rotate_left 1
                · (intro w hSw; (try dsimp only at hSw); first | (go_simp; done) | (go_simp; with_reducible rfl))
                (simp only [Act.put, List.setIfInBounds_toArray, List.set_cons_zero, List.set_cons_succ])
                refine take_lit 1 (v := ?_) rfl (by kernel_rfl) (by kernel_rfl) (by kernel_rfl) (fun _ _ _ h => h) (Or.inl ⟨by rfl, ?_⟩) (by assumption) ?_
                rotate_left 1
                · (intro w hSw; (try dsimp only at hSw); first | (go_simp; done) | (go_simp; with_reducible rfl))
                (simp only [Act.put, List.setIfInBounds_toArray, List.set_cons_zero, List.set_cons_succ])
                refine take_lit 2 (v := ?_) rfl (by kernel_rfl) (by kernel_rfl) (by kernel_rfl) (fun _ _ _ h => h) (Or.inl ⟨by rfl, ?_⟩) (by assumption) ?_
                rotate_left 1
                · (intro w hSw; (try dsimp only at hSw); first | (go_simp; done) | (go_simp; with_reducible rfl))
                (simp only [Act.put, List.setIfInBounds_toArray, List.set_cons_zero, List.set_cons_succ])
                refine take_lit 3 (v := ?_) rfl (by kernel_rfl) (by kernel_rfl) (by kernel_rfl) (fun _ _ _ h => h) (Or.inl ⟨by rfl, ?_⟩) (by assumption) ?_
                rotate_left 1
                · (intro w hSw; (try dsimp only at hSw); first | (go_simp; done) | (go_simp; with_reducible rfl))
                (simp only [Act.put, List.setIfInBounds_toArray, List.set_cons_zero, List.set_cons_succ])
                refine take_lit 4 rfl (by kernel_rfl) (by kernel_rfl) (by kernel_rfl) (fun _ _ _ h => h) (yieldsIf_load_mid (by rfl) _ _ rfl _ _ rfl C _ (fun v hv => hCC.out ▸ (KT.out v hv).2.2.1.range) Try.underlying47 rfl (by rw [hCs]; exact hsz.out)) (by assumption) ?_
                (simp only [Act.put, List.setIfInBounds_toArray, List.set_cons_zero, List.set_cons_succ])
                refine take_lit 5 (v := ?_) rfl (by kernel_rfl) (by kernel_rfl) (by kernel_rfl) (fun _ _ _ h => h) (Or.inl ⟨by rfl, ?_⟩) (by assumption) ?_
                rotate_left 1
                · (intro w hSw; (try dsimp only at hSw); first | (go_simp; done) | (go_simp; with_reducible rfl))
                (simp only [Act.put, List.setIfInBounds_toArray, List.set_cons_zero, List.set_cons_succ])
                refine take_lit 7 (v := ?_) rfl (by kernel_rfl) (by kernel_rfl) (by kernel_rfl) (fun _ _ _ h => h) (Or.inl ⟨by rfl, ?_⟩) (by assumption) ?_
                rotate_left 1
                · (intro w hSw; (try dsimp only at hSw); first | (go_simp; done) | (go_simp; with_reducible rfl))
                (simp only [Act.put, List.setIfInBounds_toArray, List.set_cons_zero, List.set_cons_succ])
                refine take_lit 8 (v := ?_) rfl (by kernel_rfl) (by kernel_rfl) (by kernel_rfl) (fun _ _ _ h => h) (Or.inl ⟨by rfl, ?_⟩) (by assumption) ?_
                rotate_left 1
                · (intro w hSw; (try dsimp only at hSw); first | (go_simp; done) | (go_simp; with_reducible rfl))
                (simp only [Act.put, List.setIfInBounds_toArray, List.set_cons_zero, List.set_cons_succ])
                refine take_lit 9 (v := ?_) rfl (by kernel_rfl) (by kernel_rfl) (by kernel_rfl) (fun _ _ _ h => h) (Or.inl ⟨by rfl, ?_⟩) (by assumption) ?_
                rotate_left 1
                · (intro w hSw; (try dsimp only at hSw); first | (go_simp; done) | (go_simp; with_reducible rfl))
                (simp only [Act.put, List.setIfInBounds_toArray, List.set_cons_zero, List.set_cons_succ])
                refine take_lit 10 (v := ?_) rfl (by kernel_rfl) (by kernel_rfl) (by kernel_rfl) (fun _ _ _ h => h) (Or.inl ⟨by rfl, ?_⟩) (by assumption) ?_
                rotate_left 1
                · (intro w hSw; (try dsimp only at hSw); first | (go_simp; done) | (go_simp; with_reducible rfl))
                (simp only [Act.put, List.setIfInBounds_toArray, List.set_cons_zero, List.set_cons_succ])
                refine take_lit 11 (v := ?_) rfl (by kernel_rfl) (by kernel_rfl) (by kernel_rfl) (fun _ _ _ h => h) (Or.inl ⟨by rfl, ?_⟩) (by assumption) ?_
                rotate_left 1
                · (intro w hSw; (try dsimp only at hSw); first | (go_simp; done) | (go_simp; with_reducible rfl))
                (simp only [Act.put, List.setIfInBounds_toArray, List.set_cons_zero, List.set_cons_succ])
                refine take_lit 12 (v := ?_) rfl (by kernel_rfl) (by kernel_rfl) (by kernel_rfl) (fun _ _ _ h => h) (Or.inl ⟨by rfl, ?_⟩) (by assumption) ?_
                rotate_left 1
                · (intro w hSw; (try dsimp only at hSw); first | (go_simp; done) | (go_simp; with_reducible rfl))
                (simp only [Act.put, List.setIfInBounds_toArray, List.set_cons_zero, List.set_cons_succ])
                refine wpAnyH_ready (rs := [6]) (by kernel_rfl) (by simp) ?_
                refine AllReadyH.cons rfl (fun K hK => ?_) AllReadyH.nil
                go_simp
                go_wp2_with (go_at_call 22; refine Calls.mono (cCls.out _) ?_; rintro e w7 ⟨rfl, hb7⟩)
                have hk7 : Keeps (fun k => k = nb) W1 w7 := hkd.trans (Keeps.of_below hb7 _)
                have hk7w : Keeps (fun k => k = nb) w6 w7 := hkw.out.drew.trans (Keeps.of_below hb7 _)
                have ht7 : w7.heap[nb]? = some (.cells (tabL (updF G a (rowK P l s base0 j)) n W).toArray 3 (0, 0)) := blkBelow hb7 htq.out
                clear hb7
                refine hK.out _ _ hk7 (fun hHeld => ?_)
                clear hK K
                refine wpAnyH_ready (rs := [13]) (by kernel_rfl) (by simp) ?_
                refine AllReadyH.cons rfl (fun K hK => ?_) AllReadyH.nil
                go_simp
                go_wp2_with (go_at_call 59; refine Calls.mono (cStp.out _ hk7) ?_; rintro e w8 ⟨rfl, rfl⟩)
                refine hK.out _ _ hk7 (fun hHeld => ?_)
                clear hK K
                have hcell : w7.cell? ⟨nb, b0 + k0, none⟩ = some ((tabL (updF G a (rowK P l s base0 j)) n W)[b0 + k0]'(by rw [tabL_length, hN.out]; exact hsl.out)) := by rw [cell_of_blk ht7, List.getElem?_toArray, List.getElem?_eq_getElem]
                have hfro : w7.frozen? ⟨nb, b0 + k0, none⟩ = false := free_of_blk ht7 _
                obtain ⟨uu, huu⟩ : ∃ u, (tabL (updF G a (rowK P l s base0 j)) n W)[b0 + k0]'(by rw [tabL_length, hN.out]; exact hsl.out) = u := ⟨_, rfl⟩
                rw [huu] at hcell
                clear huu
                replace ht7 := As.mk ht7
                refine take_lit 14 (v := ?_) rfl (by kernel_rfl) (by kernel_rfl) (by kernel_rfl) (fun _ _ _ h => h) (Or.inl ⟨by rfl, ?_⟩) (by assumption) ?_
                rotate_left 1
                · (intro w hSw; (try dsimp only at hSw); first | (go_simp; done) | (go_simp; with_reducible rfl))
                (simp only [Act.put, List.setIfInBounds_toArray, List.set_cons_zero, List.set_cons_succ])
                refine wpAnyH_ready (rs := [15]) (by kernel_rfl) (by simp) ?_
                refine AllReadyH.cons rfl (fun K hK => ?_) AllReadyH.nil
                go_simp
                have hk9 : Keeps (fun k => k = nb) w7 (w7.setCell ⟨nb, b0 + k0, none⟩ (.int .i64 x0)) := (keepsSt w7 ⟨nb, b0 + k0, none⟩ _).mono fun _ _ h => h
                refine hK.out _ _ (hk7.trans hk9) (fun hHeld => ?_)
                clear hK K
                refine wpAnyH_done (by kernel_rfl) ?_ _
                go_wp2_with fail
                go_roundg gq
                case measure => exact Nat.lt_succ_self _
                case rel => exact ⟨j + 1, ⟨by have := hgk2.out; omega⟩, hjl, (by first | rfl | go_num | (congr 1; omega)), ⟨by rw [← hset.out]; exact blk_set ht7.out (b0 + k0) _⟩, ⟨hk7w.trans hk9⟩⟩
              · --
                obtain rfl : j = kn := by omega
                have hfin : As (updF G a (rowK P l s base0 j) = gridF P l (O.take (i + 1))) := ⟨by rw [hdone.out]; congr 1; funext k; exact hbase.out k⟩
                rw [hfin.out] at htq
                go_wp2_with fail
                go_roundg gp
                case measure => exact Nat.lt_succ_self _
                case rel => exact ⟨i + 1, ⟨by have := hgk.out; omega⟩, hlt, (by first | rfl | go_num | (congr 1; omega)), htq, ⟨hk6.out.trans hkw.out⟩⟩
        · --
          obtain ⟨m0, hm0⟩ := fail_some hT hs0
          obtain ⟨z1, z2, z3, _⟩ := failN_some hm0
          have hf : failF P s = place P (s.drop m0) := by unfold failF; rw [hm0]
          obtain ⟨f0, hpf, hfP⟩ := place_nat' z3
          rw [hpf] at hf
          rw [hf] at cFa
          have hfN : f0 < n := by rw [← hn]; exact (List.getElem?_eq_some_iff.1 hfP).1
          obtain ⟨b1, hb1⟩ : ∃ b, f0 * W = b := ⟨_, rfl⟩
          have hb1N : b1 + W ≤ N := by rw [← hb1, ← hN.out, ← Nat.succ_mul]; exact Nat.mul_le_mul_right _ hfN
          have hGf : As (G f0 = rowF P l (s.drop m0)) := ⟨by rw [← hG.out]; exact gridF_in P l _ hfP (by rw [← hO] at hsm ⊢; exact order_before hT hsm z3 (by rw [List.length_drop]; omega))⟩
          have cRf := As.mk (fun (v : World) (hk : Keeps (fun k => k = nb) W1 v) => cRow.out v hk f0 b1 (by omega) hb1 hb1N)
          have haf : a ≠ f0 := fun e => by
            rw [e, hfP] at haP
            injection haP with haP
            have := congrArg List.length haP
            rw [List.length_drop] at this; omega
          have hszi : (Try.prog.info? 3).map (·.size) = some 1 := by kernel_rfl
          replace hb1 := As.mk hb1
          clear hpf
          go_wp2_with (first
            | (go_at_call 48; with_reducible refine Calls.mono (cRa.out _ hkr.out) ?_; rintro e w3 ⟨rfl, hb3⟩; have hk3 := As.mk (hkr.out.trans (Keeps.of_below hb3 _)); have d1 := hg1.out _ hk3.out; have ht3 := As.mk (blkBelow hb3 htr.out); clear hb3)
            | (go_at_call 48; with_reducible refine Calls.mono (cRf.out _ hk3.out) ?_; rintro e w5 ⟨rfl, hb5⟩; have hk5 := As.mk (hk3.out.trans (Keeps.of_below hb5 _)); have ht5 := As.mk (blkBelow hb5 ht3.out); clear hb5)
            | (go_at_call 62; refine Calls.mono (cFa.out _ hk3.out) ?_; rintro e w4 ⟨rfl, rfl⟩)
            | (refine wpList_copy_own rfl (.tmp 45) (.tmp 48) 70 70 rfl 3 Try.underlying70 hszi nb b0 W (N - b0) ⟨nb, b1, none⟩ W (N - b1) rfl rfl _ 3 ht5.out (rowVals (G f0) W) (by rw [rowVals_length]; show W = min W W; omega) (fun j v hj => copy_src ht5.out hfN hb1.out hj) (by rw [rowVals_length, List.size_toArray, tabL_length, hN.out]; exact hb0N) (fun v hv => by obtain ⟨x, _, rfl⟩ := List.mem_map.1 hv; rfl) ?_
               have hk6 : As (Keeps (fun k => k = nb) W1 (w5.setRow nb ((tabL G n W).toArray.toList.take b0 ++ (rowVals (G f0) W ++ (tabL G n W).toArray.toList.drop (b0 + (rowVals (G f0) W).length))).toArray)) := ⟨hk5.out.trans (keepsRow _ _ _)⟩
               have hq : As ((w5.setRow nb ((tabL G n W).toArray.toList.take b0 ++ (rowVals (G f0) W ++ (tabL G n W).toArray.toList.drop (b0 + (rowVals (G f0) W).length))).toArray).heap[nb]? = some (.cells (tabL (updF G a (G f0)) n W).toArray 3 (0, 0))) := ⟨by rw [setRow_heap _ _ _ _ _ _ ht5.out, ← tab_splice G haN hW1 (G f0), hb0.out]; rfl⟩
               generalize w5.setRow nb ((tabL G n W).toArray.toList.take b0 ++ (rowVals (G f0) W ++ (tabL G n W).toArray.toList.drop (b0 + (rowVals (G f0) W).length))).toArray = wq at hk6 hq ⊢
               have d0 := hg0.out _ hk6.out))
          have hkq := hk6
          have hbase : As (∀ k, rowK P l s (G f0) (kids P s).length k = rowF P l s k) := ⟨fun k => by have := rowK_done l s m0 (by rw [hPl]; exact hm0) k; rw [hPl] at this; rw [hGf.out]; exact this⟩
          obtain ⟨base0, hbs⟩ : ∃ b : Nat → Int, G f0 = b := ⟨_, rfl⟩
          rw [hbs] at hq hbase
          clear hbs ht3 ht5 hk3 hk5 hk6 d1 hGf cRf
          replace hs0 := As.mk hs0
          replace hf := As.mk hf
          have hstep := As.mk (fun (j : Nat) (c : UInt8) (hj : (kids P s)[j]? = some c) (k : Nat) => (by have := rowK_step l s base0 j c (by rw [hPl]; exact hj) k; rw [hPl, ← hF] at this; exact this : rowK P l s base0 (j + 1) k = if k = F c then place P (s ++ [c]) else rowK P l s base0 j k))
          obtain ⟨kn, hkn⟩ : ∃ k, (kids P s).length = k := ⟨_, rfl⟩
          have hkn2 : kn ≤ 256 := by rw [← hkn]; unfold kids; exact Nat.le_trans (List.length_filter_le _ _) (by simp)
          have hqs := block_lt hq.out
          rcases Nat.eq_zero_or_pos kn with hkz | hkp
          · --
            have hfin : As (updF G a base0 = gridF P l (O.take (i + 1))) := ⟨by rw [hdone.out]; congr 1; funext k; rw [← hbase.out, hkn, hkz, rowK_zero]⟩
            rw [hkz] at hkn
            go_wp2_with (go_at_call 58; refine Calls.mono (cKid.out _ hkq.out) ?_; intro e w6 h6; obtain ⟨A6, c6, he6, hc6, hr6, hg6, hb6⟩ := h6.rowg; subst he6; clear h6)
            go_roundg gp
            case measure => exact Nat.lt_succ_self _
            case rel => exact ⟨i + 1, ⟨by have := hgk.out; omega⟩, hlt, (by first | rfl | go_num | (congr 1; omega)), ⟨by rw [← hfin.out]; exact blkBelow hb6 hq.out⟩, ⟨hkq.out.trans (Keeps.of_below hb6 _)⟩⟩
          · --
            have hkz : ¬ kn = 0 := by omega
            have hkz2 : ((kn : Int) == 0) = false := by simp; omega
            go_wp2_with (go_at_call 58; refine Calls.mono (cKid.out _ hkq.out) ?_; intro e w6 h6; obtain ⟨A6, c6, he6, hc6, hr6, hg6, hb6⟩ := h6.rowg; subst he6; clear h6)
            have hk6 := As.mk (hkq.out.trans (Keeps.of_below hb6 _))
            have hq6 := As.mk (blkBelow hb6 hq.out)
            obtain ⟨Kd, hKd⟩ : ∃ q, kids P s = q := ⟨_, rfl⟩
            rw [hKd] at hkn hc6 hr6 hbase hstep cKid
            rw [hkn] at hc6 hbase
            replace hKd := As.mk hKd
            replace hkn := As.mk hkn
            replace hr6 := As.mk hr6
            replace hg6 := As.mk hg6
            have hrk0 : rowK P l s base0 0 = base0 := funext fun k => rowK_zero P l s base0 k
            clear hb6
            go_loopg [61] (kn + 1) (fun g2 v61 wy => ∃ j : Nat, As (kn + 1 ≤ g2 + j) ∧ j ≤ kn ∧ v61 = .int .i64 j ∧ As (wy.heap[nb]? = some (.cells (tabL (updF G a (rowK P l s base0 j)) n W).toArray 3 (0, 0))) ∧ As (Keeps (fun k => k = nb) w6 wy))
            case atStart => exact ⟨0, ⟨by omega⟩, Nat.zero_le _, rfl, ⟨by rw [hrk0]; exact hq6.out⟩, ⟨Keeps.refl _ _⟩⟩
            case round =>
              obtain ⟨j, hgk2, hj, rfl, htq, hkw⟩ := hrel
              by_cases hjl : j < kn
              · --
                obtain ⟨gq, rfl⟩ : ∃ gq, gk = gq + 1 := ⟨gk - 1, by have := hgk2.out; omega⟩
                have hrw := Row.keep hr6.out hkw.out (fun ad e _ hS => by have := hg6.out ad e; omega)
                obtain ⟨adk, rfl, hck⟩ := Byt.at_ hrw (i := j) (by rw [hkn.out]; exact hjl)
                have hKj : Kd[j]? = some (Kd.getD j 0) := by rw [List.getD_eq_getElem?_getD, List.getElem?_eq_getElem (by rw [hkn.out]; exact hjl)]; rfl
                obtain ⟨c, hc⟩ : ∃ c, Kd.getD j 0 = c := ⟨_, rfl⟩
                rw [hc] at hck hKj
                have hst := hstep.out j c hKj
                have hFlt : F c < W := by rw [hF, ← hW, ← hmw]; exact clsF_lt l c
                have cCls := As.mk (fun v => class_calls v F m c (c.toNat : Int) rfl)
                rw [show clsV F m = C.toArray by rw [← hCC.out]; rfl] at cCls
                have cStp := As.mk (fun (v : World) (hk : Keeps (fun k => k = nb) W1 v) => step_calls v base tg P (place l) (KT.out v hk).1 hl (a : Int) (c.toNat : Int) c rfl)
                rw [stepF_at haP c] at cStp
                obtain ⟨k0, hk0⟩ : ∃ k, F c = k := ⟨_, rfl⟩
                rw [hk0] at cCls hFlt hst
                obtain ⟨x0, hx0⟩ : ∃ x, place P (s ++ [c]) = x := ⟨_, rfl⟩
                rw [hx0] at cStp hst
                have hkW := hk6.out.trans hkw.out
                have hkd : Keeps (fun k => k = nb) W1 wr.drew := hkW.drew
                have hg0p := hg0.out
                have hset := As.mk (tab_set G haN hFlt (rowK P l s base0 j) (rowK P l s base0 (j + 1)) x0 hst)
                rw [hb0.out] at hset
                have hsl := As.mk (by have h9 := tabL_lt haN hFlt; rw [hb0.out, hN.out] at h9; exact h9 : b0 + k0 < N)
                replace hst := As.mk hst
                replace hc := As.mk hc
                replace hk0 := As.mk hk0
                replace hx0 := As.mk hx0
                clear hrw hKj d0
                go_wp2_with fail
                refine wp_region_held_drew (S := fun v => Keeps (fun k => k = nb) W1 v) (by kernel_rfl) hkd (fun hHeld => ?_)
                refine take_lit 0 (v := ?_) rfl (by kernel_rfl) (by kernel_rfl) (by kernel_rfl) (fun _ _ _ h => h) (Or.inl ⟨by rfl, ?_⟩) (by assumption) ?_
                rotate_left 1
                · (intro w hSw; (try dsimp only at hSw); first | (go_simp; done) | (go_simp; with_reducible rfl))
                (simp only [Act.put, List.setIfInBounds_toArray, List.set_cons_zero, List.set_cons_succ])
                refine take_lit 1 (v := ?_) rfl (by kernel_rfl) (by kernel_rfl) (by kernel_rfl) (fun _ _ _ h => h) (Or.inl ⟨by rfl, ?_⟩) (by assumption) ?_
                rotate_left 1
                · (intro w hSw; (try dsimp only at hSw); first | (go_simp; done) | (go_simp; with_reducible rfl))
                (simp only [Act.put, List.setIfInBounds_toArray, List.set_cons_zero, List.set_cons_succ])
                refine take_lit 2 (v := ?_) rfl (by kernel_rfl) (by kernel_rfl) (by kernel_rfl) (fun _ _ _ h => h) (Or.inl ⟨by rfl, ?_⟩) (by assumption) ?_
                rotate_left 1
                · (intro w hSw; (try dsimp only at hSw); first | (go_simp; done) | (go_simp; with_reducible rfl))
                (simp only [Act.put, List.setIfInBounds_toArray, List.set_cons_zero, List.set_cons_succ])
                refine take_lit 3 (v := ?_) rfl (by kernel_rfl) (by kernel_rfl) (by kernel_rfl) (fun _ _ _ h => h) (Or.inl ⟨by rfl, ?_⟩) (by assumption) ?_
                rotate_left 1
                · (intro w hSw; (try dsimp only at hSw); first | (go_simp; done) | (go_simp; with_reducible rfl))
                (simp only [Act.put, List.setIfInBounds_toArray, List.set_cons_zero, List.set_cons_succ])
                refine take_lit 4 rfl (by kernel_rfl) (by kernel_rfl) (by kernel_rfl) (fun _ _ _ h => h) (yieldsIf_load_mid (by rfl) _ _ rfl _ _ rfl C _ (fun v hv => hCC.out ▸ (KT.out v hv).2.2.1.range) Try.underlying47 rfl (by rw [hCs]; exact hsz.out)) (by assumption) ?_
                (simp only [Act.put, List.setIfInBounds_toArray, List.set_cons_zero, List.set_cons_succ])
                refine take_lit 5 (v := ?_) rfl (by kernel_rfl) (by kernel_rfl) (by kernel_rfl) (fun _ _ _ h => h) (Or.inl ⟨by rfl, ?_⟩) (by assumption) ?_
                rotate_left 1
                · (intro w hSw; (try dsimp only at hSw); first | (go_simp; done) | (go_simp; with_reducible rfl))
                (simp only [Act.put, List.setIfInBounds_toArray, List.set_cons_zero, List.set_cons_succ])
                refine take_lit 7 (v := ?_) rfl (by kernel_rfl) (by kernel_rfl) (by kernel_rfl) (fun _ _ _ h => h) (Or.inl ⟨by rfl, ?_⟩) (by assumption) ?_
                rotate_left 1
                · (intro w hSw; (try dsimp only at hSw); first | (go_simp; done) | (go_simp; with_reducible rfl))
                (simp only [Act.put, List.setIfInBounds_toArray, List.set_cons_zero, List.set_cons_succ])
                refine take_lit 8 (v := ?_) rfl (by kernel_rfl) (by kernel_rfl) (by kernel_rfl) (fun _ _ _ h => h) (Or.inl ⟨by rfl, ?_⟩) (by assumption) ?_
                rotate_left 1
                · (intro w hSw; (try dsimp only at hSw); first | (go_simp; done) | (go_simp; with_reducible rfl))
                (simp only [Act.put, List.setIfInBounds_toArray, List.set_cons_zero, List.set_cons_succ])
                refine take_lit 9 (v := ?_) rfl (by kernel_rfl) (by kernel_rfl) (by kernel_rfl) (fun _ _ _ h => h) (Or.inl ⟨by rfl, ?_⟩) (by assumption) ?_
                rotate_left 1
                · (intro w hSw; (try dsimp only at hSw); first | (go_simp; done) | (go_simp; with_reducible rfl))
                (simp only [Act.put, List.setIfInBounds_toArray, List.set_cons_zero, List.set_cons_succ])
                refine take_lit 10 (v := ?_) rfl (by kernel_rfl) (by kernel_rfl) (by kernel_rfl) (fun _ _ _ h => h) (Or.inl ⟨by rfl, ?_⟩) (by assumption) ?_
                rotate_left 1
                · (intro w hSw; (try dsimp only at hSw); first | (go_simp; done) | (go_simp; with_reducible rfl))
                (simp only [Act.put, List.setIfInBounds_toArray, List.set_cons_zero, List.set_cons_succ])
                refine take_lit 11 (v := ?_) rfl (by kernel_rfl) (by kernel_rfl) (by kernel_rfl) (fun _ _ _ h => h) (Or.inl ⟨by rfl, ?_⟩) (by assumption) ?_
                rotate_left 1
                · (intro w hSw; (try dsimp only at hSw); first | (go_simp; done) | (go_simp; with_reducible rfl))
                (simp only [Act.put, List.setIfInBounds_toArray, List.set_cons_zero, List.set_cons_succ])
                refine take_lit 12 (v := ?_) rfl (by kernel_rfl) (by kernel_rfl) (by kernel_rfl) (fun _ _ _ h => h) (Or.inl ⟨by rfl, ?_⟩) (by assumption) ?_
                rotate_left 1
                · (intro w hSw; (try dsimp only at hSw); first | (go_simp; done) | (go_simp; with_reducible rfl))
                (simp only [Act.put, List.setIfInBounds_toArray, List.set_cons_zero, List.set_cons_succ])
                refine wpAnyH_ready (rs := [6]) (by kernel_rfl) (by simp) ?_
                refine AllReadyH.cons rfl (fun K hK => ?_) AllReadyH.nil
                go_simp
                go_wp2_with (go_at_call 22; refine Calls.mono (cCls.out _) ?_; rintro e w7 ⟨rfl, hb7⟩)
                have hk7 : Keeps (fun k => k = nb) W1 w7 := hkd.trans (Keeps.of_below hb7 _)
                have hk7w : Keeps (fun k => k = nb) w6 w7 := hkw.out.drew.trans (Keeps.of_below hb7 _)
                have ht7 : w7.heap[nb]? = some (.cells (tabL (updF G a (rowK P l s base0 j)) n W).toArray 3 (0, 0)) := blkBelow hb7 htq.out
                clear hb7
                refine hK.out _ _ hk7 (fun hHeld => ?_)
                clear hK K
                refine wpAnyH_ready (rs := [13]) (by kernel_rfl) (by simp) ?_
                refine AllReadyH.cons rfl (fun K hK => ?_) AllReadyH.nil
                go_simp
                go_wp2_with (go_at_call 59; refine Calls.mono (cStp.out _ hk7) ?_; rintro e w8 ⟨rfl, rfl⟩)
                refine hK.out _ _ hk7 (fun hHeld => ?_)
                clear hK K
                have hcell : w7.cell? ⟨nb, b0 + k0, none⟩ = some ((tabL (updF G a (rowK P l s base0 j)) n W)[b0 + k0]'(by rw [tabL_length, hN.out]; exact hsl.out)) := by rw [cell_of_blk ht7, List.getElem?_toArray, List.getElem?_eq_getElem]
                have hfro : w7.frozen? ⟨nb, b0 + k0, none⟩ = false := free_of_blk ht7 _
                obtain ⟨uu, huu⟩ : ∃ u, (tabL (updF G a (rowK P l s base0 j)) n W)[b0 + k0]'(by rw [tabL_length, hN.out]; exact hsl.out) = u := ⟨_, rfl⟩
                rw [huu] at hcell
                clear huu
                replace ht7 := As.mk ht7
                refine take_lit 14 (v := ?_) rfl (by kernel_rfl) (by kernel_rfl) (by kernel_rfl) (fun _ _ _ h => h) (Or.inl ⟨by rfl, ?_⟩) (by assumption) ?_
                rotate_left 1
                · (intro w hSw; (try dsimp only at hSw); first | (go_simp; done) | (go_simp; with_reducible rfl))
                (simp only [Act.put, List.setIfInBounds_toArray, List.set_cons_zero, List.set_cons_succ])
                refine wpAnyH_ready (rs := [15]) (by kernel_rfl) (by simp) ?_
                refine AllReadyH.cons rfl (fun K hK => ?_) AllReadyH.nil
                go_simp
                have hk9 : Keeps (fun k => k = nb) w7 (w7.setCell ⟨nb, b0 + k0, none⟩ (.int .i64 x0)) := (keepsSt w7 ⟨nb, b0 + k0, none⟩ _).mono fun _ _ h => h
                refine hK.out _ _ (hk7.trans hk9) (fun hHeld => ?_)
                clear hK K
                refine wpAnyH_done (by kernel_rfl) ?_ _
                go_wp2_with fail
                go_roundg gq
                case measure => exact Nat.lt_succ_self _
                case rel => exact ⟨j + 1, ⟨by have := hgk2.out; omega⟩, hjl, (by first | rfl | go_num | (congr 1; omega)), ⟨by rw [← hset.out]; exact blk_set ht7.out (b0 + k0) _⟩, ⟨hk7w.trans hk9⟩⟩
              · --
                obtain rfl : j = kn := by omega
                have hfin : As (updF G a (rowK P l s base0 j) = gridF P l (O.take (i + 1))) := ⟨by rw [hdone.out]; congr 1; funext k; exact hbase.out k⟩
                rw [hfin.out] at htq
                go_wp2_with fail
                go_roundg gp
                case measure => exact Nat.lt_succ_self _
                case rel => exact ⟨i + 1, ⟨by have := hgk.out; omega⟩, hlt, (by first | rfl | go_num | (congr 1; omega)), htq, ⟨hk6.out.trans hkw.out⟩⟩
      · obtain rfl : i = n := by omega
        obtain ⟨_, _, hDr, _⟩ := KT.out wr hkr.out
        rw [show O.take i = O by rw [← hOl, List.take_length]] at htr
        rw [gridF_same P l O P (fun x => by rw [← hO]; exact ⟨fun h => op_sub hT h, fun h => op_all hT _ x rfl h⟩)] at htr
        rw [← hN.out] at hDr
        have hKw : Keeps (fun k => k = g) w wr := by
          have ha : Keeps (fun k => k = g ∨ w.heap.size ≤ k) w W0 := hK0.out.mono fun k _ h => .inl h
          have hb2 : Keeps (fun k => k = g ∨ w.heap.size ≤ k) W0 W1 := Keeps.of_below hbO _
          have hc : Keeps (fun k => k = g ∨ w.heap.size ≤ k) W1 wr := hkr.out.mono fun k _ h => .inr (by have := hnb.out; omega)
          exact ((ha.trans hb2).trans hc).mono fun k hk h => h.elim id (fun h => absurd h (by omega))
        replace hDr := As.mk hDr
        replace hKw := As.mk hKw
        go_wp2_with fail
        unfold Exit.noGoto
        go_end0
        exact ⟨rfl, nb, hnb.out, htr.out, hDr.out, hKw.out⟩
end Go.Proofs.Ytglalojbdlepfaa
end
