/- The walk of the law PrintLines. -/
import Derived.Test.YtcapmihfhioafaaDoorPrintAwake
import Derived.Test.YtcapmihfhioafaaDoorPrintRef2
import Derived.Deep.RegionHeld
set_option linter.unusedVariables false
set_option linter.unusedSimpArgs false
namespace Go.Proofs.YtcapmihfhioafaaDoor
open Go.RowKit Seine.Trie Go.Shelf Go.Proofs.YtcapmihfhioafaaDoorW.PrintWords

set_option maxRecDepth 100000 in
set_option maxHeartbeats 3200000 in
theorem lines_walk (off : Int) (A : Option Addr) (c : Nat) (x : Txt) (B : Option Addr) (d : Nat) (l : List Pr) (b : Bool) (w : World) (ho : (Lit.int .i64 off).wf = true) (hx : Byt w A x) (hxc : x.length ≤ c) (hcm : c ≤ maxLen) (hl : Prs w B l) (hlc : l.length ≤ d) (hdm : d ≤ maxLen) (hwl : ∀ p ∈ l, (Lit.int .i64 p.1).wf = true ∧ (Lit.int .i64 p.2).wf = true) (ht : Tab w) :
    Calls Tryd.prog 4 #[.int .i64 off, .slice A x.length c, .slice B l.length d, .bool b] w fun e w' => e = .returned (.bool true) ∧ Below w.heap.size w w' := by
  have hB := As.mk (Below.refl w.heap.size w)
  have HT := As.mk ht
  have HX := As.mk hx
  have HL := As.mk hl
  unfold maxLen at hcm hdm
  clear hx hl ht hwl
  by_cases hf : x.length ≤ 300 ∧ l.length ≤ 80
  · obtain ⟨hf1, hf2⟩ := hf
    have hg1 : decide ((300 : Int) < (x.length : Int)) = false := decide_eq_false (by omega)
    have hg2 : decide ((80 : Int) < (l.length : Int)) = false := decide_eq_false (by omega)
    go_enter Tryd.func4, Tryd.ntmps4
    go_wp2_with fail
    refine Calls.mono (awake_calls _ HT.out) ?_
    rintro e w1 ⟨rfl, hb⟩
    have hs := hb.size
    (try simp only [World.size_alloc, World.size_drew] at hs)
    replace hB := As.mk (belowNext hB.out (by (repeat (first | (with_reducible assumption) | (with_reducible exact Below.refl _ _) | (with_reducible refine Below.drew ?_) | (with_reducible refine below_drewN ?_ _) | (with_reducible refine Below.alloc ?_ (by (first | omega | (simp only [World.size_alloc, World.size_drew]; done) | (simp only [World.size_alloc, World.size_drew]; omega))) _) | (refine Below.trans ?_ (Below.mono (by with_reducible assumption) (by (first | omega | (simp only [World.size_alloc, World.size_drew]; done) | (simp only [World.size_alloc, World.size_drew]; omega))))))) : Below _ _ w1))
    replace HT := As.mk (HT.out.below (by (repeat (first | (with_reducible assumption) | (with_reducible exact Below.refl _ _) | (with_reducible refine Below.drew ?_) | (with_reducible refine below_drewN ?_ _) | (with_reducible refine Below.alloc ?_ (by (first | omega | (simp only [World.size_alloc, World.size_drew]; done) | (simp only [World.size_alloc, World.size_drew]; omega))) _) | (refine Below.trans ?_ (Below.mono (by with_reducible assumption) (by (first | omega | (simp only [World.size_alloc, World.size_drew]; done) | (simp only [World.size_alloc, World.size_drew]; omega))))))) : Below _ _ w1))
    replace HX := As.mk (HX.out.below (by (repeat (first | (with_reducible assumption) | (with_reducible exact Below.refl _ _) | (with_reducible refine Below.drew ?_) | (with_reducible refine below_drewN ?_ _) | (with_reducible refine Below.alloc ?_ (by (first | omega | (simp only [World.size_alloc, World.size_drew]; done) | (simp only [World.size_alloc, World.size_drew]; omega))) _) | (refine Below.trans ?_ (Below.mono (by with_reducible assumption) (by (first | omega | (simp only [World.size_alloc, World.size_drew]; done) | (simp only [World.size_alloc, World.size_drew]; omega))))))) : Below _ _ w1))
    replace HL := As.mk (HL.out.below (by (repeat (first | (with_reducible assumption) | (with_reducible exact Below.refl _ _) | (with_reducible refine Below.drew ?_) | (with_reducible refine below_drewN ?_ _) | (with_reducible refine Below.alloc ?_ (by (first | omega | (simp only [World.size_alloc, World.size_drew]; done) | (simp only [World.size_alloc, World.size_drew]; omega))) _) | (refine Below.trans ?_ (Below.mono (by with_reducible assumption) (by (first | omega | (simp only [World.size_alloc, World.size_drew]; done) | (simp only [World.size_alloc, World.size_drew]; omega))))))) : Below _ _ w1))
    replace hb := As.mk hb
    have cL := As.mk (fun (v : World) (hv : Below w1.heap.size w1 v) => line_calls off ho A c x b v (Row.below HX.out hv) (by omega) (HT.out.below hv))
    have cP := As.mk (fun (v : World) (hv : Below w1.heap.size w1 v) => pieces_calls off ho A c x B d l b v (Row.below HX.out hv) (by omega) hxc (Row.below HL.out hv) (by omega) (HT.out.below hv))
    have cR := As.mk (fun v => rline_calls off ho x b (by omega) v)
    have cQ := As.mk (fun (v : World) (hv : Below w1.heap.size w1 v) => rpieces_calls off ho x B d l b v (by omega) (Row.below HL.out hv) (by omega))
    have KX : ∀ v, Below w1.heap.size w1 v → (convert 24 9 (.slice A x.length c)).run Tryd.prog v = .ok (.string (bb x)) v := fun v hv => conv_byt Tryd.underlying24 (Row.below HX.out hv) (by omega)
    have hl1 : As ((lineF off x b).length ≤ 1000) := ⟨by unfold lineF; rw [List.length_append, List.length_append]; have := ahead_length ho b; simp; omega⟩
    have hl2 : As ((piecesF off x l b).length ≤ 100000) := ⟨by
      have := pieces_length off x b l
      have : l.length * (x.length + 23) ≤ 80 * 323 := Nat.mul_le_mul hf2 (by omega)
      omega⟩
    obtain ⟨L, hL⟩ : ∃ L, lineF off x b = L := ⟨_, rfl⟩
    obtain ⟨R, hR⟩ : ∃ R, piecesF off x l b = R := ⟨_, rfl⟩
    obtain ⟨sx, hsx⟩ : ∃ s, bb x = s := ⟨_, rfl⟩
    obtain ⟨n, hn⟩ : ∃ n, x.length = n := ⟨_, rfl⟩
    obtain ⟨m, hm⟩ : ∃ n, l.length = n := ⟨_, rfl⟩
    rw [hL] at cL cR hl1
    rw [hR] at cP cQ hl2
    rw [hsx] at cR cQ KX
    rw [hn] at cL cP KX hg1 ⊢
    rw [hm] at cP cQ hg2 ⊢
    obtain ⟨sL, hsL⟩ : ∃ s, bb L = s := ⟨_, rfl⟩
    obtain ⟨sR, hsR⟩ : ∃ s, bb R = s := ⟨_, rfl⟩
    rw [hsL] at cR
    rw [hsR] at cQ
    replace hsL := As.mk hsL
    replace hsR := As.mk hsR
    have hw1 : Below w1.heap.size w1 w1.drew := (Below.refl _ _).drew
    clear hL hR hsx hn hm
    go_wp2_with fail
    go_region_held (fun w' => Below w1.heap.size w1 w')
      (first
        | go_keep
        | (exact belowNext (by with_reducible assumption) hb))
      (first
      | (go_at_call 12; refine Calls.mono (cL.out _ (by with_reducible assumption)) ?_; intro e w' h'; obtain ⟨A1, c1, he, _, hr1, hb⟩ := h'.rowc; subst he; have K1 : ∀ v, Below w'.heap.size w' v → (convert 24 9 (.slice A1 L.length c1)).run Tryd.prog v = .ok (.string sL) v := (fun v hv => strOf (Row.below hr1 hv) (by have := hl1.out; omega) hsL.out); have hrf := Below.refl w'.heap.size w'; clear h' hr1)
      | (go_at_call 13; refine Calls.mono (cR.out _) ?_; rintro e w' ⟨rfl, hb⟩)
      | (go_at_call 14; refine Calls.mono (cP.out _ (by with_reducible assumption)) ?_; intro e w' h'; obtain ⟨A2, c2, he, _, hr2, hb⟩ := h'.rowc; subst he; have K2 : ∀ v, Below w'.heap.size w' v → (convert 24 9 (.slice A2 R.length c2)).run Tryd.prog v = .ok (.string sR) v := (fun v hv => strOf (Row.below hr2 hv) (by have := hl2.out; omega) hsR.out); have hrf2 := Below.refl w'.heap.size w'; clear h' hr2)
      | (go_at_call 15; refine Calls.mono (cQ.out _ (by with_reducible assumption)) ?_; rintro e w' ⟨rfl, hb⟩))
    all_goals
      go_wp2
      go_ret
      exact ⟨rfl, belowNext hB.out (by with_reducible assumption)⟩
  · by_cases h1 : x.length ≤ 300
    · have hg1 : decide ((300 : Int) < (x.length : Int)) = false := decide_eq_false (by omega)
      have hg2 : decide ((80 : Int) < (l.length : Int)) = true := decide_eq_true (by omega)
      clear hf
      go_enter Tryd.func4, Tryd.ntmps4
      go_wp2_with fail
      refine Calls.mono (awake_calls _ HT.out) ?_
      rintro e w1 ⟨rfl, hb⟩
      have hs := hb.size
      (try simp only [World.size_alloc, World.size_drew] at hs)
      replace hB := As.mk (belowNext hB.out (by (repeat (first | (with_reducible assumption) | (with_reducible exact Below.refl _ _) | (with_reducible refine Below.drew ?_) | (with_reducible refine below_drewN ?_ _) | (with_reducible refine Below.alloc ?_ (by (first | omega | (simp only [World.size_alloc, World.size_drew]; done) | (simp only [World.size_alloc, World.size_drew]; omega))) _) | (refine Below.trans ?_ (Below.mono (by with_reducible assumption) (by (first | omega | (simp only [World.size_alloc, World.size_drew]; done) | (simp only [World.size_alloc, World.size_drew]; omega))))))) : Below _ _ w1))
      replace HT := As.mk (HT.out.below (by (repeat (first | (with_reducible assumption) | (with_reducible exact Below.refl _ _) | (with_reducible refine Below.drew ?_) | (with_reducible refine below_drewN ?_ _) | (with_reducible refine Below.alloc ?_ (by (first | omega | (simp only [World.size_alloc, World.size_drew]; done) | (simp only [World.size_alloc, World.size_drew]; omega))) _) | (refine Below.trans ?_ (Below.mono (by with_reducible assumption) (by (first | omega | (simp only [World.size_alloc, World.size_drew]; done) | (simp only [World.size_alloc, World.size_drew]; omega))))))) : Below _ _ w1))
      replace hb := As.mk hb
      go_wp2
      go_ret
      exact ⟨rfl, hB.out⟩
    · have hg1 : decide ((300 : Int) < (x.length : Int)) = true := decide_eq_true (by omega)
      clear hf
      go_enter Tryd.func4, Tryd.ntmps4
      go_wp2_with fail
      refine Calls.mono (awake_calls _ HT.out) ?_
      rintro e w1 ⟨rfl, hb⟩
      have hs := hb.size
      (try simp only [World.size_alloc, World.size_drew] at hs)
      replace hB := As.mk (belowNext hB.out (by (repeat (first | (with_reducible assumption) | (with_reducible exact Below.refl _ _) | (with_reducible refine Below.drew ?_) | (with_reducible refine below_drewN ?_ _) | (with_reducible refine Below.alloc ?_ (by (first | omega | (simp only [World.size_alloc, World.size_drew]; done) | (simp only [World.size_alloc, World.size_drew]; omega))) _) | (refine Below.trans ?_ (Below.mono (by with_reducible assumption) (by (first | omega | (simp only [World.size_alloc, World.size_drew]; done) | (simp only [World.size_alloc, World.size_drew]; omega))))))) : Below _ _ w1))
      replace HT := As.mk (HT.out.below (by (repeat (first | (with_reducible assumption) | (with_reducible exact Below.refl _ _) | (with_reducible refine Below.drew ?_) | (with_reducible refine below_drewN ?_ _) | (with_reducible refine Below.alloc ?_ (by (first | omega | (simp only [World.size_alloc, World.size_drew]; done) | (simp only [World.size_alloc, World.size_drew]; omega))) _) | (refine Below.trans ?_ (Below.mono (by with_reducible assumption) (by (first | omega | (simp only [World.size_alloc, World.size_drew]; done) | (simp only [World.size_alloc, World.size_drew]; omega))))))) : Below _ _ w1))
      replace hb := As.mk hb
      go_wp2
      go_ret
      exact ⟨rfl, hB.out⟩
end Go.Proofs.YtcapmihfhioafaaDoor
