/- The walk of the law PrintParts. -/
import Derived.Test.YtcapmihfhioafaaDoorPrintAwake
import Derived.Test.YtcapmihfhioafaaDoorPrintWalk3
import Derived.Deep.RegionHeld
set_option linter.unusedVariables false
set_option linter.unusedSimpArgs false
namespace Go.Proofs.YtcapmihfhioafaaDoor
open Go.RowKit Seine.Trie Go.Shelf Go.Proofs.YtcapmihfhioafaaDoorW.PrintWords

theorem prs_one' {b : List Pr} : ∀ u ∈ prCells b, u.oneCell' = true := fun u hu => by
  unfold prCells at hu
  rw [List.mem_flatMap] at hu
  obtain ⟨p, _, hp⟩ := hu
  simp only [List.mem_cons, List.not_mem_nil, or_false] at hp
  rcases hp with rfl | rfl <;> rfl
theorem pieces_append (off : Int) (x : Txt) (a b : List Pr) (v : Bool) : piecesF off x (a ++ b) v = piecesF off x a v ++ piecesF off x b v := by
  unfold piecesF; rw [List.map_append, List.flatten_append]
theorem pieces_whole {off : Int} (h : (Lit.int .i64 off).wf = true) (x : Txt) (v : Bool) : piecesF off x [((0 : Int), (x.length : Int))] v = lineF off x v := by
  have hw : RowKit.wrap64 (off + 0) = off := by rw [Int.add_zero]; exact IntWalk.wrap64_in _ (by simp [Lit.wf, IntKind.min, IntKind.max, IntKind.signed, IntKind.bits] at h; omega)
  unfold piecesF pieceOf
  simp only [List.map_cons, List.map_nil, List.flatten_cons, List.flatten_nil, List.append_nil]
  rw [if_pos (by unfold pieceOk; simp), hw]
  simp
theorem line_plain (o1 o2 : Int) (x : Txt) : lineF o1 x false = lineF o2 x false := rfl
theorem pieces_plain (o1 o2 : Int) (x : Txt) (l : List Pr) : piecesF o1 x l false = piecesF o2 x l false := by
  unfold piecesF
  congr 1
theorem thenNamed {K : Act → World → Prop} {Q : Exit → Act → World → Prop} {e : Exit} {a : Act} {w : World} (h : ∀ v, v = w → Exit.then K Q e a v) : Exit.then K Q e a w := h w rfl
set_option maxRecDepth 100000 in
set_option maxHeartbeats 16000000 in
theorem parts_walk (off oth : Int) (A : Option Addr) (c : Nat) (x : Txt) (B : Option Addr) (d : Nat) (l : List Pr) (E : Option Addr) (f : Nat) (m : List Pr) (b : Bool) (w : World) (ho : (Lit.int .i64 off).wf = true) (hoth : (Lit.int .i64 oth).wf = true) (hx : Byt w A x) (hxc : x.length ≤ c) (hcm : c ≤ maxLen)
    (hl : Prs w B l) (hlc : l.length ≤ d) (hdm : d ≤ maxLen) (hwl : ∀ p ∈ l, (Lit.int .i64 p.1).wf = true ∧ (Lit.int .i64 p.2).wf = true) (hm : Prs w E m) (hmc : m.length ≤ f) (hfm : f ≤ maxLen) (hwm : ∀ p ∈ m, (Lit.int .i64 p.1).wf = true ∧ (Lit.int .i64 p.2).wf = true) (ht : Tab w) :
    Calls Tryd.prog 6 #[.int .i64 off, .int .i64 oth, .slice A x.length c, .slice B l.length d, .slice E m.length f, .bool b] w fun e w' => e = .returned (.bool true) ∧ Below w.heap.size w w' := by
  have hu25 := Tryd.underlying36
  have hB := As.mk (Below.refl w.heap.size w)
  have HT := As.mk ht
  have HX := As.mk hx
  have HL := As.mk hl
  have HM := As.mk hm
  unfold maxLen at hcm hdm hfm
  clear hx hl hm ht hwl hwm
  by_cases hf : x.length ≤ 200 ∧ l.length ≤ 40 ∧ m.length ≤ 40
  · obtain ⟨hf1, hf2, hf3⟩ := hf
    have hg1 : decide ((200 : Int) < (x.length : Int)) = false := decide_eq_false (by omega)
    have hg2 : decide ((40 : Int) < (l.length : Int)) = false := decide_eq_false (by omega)
    have hg3 : decide ((40 : Int) < (m.length : Int)) = false := decide_eq_false (by omega)
    go_enter Tryd.func6, Tryd.ntmps6
    go_wp2_with fail
    refine Calls.mono (awake_calls _ HT.out) ?_
    rintro e w1 ⟨rfl, hb⟩
    have hs := hb.size
    (try simp only [World.size_alloc, World.size_drew] at hs)
    replace hB := As.mk (belowNext hB.out (by (repeat (first | (with_reducible assumption) | (with_reducible exact Below.refl _ _) | (with_reducible refine Below.drew ?_) | (with_reducible refine below_drewN ?_ _) | (with_reducible refine Below.alloc ?_ (by (first | omega | (simp only [World.size_alloc, World.size_drew]; done) | (simp only [World.size_alloc, World.size_drew]; omega))) _) | (refine Below.trans ?_ (Below.mono (by with_reducible assumption) (by (first | omega | (simp only [World.size_alloc, World.size_drew]; done) | (simp only [World.size_alloc, World.size_drew]; omega))))))) : Below _ _ w1))
    replace HT := As.mk (HT.out.below (by (repeat (first | (with_reducible assumption) | (with_reducible exact Below.refl _ _) | (with_reducible refine Below.drew ?_) | (with_reducible refine below_drewN ?_ _) | (with_reducible refine Below.alloc ?_ (by (first | omega | (simp only [World.size_alloc, World.size_drew]; done) | (simp only [World.size_alloc, World.size_drew]; omega))) _) | (refine Below.trans ?_ (Below.mono (by with_reducible assumption) (by (first | omega | (simp only [World.size_alloc, World.size_drew]; done) | (simp only [World.size_alloc, World.size_drew]; omega))))))) : Below _ _ w1))
    replace HX := As.mk (HX.out.below (by (repeat (first | (with_reducible assumption) | (with_reducible exact Below.refl _ _) | (with_reducible refine Below.drew ?_) | (with_reducible refine below_drewN ?_ _) | (with_reducible refine Below.alloc ?_ (by (first | omega | (simp only [World.size_alloc, World.size_drew]; done) | (simp only [World.size_alloc, World.size_drew]; omega))) _) | (refine Below.trans ?_ (Below.mono (by with_reducible assumption) (by (first | omega | (simp only [World.size_alloc, World.size_drew]; done) | (simp only [World.size_alloc, World.size_drew]; omega))))))) : Below _ _ w1))
    replace HL := As.mk (HL.out.below (by (repeat (first | (with_reducible assumption) | (with_reducible exact Below.refl _ _) | (with_reducible refine Below.drew ?_) | (with_reducible refine below_drewN ?_ _) | (with_reducible refine Below.alloc ?_ (by (first | omega | (simp only [World.size_alloc, World.size_drew]; done) | (simp only [World.size_alloc, World.size_drew]; omega))) _) | (refine Below.trans ?_ (Below.mono (by with_reducible assumption) (by (first | omega | (simp only [World.size_alloc, World.size_drew]; done) | (simp only [World.size_alloc, World.size_drew]; omega))))))) : Below _ _ w1))
    replace HM := As.mk (HM.out.below (by (repeat (first | (with_reducible assumption) | (with_reducible exact Below.refl _ _) | (with_reducible refine Below.drew ?_) | (with_reducible refine below_drewN ?_ _) | (with_reducible refine Below.alloc ?_ (by (first | omega | (simp only [World.size_alloc, World.size_drew]; done) | (simp only [World.size_alloc, World.size_drew]; omega))) _) | (refine Below.trans ?_ (Below.mono (by with_reducible assumption) (by (first | omega | (simp only [World.size_alloc, World.size_drew]; done) | (simp only [World.size_alloc, World.size_drew]; omega))))))) : Below _ _ w1))
    replace hb := As.mk hb
    go_wp2_with (first
      | (at_builtin
         refine wpList_apps _ rfl (.tmp 33) (.tmp 34) 27 rfl w1.heap.size 36 _ 2 16 Tryd.underlying27 info_pr rfl (by decide) (.slice none 0 0) 0 [] rfl (World.ownsRow_nil _ _ _ _) B l.length d (prCells l) HL.out (prCells_length l) prs_one' rfl (by omega) (by decide) (Nat.le_refl _) ?_
         intro v2 w2 ho2 hb2
         replace ho2 := As.mk ho2
         replace hb2 := As.mk hb2)
      | (at_builtin
         refine wpList_apps _ rfl (.tmp 36) (.tmp 37) 27 rfl w1.heap.size 36 _ 2 16 Tryd.underlying27 info_pr rfl (by decide) v2 (0 + l.length) ([] ++ prCells l) rfl ho2.out E m.length f (prCells m) (Row.below HM.out hb2.out) (prCells_length m) prs_one' rfl (by omega) (by decide) hb2.out.size ?_
         intro v3 w3 ho3 hb3
         replace ho3 := As.mk ho3
         replace hb3 := As.mk hb3))
    have ho4 : OwnPrs w3 w1.heap.size v3 (l ++ m) := by
      have := ho3.out
      rw [show [] ++ prCells l ++ prCells m = prCells (l ++ m) by simp [prCells], show 0 + l.length + m.length = (l ++ m).length by simp] at this
      exact this
    obtain ⟨A3, c3, rfl, hc3, hr3⟩ := OwnPrs.row ho4
    have hb13 := As.mk (hb2.out.trans hb3.out)
    replace hB := As.mk (belowNext hB.out hb13.out)
    have H3 := As.mk hr3
    have hpa : As (∀ o v, piecesF o x (l ++ m) v = piecesF o x l v ++ piecesF o x m v) := ⟨fun o v => pieces_append o x l m v⟩
    have hN : (l ++ m).length ≤ 80 := by rw [List.length_append]; omega
    have hbnd : As (∀ o v, (piecesF o x l v).length ≤ 100000 ∧ (piecesF o x m v).length ≤ 100000) := ⟨fun o v => by
      have h1 := pieces_length o x v l
      have h2 := pieces_length o x v m
      have h3 : l.length * (x.length + 23) ≤ 40 * 223 := Nat.mul_le_mul hf2 (by omega)
      have h4 : m.length * (x.length + 23) ≤ 40 * 223 := Nat.mul_le_mul hf3 (by omega)
      omega⟩
    have hlw : As ((lineF off x b).length ≤ 1000) := ⟨by unfold lineF; rw [List.length_append, List.length_append]; have := ahead_length ho b; simp; omega⟩
    have cP1 := As.mk (fun (v : World) (hv : Below w3.heap.size w3 v) => pieces_calls off ho A c x B d l b v (Row.below HX.out (hb13.out.trans (hv.mono hb13.out.size))) (by omega) hxc (Row.below HL.out (hb13.out.trans (hv.mono hb13.out.size))) (by omega) (HT.out.below (hb13.out.trans (hv.mono hb13.out.size))))
    have cP2 := As.mk (fun (v : World) (hv : Below w3.heap.size w3 v) => pieces_calls off ho A c x E f m b v (Row.below HX.out (hb13.out.trans (hv.mono hb13.out.size))) (by omega) hxc (Row.below HM.out (hb13.out.trans (hv.mono hb13.out.size))) (by omega) (HT.out.below (hb13.out.trans (hv.mono hb13.out.size))))
    obtain ⟨P1, hP1⟩ : ∃ P, piecesF off x l b = P := ⟨_, rfl⟩
    obtain ⟨P2, hP2⟩ : ∃ P, piecesF off x m b = P := ⟨_, rfl⟩
    have hl1 := As.mk (hP1 ▸ (hbnd.out off b).1)
    have hl2 := As.mk (hP2 ▸ (hbnd.out off b).2)
    rw [hP1] at cP1
    rw [hP2] at cP2
    obtain ⟨s1, hs1⟩ : ∃ s, bb P1 = s := ⟨_, rfl⟩
    obtain ⟨s2, hs2⟩ : ∃ s, bb P2 = s := ⟨_, rfl⟩
    have hz1 : s1.size ≤ 100000 := by rw [← hs1, bb_size]; exact hl1.out
    have hz2 : s2.size ≤ 100000 := by rw [← hs2, bb_size]; exact hl2.out
    replace hP1 := As.mk hP1
    replace hP2 := As.mk hP2
    replace hs1 := As.mk hs1
    replace hs2 := As.mk hs2
    have hw3 : Below w3.heap.size w3 w3.drew := (Below.refl _ _).drew
    clear ho4 ho3 ho2 hb2 hb3 hr3
    go_wp2_with fail
    go_region_held (fun w' => Below w3.heap.size w3 w')
      (first
        | go_keep
        | (exact belowNext (by with_reducible assumption) hb))
      (first
      | (go_at_call 14; with_reducible refine Calls.mono (cP1.out _ (by with_reducible assumption)) ?_; intro e w' h'; obtain ⟨A1, c1, he, _, hr1, hb⟩ := h'.rowc; subst he; have K1 : ∀ v, Below w'.heap.size w' v → (convert 24 9 (.slice A1 P1.length c1)).run Tryd.prog v = .ok (.string s1) v := (fun v hv => strOf (Row.below hr1 hv) (by have := hl1.out; omega) hs1.out); have hrf := Below.refl w'.heap.size w'; clear h' hr1)
      | (go_at_call 14; with_reducible refine Calls.mono (cP2.out _ (by with_reducible assumption)) ?_; intro e w' h'; obtain ⟨A2, c2, he, _, hr2, hb⟩ := h'.rowc; subst he; have K2 : ∀ v, Below w'.heap.size w' v → (convert 24 9 (.slice A2 P2.length c2)).run Tryd.prog v = .ok (.string s2) v := (fun v hv => strOf (Row.below hr2 hv) (by have := hl2.out; omega) hs2.out); have hrf2 := Below.refl w'.heap.size w'; clear h' hr2))
    all_goals
      refine thenNamed fun W hW => ?_
      subst hW
      have hWb : Below w3.heap.size w3 W := by with_reducible assumption
      have hWs := hWb.size
      obtain ⟨n, hn⟩ : ∃ n, x.length = n := ⟨_, rfl⟩
      obtain ⟨W1, hW1⟩ : ∃ V, W.alloc (.cells #[.int .i64 0, .int .i64 (n : Int)] 36) = V := ⟨_, rfl⟩
      have hq : W1.heap[W.heap.size]? = some (.cells #[.int .i64 0, .int .i64 (n : Int)] 36 (0, 0)) := by rw [← hW1]; exact heap_alloc_new _ _
      have hb31 : Below w3.heap.size w3 W1 := by rw [← hW1]; exact hWb.alloc hWs _
      have hb11 : Below w1.heap.size w1 W1 := hb13.out.trans (hb31.mono hb13.out.size)
      have hpr : Prs W1 (some ⟨W.heap.size, 0, none⟩) [((0 : Int), (n : Int))] := rowOfBlk hq
      have hB1 := As.mk (belowNext hB.out hb31)
      obtain ⟨bw, hbw⟩ : ∃ b, W.heap.size = b := ⟨_, rfl⟩
      rw [hbw] at hpr
      have cP3 := As.mk (fun (v : World) (hv : Below W1.heap.size W1 v) => (by have := pieces_calls off ho A c x A3 c3 (l ++ m) b v (Row.below HX.out (hb11.trans (hv.mono hb11.size))) (by omega) hxc (Row.below H3.out (hb31.trans (hv.mono hb31.size))) (by omega) (HT.out.below (hb11.trans (hv.mono hb11.size))); rw [hpa.out, hP1.out, hP2.out, List.length_append, hn] at this; exact this : Calls Tryd.prog 14 #[.int .i64 off, .slice A n c, .slice A3 (l.length + m.length) c3, .bool b] v (RetByt v (P1 ++ P2))))
      have cP4 := As.mk (fun (v : World) (hv : Below W1.heap.size W1 v) => (by have := pieces_calls off ho A c x (some ⟨bw, 0, none⟩) 1 [((0 : Int), (n : Int))] b v (Row.below HX.out (hb11.trans (hv.mono hb11.size))) (by omega) hxc (Row.below hpr hv) (by simp) (HT.out.below (hb11.trans (hv.mono hb11.size))); rw [← hn, pieces_whole ho, hn] at this; exact this : Calls Tryd.prog 14 #[.int .i64 off, .slice A n c, .slice (some ⟨bw, 0, none⟩) 1 1, .bool b] v (RetByt v (lineF off x b))))
      have cL := As.mk (fun (v : World) (hv : Below W1.heap.size W1 v) => (by have := line_calls off ho A c x b v (Row.below HX.out (hb11.trans (hv.mono hb11.size))) (by omega) (HT.out.below (hb11.trans (hv.mono hb11.size))); rw [hn] at this; exact this : Calls Tryd.prog 12 #[.int .i64 off, .slice A n c, .bool b] v (RetByt v (lineF off x b))))
      have cP5 := As.mk (fun (v : World) (hv : Below W1.heap.size W1 v) => (by have := pieces_calls off ho A c x A3 c3 (l ++ m) false v (Row.below HX.out (hb11.trans (hv.mono hb11.size))) (by omega) hxc (Row.below H3.out (hb31.trans (hv.mono hb31.size))) (by omega) (HT.out.below (hb11.trans (hv.mono hb11.size))); rw [List.length_append, hn] at this; exact this : Calls Tryd.prog 14 #[.int .i64 off, .slice A n c, .slice A3 (l.length + m.length) c3, .bool false] v (RetByt v (piecesF off x (l ++ m) false))))
      have cP6 := As.mk (fun (v : World) (hv : Below W1.heap.size W1 v) => (by have := pieces_calls oth hoth A c x A3 c3 (l ++ m) false v (Row.below HX.out (hb11.trans (hv.mono hb11.size))) (by omega) hxc (Row.below H3.out (hb31.trans (hv.mono hb31.size))) (by omega) (HT.out.below (hb11.trans (hv.mono hb11.size))); rw [List.length_append, hn, pieces_plain oth off] at this; exact this : Calls Tryd.prog 14 #[.int .i64 oth, .slice A n c, .slice A3 (l.length + m.length) c3, .bool false] v (RetByt v (piecesF off x (l ++ m) false))))
      have hl5 : (piecesF off x (l ++ m) false).length ≤ 200000 := by rw [hpa.out, List.length_append]; have := hbnd.out off false; omega
      obtain ⟨P5, hP5⟩ : ∃ P, piecesF off x (l ++ m) false = P := ⟨_, rfl⟩
      obtain ⟨PL, hPL⟩ : ∃ P, lineF off x b = P := ⟨_, rfl⟩
      obtain ⟨P3, hP3⟩ : ∃ P, P1 ++ P2 = P := ⟨_, rfl⟩
      have hs3 : bb P3 = s1 ++ s2 := by rw [← hP3, ← bb_append, hs1.out, hs2.out]
      have hl3 : P3.length ≤ 200000 := by rw [← hP3, List.length_append]; have := hl1.out; have := hl2.out; omega
      rw [hP5] at cP5 cP6 hl5
      rw [hPL] at cP4 cL hlw
      rw [hP3] at cP3
      obtain ⟨s5, hs5⟩ : ∃ s, bb P5 = s := ⟨_, rfl⟩
      obtain ⟨sL, hsL⟩ : ∃ s, bb PL = s := ⟨_, rfl⟩
      obtain ⟨s3, hs33⟩ : ∃ s, s1 ++ s2 = s := ⟨_, rfl⟩
      rw [hs33] at hs3 ⊢
      have hl3' := As.mk hl3
      have hl5' := As.mk hl5
      have hs3' := As.mk hs3
      have hs5' := As.mk hs5
      have hsL' := As.mk hsL
      rw [hn] at hxc hf1 hg1 ⊢
      have hw1 : Below W1.heap.size W1 W1.drew := (Below.refl _ _).drew
      clear hP5 hPL hP3 hs5 hsL hs3 hs33 hl3 hl5 hpr hq hb11 hb31 hn cP1 cP2 hP1 hP2 hs1 hs2 hl1 hl2 hz1 hz2 hpa hbnd HX HL HM HT H3 hWb hB hw3
      replace hW1 := As.mk hW1
      replace hbw := As.mk hbw
      go_wp2_with fail
      rw [hW1.out, hbw.out]
      clear hW1 hbw
      go_region_held (fun w' => Below W1.heap.size W1 w')
        (first
          | go_keep
          | (exact belowNext (by with_reducible assumption) hb))
        (first
        | (go_at_call 14; with_reducible refine Calls.mono (cP3.out _ (by with_reducible assumption)) ?_; intro e w' h'; obtain ⟨A3b, c3b, he, _, hr3b, hb⟩ := h'.rowc; subst he; have K3b : ∀ v, Below w'.heap.size w' v → (convert 24 9 (.slice A3b P3.length c3b)).run Tryd.prog v = .ok (.string s3) v := (fun v hv => strOf (Row.below hr3b hv) (by have := hl3'.out; omega) hs3'.out); have hrf3b := Below.refl w'.heap.size w'; clear h' hr3b)
        | (go_at_call 14; with_reducible refine Calls.mono (cP4.out _ (by with_reducible assumption)) ?_; intro e w' h'; obtain ⟨A4b, c4b, he, _, hr4b, hb⟩ := h'.rowc; subst he; have K4b : ∀ v, Below w'.heap.size w' v → (convert 24 9 (.slice A4b PL.length c4b)).run Tryd.prog v = .ok (.string sL) v := (fun v hv => strOf (Row.below hr4b hv) (by have := hlw.out; omega) hsL'.out); have hrf4b := Below.refl w'.heap.size w'; clear h' hr4b)
        | (go_at_call 12; with_reducible refine Calls.mono (cL.out _ (by with_reducible assumption)) ?_; intro e w' h'; obtain ⟨A5b, c5b, he, _, hr5b, hb⟩ := h'.rowc; subst he; have K5b : ∀ v, Below w'.heap.size w' v → (convert 24 9 (.slice A5b PL.length c5b)).run Tryd.prog v = .ok (.string sL) v := (fun v hv => strOf (Row.below hr5b hv) (by have := hlw.out; omega) hsL'.out); have hrf5b := Below.refl w'.heap.size w'; clear h' hr5b)
        | (go_at_call 14; with_reducible refine Calls.mono (cP5.out _ (by with_reducible assumption)) ?_; intro e w' h'; obtain ⟨A6b, c6b, he, _, hr6b, hb⟩ := h'.rowc; subst he; have K6b : ∀ v, Below w'.heap.size w' v → (convert 24 9 (.slice A6b P5.length c6b)).run Tryd.prog v = .ok (.string s5) v := (fun v hv => strOf (Row.below hr6b hv) (by have := hl5'.out; omega) hs5'.out); have hrf6b := Below.refl w'.heap.size w'; clear h' hr6b)
        | (go_at_call 14; with_reducible refine Calls.mono (cP6.out _ (by with_reducible assumption)) ?_; intro e w' h'; obtain ⟨A7b, c7b, he, _, hr7b, hb⟩ := h'.rowc; subst he; have K7b : ∀ v, Below w'.heap.size w' v → (convert 24 9 (.slice A7b P5.length c7b)).run Tryd.prog v = .ok (.string s5) v := (fun v hv => strOf (Row.below hr7b hv) (by have := hl5'.out; omega) hs5'.out); have hrf7b := Below.refl w'.heap.size w'; clear h' hr7b))
      all_goals
        go_wp2
        go_ret
        exact ⟨rfl, belowNext hB1.out (by with_reducible assumption)⟩
  · by_cases h1 : x.length ≤ 200
    · by_cases h2 : l.length ≤ 40
      · --
        have hgx : decide ((200 : Int) < (x.length : Int)) = false := decide_eq_false (by omega)
        have hgl : decide ((40 : Int) < (l.length : Int)) = false := decide_eq_false (by omega)
        have hgm : decide ((40 : Int) < (m.length : Int)) = true := decide_eq_true (by omega)
        clear hf
        go_enter Tryd.func6, Tryd.ntmps6
        go_wp2_with fail
        refine Calls.mono (awake_calls _ HT.out) ?_
        rintro e w1 ⟨rfl, hb⟩
        have hs := hb.size
        (try simp only [World.size_alloc, World.size_drew] at hs)
        replace hB := As.mk (belowNext hB.out (by (repeat (first | (with_reducible assumption) | (with_reducible exact Below.refl _ _) | (with_reducible refine Below.drew ?_) | (with_reducible refine below_drewN ?_ _) | (with_reducible refine Below.alloc ?_ (by (first | omega | (simp only [World.size_alloc, World.size_drew]; done) | (simp only [World.size_alloc, World.size_drew]; omega))) _) | (refine Below.trans ?_ (Below.mono (by with_reducible assumption) (by (first | omega | (simp only [World.size_alloc, World.size_drew]; done) | (simp only [World.size_alloc, World.size_drew]; omega))))))) : Below _ _ w1))
        replace HT := As.mk (HT.out.below (by (repeat (first | (with_reducible assumption) | (with_reducible exact Below.refl _ _) | (with_reducible refine Below.drew ?_) | (with_reducible refine below_drewN ?_ _) | (with_reducible refine Below.alloc ?_ (by (first | omega | (simp only [World.size_alloc, World.size_drew]; done) | (simp only [World.size_alloc, World.size_drew]; omega))) _) | (refine Below.trans ?_ (Below.mono (by with_reducible assumption) (by (first | omega | (simp only [World.size_alloc, World.size_drew]; done) | (simp only [World.size_alloc, World.size_drew]; omega))))))) : Below _ _ w1))
        replace hb := As.mk hb
        go_wp2
        go_ret
        exact ⟨rfl, hB.out⟩
      · --
        have hgx : decide ((200 : Int) < (x.length : Int)) = false := decide_eq_false (by omega)
        have hgl : decide ((40 : Int) < (l.length : Int)) = true := decide_eq_true (by omega)
        clear hf
        go_enter Tryd.func6, Tryd.ntmps6
        go_wp2_with fail
        refine Calls.mono (awake_calls _ HT.out) ?_
        rintro e w1 ⟨rfl, hb⟩
        have hs := hb.size
        (try simp only [World.size_alloc, World.size_drew] at hs)
        replace hB := As.mk (belowNext hB.out (by (repeat (first | (with_reducible assumption) | (with_reducible exact Below.refl _ _) | (with_reducible refine Below.drew ?_) | (with_reducible refine below_drewN ?_ _) | (with_reducible refine Below.alloc ?_ (by (first | omega | (simp only [World.size_alloc, World.size_drew]; done) | (simp only [World.size_alloc, World.size_drew]; omega))) _) | (refine Below.trans ?_ (Below.mono (by with_reducible assumption) (by (first | omega | (simp only [World.size_alloc, World.size_drew]; done) | (simp only [World.size_alloc, World.size_drew]; omega))))))) : Below _ _ w1))
        replace HT := As.mk (HT.out.below (by (repeat (first | (with_reducible assumption) | (with_reducible exact Below.refl _ _) | (with_reducible refine Below.drew ?_) | (with_reducible refine below_drewN ?_ _) | (with_reducible refine Below.alloc ?_ (by (first | omega | (simp only [World.size_alloc, World.size_drew]; done) | (simp only [World.size_alloc, World.size_drew]; omega))) _) | (refine Below.trans ?_ (Below.mono (by with_reducible assumption) (by (first | omega | (simp only [World.size_alloc, World.size_drew]; done) | (simp only [World.size_alloc, World.size_drew]; omega))))))) : Below _ _ w1))
        replace hb := As.mk hb
        go_wp2
        go_ret
        exact ⟨rfl, hB.out⟩
    · --
      have hgx : decide ((200 : Int) < (x.length : Int)) = true := decide_eq_true (by omega)
      clear hf
      go_enter Tryd.func6, Tryd.ntmps6
      go_wp2_with fail
      refine Calls.mono (awake_calls _ HT.out) ?_
      rintro e w1 ⟨rfl, hb⟩
      have hs := hb.size
      (try simp only [World.size_alloc, World.size_drew] at hs)
      replace hB := As.mk (belowNext hB.out (by (repeat (first | (with_reducible assumption) | (with_reducible exact Below.refl _ _) | (with_reducible refine Below.drew ?_) | (with_reducible refine below_drewN ?_ _) | (with_reducible refine Below.alloc ?_ (by (first | omega | (simp only [World.size_alloc, World.size_drew]; done) | (simp only [World.size_alloc, World.size_drew]; omega))) _) | (refine Below.trans ?_ (Below.mono (by with_reducible assumption) (by (first | omega | (simp only [World.size_alloc, World.size_drew]; done) | (simp only [World.size_alloc, World.size_drew]; omega))))))) : Below _ _ w1))
      replace HT := As.mk (HT.out.below (by (repeat (first | (with_reducible assumption) | (with_reducible exact Below.refl _ _) | (with_reducible refine Below.drew ?_) | (with_reducible refine below_drewN ?_ _) | (with_reducible refine Below.alloc ?_ (by (first | omega | (simp only [World.size_alloc, World.size_drew]; done) | (simp only [World.size_alloc, World.size_drew]; omega))) _) | (refine Below.trans ?_ (Below.mono (by with_reducible assumption) (by (first | omega | (simp only [World.size_alloc, World.size_drew]; done) | (simp only [World.size_alloc, World.size_drew]; omega))))))) : Below _ _ w1))
      replace hb := As.mk hb
      go_wp2
      go_ret
      exact ⟨rfl, hB.out⟩
end Go.Proofs.YtcapmihfhioafaaDoor
