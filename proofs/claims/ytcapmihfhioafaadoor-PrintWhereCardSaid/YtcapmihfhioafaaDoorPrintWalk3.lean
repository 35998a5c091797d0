/- The walk of print.Pieces. -/
import Derived.Test.YtcapmihfhioafaaDoorPrintWalk2
set_option linter.unusedVariables false
set_option linter.unusedSimpArgs false
namespace Go.Proofs.YtcapmihfhioafaaDoor
open Go.RowKit Seine.Trie Go.Shelf Go.Proofs.YtcapmihfhioafaaDoorW.PrintWords

/-- A pair that tells a piece of so many bytes. -/
def pieceOk (n : Nat) (p : Pr) : Bool := decide (0 ≤ p.1) && decide (p.1 ≤ p.2) && decide (p.2 ≤ (n : Int))
def pieceOf (off : Int) (x : Txt) (b : Bool) (p : Pr) : Txt := if pieceOk x.length p = true then lineF (RowKit.wrap64 (off + p.1)) ((x.drop p.1.toNat).take (p.2.toNat - p.1.toNat)) b else []
def piecesF (off : Int) (x : Txt) (l : List Pr) (b : Bool) : Txt := (l.map (pieceOf off x b)).flatten
theorem step_call_post {P : Program} {ops : Array Oper} {o : Oper} {a : Act} {w : World} {K : Act → World → Prop} {Q : Exit → Act → World → Prop} {E : Prop} (hg : o.guard = none) {f : FuncId} {vals : Array Value} {post : Ending → World → Prop}
    (ho : (execOp a.eval o).run P w = .ok (.enter f vals) w) (hc : Calls P f vals w post) (hr : ∀ e w', post e w' → ∃ v, e = .returned v) (h : ∀ v w', post (.returned v) w' → K (a.put o.dst v) w') :
    if Region.wanted o (yielded ops a.tmps) = true then Oper.wp P o a w K Q else E := by
  have hw : Region.wanted o (yielded ops a.tmps) = true := by simp [Region.wanted, hg]
  rw [if_pos hw]
  unfold Oper.wp
  rw [ho, Oper.upon_enter]
  refine hc.mono ?_
  intro e w' hp
  obtain ⟨v, rfl⟩ := hr e w' hp
  exact h v w' hp
theorem RetByt.ret {w : World} {b : Txt} : ∀ e w', RetByt w b e w' → ∃ v, e = .returned v := fun e w' ⟨v, h, _⟩ => ⟨v, h⟩
theorem byt_one {b : Txt} : ∀ u ∈ byCells b, u.oneCell' = true := fun u hu => by
  obtain ⟨x, _, rfl⟩ := List.mem_map.1 hu; rfl
theorem Byt.piece2 {w : World} {ad : Addr} {b : Txt} (h : Byt w (some ad) b) (i k : Nat) : Byt w (some (ad.add i)) ((b.drop i).take k) := by
  rcases h with h | ⟨ad', e, hlt, hc⟩
  · have : b = [] := by have := congrArg List.length h; rw [byCells_length] at this; exact List.eq_nil_of_length_eq_zero this
    subst this
    exact .inl (by simp [byCells])
  · injection e with e
    subst e
    refine .inr ⟨_, rfl, by rw [Addr.block_add]; exact hlt, fun j u hu => ?_⟩
    rw [Addr.add_add']
    refine hc _ u ?_
    unfold byCells at hu ⊢
    rw [List.getElem?_map, List.getElem?_take] at hu
    split at hu
    · rw [List.getElem?_drop] at hu
      rw [List.getElem?_map]; exact hu
    · cases hu
theorem Byt.cells' {w : World} {ad : Addr} {b : Txt} (h : Byt w (some ad) b) : ∀ j u, (byCells b)[j]? = some u → w.cell? (ad.add j) = some u := by
  rcases h with h | ⟨ad', e, _, hc⟩
  · intro j u hu; rw [h] at hu; simp at hu
  · injection e with e; subst e; exact hc
theorem OwnByt.form' {w : World} {base : Nat} {v : Value} {b : Txt} (h : OwnByt w base v b) (hb : 0 < b.length) : ∃ g cap, v = .slice (some ⟨g, 0, none⟩) b.length cap ∧ Byt w (some ⟨g, 0, none⟩) b := by
  obtain ⟨A, c, rfl, _, hr⟩ := h.row
  rcases h.2 with ⟨_, h0⟩ | ⟨g, cap, cur, hv, _⟩
  · omega
  · injection hv with h1 _ h2
    subst h1
    exact ⟨g, c, rfl, hr⟩
theorem wf_wrap (z : Int) : (Lit.int .i64 (RowKit.wrap64 z)).wf = true := RowKit.wrap64_wf z
theorem piece_length (off : Int) (x : Txt) (b : Bool) (p : Pr) : (pieceOf off x b p).length ≤ x.length + 23 := by
  unfold pieceOf
  split
  · unfold lineF
    rw [List.length_append, List.length_append, List.length_take, List.length_drop]
    have := ahead_length (wf_wrap (off + p.1)) b
    simp; omega
  · simp
theorem pieces_length (off : Int) (x : Txt) (b : Bool) : ∀ l : List Pr, (piecesF off x l b).length ≤ l.length * (x.length + 23)
  | [] => by simp [piecesF]
  | p :: l => by
    have h1 := piece_length off x b p
    have h2 := pieces_length off x b l
    unfold piecesF at *
    rw [List.map_cons, List.flatten_cons, List.length_append, List.length_cons, Nat.succ_mul]
    omega
set_option maxRecDepth 100000 in
set_option maxHeartbeats 1600000 in
theorem pieces_calls (off : Int) (h : (Lit.int .i64 off).wf = true) (A : Option Addr) (c : Nat) (x : Txt) (B : Option Addr) (d : Nat) (l : List Pr) (b : Bool) (w : World) (hx : Byt w A x) (hl : x.length ≤ 1000) (hxc : x.length ≤ c) (hp : Prs w B l) (hll : l.length ≤ 200) (ht : Tab w) :
    Calls Tryd.prog 14 #[.int .i64 off, .slice A x.length c, .slice B l.length d, .bool b] w (RetByt w (piecesF off x l b)) := by
  have hu25 := Tryd.underlying36
  have HX := As.mk hx
  have HP := As.mk hp
  have HT := As.mk ht
  obtain ⟨m, hm⟩ : ∃ m, x.length = m := ⟨_, rfl⟩
  obtain ⟨n, hn⟩ : ∃ n, l.length = n := ⟨_, rfl⟩
  rw [hm] at hl hxc ⊢
  rw [hn] at hll ⊢
  have hm := As.mk hm
  have hn := As.mk hn
  clear hx hp ht
  obtain ⟨i0, hi, hz0, hz1, hz2⟩ := info_parts info_u8
  go_enter Tryd.func14, Tryd.ntmps14
  go_wp2
  go_loopg [9, 14] (n + 1) (fun gk v i wr => ∃ k : Nat, As (n + 1 ≤ gk + k) ∧ k ≤ n ∧ i = .int .i64 k ∧ As (OwnByt wr w.heap.size v (piecesF off x (l.take k) b)) ∧ As (Below w.heap.size w wr))
  case atStart => exact ⟨0, ⟨by omega⟩, Nat.zero_le _, rfl, ⟨World.ownsRow_nil _ _ _ _⟩, ⟨Below.refl _ _⟩⟩
  case round =>
    obtain ⟨k, hgk, hk, rfl, hown, hbel⟩ := hrel
    by_cases hlt : k < n
    · obtain ⟨gp, rfl⟩ : ∃ gp, gk = gp + 1 := ⟨gk - 1, by have := hgk.out; omega⟩
      obtain ⟨ad, rfl, a1, a2⟩ := Prs.at_ (Row.below HP.out hbel.out) (i := k) (by rw [hn.out]; exact hlt)
      have hsuc : piecesF off x (l.take (k + 1)) b = piecesF off x (l.take k) b ++ pieceOf off x b (l.getD k (0, 0)) := by
        unfold piecesF
        rw [List.take_succ_eq_append_getElem (by rw [hn.out]; exact hlt), List.getD_eq_getElem?_getD, List.getElem?_eq_getElem (by rw [hn.out]; exact hlt), List.map_append, List.flatten_append]
        simp only [List.map_cons, List.map_nil, List.flatten_cons, List.flatten_nil, List.append_nil]
        rfl
      have hle := pieces_length off x b (l.take k)
      have hle2 : (piecesF off x (l.take k) b).length ≤ 210000 := by
        have : (l.take k).length * (x.length + 23) ≤ 200 * 1023 := Nat.mul_le_mul (by rw [List.length_take]; omega) (by have := hm.out; omega)
        omega
      generalize l.getD k (0, 0) = p at *
      obtain ⟨s, e⟩ := p
      generalize hacc : piecesF off x (l.take k) b = acc at *
      clear hle hacc
      have hop : pieceOk m (s, e) = (decide (0 ≤ s) && decide (s ≤ e) && decide (e ≤ (m : Int))) := rfl
      by_cases hok : pieceOk m (s, e) = true
      · rw [hop, Bool.and_eq_true, Bool.and_eq_true, decide_eq_true_eq, decide_eq_true_eq, decide_eq_true_eq] at hok
        obtain ⟨⟨o1, o2⟩, o3⟩ := hok
        obtain ⟨sn, rfl⟩ := Int.eq_ofNat_of_zero_le o1
        obtain ⟨en, rfl⟩ := Int.eq_ofNat_of_zero_le (Int.le_trans o1 o2)
        have hsn : sn ≤ en := by omega
        have hen : en ≤ m := by omega
        obtain ⟨L, hL⟩ : ∃ L, pieceOf off x b ((sn : Int), (en : Int)) = L := ⟨_, rfl⟩
        have hL2 : lineF (RowKit.wrap64 (off + (sn : Int))) ((x.drop sn).take (en - sn)) b = L := by
          rw [← hL]; unfold pieceOf; rw [hm.out, if_pos (by rw [hop]; simp; omega)]; rfl
        have hpl : ((x.drop sn).take (en - sn)).length = en - sn := by rw [List.length_take, List.length_drop, hm.out]; omega
        have hL0 : 0 < L.length ∧ L.length ≤ 1100 := by
          rw [← hL2]; unfold lineF
          have := ahead_length (wf_wrap (off + (sn : Int))) b
          rw [List.length_append, List.length_append, hpl]; simp; omega
        obtain ⟨hL0, hL1⟩ := hL0
        rw [hL] at hsuc
        have cl := As.mk (fun (v : World) (hv : Below w.heap.size w v) (A' : Option Addr) (c' : Nat) (hb : Byt v A' ((x.drop sn).take (en - sn))) => line_calls (RowKit.wrap64 (off + (sn : Int))) (wf_wrap _) A' c' _ b v hb (by rw [hpl]; omega) (HT.out.below hv))
        rw [hL2, hpl] at cl
        obtain ⟨z, hz⟩ : ∃ z, RowKit.wrap64 (off + (sn : Int)) = z := ⟨_, rfl⟩
        have hzw : IntKind.i64.wrap (off + (sn : Int)) = z := (IntWalk.i64_left _).trans hz
        rw [hz] at cl
        have hec : en ≤ c := by omega
        have hec2 : (en : Int) ≤ (c : Int) := by omega
        clear hz
        replace hL := As.mk hL
        replace hL2 := As.mk hL2
        replace hpl := As.mk hpl
        replace hsuc := As.mk hsuc
        clear hop
        have hB1 : Below w.heap.size w (wr.alloc (.cells #[.int .i64 (sn : Int), .int .i64 (en : Int)] 36)).drew := (hbel.out.alloc hbel.out.size _).drew
        cases A with
        | none =>
          have hx0 : x = [] := by
            rcases HX.out with h | ⟨ad', e, _⟩
            · have := congrArg List.length h; rw [byCells_length] at this; exact List.eq_nil_of_length_eq_zero this
            · cases e
          have hby := As.mk (fun v (hv : Below w.heap.size w v) => (.inl (by rw [hx0]; simp [byCells]) : Byt v none ((x.drop sn).take (en - sn))))
          have cl1 := As.mk (cl.out _ hB1 _ (c - sn) (hby.out _ hB1))
          clear hx0
          have hO1 := As.mk ((hown.out.alloc (.cells #[.int .i64 (sn : Int), .int .i64 (en : Int)] 36)).drew)
          go_wp2_with fail
          go_region_law (first
            | (refine step_append_lies _ (by rfl) (.tmp 35) (.tmp 47) _ (by rfl) w.heap.size 5 i0 _ 1 1 Tryd.underlying24 hi hz0 hz1 hz2 rfl (by decide) _ acc.length (byCells acc) (by rfl) (own_below hO1.out hb5) ⟨g7, 0, none⟩ L.length c7 (byCells L) (by rfl) (by rw [byCells_length, Nat.mul_one]) (Byt.cells' hg7) byt_one hL0 (by unfold maxLen; omega) (by omega) (belowNext hB1 hb5).size _ rfl ?_
               intro g3 cap3 w3 ho3 hgr3 hloc3 hlt3)
            | (refine step_call_post (by rfl) ?ho cl1.out RetByt.ret ?_; (case ho => go_simp); intro v7 w5 hp5; obtain ⟨v8, he5, ho5, hb5⟩ := hp5; injection he5 with he5; subst he5; obtain ⟨g7, c7, rfl, hg7⟩ := OwnByt.form' ho5 hL0))
          all_goals
            have hb35 := belowNext hB1 hb5
            have hb3 : Below w.heap.size w w3 := hb35.trans ((Below.refl w.heap.size w5).grown hgr3 hb35.size (fun q hq => (own_blk (own_below hO1.out hb5) hq.symm).1))
            have ho4 : OwnByt w3 w.heap.size (.slice (some ⟨g3, 0, none⟩) (acc.length + L.length) cap3) (acc ++ L) := by
              unfold OwnByt; rw [List.length_append, show byCells (acc ++ L) = byCells acc ++ byCells L by simp [byCells]]; exact ho3
            replace ho4 := As.mk ho4
            replace hb3 := As.mk hb3
            clear ho3 hgr3 hloc3 hlt3 hb5 hb35 hg7 ho5
            go_wp2
            go_roundg gp
            case rel => exact ⟨k + 1, ⟨by have := hgk.out; omega⟩, by omega, (by first | rfl | go_num | (congr 1; omega)), ⟨by rw [hsuc.out]; exact ho4.out⟩, hb3⟩
            case measure => omega
        | some adx =>
          by_cases hcs : c = sn
          · have hby := As.mk (fun v (hv : Below w.heap.size w v) => (.inl (by have h0 : (x.drop sn).take (en - sn) = [] := List.eq_nil_of_length_eq_zero (by rw [hpl.out]; omega); rw [h0]; simp [byCells]) : Byt v (some adx) ((x.drop sn).take (en - sn))))
            have cl1 := As.mk (cl.out _ hB1 _ 0 (hby.out _ hB1))
            obtain rfl : en = sn := by omega
            subst hcs
            rw [Nat.sub_self] at cl1
            have hO1 := As.mk ((hown.out.alloc (.cells #[.int .i64 (c : Int), .int .i64 (c : Int)] 36)).drew)
            go_wp2_with fail
            go_region_law (first
              | (refine step_append_lies _ (by rfl) (.tmp 35) (.tmp 47) _ (by rfl) w.heap.size 5 i0 _ 1 1 Tryd.underlying24 hi hz0 hz1 hz2 rfl (by decide) _ acc.length (byCells acc) (by rfl) (own_below hO1.out hb5) ⟨g7, 0, none⟩ L.length c7 (byCells L) (by rfl) (by rw [byCells_length, Nat.mul_one]) (Byt.cells' hg7) byt_one hL0 (by unfold maxLen; omega) (by omega) (belowNext hB1 hb5).size _ rfl ?_
                 intro g3 cap3 w3 ho3 hgr3 hloc3 hlt3)
              | (refine step_call_post (by rfl) ?ho cl1.out RetByt.ret ?_; (case ho => go_simp); intro v7 w5 hp5; obtain ⟨v8, he5, ho5, hb5⟩ := hp5; injection he5 with he5; subst he5; obtain ⟨g7, c7, rfl, hg7⟩ := OwnByt.form' ho5 hL0))
            all_goals
              have hb35 := belowNext hB1 hb5
              have hb3 : Below w.heap.size w w3 := hb35.trans ((Below.refl w.heap.size w5).grown hgr3 hb35.size (fun q hq => (own_blk (own_below hO1.out hb5) hq.symm).1))
              have ho4 : OwnByt w3 w.heap.size (.slice (some ⟨g3, 0, none⟩) (acc.length + L.length) cap3) (acc ++ L) := by
                unfold OwnByt; rw [List.length_append, show byCells (acc ++ L) = byCells acc ++ byCells L by simp [byCells]]; exact ho3
              replace ho4 := As.mk ho4
              replace hb3 := As.mk hb3
              clear ho3 hgr3 hloc3 hlt3 hb5 hb35 hg7 ho5
              go_wp2
              go_roundg gp
              case rel => exact ⟨k + 1, ⟨by have := hgk.out; omega⟩, by omega, (by first | rfl | go_num | (congr 1; omega)), ⟨by rw [hsuc.out]; exact ho4.out⟩, hb3⟩
              case measure => omega
          · have hby := As.mk (fun v (hv : Below w.heap.size w v) => (Byt.piece2 (Row.below HX.out hv) sn (en - sn) : Byt v (some (adx.add sn)) ((x.drop sn).take (en - sn))))
            have cl1 := As.mk (cl.out _ hB1 _ (c - sn) (hby.out _ hB1))
            have hO1 := As.mk ((hown.out.alloc (.cells #[.int .i64 (sn : Int), .int .i64 (en : Int)] 36)).drew)
            go_wp2_with fail
            go_region_law (first
              | (refine step_append_lies _ (by rfl) (.tmp 35) (.tmp 47) _ (by rfl) w.heap.size 5 i0 _ 1 1 Tryd.underlying24 hi hz0 hz1 hz2 rfl (by decide) _ acc.length (byCells acc) (by rfl) (own_below hO1.out hb5) ⟨g7, 0, none⟩ L.length c7 (byCells L) (by rfl) (by rw [byCells_length, Nat.mul_one]) (Byt.cells' hg7) byt_one hL0 (by unfold maxLen; omega) (by omega) (belowNext hB1 hb5).size _ rfl ?_
                 intro g3 cap3 w3 ho3 hgr3 hloc3 hlt3)
              | (refine step_call_post (by rfl) ?ho cl1.out RetByt.ret ?_; (case ho => go_simp); intro v7 w5 hp5; obtain ⟨v8, he5, ho5, hb5⟩ := hp5; injection he5 with he5; subst he5; obtain ⟨g7, c7, rfl, hg7⟩ := OwnByt.form' ho5 hL0))
            all_goals
              have hb35 := belowNext hB1 hb5
              have hb3 : Below w.heap.size w w3 := hb35.trans ((Below.refl w.heap.size w5).grown hgr3 hb35.size (fun q hq => (own_blk (own_below hO1.out hb5) hq.symm).1))
              have ho4 : OwnByt w3 w.heap.size (.slice (some ⟨g3, 0, none⟩) (acc.length + L.length) cap3) (acc ++ L) := by
                unfold OwnByt; rw [List.length_append, show byCells (acc ++ L) = byCells acc ++ byCells L by simp [byCells]]; exact ho3
              replace ho4 := As.mk ho4
              replace hb3 := As.mk hb3
              clear ho3 hgr3 hloc3 hlt3 hb5 hb35 hg7 ho5
              go_wp2
              go_roundg gp
              case rel => exact ⟨k + 1, ⟨by have := hgk.out; omega⟩, by omega, (by first | rfl | go_num | (congr 1; omega)), ⟨by rw [hsuc.out]; exact ho4.out⟩, hb3⟩
              case measure => omega
      · have hsk : pieceOf off x b (s, e) = [] := by unfold pieceOf; rw [hm.out, if_neg hok]
        rw [hsk, List.append_nil] at hsuc
        replace hsuc := As.mk hsuc
        have h3 : ¬ 0 ≤ s ∨ (0 ≤ s ∧ ¬ s ≤ e) ∨ (0 ≤ s ∧ s ≤ e ∧ ¬ e ≤ (m : Int)) := by
          rw [hop] at hok
          simp only [Bool.and_eq_true, decide_eq_true_eq] at hok
          omega
        clear hok hsk hop
        rcases h3 with hx1 | ⟨hx1, hx2⟩ | ⟨hx1, hx2, hx3⟩
        · have hd1 : decide (0 ≤ s) = false := decide_eq_false hx1
          clear hx1
          go_wp2
          go_roundg gp
          case rel => exact ⟨k + 1, ⟨by have := hgk.out; omega⟩, by omega, (by first | rfl | go_num | (congr 1; omega)), ⟨by rw [hsuc.out]; exact own_below hown.out ((Below.refl _ _).alloc (Nat.le_refl _) _)⟩, ⟨hbel.out.alloc hbel.out.size _⟩⟩
          case measure => omega
        · have hd1 : decide (s ≤ e) = false := decide_eq_false hx2
          clear hx2
          go_wp2
          go_roundg gp
          case rel => exact ⟨k + 1, ⟨by have := hgk.out; omega⟩, by omega, (by first | rfl | go_num | (congr 1; omega)), ⟨by rw [hsuc.out]; exact own_below hown.out ((Below.refl _ _).alloc (Nat.le_refl _) _)⟩, ⟨hbel.out.alloc hbel.out.size _⟩⟩
          case measure => omega
        · have hd1 : decide (e ≤ (m : Int)) = false := decide_eq_false hx3
          clear hx3
          go_wp2
          go_roundg gp
          case rel => exact ⟨k + 1, ⟨by have := hgk.out; omega⟩, by omega, (by first | rfl | go_num | (congr 1; omega)), ⟨by rw [hsuc.out]; exact own_below hown.out ((Below.refl _ _).alloc (Nat.le_refl _) _)⟩, ⟨hbel.out.alloc hbel.out.size _⟩⟩
          case measure => omega
    · obtain rfl : n = k := by omega
      rw [← hn.out, List.take_length] at hown
      go_wp2
      go_ret
      exact ⟨_, rfl, hown.out, hbel.out⟩
end Go.Proofs.YtcapmihfhioafaaDoor
