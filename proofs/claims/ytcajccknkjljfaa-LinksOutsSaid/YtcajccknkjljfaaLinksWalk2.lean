/- The walks of package links: one node's links. -/
import Derived.Test.YtcajccknkjljfaaLinksWalk
set_option linter.unusedVariables false
set_option linter.unusedSimpArgs false
namespace Go.Proofs.Ytcajccknkjljfaa
open Go.RowKit Go.Maps Seine.Trie Seine.Links

theorem blk_drew {w : World} {b : Nat} {o : Obj} (h : w.heap[b]? = some o) : w.drew.heap[b]? = some o := h
set_option maxRecDepth 100000 in
set_option maxHeartbeats 1600000 in
theorem link_calls (w0 w : World) (base g base2 tg : Nat) (P l : List Txt) (F O U F' O' U' : Txt → Int) (o : List Txt) (hw0 : w0.heap.size = base) (ht : TrieAt w0 base2 tg P (place l)) (hb : Below base w0 w) (B : LB) (hk : LinksIn w base g P F O U o B)
    (hl : P.length ≤ 1000000) (hd : ∀ p ∈ P, p.length ≤ 100000) (hlP : ∀ x, x ∈ l → x ∈ P) (a : Nat) (p : Txt) (hp : P[a]? = some p) (hne : p ≠ [])
    (hF : ∀ x, x ∈ P → x.length < p.length → F x = failF P x ∧ O x = outF P l x ∧ U x = ownF l x) (hU0 : U p = 0)
    (hF' : F' p = failF P p ∧ ∀ y, y ≠ p → F' y = F y) (hO' : O' p = outF P l p ∧ ∀ y, y ≠ p → O' y = O y) (hU' : U' p = ownF l p ∧ ∀ y, y ≠ p → U' y = U y) :
    Calls Try.prog 30 #[.pointer (some ⟨g, 0, none⟩), .pointer (some ⟨tg, 0, none⟩), .int .i64 (a : Int)] w fun e w' => e = .returned (.tuple #[]) ∧ LinksIn w' base g P F' O' U' o B ∧ Below base w w' := by
  have hT := As.mk ht.tree
  have hal := (List.getElem?_eq_some_iff.1 hp).1
  have htw : ∀ {v}, Below base w0 v → TrieAt v base2 tg P (place l) := fun h => ht.below (by rw [hw0]; exact h)
  have htw := As.mk @htw
  have hbs : base ≤ w.heap.size := by have := hb.size; omega
  obtain ⟨q, c, hqc⟩ : ∃ q c, p = q ++ [c] := ⟨_, _, (last_split hne).symm⟩
  have hpa : pathF P (a : Int) = p := by
    unfold pathF
    rw [if_pos (by omega), Int.toNat_natCast, List.getD_eq_getElem?_getD, hp]; rfl
  have hup : q ∈ P := by
    have := hT.out.up p (List.mem_of_getElem? hp) hne
    rwa [hqc, List.dropLast_concat] at this
  obtain ⟨b, hb1, hb2⟩ := place_nat hup
  have hpar : askF P (parent P) (-1) (a : Int) = (b : Int) := by
    unfold askF parent
    rw [if_pos (by omega), Int.toNat_natCast, List.getD_eq_getElem?_getD, hp]
    simp only [Option.getD_some]
    rw [if_neg hne, hqc, List.dropLast_concat, hb1]
  have hw : askF P (place l) (-1) (a : Int) = place l p := by
    unfold askF
    rw [if_pos (by omega), Int.toNat_natCast, List.getD_eq_getElem?_getD, hp]; rfl
  have hpl : p.length = q.length + 1 := by rw [hqc]; simp
  have hpd := hd p (List.mem_of_getElem? hp)
  have hpaths := As.mk (fun v hv => path_calls v base2 tg P (place l) (htw.out hv) (a : Int) hd)
  have hpars := As.mk (fun v hv => parent_calls v base2 tg P (place l) (htw.out hv) (a : Int))
  have hwords := As.mk (fun v hv => word_calls v base2 tg P (place l) (htw.out hv) (a : Int))
  rw [hpa] at hpaths
  rw [hpar] at hpars
  rw [hw] at hwords
  have hb := As.mk hb
  have hk := As.mk hk
  have hmf : ∀ (fn : Fn) (first cap : Array Value) (w : World), (Instr.makeFunc fn first cap).run Try.prog w = .ok (.func fn first cap) w := fun _ _ _ _ => rfl
  clear hpa hpar hw ht
  go_enter Try.func30, Try.ntmps30
  go_wp2_with fail
  have x1 := blk_old (o' := .cells #[.pointer (some ⟨tg, 0, none⟩)] 29) (heap_alloc_new w (.cells #[.pointer (some ⟨g, 0, none⟩)] 27))
  have x2 := blk_new1 w (.cells #[.pointer (some ⟨g, 0, none⟩)] 27) (.cells #[.pointer (some ⟨tg, 0, none⟩)] 29)
  have hbel2 : Below w.heap.size w ((w.alloc (.cells #[.pointer (some ⟨g, 0, none⟩)] 27)).alloc (.cells #[.pointer (some ⟨tg, 0, none⟩)] 29)) := (((Below.refl _ _).alloc (Nat.le_refl _) _).alloc (by simp) _)
  replace x1 := As.mk x1
  replace x2 := As.mk x2
  replace hbel2 := As.mk hbel2
  generalize (w.alloc (.cells #[.pointer (some ⟨g, 0, none⟩)] 27)).alloc (.cells #[.pointer (some ⟨tg, 0, none⟩)] 29) = w2 at *
  have hb02 := As.mk (hb.out.trans (hbel2.out.mono hbs))
  refine (hpaths.out w2 hb02.out).mono ?_
  intro e w3 hr
  obtain ⟨A, cp, rfl, hby, hbel3⟩ := hr.row
  rw [hpl]
  obtain ⟨ad, rfl, y0⟩ := Byt.at_ hby (i := q.length) (by omega)
  have hlast : p.getD q.length 0 = c := by rw [hqc]; simp [List.getD_eq_getElem?_getD]
  rw [hlast] at y0
  clear hlast hby hr hpaths
  have hbel3' := As.mk (hbel2.out.trans (hbel3.mono hbel2.out.size))
  replace x1 := As.mk ((hbel3.block _ (block_lt x1.out)).trans x1.out)
  replace x2 := As.mk ((hbel3.block _ (block_lt x2.out)).trans x2.out)
  have hw2 := block_lt x2.out
  clear hbel3 hbel2 hb02
  generalize hqn : q.length = n at *
  have z1 := blk_old (o' := .cells #[.int .u8 (c.toNat : Int)] 5) x1.out
  have z2 := blk_old (o' := .cells #[.int .u8 (c.toNat : Int)] 5) x2.out
  have z3 := heap_alloc_new w3 (.cells #[.int .u8 (c.toNat : Int)] 5)
  have hbel4 : Below w.heap.size w (w3.alloc (.cells #[.int .u8 (c.toNat : Int)] 5)) := hbel3'.out.alloc hbel3'.out.size _
  have v1 := cell_of_blk z1 0
  have v2 := cell_of_blk z2 0
  have v3 := cell_of_blk z3 0
  go_wp2_with fail
  replace z1 := As.mk z1
  replace z2 := As.mk z2
  replace z3 := As.mk z3
  replace hbel4 := As.mk hbel4
  clear x1 x2 hbel3' y0
  generalize w3.alloc (.cells #[.int .u8 (c.toNat : Int)] 5) = w4 at *
  generalize w3.heap.size = b3 at *
  have hb04 := As.mk (hb.out.trans (hbel4.out.mono hbs))
  have hb3 := block_lt z3.out
  have hk4 := As.mk (hk.out.below hbel4.out)
  refine (hpars.out w4 hb04.out).mono ?_
  rintro e w4' ⟨rfl, rfl⟩
  go_wp2_with fail
  have hcc := back_calls w4 base g base2 tg P (place l) F O U o (htw.out hb04.out) B hk4.out hl w.heap.size (w.heap.size + 1) b3 c v1 v2 v3 b q hb2 (fun x hx hle => (hF x hx (by omega)).1)
  rw [← hqc] at hcc
  refine hcc.mono ?_
  rintro e w4' ⟨rfl, rfl⟩
  obtain ⟨nn, hnn⟩ := fail_some hT.out hne
  obtain ⟨j1, j2, j3, _⟩ := failN_some hnn
  have hor := out_rec hlP hnn
  have hfp : failF P p = place P (p.drop nn) := by unfold failF; rw [hnn]
  have hrl : (p.drop nn).length < p.length := by rw [List.length_drop]; omega
  generalize p.drop nn = r at *
  obtain ⟨fi, hf1, hf2⟩ := place_nat j3
  obtain ⟨_, g2, g3⟩ := hF r j3 hrl
  have hrp : r ≠ p := fun e => by rw [e] at hrl; omega
  rw [hfp, hf1] at hF'
  rw [hfp, hf1]
  rw [hf1] at hor
  have k5 := hk4.out.setF hT.out hp F' hF'.1 hF'.2
  have k6 := k5.setO hT.out hp (x := (fi : Int)) (fun y => if y = p then (fi : Int) else O y) (if_pos rfl) (fun y h => if_neg h)
  have n1 := hk4.out.other z1.out (by decide)
  have n2 := hk4.out.other z2.out (by decide)
  have q1 := blk_far z1.out (p := ⟨B.bf, a, none⟩) n1.1 (.int .i64 (fi : Int))
  have q2 := blk_far z2.out (p := ⟨B.bf, a, none⟩) n2.1 (.int .i64 (fi : Int))
  have r1 := blk_far q1 (p := ⟨B.bo, a, none⟩) n1.2.1 (.int .i64 (fi : Int))
  have r2 := blk_far q2 (p := ⟨B.bo, a, none⟩) n2.2.1 (.int .i64 (fi : Int))
  have bb5 := (Below.refl base w4).setCell (p := ⟨B.bf, a, none⟩) hk4.out.bases.1 (.int .i64 (fi : Int))
  have bb6 := bb5.setCell (p := ⟨B.bo, a, none⟩) hk4.out.bases.2.1 (.int .i64 (fi : Int))
  obtain ⟨t0, t1, t2, t3, _⟩ := hk4.out.heads
  obtain ⟨u0, u1, u2, u3, _⟩ := k5.heads
  obtain ⟨s0, s1, s2, s3, _⟩ := k6.heads
  obtain ⟨_, _, _, f4, _, _⟩ := hk4.out.rows hp
  obtain ⟨_, _, _, _, f5, _⟩ := k5.rows hp
  obtain ⟨_, _, _, _, f6, _⟩ := k6.rows hp
  obtain ⟨_, m2, m3, _⟩ := k6.rows hf2
  rw [g3] at m3
  simp only [if_neg hrp] at m2
  rw [g2] at m2
  have e1 := cell_of_blk q1 0
  have e2 := cell_of_blk r1 0
  have l1 := hk4.out.caps
  have hfil := (List.getElem?_eq_some_iff.1 hf2).1
  clear hcc u0 u2 s0 n1 n2 q1 q2
  have k5 := As.mk k5
  have k6 := As.mk k6
  have bb6 := As.mk bb6
  have e3 := cell_of_blk r2 0
  by_cases ho : ownF l r = 0
  · rw [if_pos ho] at hor
    rw [ho] at m3
    have k7 := k6.out.setO hT.out hp (x := outF P l r) O' (hO'.1.trans hor) (fun y h => (hO'.2 y h).trans (if_neg h).symm)
    have y1 := blk_far r1 (p := ⟨B.bo, a, none⟩) (k6.out.other r1 (by decide)).2.1 (.int .i64 (outF P l r))
    have y2 := blk_far r2 (p := ⟨B.bo, a, none⟩) (k6.out.other r2 (by decide)).2.1 (.int .i64 (outF P l r))
    have bb7 := As.mk (bb6.out.setCell (p := ⟨B.bo, a, none⟩) k6.out.bases.2.1 (.int .i64 (outF P l r)))
    have e4 := cell_of_blk y2 0
    replace k7 := As.mk k7
    generalize outF P l r = ov at *
    go_wp2_with fail
    go_region
    all_goals
      go_wp2_with fail
      replace k7 := k7.out.below (Below.drew (Below.refl _ _))
      replace bb7 := As.mk (Below.drew bb7.out)
      have hb07 := hb04.out.trans bb7.out
      have y1' := blk_drew y1
      replace hb07 := As.mk hb07
      replace k7 := As.mk k7
      refine (hwords.out _ hb07.out).mono ?_
      rintro e w8 ⟨rfl, rfl⟩
      have p1 := cell_of_blk y1 0
      obtain ⟨_, _, i2, _⟩ := k7.out.heads
      obtain ⟨_, _, _, _, _, f8⟩ := k7.out.rows hp
      by_cases hin : p ∈ l
      · have hge := place_mem.2 hin
        have hown : ownF l p = ((n : Int) + 1) := by unfold ownF; rw [if_pos hin, hpl]; push_cast; rfl
        have k8 := k7.out.setU hT.out hp U' (x := (n : Int) + 1) (hU'.1.trans hown) hU'.2
        have bb8 := bb7.out.setCell (p := ⟨B.bu, a, none⟩) k7.out.bases.2.2 (.int .i64 ((n : Int) + 1))
        replace k8 := As.mk k8
        replace bb8 := As.mk bb8
        clear hown hin
        generalize place l p = wd at *
        go_wp2
        go_end0
        exact ⟨rfl, k8.out, (hbel4.out.mono hbs).trans bb8.out⟩
      · have hno := place_none hin
        have k8 := k7.out.congr (F' := F') (O' := O') (U' := U') (fun _ _ => rfl) (fun _ _ => rfl) (fun x _ => by
          by_cases hx : x = p
          · rw [hx, hU0, hU'.1]; unfold ownF; rw [if_neg hin]
          · exact (hU'.2 x hx).symm)
        replace k8 := As.mk k8
        rw [hno]
        clear hno hin
        go_wp2
        go_end0
        exact ⟨rfl, k8.out, (hbel4.out.mono hbs).trans bb7.out⟩
  · rw [if_neg ho] at hor
    have hO1 : ∀ x, x ∈ P → (if x = p then (fi : Int) else O x) = O' x := fun x _ => by
      by_cases hx : x = p
      · rw [if_pos hx, hx, hO'.1, hor]
      · rw [if_neg hx, hO'.2 x hx]
    have k7 := k6.out.congr (F' := F') (O' := O') (U' := U) (fun _ _ => rfl) hO1 (fun _ _ => rfl)
    have y1 := r1
    have bb7 := bb6
    clear hO1 hor
    replace k7 := As.mk k7
    go_wp2_with fail
    replace k7 := k7.out
    have hb07 := hb04.out.trans bb7.out
    replace hb07 := As.mk hb07
    replace k7 := As.mk k7
    refine (hwords.out _ hb07.out).mono ?_
    rintro e w8 ⟨rfl, rfl⟩
    have p1 := cell_of_blk y1 0
    obtain ⟨_, _, i2, _⟩ := k7.out.heads
    obtain ⟨_, _, _, _, _, f8⟩ := k7.out.rows hp
    by_cases hin : p ∈ l
    · have hge := place_mem.2 hin
      have hown : ownF l p = ((n : Int) + 1) := by unfold ownF; rw [if_pos hin, hpl]; push_cast; rfl
      have k8 := k7.out.setU hT.out hp U' (x := (n : Int) + 1) (hU'.1.trans hown) hU'.2
      have bb8 := bb7.out.setCell (p := ⟨B.bu, a, none⟩) k7.out.bases.2.2 (.int .i64 ((n : Int) + 1))
      replace k8 := As.mk k8
      replace bb8 := As.mk bb8
      clear hown hin
      generalize place l p = wd at *
      go_wp2
      go_end0
      exact ⟨rfl, k8.out, (hbel4.out.mono hbs).trans bb8.out⟩
    · have hno := place_none hin
      have k8 := k7.out.congr (F' := F') (O' := O') (U' := U') (fun _ _ => rfl) (fun _ _ => rfl) (fun x _ => by
        by_cases hx : x = p
        · rw [hx, hU0, hU'.1]; unfold ownF; rw [if_neg hin]
        · exact (hU'.2 x hx).symm)
      replace k8 := As.mk k8
      rw [hno]
      clear hno hin
      go_wp2
      go_end0
      exact ⟨rfl, k8.out, (hbel4.out.mono hbs).trans bb7.out⟩
end Go.Proofs.Ytcajccknkjljfaa
