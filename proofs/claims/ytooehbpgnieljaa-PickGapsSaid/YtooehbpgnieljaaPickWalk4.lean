/- The walks of package pick's reference (First, Longest), and of the laws' 'good'. -/
import Derived.Test.YtooehbpgnieljaaPickWalk2
set_option linter.unusedVariables false
set_option linter.unusedSimpArgs false
namespace Go.Proofs.Ytooehbpgnieljaa
open Go.RowKit Seine.Pick
attribute [local go_sem high] eqPr

theorem all_snoc {α : Type} (l : List α) (k : Nat) (h : k < l.length) (f : α → Bool) : (l.take (k + 1)).all f = ((l.take k).all f && f l[k]) := by
  rw [List.take_succ_eq_append_getElem h, List.all_append, List.all_cons, List.all_nil, Bool.and_true]
theorem any_snoc {α : Type} (l : List α) (k : Nat) (h : k < l.length) (f : α → Bool) : (l.take (k + 1)).any f = ((l.take k).any f || f l[k]) := by
  rw [List.take_succ_eq_append_getElem h, List.any_append, List.any_cons, List.any_nil, Bool.or_false]
theorem getD_get (l : List Pr) (k : Nat) (h : k < l.length) : l.getD k (0, 0) = l[k] := by simp [h]

def bstop (fr : Int) (p q : Pr) : Bool := live fr q && beats q p
theorem betterB_stop {l : List Pr} {fr : Int} {p : Pr} {k : Nat} (hk : k < l.length) (hs : bstop fr p (l.getD k (0, 0)) = true) : betterB l fr p = false := by
  rw [getD_get l k hk] at hs
  simp only [betterB, Bool.and_eq_false_iff]
  right
  rw [List.all_eq_false]
  exact ⟨l[k], List.getElem_mem hk, by unfold bstop at hs; rw [hs]; simp⟩

set_option maxHeartbeats 1600000 in
theorem better_calls (A : Option Addr) (c : Nat) (xs : List Pr) (p : Pr) (fr : Int) (w : World) (hx : Prs w A xs) (hl : xs.length ≤ 1000000000) :
    Calls Try.prog 18 #[.slice A xs.length c, .agg #[.int .i64 p.1, .int .i64 p.2], .int .i64 fr] w fun e w' => e = .returned (.bool (betterB xs fr p)) ∧ Below w.heap.size w w' := by
  have hu25 := Try.underlying25
  have HX := As.mk hx
  clear hx
  obtain ⟨R, hR⟩ : ∃ R, betterB xs fr p = R := ⟨_, rfl⟩
  rw [hR]
  have HR := As.mk hR
  clear hR
  obtain ⟨s, e⟩ := p
  by_cases hv : s < e ∧ fr ≤ s
  · obtain ⟨hv1, hv2⟩ := hv
    go_enter Try.func18, Try.ntmps18
    go_wp2
    go_loopw [7] (fun i wr => ∃ k : Nat, k ≤ xs.length ∧ i = .int .i64 k ∧ As ((xs.take k).all (fun q => !bstop fr (s, e) q) = true) ∧ As (wr.heap[w.heap.size]? = some (.cells #[.int .i64 s, .int .i64 e] 25 (0, 0))) ∧ As (Below w.heap.size w wr)) (fun i _ => xs.length - (intOf i).toNat)
    case atStart => exact ⟨0, Nat.zero_le _, rfl, ⟨rfl⟩, ⟨heap_alloc_new _ _⟩, ⟨(Below.refl _ _).alloc (Nat.le_refl _) _⟩⟩
    case round =>
      obtain ⟨k, hk, rfl, hall, hbx, hbel⟩ := hrel
      have c0 := cell_of_blk hbx.out 0
      have c1 := cell_of_blk hbx.out 1
      have hlt1 : w.heap.size < wr.heap.size := block_lt hbx.out
      simp at c0 c1
      by_cases hlt : k < xs.length
      · obtain ⟨ad, rfl, a1, a2⟩ := Prs.at_ (HX.out.below hbel.out) hlt
        have hst := As.mk (betterB_stop (fr := fr) (p := (s, e)) hlt)
        have hsn := As.mk (all_snoc xs k hlt (fun q => !bstop fr (s, e) q))
        rw [← getD_get xs k hlt] at hsn
        generalize xs.getD k (0, 0) = q at *
        obtain ⟨q1, q2⟩ := q
        by_cases hb : bstop fr (s, e) (q1, q2) = true
        · have hR : As (R = false) := ⟨by rw [← HR.out]; exact hst.out hb⟩
          have hb' : (q1 < q2 ∧ fr ≤ q1) ∧ (q1 < s ∨ q1 = s ∧ e < q2) := by
            unfold bstop at hb; rw [Bool.and_eq_true, live_iff, beats_iff] at hb; exact hb
          clear hb
          obtain ⟨⟨h1, h2⟩, h3⟩ := hb'
          rcases h3 with h3 | ⟨rfl, h3⟩
          all_goals
            go_wp2
            go_ret
            exact ⟨ret_bool hR.out.symm, hbel.out.alloc hbel.out.size _⟩
        · have hb0 : As (bstop fr (s, e) (q1, q2) = false) := ⟨by simpa using hb⟩
          have hb' : q2 ≤ q1 ∨ (q1 < q2 ∧ q1 < fr) ∨ (q1 < q2 ∧ fr ≤ q1 ∧ s < q1) ∨ (q1 < q2 ∧ fr ≤ q1 ∧ q1 = s ∧ q2 ≤ e) := by
            unfold bstop at hb; rw [Bool.and_eq_true, live_iff, beats_iff] at hb; simp only [] at hb; omega
          clear hb
          rcases hb' with h1 | ⟨h1, h2⟩ | ⟨h1, h2, h3⟩ | ⟨h1, h2, rfl, h3⟩
          all_goals
            go_wp2
            go_roundw
            case rel => exact ⟨k + 1, by omega, by go_num, ⟨by rw [hsn.out, hall.out, hb0.out]; rfl⟩, ⟨blk_old hbx.out⟩, ⟨hbel.out.alloc hbel.out.size _⟩⟩
            case measure => simp [intOf]; omega
      · have hR : As (R = true) := ⟨by
          have := hall.out
          rw [List.take_of_length_le (by omega)] at this
          rw [← HR.out]
          unfold betterB
          rw [live_iff.2 ⟨hv1, hv2⟩]
          exact this⟩
        go_wp2
        go_ret
        exact ⟨ret_bool hR.out.symm, hbel.out⟩
  · have hR : As (R = false) := ⟨by
      rw [← HR.out]; unfold betterB
      have : live fr (s, e) = false := by rw [← Bool.not_eq_true, live_iff]; exact hv
      rw [this]; rfl⟩
    rcases (show e ≤ s ∨ (s < e ∧ s < fr) by omega) with h | ⟨h, h2⟩
    all_goals
      go_enter Try.func18, Try.ntmps18
      go_wp2
      go_ret
      exact ⟨ret_bool hR.out.symm, (Below.refl _ _).alloc (Nat.le_refl _) _⟩

theorem find_take {l : List Pr} {f : Pr → Bool} {k : Nat} (hk : k < l.length) (h : (l.take k).all (fun q => !f q) = true) (hf : f (l.getD k (0, 0)) = true) : l.find? f = some (l.getD k (0, 0)) := by
  have h1 : (l.take k).find? f = none := by
    rw [List.find?_eq_none]; intro x hx hfx
    have := List.all_eq_true.1 h x hx
    rw [hfx] at this; cases this
  have h2 : l.find? f = ((l.take k).find? f).or ((l.drop k).find? f) := by rw [← List.find?_append, List.take_append_drop]
  rw [getD_get l k hk] at hf ⊢
  rw [h2, h1, Option.none_or, List.drop_eq_getElem_cons hk, List.find?_cons_of_pos hf]
theorem find_all {l : List Pr} {f : Pr → Bool} (h : l.all (fun q => !f q) = true) : l.find? f = none := by
  rw [List.find?_eq_none]; intro x hx hfx
  have := List.all_eq_true.1 h x hx
  rw [hfx] at this; cases this

set_option maxHeartbeats 1600000 in
theorem reffirst_calls (A : Option Addr) (c : Nat) (xs : List Pr) (fr : Int) (w : World) (hx : Prs w A xs) (hl : xs.length ≤ 1000000000) :
    Calls Try.prog 11 #[.slice A xs.length c, .int .i64 fr] w fun e w' => e = .returned (.tuple #[.agg #[.int .i64 ((first xs fr).getD (0, 0)).1, .int .i64 ((first xs fr).getD (0, 0)).2], .bool (first xs fr).isSome]) ∧ Below w.heap.size w w' := by
  have hu25 := Try.underlying25
  have HX := As.mk hx
  clear hx
  obtain ⟨R, hR⟩ : ∃ R, first xs fr = R := ⟨_, rfl⟩
  rw [hR]
  rw [← find_first] at hR
  have HR := As.mk hR
  clear hR
  go_enter Try.func11, Try.ntmps11
  go_wp2
  go_loopw [6] (fun i wr => ∃ k : Nat, k ≤ xs.length ∧ i = .int .i64 k ∧ As ((xs.take k).all (fun q => !betterB xs fr q) = true) ∧ As (wr.heap[w.heap.size]? = some (.cells #[.int .i64 0, .int .i64 0] 25 (0, 0))) ∧ As (Below w.heap.size w wr)) (fun i _ => xs.length - (intOf i).toNat)
  case atStart => exact ⟨0, Nat.zero_le _, rfl, ⟨rfl⟩, ⟨heap_alloc_new _ _⟩, ⟨(Below.refl _ _).alloc (Nat.le_refl _) _⟩⟩
  case round =>
    obtain ⟨k, hk, rfl, hall, hbx, hbel⟩ := hrel
    have hlt1 : w.heap.size < wr.heap.size := block_lt hbx.out
    by_cases hlt : k < xs.length
    · obtain ⟨ad, hA, a1, a2⟩ := Prs.at_ (HX.out.below hbel.out) hlt
      have hc := better_calls A c xs (xs.getD k (0, 0)) fr wr (HX.out.below hbel.out) hl
      subst hA
      have hft := As.mk (find_take (f := betterB xs fr) hlt hall.out)
      have hsn := As.mk (all_snoc xs k hlt (fun q => !betterB xs fr q))
      rw [← getD_get xs k hlt] at hsn
      generalize xs.getD k (0, 0) = q at *
      obtain ⟨s, e⟩ := q
      cases hb : betterB xs fr (s, e) with
      | true =>
        rw [hb] at hc
        have hR : As (some (s, e) = R) := ⟨(hft.out hb).symm.trans HR.out⟩
        clear hb hft hsn
        go_wp2_with (go_at_call 18; refine hc.mono ?_; rintro e1 w1 ⟨rfl, hb1⟩
                     have b1 := (hb1.cell (World.block_lt_of_cell? wr _ a1)).trans a1
                     have b2 := (hb1.cell (World.block_lt_of_cell? wr _ a2)).trans a2
                     have hbx1 : As (w1.heap[w.heap.size]? = some (.cells #[.int .i64 0, .int .i64 0] 25 (0, 0))) := ⟨(hb1.block _ hlt1).trans hbx.out⟩
                     have d0 : w1.cell? ⟨w.heap.size, 0, none⟩ = some (.int .i64 0) := cell_of_blk hbx1.out 0
                     have d1 : w1.cell? ⟨w.heap.size, 1, none⟩ = some (.int .i64 0) := cell_of_blk hbx1.out 1
                     have f0 := free_of_blk hbx1.out 0
                     have f1 := free_of_blk hbx1.out 1
                     have hlt2 : w.heap.size < w1.heap.size := block_lt hbx1.out)
        obtain rfl := hR.out
        have e0 : (w1.setCell ⟨w.heap.size, 0, none⟩ (.int .i64 s)).cell? ⟨w.heap.size, 0, none⟩ = some (.int .i64 s) := cell_of_blk (blk_set hbx1.out 0 _) 0
        have e1 : ((w1.setCell ⟨w.heap.size, 0, none⟩ (.int .i64 s)).setCell ⟨w.heap.size, 1, none⟩ (.int .i64 e)).cell? ⟨w.heap.size, 1, none⟩ = some (.int .i64 e) := cell_of_blk (blk_set (blk_set hbx1.out 0 _) 1 _) 1
        refine bodyPost_ret (v := .tuple #[.agg #[.int .i64 s, .int .i64 e], .bool true]) (by simp [results, Try.results11, go_sem, e0, e1]) rfl ⟨rfl, ?_⟩
        exact ((below_lift hbel.out hb1 hbel.out.size).setCell (by simp) _).setCell (by simp) _
      | false =>
        rw [hb] at hc
        have hb := As.mk hb
        go_wp2_with (go_at_call 18; refine hc.mono ?_; rintro e1 w1 ⟨rfl, hb1⟩)
        go_roundw
        case rel => exact ⟨k + 1, by omega, by go_num, ⟨by rw [hsn.out, hall.out, hb.out]; rfl⟩, ⟨(hb1.block _ hlt1).trans hbx.out⟩, ⟨below_lift hbel.out hb1 hbel.out.size⟩⟩
        case measure => simp [intOf]; omega
    · have hR : As (none = R) := ⟨by
        have := hall.out
        rw [List.take_of_length_le (by omega)] at this
        exact (find_all this).symm.trans HR.out⟩
      have d0 : wr.cell? ⟨w.heap.size, 0, none⟩ = some (.int .i64 0) := cell_of_blk hbx.out 0
      have d1 : wr.cell? ⟨w.heap.size, 1, none⟩ = some (.int .i64 0) := cell_of_blk hbx.out 1
      have f0 := free_of_blk hbx.out 0
      have f1 := free_of_blk hbx.out 1
      go_wp2
      obtain rfl := hR.out
      have e0 : (wr.setCell ⟨w.heap.size, 0, none⟩ (.int .i64 0)).cell? ⟨w.heap.size, 0, none⟩ = some (.int .i64 0) := cell_of_blk (blk_set hbx.out 0 _) 0
      have e1 : ((wr.setCell ⟨w.heap.size, 0, none⟩ (.int .i64 0)).setCell ⟨w.heap.size, 1, none⟩ (.int .i64 0)).cell? ⟨w.heap.size, 1, none⟩ = some (.int .i64 0) := cell_of_blk (blk_set (blk_set hbx.out 0 _) 1 _) 1
      refine bodyPost_ret (v := .tuple #[.agg #[.int .i64 0, .int .i64 0], .bool false]) (by simp [results, Try.results11, go_sem, e0, e1]) rfl ⟨rfl, ?_⟩
      exact (hbel.out.setCell (by simp) _).setCell (by simp) _

set_option maxHeartbeats 1600000 in
theorem reflongest_calls (A : Option Addr) (c : Nat) (xs : List Pr) (w : World) (hx : Prs w A xs) (hl : xs.length ≤ 1000000000) :
    Calls Try.prog 14 #[.slice A xs.length c] w (RetPrs w (longest xs minInt)) := by
  have hu25 := Try.underlying25
  have HX := As.mk hx
  clear hx
  obtain ⟨R, hR⟩ : ∃ R, longest xs minInt = R := ⟨_, rfl⟩
  rw [hR]
  have HR := As.mk hR
  clear hR
  have hc0 := reffirst_calls A c xs minInt w HX.out hl
  obtain ⟨F, hF⟩ : ∃ F, first xs minInt = F := ⟨_, rfl⟩
  rw [hF] at hc0
  have hF := As.mk hF
  go_enter Try.func14, Try.ntmps14
  go_wp2_with (go_at_call 11; refine hc0.mono ?_; rintro e1 w0 ⟨rfl, hb0⟩)
  have hs0 := hb0.size
  go_loopg [3, 5] xs.length (fun g v s wr => ∃ (acc : List Pr) (f : Int), s = .bool (first xs f).isSome ∧ As (acc ++ longest xs f = R) ∧ As (OwnPrs wr (w0.heap.size + 1) v acc) ∧ As (Below w.heap.size w wr) ∧ As (acc.length + left xs f ≤ xs.length ∧ left xs f ≤ g) ∧
    As (wr.heap[w0.heap.size]? = some (.cells #[.int .i64 ((first xs f).getD (0, 0)).1, .int .i64 ((first xs f).getD (0, 0)).2] 25 (0, 0))))
  case atStart => exact ⟨[], minInt, by rw [hF.out], ⟨HR.out⟩, ⟨World.ownsRow_nil _ _ _ _⟩, ⟨hb0.alloc hs0 _⟩, ⟨by have := left_le xs minInt; simp; omega⟩, ⟨by rw [hF.out]; exact heap_alloc_new _ _⟩⟩
  case round =>
    obtain ⟨acc, f, rfl, hr, hown, hbel, hlen, hbx⟩ := hrel
    have hsz := hbel.out.size
    have hlt1 : w0.heap.size < wr.heap.size := block_lt hbx.out
    cases hf : first xs f with
    | none =>
      have hf := As.mk hf
      go_wp2
      go_ret
      refine ⟨_, rfl, ?_, hbel.out⟩
      have : R = acc := by rw [← hr.out, longest_none hf.out]; simp
      rw [this]
      exact own_base hown.out (by omega)
    | some p =>
      rw [hf] at hbx
      have hlt := left_lt hf
      have hf := As.mk hf
      obtain ⟨s, e⟩ := p
      have c0 : wr.cell? ⟨w0.heap.size, 0, none⟩ = some (.int .i64 s) := cell_of_blk hbx.out 0
      have c1 : wr.cell? ⟨w0.heap.size, 1, none⟩ = some (.int .i64 e) := cell_of_blk hbx.out 1
      have hlt := As.mk hlt
      obtain ⟨F2, hF2⟩ : ∃ F, first xs e = F := ⟨_, rfl⟩
      have hF2 := As.mk hF2
      go_wp2_with (first
        | (at_builtin
           refine wpList_app1 _ rfl (.tmp 12) (.tmp 14) 22 rfl (w0.heap.size + 1) 25 _ 2 16 Try.underlying22 info_pr rfl (by decide) _ acc.length (prCells acc) rfl hown.out [.int .i64 s, .int .i64 e] rfl (by simp [Value.oneCell']) _ rfl (by simp) (by have := hlen.out; omega) (by decide) (by omega) ?_
           intro v' w2 ho hk2 hat hb2
           have hbx2 : As (w2.heap[w0.heap.size]? = some (.cells #[.int .i64 s, .int .i64 e] 25 (0, 0))) := ⟨(hb2.block _ (by omega)).trans hbx.out⟩
           have d0 : w2.cell? ⟨w0.heap.size, 0, none⟩ = some (.int .i64 s) := cell_of_blk hbx2.out 0
           have d1 : w2.cell? ⟨w0.heap.size, 1, none⟩ = some (.int .i64 e) := cell_of_blk hbx2.out 1
           have hbel2 : As (Below w.heap.size w w2) := ⟨hbel.out.trans (hb2.mono (by omega))⟩)
        | (go_at_call 11
           refine (reffirst_calls A c xs e w2 (HX.out.below hbel2.out) hl).mono ?_
           rw [hF2.out]
           rintro e1 w3 ⟨rfl, hb3⟩
           have hbx3 : As (w3.heap[w0.heap.size]? = some (.cells #[.int .i64 s, .int .i64 e] 25 (0, 0))) := ⟨(hb3.block _ (block_lt hbx2.out)).trans hbx2.out⟩
           have g0 := free_of_blk hbx3.out 0
           have g1 := free_of_blk hbx3.out 1
           have k0 : w3.cell? ⟨w0.heap.size, 0, none⟩ = some (.int .i64 s) := cell_of_blk hbx3.out 0
           have k1 : w3.cell? ⟨w0.heap.size, 1, none⟩ = some (.int .i64 e) := cell_of_blk hbx3.out 1))
      go_roundg (gk - 1)
      case measure => have := hlen.out; have := hlt.out; omega
      case rel =>
        have hlen := hlen.out
        have hlt := hlt.out
        refine ⟨acc ++ [(s, e)], e, by rw [hF2.out], ⟨by rw [← hr.out, longest_some hf.out]; simp⟩, ⟨?_⟩, ⟨((below_lift hbel2.out hb3 hbel2.out.size).setCell (by simp; omega) _).setCell (by simp; omega) _⟩, ⟨by simp; omega⟩, ⟨by rw [hF2.out]; exact blk_set (blk_set hbx3.out 0 _) 1 _⟩⟩
        refine ownsRow_setCell_below (ownsRow_setCell_below ?_ (by simp) _) (by simp) _
        have h1 : (acc ++ [(s, e)]).length = acc.length + 1 := by simp
        rw [h1, prCells_snoc]
        exact own_below ho hb3
end Go.Proofs.Ytooehbpgnieljaa
