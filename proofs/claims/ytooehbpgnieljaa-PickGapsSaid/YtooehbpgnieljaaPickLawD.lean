/- The walk of the law PickAgain. -/
import Derived.Test.YtooehbpgnieljaaPickLawC
set_option linter.unusedVariables false
set_option linter.unusedSimpArgs false
namespace Go.Proofs.Ytooehbpgnieljaa
open Go.RowKit Seine.Pick
attribute [local go_sem high] eqPr

/-- what the list that is turned holds after k rounds -/
def Turned (xs : List Pr) (tn : Int) (k : Nat) (acc : List Pr) : Prop :=
  acc.length = 2 * k ∧ (∀ r ∈ acc, r.1 < r.2 → r ∈ xs) ∧ ∀ j, j < k → xs.getD (((j : Int) + tn) % (xs.length : Int)).toNat (0, 0) ∈ acc
theorem Turned.next {xs : List Pr} {tn at_ : Int} {k : Nat} {acc : List Pr} {s e : Int} (h : Turned xs tn k acc) (hp : (s, e) = xs.getD (((k : Int) + tn) % (xs.length : Int)).toNat (0, 0)) (hlt : (((k : Int) + tn) % (xs.length : Int)).toNat < xs.length) :
    Turned xs tn (k + 1) (acc ++ [(s, e)] ++ [(at_, at_)]) := by
  refine ⟨by have := h.1; simp; omega, fun r hr hx => ?_, fun j hj => ?_⟩
  · simp only [List.append_assoc, List.mem_append, List.mem_cons, List.not_mem_nil, or_false] at hr
    rcases hr with hr | rfl | rfl
    · exact h.2.1 r hr hx
    · rw [hp, getD_get xs _ hlt]; exact List.getElem_mem hlt
    · simp at hx
  · by_cases e1 : j = k
    · subst e1; rw [← hp]; simp
    · have := h.2.2 j (by omega); simp only [List.append_assoc, List.mem_append]; exact .inl this
theorem Turned.done {xs : List Pr} {tn : Int} {acc : List Pr} (h : Turned xs tn xs.length acc) (f : Int) (s : Pr) (hs : s = xs.getD 0 (0, 0)) (hpos : 0 < xs.length) : longest (acc ++ [s]) f = longest xs f := by
  refine longest_same f (fun r hr hx => ?_) (fun r hr hx => ?_)
  · simp at hr
    rcases hr with hr | rfl
    · exact h.2.1 r hr hx
    · rw [hs, getD_get xs 0 hpos]; exact List.getElem_mem hpos
  · obtain ⟨i, hi, rfl⟩ := List.mem_iff_getElem.1 hr
    have hn : (0 : Int) < xs.length := by omega
    have hj0 := Int.emod_nonneg ((i : Int) - tn) (by omega : (xs.length : Int) ≠ 0)
    have hj1 := Int.emod_lt_of_pos ((i : Int) - tn) hn
    have := h.2.2 (((i : Int) - tn) % (xs.length : Int)).toNat (by omega)
    rw [Int.toNat_of_nonneg hj0, Int.emod_add_emod, Int.sub_add_cancel, Int.emod_eq_of_lt (by omega) (by omega)] at this
    rw [show ((i : Int)).toNat = i from by omega, getD_get xs i hi] at this
    simp [this]

set_option maxRecDepth 100000 in
set_option maxHeartbeats 3200000 in
theorem pagain_walk (A : Option Addr) (c : Nat) (xs : List Pr) (tn at_ : Int) (w : World) (hx : Row w A (xs.flatMap fun p => [.int .i64 p.1, .int .i64 p.2])) (hc : xs.length ≤ c) (hm : c ≤ maxLen)
    (hw : ∀ x ∈ xs, (Lit.int .i64 x.1).wf = true ∧ (Lit.int .i64 x.2).wf = true) (ht : (Lit.int .u8 tn).wf = true) (ha : (Lit.int .i64 at_).wf = true) :
    Calls Try.prog 6 #[.slice A xs.length c, .int .u8 tn, .int .i64 at_] w fun e w' => e = .returned (.bool true) ∧ Below w.heap.size w w' := by
  have hu25 := Try.underlying25
  have HX : As (Prs w A xs) := ⟨hx⟩
  have htb : 0 ≤ tn ∧ tn ≤ 255 := by simp [Lit.wf, IntKind.min, IntKind.max, IntKind.signed, IntKind.bits] at ht; omega
  obtain ⟨htb0, htb1⟩ := htb
  clear hx hw ht ha
  unfold maxLen at hm
  by_cases hl : xs.length ≤ 60 ∧ 0 < xs.length
  · obtain ⟨hl, hpos⟩ := hl
    have hl1 : decide ((60 : Int) < (xs.length : Int)) = false := decide_eq_false (by omega)
    have hl2 : ((xs.length : Int) == 0) = false := beq_eq_false_iff_ne.2 (by omega)
    have hlen : (longest xs minInt).length ≤ 60 := Nat.le_trans (longest_length xs minInt) (Nat.le_trans (left_le xs minInt) hl)
    have hcL := As.mk (fun W h => longest_calls A c xs W h (by omega))
    have hid := As.mk (longest_idem xs minInt)
    have hdone := As.mk (fun acc h s hs => Turned.done (xs := xs) (tn := tn) (acc := acc) h minInt s hs hpos)
    obtain ⟨L, hL⟩ : ∃ L, longest xs minInt = L := ⟨_, rfl⟩
    rw [hL] at hlen hcL hid hdone
    clear hL
    go_enter Try.func6, Try.ntmps6
    go_wp2_with fail
    refine (awake_calls w).mono ?_
    rintro e w1 ⟨rfl, hb1⟩
    go_wp2_with fail
    refine (hcL.out _ (HX.out.below hb1)).mono ?_
    intro e w2 h2
    obtain ⟨A2, c2, rfl, hp2, hb2⟩ := h2.row
    have HP2 := As.mk hp2
    have HX2 := As.mk ((HX.out.below hb1).below hb2)
    have hb2 := below_next hb1 hb2
    clear hp2 h2 hl1 hl2
    go_wp2_with fail
    go_loopw [9, 10] (fun v i wr => ∃ (k : Nat) (acc : List Pr), k ≤ xs.length ∧ i = .int .i64 k ∧ acc.length ≤ 2 * k ∧ As (Turned xs tn k acc) ∧ As (OwnPrs wr w2.heap.size v acc) ∧ As (Below w2.heap.size w2 wr)) (fun _ i _ => xs.length - (intOf i).toNat)
    case atStart => exact ⟨0, [], Nat.zero_le _, rfl, Nat.le_refl _, ⟨rfl, by simp, fun j hj => by omega⟩, ⟨World.ownsRow_nil _ _ _ _⟩, ⟨Below.refl _ _⟩⟩
    case round =>
      obtain ⟨k, acc, hk, rfl, hacc, htu, hown, hbel⟩ := hrel
      by_cases hlt : k < xs.length
      · have hm0 : 0 ≤ ((k : Int) + tn) % (xs.length : Int) := Int.emod_nonneg _ (by omega)
        have hm1 : ((k : Int) + tn) % (xs.length : Int) < xs.length := Int.emod_lt_of_pos _ (by omega)
        have hm2 : (((k : Int) + tn) % (xs.length : Int)).toNat < xs.length := by omega
        obtain ⟨ad, rfl, a1, a2⟩ := Prs.at_ (HX2.out.below hbel.out) hm2
        have hnx := As.mk (fun s e h => Turned.next (at_ := at_) (s := s) (e := e) htu.out h hm2)
        generalize xs.getD (((k : Int) + tn) % (xs.length : Int)).toNat (0, 0) = p at *
        obtain ⟨z, hz⟩ : ∃ z, (k : Int) + tn = z := ⟨_, rfl⟩
        have hz0 : 0 ≤ z := by omega
        have hz1 : z ≤ 1000 := by omega
        rw [hz] at hm0 hm1 hm2 a1 a2
        obtain ⟨s, e⟩ := p
        have hsz := hbel.out.size
        go_upto_region 12 with
            (at_builtin
             refine wpList_app1 _ rfl (.tmp 30) (.tmp 41) 22 rfl w2.heap.size 25 _ 2 16 Try.underlying22 info_pr rfl (by decide) _ acc.length (prCells acc) rfl hown.out [.int .i64 s, .int .i64 e] rfl (by simp [Value.oneCell']) _ rfl (by simp) (by omega) (by decide) (by first | omega | (simp; omega)) ?_
             intro v' w3 ho3 hk3 hat3 hb3)
        go_wp2_with
            (at_builtin
             refine wpList_app1 _ rfl (.tmp 43) (.tmp 47) 22 rfl w2.heap.size 25 _ 2 16 Try.underlying22 info_pr rfl (by decide) _ (acc ++ [(s, e)]).length (prCells (acc ++ [(s, e)])) rfl (own_snoc ho3) [.int .i64 at_, .int .i64 at_] rfl (by simp [Value.oneCell']) _ rfl (by simp) (by simp; omega) (by decide) (by have := hb3.size; first | omega | (simp at *; omega)) ?_
             intro v'' w4 ho4 hk4 hat4 hb4)
        go_roundw
        case rel => exact ⟨k + 1, acc ++ [(s, e)] ++ [(at_, at_)], by omega, by go_num, by simp; omega, ⟨hnx.out s e rfl⟩, ⟨own_snoc ho4⟩, ⟨(hbel.out.trans hb3).trans hb4⟩⟩
        case measure => simp [intOf]; omega
      · have hsz := hbel.out.size
        obtain ⟨ad, rfl, a1, a2⟩ := Prs.at_ (HX2.out.below hbel.out) hpos
        have hdn := As.mk (hdone.out acc (by have : k = xs.length := by omega
                                             rw [← this]; exact htu.out))
        generalize xs.getD 0 (0, 0) = p at *
        obtain ⟨s, e⟩ := p
        simp only [Nat.zero_mul] at a1 a2
        have e0 : ad.add 0 = ad := rfl
        rw [e0] at a1 a2
        clear e0
        go_wp2_with (at_builtin
                     refine wpList_app1 _ rfl (.tmp 49) (.tmp 53) 22 rfl w2.heap.size 25 _ 2 16 Try.underlying22 info_pr rfl (by decide) _ acc.length (prCells acc) rfl hown.out [.int .i64 s, .int .i64 e] rfl (by simp [Value.oneCell']) _ rfl (by simp) (by omega) (by decide) (by first | omega | (simp; omega)) ?_
                     intro v' w3 ho3 hk3 hat3 hb3)
        have hb3' := hbel.out.trans hb3
        have hown3 := As.mk (own_snoc ho3)
        have HP3 := As.mk (HP2.out.below hb3')
        have hb3'' := below_next hb2 hb3'
        have hlo : (acc ++ [(s, e)]).length ≤ 200 := by simp; omega
        have hdn2 := As.mk (hdn.out _ rfl)
        clear ho3 hdn
        generalize acc ++ [(s, e)] = acc2 at *
        obtain ⟨A3, c3, rfl, hc3⟩ := own_slice hown3.out
        have hq3 := As.mk (Row.of_own hown3.out)
        refine (longest_calls A2 c2 L _ HP3.out (by omega)).mono ?_
        rw [hid.out]
        intro e4 w4 h4
        obtain ⟨A4, c4, rfl, hp4, hb4⟩ := h4.row
        have HP4 := As.mk hp4
        have HP4' := As.mk (HP3.out.below hb4)
        have hq4 := As.mk (hq3.out.below hb4)
        have hb4 := below_next hb3'' hb4
        clear hp4 h4
        go_wp2_with fail
        have hcs := same_calls A4 A2 c4 c2 L L w4 HP4.out HP4'.out (by omega) (by omega)
        rw [decide_eq_true rfl] at hcs
        refine hcs.mono ?_
        clear hcs
        rintro e5 w5 ⟨rfl, n, rfl⟩
        go_wp2_with fail
        refine (longest_calls A3 c3 acc2 _ (hq4.out.drewN n) (by omega)).mono ?_
        rw [hdn2.out]
        intro e6 w6 h6
        obtain ⟨A6, c6, rfl, hp6, hb6⟩ := h6.row
        have HP6 := As.mk hp6
        have HP6' := As.mk ((HP4'.out.drewN n).below hb6)
        have hb6 := below_next (below_drewN hb4 n) hb6
        clear hp6 h6
        go_wp2_with fail
        have hcs := same_calls A6 A2 c6 c2 L L w6 HP6.out HP6'.out (by omega) (by omega)
        rw [decide_eq_true rfl] at hcs
        refine hcs.mono ?_
        clear hcs
        rintro e7 w7 ⟨rfl, n7, rfl⟩
        go_wp2
        go_ret
        exact ⟨rfl, below_drewN hb6 _⟩
  · have hcase : (decide ((60 : Int) < (xs.length : Int)) = true ∧ True) ∨ (decide ((60 : Int) < (xs.length : Int)) = false ∧ xs = []) := by
      by_cases h60 : 60 < xs.length
      · exact .inl ⟨decide_eq_true (by omega), trivial⟩
      · exact .inr ⟨decide_eq_false (by omega), List.eq_nil_of_length_eq_zero (by omega)⟩
    rcases hcase with ⟨g1, g2⟩ | ⟨g1, rfl⟩
    all_goals
      go_enter Try.func6, Try.ntmps6
      go_wp2_with fail
      refine (awake_calls w).mono ?_
      rintro e w1 ⟨rfl, hb1⟩
      go_wp2
      go_ret
      exact ⟨rfl, hb1⟩
end Go.Proofs.Ytooehbpgnieljaa
