/- The walks of the laws PickOnly, PickAgain. -/
import Derived.Test.YtooehbpgnieljaaPickLawB
set_option linter.unusedVariables false
set_option linter.unusedSimpArgs false
namespace Go.Proofs.Ytooehbpgnieljaa
open Go.RowKit Seine.Pick
attribute [local go_sem high] eqPr

theorem ints_at {w : World} {A : Option Addr} {k : IntKind} {xs : List Int} (h : Row w A (xs.map (Value.int k))) {i : Nat} (hi : i < xs.length) : ∃ ad, A = some ad ∧ w.cell? (ad.add i) = some (.int k (xs.getD i 0)) := by
  obtain ⟨ad, h1, h2⟩ := h.at_ (j := i) (by simpa using hi)
  exact ⟨ad, h1, by rw [h2]; simp [hi]⟩
theorem u8_wf {xs : List Int} (hw : ∀ x ∈ xs, (Lit.int .u8 x).wf = true) {i : Nat} (hi : i < xs.length) : 0 ≤ xs.getD i 0 ∧ xs.getD i 0 ≤ 255 := by
  have := hw _ (List.getElem_mem hi)
  simp [Lit.wf, IntKind.min, IntKind.max, IntKind.signed, IntKind.bits] at this
  simp [hi]; omega

/-- A list that grew by one pair. -/
theorem own_snoc {w : World} {base : Nat} {v' : Value} {acc : List Pr} {a b : Int} (h : w.ownsRow base 25 2 v' (acc.length + 1) (prCells acc ++ [.int .i64 a, .int .i64 b])) : OwnPrs w base v' (acc ++ [(a, b)]) := by
  have h1 : (acc ++ [(a, b)]).length = acc.length + 1 := by simp
  unfold OwnPrs; rw [h1, prCells_snoc]; exact h

set_option maxRecDepth 100000 in
set_option maxHeartbeats 3200000 in
theorem ponly_walk (A : Option Addr) (c : Nat) (xs : List Pr) (B : Option Addr) (d : Nat) (ps : List Int) (w : World) (hx : Row w A (xs.flatMap fun p => [.int .i64 p.1, .int .i64 p.2])) (hc : xs.length ≤ c) (hm : c ≤ maxLen)
    (hw : ∀ x ∈ xs, (Lit.int .i64 x.1).wf = true ∧ (Lit.int .i64 x.2).wf = true) (hp : Row w B (ps.map (Value.int .u8))) (hd : ps.length ≤ d) (hdm : d ≤ maxLen) (hpw : ∀ x ∈ ps, (Lit.int .u8 x).wf = true) :
    Calls Try.prog 5 #[.slice A xs.length c, .slice B ps.length d] w fun e w' => e = .returned (.bool true) ∧ Below w.heap.size w w' := by
  have hu25 := Try.underlying25
  have HX : As (Prs w A xs) := ⟨hx⟩
  have HP := As.mk hp
  have HW := As.mk hw
  have HPW := As.mk hpw
  clear hx hp hw hpw
  unfold maxLen at hm hdm
  by_cases hl : xs.length ≤ 80
  · have hl1 : decide (80 < xs.length) = false := decide_eq_false (by omega)
    have hl1' : decide ((80 : Int) < (xs.length : Int)) = false := decide_eq_false (by omega)
    by_cases hlp : ps.length ≤ 80
    · go_enter Try.func5, Try.ntmps5
      go_wp2_with fail
      refine (awake_calls w).mono ?_
      rintro e w1 ⟨rfl, hb1⟩
      clear hl1 hl1'
      go_wp2_with fail
      go_loopw [6, 7] (fun v i wr => ∃ (k : Nat) (acc : List Pr), k ≤ ps.length ∧ i = .int .i64 k ∧ acc.length ≤ k ∧ As (OwnPrs wr w.heap.size v acc) ∧ As (Below w.heap.size w wr)) (fun _ i _ => ps.length - (intOf i).toNat)
      case atStart => exact ⟨0, [], Nat.zero_le _, rfl, Nat.le_refl _, ⟨World.ownsRow_nil _ _ _ _⟩, ⟨hb1⟩⟩
      case round =>
        obtain ⟨k, acc, hk, rfl, hacc, hown, hbel⟩ := hrel
        by_cases hr : k < ps.length ∧ 0 < xs.length
        · obtain ⟨hlt, hpos⟩ := hr
          obtain ⟨bd, rfl, b1⟩ := ints_at (HP.out.below hbel.out) hlt
          have hb := u8_wf HPW.out hlt
          generalize ps.getD k 0 = x at *
          obtain ⟨hb0, hb255⟩ := hb
          have hm0 : 0 ≤ x % (xs.length : Int) := Int.emod_nonneg _ (by omega)
          have hm1 : x % (xs.length : Int) < xs.length := Int.emod_lt_of_pos _ (by omega)
          have hm2 : (x % (xs.length : Int)).toNat < xs.length := by omega
          obtain ⟨ad, rfl, a1, a2⟩ := Prs.at_ (HX.out.below hbel.out) hm2
          generalize xs.getD (x % (xs.length : Int)).toNat (0, 0) = p at *
          obtain ⟨s, e⟩ := p
          go_wp2_with (at_builtin
                       refine wpList_app1 _ rfl (.tmp 30) (.tmp 42) 22 rfl w.heap.size 25 _ 2 16 Try.underlying22 info_pr rfl (by decide) _ acc.length (prCells acc) rfl hown.out [.int .i64 s, .int .i64 e] rfl (by simp [Value.oneCell']) _ rfl (by simp) (by omega) (by decide) (by have := hbel.out.size; simp; omega) ?_
                       intro v' w2 ho2 hk2 hat hb2)
          go_roundw
          case rel => exact ⟨k + 1, acc ++ [(s, e)], by omega, by go_num, by simp; omega, ⟨own_snoc ho2⟩, ⟨hbel.out.trans hb2⟩⟩
          case measure => simp [intOf]; omega
        · obtain ⟨A2, c2, rfl, hc2⟩ := own_slice hown.out
          have hq := As.mk (Row.of_own hown.out)
          have hxl : As (GoodP xs acc ↔ acc = longest xs minInt) := ⟨good_iff xs acc minInt (minInt_le HW.out)⟩
          have hlen : (longest xs minInt).length ≤ 80 := Nat.le_trans (longest_length xs minInt) (Nat.le_trans (left_le xs minInt) hl)
          have hcL := As.mk (fun W h => longest_calls A c xs W h (by omega))
          obtain ⟨L, hL⟩ : ∃ L, longest xs minInt = L := ⟨_, rfl⟩
          rw [hL] at hxl hlen hcL
          clear hL
          have hacc2 : acc.length ≤ 80 := by omega
          have hcase : (k < ps.length ∧ decide ((0 : Int) < (xs.length : Int)) = false ∧ decide (0 < xs.length) = false) ∨ (ps.length ≤ k ∧ True ∧ True) := by
            by_cases hk2 : k < ps.length
            · exact .inl ⟨hk2, decide_eq_false (by omega), decide_eq_false (by omega)⟩
            · exact .inr ⟨by omega, trivial, trivial⟩
          rcases hcase with ⟨g1, g2, g3⟩ | ⟨g1, g2, g3⟩
          all_goals
            go_wp2_with fail
            refine (hcL.out _ (HX.out.below hbel.out)).mono ?_
            intro e w2 h2
            obtain ⟨A3, c3, rfl, hp2, hb2⟩ := h2.row
            have HP2 := As.mk hp2
            clear hp2 h2
            have hq2 := As.mk (hq.out.below hb2)
            have hb2 := below_next hbel.out hb2
            go_wp2_with fail
            have hcs := same_calls A2 A3 c2 c3 acc L w2 hq2.out HP2.out (by omega) (by omega)
            refine hcs.mono ?_
            clear hcs
            rintro e w3 ⟨rfl, n, rfl⟩
            by_cases heq : acc = L
            · rw [decide_eq_true heq]
              clear heq
              go_wp2
              go_ret
              exact ⟨rfl, below_drewN hb2 n⟩
            · rw [decide_eq_false heq]
              have hno := As.mk heq
              clear heq
              go_wp2_with fail
              refine (good_calls A A2 c c2 xs acc _ ((HX.out.below hb2).drewN n) (hq2.out.drewN n) (by omega) (by omega)).mono ?_
              rintro e w4 ⟨b, hb, rfl, n2, rfl⟩
              obtain rfl : b = false := by
                cases b with
                | false => rfl
                | true => exact absurd (hxl.out.1 (hb.1 rfl)) hno.out
              go_wp2
              go_ret
              exact ⟨rfl, below_drewN hb2 _⟩
    · have hl2 : decide ((80 : Int) < (ps.length : Int)) = true := decide_eq_true (by omega)
      go_enter Try.func5, Try.ntmps5
      go_wp2_with fail
      refine (awake_calls w).mono ?_
      rintro e w1 ⟨rfl, hb1⟩
      go_wp2
      go_ret
      exact ⟨rfl, hb1⟩
  · have hl2 : decide ((80 : Int) < (xs.length : Int)) = true := decide_eq_true (by omega)
    go_enter Try.func5, Try.ntmps5
    go_wp2_with fail
    refine (awake_calls w).mono ?_
    rintro e w1 ⟨rfl, hb1⟩
    go_wp2
    go_ret
    exact ⟨rfl, hb1⟩
end Go.Proofs.Ytooehbpgnieljaa
