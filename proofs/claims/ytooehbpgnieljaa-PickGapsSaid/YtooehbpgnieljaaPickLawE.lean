/- The walk of the law PickGaps. -/
import Derived.Test.YtooehbpgnieljaaPickLawD
set_option linter.unusedVariables false
set_option linter.unusedSimpArgs false
namespace Go.Proofs.Ytooehbpgnieljaa
open Go.RowKit Seine.Pick
attribute [local go_sem high] eqPr

def within (n : Int) (p : Pr) : Bool := decide (0 ≤ p.1) && decide (p.2 ≤ n)
theorem filter_take (n : Int) (xs : List Pr) (k : Nat) (h : k < xs.length) : (xs.take (k + 1)).filter (within n) = (xs.take k).filter (within n) ++ if within n (xs.getD k (0, 0)) then [xs.getD k (0, 0)] else [] := by
  rw [List.take_succ_eq_append_getElem h, List.filter_append, getD_get xs k h]
  by_cases hw : within n xs[k] = true <;> simp [hw]
theorem cnt_take (a : Int) (xs : List Pr) (k : Nat) (h : k < xs.length) : cnt a (xs.take (k + 1)) = cnt a (xs.take k) + if holds a (xs.getD k (0, 0)) then 1 else 0 := by
  rw [List.take_succ_eq_append_getElem h, cnt_snoc, getD_get xs k h]

set_option maxRecDepth 100000 in
set_option maxHeartbeats 4000000 in
theorem pgaps_walk (A : Option Addr) (c : Nat) (xs : List Pr) (n at_ : Int) (w : World) (hx : Row w A (xs.flatMap fun p => [.int .i64 p.1, .int .i64 p.2])) (hc : xs.length ≤ c) (hm : c ≤ maxLen)
    (hw : ∀ x ∈ xs, (Lit.int .i64 x.1).wf = true ∧ (Lit.int .i64 x.2).wf = true) (hn : (Lit.int .u8 n).wf = true) (ha : (Lit.int .u8 at_).wf = true) :
    Calls Try.prog 7 #[.slice A xs.length c, .int .u8 n, .int .u8 at_] w fun e w' => e = .returned (.bool true) ∧ Below w.heap.size w w' := by
  have hu25 := Try.underlying25
  have HX : As (Prs w A xs) := ⟨hx⟩
  have hnb : 0 ≤ n ∧ n ≤ 255 := by simp [Lit.wf, IntKind.min, IntKind.max, IntKind.signed, IntKind.bits] at hn; omega
  have hab : 0 ≤ at_ ∧ at_ ≤ 255 := by simp [Lit.wf, IntKind.min, IntKind.max, IntKind.signed, IntKind.bits] at ha; omega
  obtain ⟨hn0, hn1⟩ := hnb
  obtain ⟨ha0, ha1⟩ := hab
  clear hx hw hn ha
  unfold maxLen at hm
  by_cases hl : xs.length ≤ 60
  · have hl1 : decide ((60 : Int) < (xs.length : Int)) = false := decide_eq_false (by omega)
    go_enter Try.func7, Try.ntmps7
    go_wp2_with fail
    refine (awake_calls w).mono ?_
    rintro e w1 ⟨rfl, hb1⟩
    go_wp2_with fail
    clear hl1
    go_loopw [8, 9] (fun v i wr => ∃ (k : Nat) (acc : List Pr), k ≤ xs.length ∧ i = .int .i64 k ∧ acc.length ≤ k ∧ As (acc = (xs.take k).filter (within n)) ∧ As (OwnPrs wr w.heap.size v acc) ∧ As (Below w.heap.size w wr)) (fun _ i _ => xs.length - (intOf i).toNat)
    case atStart => exact ⟨0, [], Nat.zero_le _, rfl, Nat.le_refl _, ⟨rfl⟩, ⟨World.ownsRow_nil _ _ _ _⟩, ⟨hb1⟩⟩
    case round =>
      obtain ⟨k, acc, hk, rfl, hacc, hfil, hown, hbel⟩ := hrel
      by_cases hlt : k < xs.length
      · obtain ⟨ad, rfl, a1, a2⟩ := Prs.at_ (HX.out.below hbel.out) hlt
        have hnx := As.mk (filter_take n xs k hlt)
        generalize xs.getD k (0, 0) = p at *
        obtain ⟨s, e⟩ := p
        have hsz := hbel.out.size
        rcases (show s < 0 ∨ (0 ≤ s ∧ n < e) ∨ (0 ≤ s ∧ e ≤ n) by omega) with h1 | ⟨h1, h2⟩ | ⟨h1, h2⟩
        · have hno : As (within n (s, e) = false) := ⟨by simp [within]; omega⟩
          go_wp2
          go_roundw
          case rel => exact ⟨k + 1, acc, by omega, by go_num, by omega, ⟨by rw [hnx.out, hno.out, ← hfil.out]; simp⟩, hown, hbel⟩
          case measure => simp [intOf]; omega
        · have hno : As (within n (s, e) = false) := ⟨by simp [within]; omega⟩
          go_wp2
          go_roundw
          case rel => exact ⟨k + 1, acc, by omega, by go_num, by omega, ⟨by rw [hnx.out, hno.out, ← hfil.out]; simp⟩, hown, hbel⟩
          case measure => simp [intOf]; omega
        · have hyes : As (within n (s, e) = true) := ⟨by simp [within]; omega⟩
          go_wp2_with
            (at_builtin
             refine wpList_app1 _ rfl (.tmp 43) (.tmp 48) 22 rfl w.heap.size 25 _ 2 16 Try.underlying22 info_pr rfl (by decide) _ acc.length (prCells acc) rfl hown.out [.int .i64 s, .int .i64 e] rfl (by simp [Value.oneCell']) _ rfl (by simp) (by omega) (by decide) (by first | omega | (simp; omega)) ?_
             intro v' w3 ho3 hk3 hat3 hb3)
          go_roundw
          case rel => exact ⟨k + 1, acc ++ [(s, e)], by omega, by go_num, by simp; omega, ⟨by rw [hnx.out, hyes.out, ← hfil.out]; simp⟩, ⟨own_snoc ho3⟩, ⟨hbel.out.trans hb3⟩⟩
          case measure => simp [intOf]; omega
      · have hfil2 : acc = xs.filter (within n) := by
          have e1 : xs.take k = xs := List.take_of_length_le (by omega)
          rw [hfil.out, e1]
        have hlaw := gaps_law (l := acc) (n := n) (f := minInt) hn0 (fun p hp => by
          rw [hfil2] at hp
          have := (List.mem_filter.1 hp).2
          simpa [within] using this) at_
        have hL : (longest acc minInt).length ≤ 60 := by
          have := longest_length acc minInt
          have := left_le acc minInt
          omega
        clear hfil2 hfil
        have hsz := hbel.out.size
        obtain ⟨A2, c2, rfl, hc2⟩ := own_slice hown.out
        have hq := As.mk (Row.of_own hown.out)
        have hcL := As.mk (fun W h => longest_calls A2 c2 acc W h (by omega))
        generalize longest acc minInt = L at *
        have hG : (gaps L n).length ≤ 61 := by
          have := gapsTo_length L
          unfold gaps; split <;> simp <;> omega
        have hcG := As.mk (fun A' c' W h => gaps_calls A' c' L n W h (by omega))
        generalize gaps L n = G at *
        obtain ⟨hok, hcnt⟩ := hlaw
        have hok := As.mk hok
        have hcnt := As.mk hcnt
        go_wp2_with fail
        refine (hcL.out _ hq.out).mono ?_
        intro e3 w3 h3
        obtain ⟨A3, c3, rfl, hp3, hb3⟩ := h3.row
        have HP3 := As.mk hp3
        have hb3 := below_next hbel.out hb3
        clear hp3 h3
        go_wp2_with fail
        refine (hcG.out A3 c3 _ HP3.out).mono ?_
        intro e4 w4 h4
        obtain ⟨A4, c4, rfl, hp4, hb4⟩ := h4.row
        have HP4 := As.mk hp4
        have HP3 := As.mk (HP3.out.below hb4)
        have hb4 := As.mk (below_next hb3 hb4)
        clear hp4 h4 hsz
        go_wp2_with fail
        go_loop [12, 13] (fun v i => ∃ (k m : Nat), k ≤ L.length ∧ i = .int .i64 k ∧ v = .int .i64 m ∧ m ≤ k ∧ As (m = cnt at_ (L.take k))) (fun _ i => L.length - (intOf i).toNat)
        case atStart => exact ⟨0, 0, Nat.zero_le _, rfl, rfl, Nat.le_refl _, ⟨rfl⟩⟩
        case round =>
          obtain ⟨k, m, hk, rfl, rfl, hmk, hm⟩ := hrel
          by_cases hlt : k < L.length
          · obtain ⟨ad, rfl, a1, a2⟩ := Prs.at_ HP3.out hlt
            have hnx := As.mk (cnt_take at_ L k hlt)
            generalize L.getD k (0, 0) = p at *
            obtain ⟨s, e⟩ := p
            rcases (show at_ < s ∨ (s ≤ at_ ∧ e ≤ at_) ∨ (s ≤ at_ ∧ at_ < e) by omega) with h1 | ⟨h1, h2⟩ | ⟨h1, h2⟩
            · have hno : As (holds at_ (s, e) = false) := ⟨by simp [holds]; omega⟩
              go_wp2
              go_round
              case rel => exact ⟨k + 1, m, by omega, by go_num, rfl, by omega, ⟨by rw [hnx.out, hno.out, ← hm.out]; simp⟩⟩
              case measure => simp [intOf]; omega
            · have hno : As (holds at_ (s, e) = false) := ⟨by simp [holds]; omega⟩
              go_wp2
              go_round
              case rel => exact ⟨k + 1, m, by omega, by go_num, rfl, by omega, ⟨by rw [hnx.out, hno.out, ← hm.out]; simp⟩⟩
              case measure => simp [intOf]; omega
            · have hyes : As (holds at_ (s, e) = true) := ⟨by simp [holds]; omega⟩
              go_wp2
              go_round
              case rel => exact ⟨k + 1, m + 1, by omega, by go_num, by go_num, by omega, ⟨by rw [hnx.out, hyes.out, ← hm.out]; simp⟩⟩
              case measure => simp [intOf]; omega
          · have hmL : As (m = cnt at_ L) := ⟨by
              have e1 : L.take k = L := List.take_of_length_le (by omega)
              rw [e1] at hm; exact hm.out⟩
            have hml : m ≤ 60 := by omega
            clear hm
            go_wp2
            go_loopw [12, 14] (fun v i wr => ∃ (k m2 j : Nat), k ≤ G.length ∧ i = .int .i64 k ∧ v = .int .i64 m2 ∧ m2 ≤ m + k ∧ As (m2 = m + cnt at_ (G.take k)) ∧ wr = w4.drewN j) (fun _ i _ => G.length - (intOf i).toNat)
            case atStart => exact ⟨0, m, 0, Nat.zero_le _, rfl, rfl, Nat.le_refl _, ⟨rfl⟩, rfl⟩
            case round =>
              obtain ⟨k2, m2, j, hk2, rfl, rfl, hmk2, hm2, rfl⟩ := hrel
              by_cases hlt2 : k2 < G.length
              · obtain ⟨ad, rfl, a1, a2⟩ := Prs.at_ HP4.out hlt2
                have hnx := As.mk (cnt_take at_ G k2 hlt2)
                have hgk := hok.out _ (List.getElem_mem hlt2)
                rw [← getD_get G k2 hlt2] at hgk
                generalize G.getD k2 (0, 0) = p at *
                obtain ⟨s, e⟩ := p
                obtain ⟨g1, g2, g3⟩ := hgk
                simp only at g1 g2 g3
                have d1 : decide (e ≤ s) = false := decide_eq_false (by omega)
                have d2 : decide (s < 0) = false := decide_eq_false (by omega)
                have d3 : decide (n < e) = false := decide_eq_false (by omega)
                rcases (show at_ < s ∨ (s ≤ at_ ∧ e ≤ at_) ∨ (s ≤ at_ ∧ at_ < e) by omega) with h1 | ⟨h1, h2⟩ | ⟨h1, h2⟩
                · have hno : As (holds at_ (s, e) = false) := ⟨by simp [holds]; omega⟩
                  go_wp2
                  go_quiet (fail)
                  go_wp2
                  go_roundw
                  case rel => exact ⟨k2 + 1, m2, _, by omega, by go_num, rfl, by omega, ⟨by rw [hnx.out, hno.out, hm2.out]; simp⟩, (by first | rfl | exact World.drewN_drewN .. | (simp only [World.drewN_drewN]; rfl))⟩
                  case measure => simp [intOf]; omega
                · have hno : As (holds at_ (s, e) = false) := ⟨by simp [holds]; omega⟩
                  go_wp2
                  go_quiet (fail)
                  go_wp2
                  go_roundw
                  case rel => exact ⟨k2 + 1, m2, _, by omega, by go_num, rfl, by omega, ⟨by rw [hnx.out, hno.out, hm2.out]; simp⟩, (by first | rfl | exact World.drewN_drewN .. | (simp only [World.drewN_drewN]; rfl))⟩
                  case measure => simp [intOf]; omega
                · have hyes : As (holds at_ (s, e) = true) := ⟨by simp [holds]; omega⟩
                  go_wp2
                  go_quiet (fail)
                  go_wp2
                  go_roundw
                  case rel => exact ⟨k2 + 1, m2 + 1, _, by omega, by go_num, by go_num, by omega, ⟨by rw [hnx.out, hyes.out, hm2.out]; simp; omega⟩, (by first | rfl | exact World.drewN_drewN .. | (simp only [World.drewN_drewN]; rfl))⟩
                  case measure => simp [intOf]; omega
              · have hmG : m2 = m + cnt at_ G := by
                  have e1 : G.take k2 = G := List.take_of_length_le (by omega)
                  rw [e1] at hm2; exact hm2.out
                have htot := hcnt.out
                rw [← hmL.out] at htot
                by_cases hcmp : n ≤ at_
                · rw [if_neg (by omega)] at htot
                  have hz : m2 = 0 := by omega
                  clear htot hmG hm2 hmk2
                  subst hz
                  go_wp2
                  go_ret
                  exact ⟨rfl, below_drewN hb4.out _⟩
                · rw [if_pos (by omega)] at htot
                  have hz : m2 = 1 := by omega
                  clear htot hmG hm2 hmk2
                  subst hz
                  have hd : decide (n ≤ at_) = false := decide_eq_false hcmp
                  go_wp2
                  go_ret
                  exact ⟨rfl, below_drewN hb4.out _⟩
  · have hl2 : decide ((60 : Int) < (xs.length : Int)) = true := decide_eq_true (by omega)
    go_enter Try.func7, Try.ntmps7
    go_wp2_with fail
    refine (awake_calls w).mono ?_
    rintro e w1 ⟨rfl, hb1⟩
    go_wp2
    go_ret
    exact ⟨rfl, hb1⟩
end Go.Proofs.Ytooehbpgnieljaa
