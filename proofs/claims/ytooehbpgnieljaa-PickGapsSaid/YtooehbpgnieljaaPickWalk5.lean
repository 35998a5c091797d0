/- The walk of the laws' 'good'. -/
import Derived.Test.YtooehbpgnieljaaPickWalk4
set_option linter.unusedVariables false
set_option linter.unusedSimpArgs false
namespace Go.Proofs.Ytooehbpgnieljaa
open Go.RowKit Seine.Pick
attribute [local go_sem high] eqPr

theorem isB_snoc (l : List Pr) (k : Nat) (h : k < l.length) (p : Pr) : isB (l.take (k + 1)) p = (isB (l.take k) p || ((l.getD k (0, 0)).1 == p.1 && (l.getD k (0, 0)).2 == p.2)) := by
  unfold isB; rw [any_snoc l k h, getD_get l k h]
theorem longerB_snoc (l : List Pr) (k : Nat) (h : k < l.length) (p : Pr) : longerB (l.take (k + 1)) p = (longerB (l.take k) p || ((l.getD k (0, 0)).1 == p.1 && decide (p.2 < (l.getD k (0, 0)).2))) := by
  unfold longerB; rw [any_snoc l k h, getD_get l k h]
theorem inB_snoc (q : List Pr) (k : Nat) (h : k < q.length) (x : Pr) : inB (q.take (k + 1)) x = (inB (q.take k) x || (decide ((q.getD k (0, 0)).1 ≤ x.1) && decide (x.1 < (q.getD k (0, 0)).2))) := by
  unfold inB; rw [any_snoc q k h, getD_get q k h, Bool.or_assoc]
theorem longer_some {l : List Pr} {k : Nat} (h : k < l.length) {p : Pr} (h1 : (l.getD k (0, 0)).1 = p.1) (h2 : p.2 < (l.getD k (0, 0)).2) : longerB l p = true := by
  unfold longerB; rw [List.any_eq_true]; refine ⟨l[k], List.getElem_mem h, ?_⟩
  rw [getD_get l k h] at h1 h2; simp [h1, h2]

/-- It answers whether this holds. -/
def SaysIf (P : Prop) (w : World) (e : Ending) (w' : World) : Prop := ∃ b : Bool, (b = true ↔ P) ∧ e = .returned (.bool b) ∧ ∃ n, w' = w.drewN n
theorem SaysIf.no {P : Prop} (h : ¬ P) {w w' : World} {v : Value} (hv : v = .bool false) (hw : ∃ n, w' = w.drewN n) : SaysIf P w (.returned v) w' := ⟨false, by simp [h], by rw [hv], hw⟩
theorem SaysIf.yes {P : Prop} (h : P) {w w' : World} {v : Value} (hv : v = .bool true) (hw : ∃ n, w' = w.drewN n) : SaysIf P w (.returned v) w' := ⟨true, by simp [h], by rw [hv], hw⟩

def GoodTo (l q : List Pr) (k : Nat) : Prop := ∀ i, i < k → okQ l q i
def InTo (l q : List Pr) (k : Nat) : Prop := ∀ i, i < k → inB q (l.getD i (0, 0)) = true
theorem GoodTo.next {l q : List Pr} {k : Nat} (h : GoodTo l q k) (ho : okQ l q k) : GoodTo l q (k + 1) := fun i hi => by
  by_cases e : i = k
  · rw [e]; exact ho
  · exact h i (by omega)
theorem InTo.next {l q : List Pr} {k : Nat} (h : InTo l q k) (ho : inB q (l.getD k (0, 0)) = true) : InTo l q (k + 1) := fun i hi => by
  by_cases e : i = k
  · rw [e]; exact ho
  · exact h i (by omega)

set_option maxRecDepth 100000 in
set_option maxHeartbeats 8000000 in
theorem good_calls (A B : Option Addr) (c d : Nat) (xs ys : List Pr) (w : World) (hx : Prs w A xs) (hy : Prs w B ys) (hl : xs.length ≤ 1000000000) (hk : ys.length ≤ 1000000000) :
    Calls Try.prog 17 #[.slice A xs.length c, .slice B ys.length d] w (SaysIf (GoodP xs ys) w) := by
  have hu25 := Try.underlying25
  have HX := As.mk hx
  have HY := As.mk hy
  clear hx hy
  go_enter Try.func17, Try.ntmps17
  go_wp2
  go_loopg [5] ys.length (fun g v wr => ∃ (k n : Nat), k ≤ ys.length ∧ v = .int .i64 k ∧ GoodTo xs ys k ∧ As (g = ys.length - k) ∧ wr = w.drewN n)
  case atStart => exact ⟨0, 0, Nat.zero_le _, rfl, fun i hi => by omega, ⟨rfl⟩, rfl⟩
  case round =>
    obtain ⟨k, n, hkl, rfl, hgood, hg, rfl⟩ := hrel
    by_cases hlt : k < ys.length
    · have hq := Prs.at_ HY.out hlt
      have hqm := As.mk (getD_get ys k hlt)
      have hprev : 0 < k → ∃ ad, B = some ad ∧ w.cell? ⟨(ad.add ((k - 1) * 2)).block, (ad.add ((k - 1) * 2)).off + 1, none⟩ = some (.int .i64 (ys.getD (k - 1) (0, 0)).2) := fun h0 => by
        obtain ⟨ad, h1, _, h3⟩ := Prs.at_ HY.out (i := k - 1) (by omega)
        exact ⟨ad, h1, h3⟩
      have hprev := As.mk hprev
      obtain ⟨bd, rfl, q1, q2⟩ := hq
      have hok : As (okQ xs ys k ↔ isB xs (ys.getD k (0, 0)) = true ∧ longerB xs (ys.getD k (0, 0)) = false ∧ (ys.getD k (0, 0)).1 < (ys.getD k (0, 0)).2 ∧ (0 < k → (ys.getD (k - 1) (0, 0)).2 ≤ (ys.getD k (0, 0)).1)) := ⟨Iff.rfl⟩
      generalize ys.getD k (0, 0) = q at *
      obtain ⟨s, e⟩ := q
      go_wp2
      go_loopw [6, 7] (fun v i wr => ∃ (j m : Nat) (b : Bool), j ≤ xs.length ∧ i = .int .i64 j ∧ v = .bool b ∧ As (b = isB (xs.take j) (s, e)) ∧ As (longerB (xs.take j) (s, e) = false) ∧ wr = w.drewN m) (fun _ i _ => xs.length - (intOf i).toNat)
      case atStart => exact ⟨0, n, false, Nat.zero_le _, rfl, rfl, ⟨rfl⟩, ⟨rfl⟩, rfl⟩
      case round =>
        obtain ⟨j, m, b, hj, rfl, rfl, hb, hlong, rfl⟩ := hrel
        by_cases hlt2 : j < xs.length
        · obtain ⟨ad, rfl, a1, a2⟩ := Prs.at_ HX.out hlt2
          have hs1 := As.mk (isB_snoc xs j hlt2 (s, e))
          have hs2 := As.mk (longerB_snoc xs j hlt2 (s, e))
          have hls := As.mk (longer_some hlt2 (p := (s, e)))
          generalize xs.getD j (0, 0) = x at *
          obtain ⟨x1, x2⟩ := x
          rcases (show x1 ≠ s ∨ (x1 = s ∧ x2 ≤ e) ∨ (x1 = s ∧ e < x2) by omega) with h1 | ⟨h1, h2⟩ | ⟨h1, h2⟩
          · have h1b : (x1 == s) = false := beq_eq_false_iff_ne.2 h1
            cases b
            all_goals
              go_wp2
              go_quiet (fail)
              go_wp2
              go_quiet (fail)
              go_wp2
              go_roundw
              case rel => exact ⟨j + 1, _, _, by omega, by go_num, rfl, ⟨by rw [hs1.out, ← hb.out]; simp [h1]⟩, ⟨by rw [hs2.out, hlong.out]; simp [h1]⟩, (by first | rfl | exact World.drewN_drewN .. | (simp only [World.drewN_drewN]; rfl))⟩
              case measure => simp [intOf]; omega
          · have h1b : (x1 == s) = true := beq_iff_eq.2 h1
            have h1' := As.mk h1
            clear h1
            cases b
            all_goals
              go_wp2
              go_quiet (fail)
              go_wp2
              go_quiet (fail)
              go_wp2
              go_roundw
              case rel => exact ⟨j + 1, _, _, by omega, by go_num, rfl, ⟨by rw [hs1.out, ← hb.out]; simp [h1'.out]⟩, ⟨by rw [hs2.out, hlong.out]; simp [h1'.out]; omega⟩, (by first | rfl | exact World.drewN_drewN .. | (simp only [World.drewN_drewN]; rfl))⟩
              case measure => simp [intOf]; omega
          · have h1b : (x1 == s) = true := beq_iff_eq.2 h1
            have hbad : As (¬ GoodP xs ys) := ⟨fun hg => by
              have := ((hok.out.1 (okQ_of_good hg k hlt)).2.1)
              rw [hls.out h1 h2] at this; cases this⟩
            clear h1
            cases b
            all_goals
              go_wp2
              go_quiet (fail)
              go_wp2
              go_quiet (fail)
              go_wp2
              go_ret
              exact SaysIf.no hbad.out rfl (by first | exact ⟨_, rfl⟩ | (simp only [World.drewN_drewN]; exact ⟨_, rfl⟩))
        · have e1 : xs.take j = xs := List.take_of_length_le (by omega)
          rw [e1] at hb hlong
          clear e1
          have hbad : ∀ (P : Prop), ¬ P → (okQ xs ys k → P) → As (¬ GoodP xs ys) := fun P hP h => ⟨fun hg => hP (h (okQ_of_good hg k hlt))⟩
          have hbad := As.mk hbad
          cases b with
          | false =>
            have hno := hbad.out (isB xs (s, e) = true) (by rw [← hb.out]; simp) (fun h => (hok.out.1 h).1)
            go_wp2
            go_quiet (fail)
            go_wp2
            go_ret
            exact SaysIf.no hno.out rfl (by first | exact ⟨_, rfl⟩ | (simp only [World.drewN_drewN]; exact ⟨_, rfl⟩))
          | true =>
            by_cases h1 : e ≤ s
            · have hno := hbad.out (s < e) (by omega) (fun h => (hok.out.1 h).2.2.1)
              go_wp2
              go_quiet (fail)
              go_wp2
              go_ret
              exact SaysIf.no hno.out rfl (by first | exact ⟨_, rfl⟩ | (simp only [World.drewN_drewN]; exact ⟨_, rfl⟩))
            · have h1' : s < e := by omega
              have hd : decide (e ≤ s) = false := decide_eq_false h1
              rcases Nat.eq_zero_or_pos k with hz | hz
              · have hyes : As (GoodTo xs ys (k + 1)) := ⟨hgood.next (hok.out.2 ⟨hb.out.symm, hlong.out, h1', fun h => by omega⟩)⟩
                have h0 : decide (0 < k) = false := decide_eq_false (by omega)
                clear hz
                go_wp2
                go_quiet (fail)
                go_wp2
                go_roundg (gk - 1)
                case measure => have := hg.out; omega
                case rel => exact ⟨k + 1, _, by omega, by go_num, hyes.out, ⟨by have := hg.out; omega⟩, (by first | rfl | exact World.drewN_drewN .. | (simp only [World.drewN_drewN]; rfl))⟩
              · obtain ⟨k, rfl⟩ : ∃ k', k = k' + 1 := ⟨k - 1, by omega⟩
                have h0 : decide ((0 : Int) < (k : Int) + 1) = true := decide_eq_true (by omega)
                clear hz
                obtain ⟨ad2, e2, p2⟩ := hprev.out (by omega)
                injection e2 with e2
                subst e2
                have p2 : w.cell? ⟨(bd.add (k * 2)).block, (bd.add (k * 2)).off + 1, none⟩ = some (.int .i64 (ys.getD k (0, 0)).2) := p2
                have hok2 : As (okQ xs ys (k + 1) ↔ _) := hok
                simp only [Nat.add_sub_cancel] at hok2
                clear hok
                generalize ys.getD k (0, 0) = pr at *
                obtain ⟨r1, r2⟩ := pr
                by_cases h3 : s < r2
                · have hno := hbad.out (r2 ≤ s) (by omega) (fun h => (hok2.out.1 h).2.2.2 (by omega))
                  go_wp2
                  go_quiet (fail)
                  go_wp2
                  go_ret
                  exact SaysIf.no hno.out rfl (by first | exact ⟨_, rfl⟩ | (simp only [World.drewN_drewN]; exact ⟨_, rfl⟩))
                · have hyes : As (GoodTo xs ys (k + 1 + 1)) := ⟨hgood.next (hok2.out.2 ⟨hb.out.symm, hlong.out, h1', fun _ => by show r2 ≤ s; omega⟩)⟩
                  go_wp2
                  go_quiet (fail)
                  go_wp2
                  go_roundg (gk - 1)
                  case measure => have := hg.out; omega
                  case rel => exact ⟨k + 1 + 1, _, by omega, by go_num, hyes.out, ⟨by have := hg.out; omega⟩, (by first | rfl | exact World.drewN_drewN .. | (simp only [World.drewN_drewN]; rfl))⟩
    · have hgood : GoodTo xs ys ys.length := by
        have : k = ys.length := by omega
        rw [← this]; exact hgood
      go_wp2
      go_loopg [8] xs.length (fun g v wr => ∃ (j m : Nat), j ≤ xs.length ∧ v = .int .i64 j ∧ InTo xs ys j ∧ As (g = xs.length - j) ∧ wr = w.drewN m)
      case atStart => exact ⟨0, n, Nat.zero_le _, rfl, fun i hi => by omega, ⟨rfl⟩, rfl⟩
      case round =>
        obtain ⟨j, m, hjl, rfl, hin, hg2, rfl⟩ := hrel
        by_cases hlt2 : j < xs.length
        · obtain ⟨ad, rfl, a1, a2⟩ := Prs.at_ HX.out hlt2
          have hbad : As (inB ys (xs.getD j (0, 0)) = false → ¬ GoodP xs ys) := ⟨fun h hg => by have := inB_of_good hg j hlt2; rw [h] at this; cases this⟩
          have hnx : As (inB ys (xs.getD j (0, 0)) = true → InTo xs ys (j + 1)) := ⟨fun h => hin.next h⟩
          generalize xs.getD j (0, 0) = x at *
          obtain ⟨x1, x2⟩ := x
          have hb0 : As (decide (x2 ≤ x1) = inB (ys.take 0) (x1, x2)) := ⟨by simp [inB]⟩
          go_wp2
          go_quiet (fail)
          go_wp2
          go_loopw [9, 10] (fun v i wr => ∃ (i' m : Nat) (b : Bool), i' ≤ ys.length ∧ i = .int .i64 i' ∧ v = .bool b ∧ As (b = inB (ys.take i') (x1, x2)) ∧ wr = w.drewN m) (fun _ i _ => ys.length - (intOf i).toNat)
          case atStart => exact ⟨0, _, _, Nat.zero_le _, rfl, rfl, hb0, (by first | rfl | exact World.drewN_drewN .. | (simp only [World.drewN_drewN]; rfl))⟩
          case round =>
            obtain ⟨i, m2, b, hi, rfl, rfl, hb, rfl⟩ := hrel
            by_cases hlt3 : i < ys.length
            · obtain ⟨bd, rfl, b1, b2⟩ := Prs.at_ HY.out hlt3
              have hs1 := As.mk (inB_snoc ys i hlt3 (x1, x2))
              generalize ys.getD i (0, 0) = q at *
              obtain ⟨q1, q2⟩ := q
              cases b with
              | true =>
                go_wp2
                go_quiet (fail)
                go_wp2
                go_roundw
                case rel => exact ⟨i + 1, _, _, by omega, by go_num, rfl, ⟨by rw [hs1.out, ← hb.out]; simp⟩, (by first | rfl | exact World.drewN_drewN .. | (simp only [World.drewN_drewN]; rfl))⟩
                case measure => simp [intOf]; omega
              | false =>
                rcases (show x1 < q1 ∨ (q1 ≤ x1 ∧ x1 < q2) ∨ (q1 ≤ x1 ∧ q2 ≤ x1) by omega) with h1 | ⟨h1, h2⟩ | ⟨h1, h2⟩
                · have h3 : decide (q1 ≤ x1) = false := decide_eq_false (by omega)
                  go_wp2
                  go_quiet (fail)
                  go_wp2
                  go_roundw
                  case rel => exact ⟨i + 1, _, _, by omega, by go_num, rfl, ⟨by rw [hs1.out, ← hb.out]; simp; omega⟩, (by first | rfl | exact World.drewN_drewN .. | (simp only [World.drewN_drewN]; rfl))⟩
                  case measure => simp [intOf]; omega
                · have h3 : decide (q1 ≤ x1) = true := decide_eq_true (by omega)
                  go_wp2
                  go_quiet (fail)
                  go_wp2
                  go_roundw
                  case rel => exact ⟨i + 1, _, _, by omega, by go_num, rfl, ⟨by rw [hs1.out, ← hb.out]; simp; omega⟩, (by first | rfl | exact World.drewN_drewN .. | (simp only [World.drewN_drewN]; rfl))⟩
                  case measure => simp [intOf]; omega
                · have h3 : decide (q1 ≤ x1) = true := decide_eq_true (by omega)
                  go_wp2
                  go_quiet (fail)
                  go_wp2
                  go_roundw
                  case rel => exact ⟨i + 1, _, _, by omega, by go_num, rfl, ⟨by rw [hs1.out, ← hb.out]; simp; omega⟩, (by first | rfl | exact World.drewN_drewN .. | (simp only [World.drewN_drewN]; rfl))⟩
                  case measure => simp [intOf]; omega
            · have e1 : ys.take i = ys := List.take_of_length_le (by omega)
              rw [e1] at hb
              clear e1
              cases b with
              | false =>
                have hno := As.mk (hbad.out hb.out.symm)
                go_wp2
                go_ret
                exact SaysIf.no hno.out rfl (by first | exact ⟨_, rfl⟩ | (simp only [World.drewN_drewN]; exact ⟨_, rfl⟩))
              | true =>
                have hyes := As.mk (hnx.out hb.out.symm)
                go_wp2
                go_roundg (xs.length - (j + 1))
                case measure => have := hg2.out; omega
                case rel => exact ⟨j + 1, _, by omega, by go_num, hyes.out, ⟨by have := hg2.out; omega⟩, (by first | rfl | exact World.drewN_drewN .. | (simp only [World.drewN_drewN]; rfl))⟩
        · have hyes : As (GoodP xs ys) := ⟨good_of hgood (fun i hi => hin i (by omega))⟩
          go_wp2
          go_ret
          exact SaysIf.yes hyes.out rfl (by first | exact ⟨_, rfl⟩ | (simp only [World.drewN_drewN]; exact ⟨_, rfl⟩))
end Go.Proofs.Ytooehbpgnieljaa
