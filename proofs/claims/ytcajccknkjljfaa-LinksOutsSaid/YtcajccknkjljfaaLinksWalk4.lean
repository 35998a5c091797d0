/- The walks of package links: what is asked of links. -/
import Derived.Test.YtcajccknkjljfaaLinksWalk3
import Derived.Test.YtcajccknkjljfaaStr
set_option linter.unusedVariables false
set_option linter.unusedSimpArgs false
namespace Go.Proofs.Ytcajccknkjljfaa
open Go.RowKit Go.Maps Seine.Trie Seine.Links

abbrev OwnInts (w : World) (base : Nat) (v : Value) (xs : List Int) : Prop := w.ownsRow base 3 1 v xs.length (intVals xs)
theorem Ints.at_ {w : World} {A : Option Addr} {xs : List Int} (h : Ints w A xs) {i : Nat} (hi : i < xs.length) : ∃ ad, A = some ad ∧ w.cell? (ad.add i) = some (.int .i64 (xs.getD i 0)) := by
  obtain ⟨ad, h1, h2⟩ := Row.at_ h (j := i) (by rw [intVals_length]; exact hi)
  exact ⟨ad, h1, by rw [h2]; simp [intVals, hi]⟩
theorem OwnInts.row {w : World} {base : Nat} {v : Value} {xs : List Int} (h : OwnInts w base v xs) : ∃ A c, v = .slice A xs.length c ∧ xs.length ≤ c ∧ Ints w A xs := by
  obtain ⟨A, c, rfl, hc⟩ := own_slice h
  exact ⟨A, c, rfl, hc, Row.of_own h⟩
/-- A row of whole numbers in new memory. -/
def RetInts (w : World) (xs : List Int) (e : Ending) (w' : World) : Prop := ∃ v, e = .returned v ∧ OwnInts w' w.heap.size v xs ∧ Below w.heap.size w w'
theorem RetInts.row {w w' : World} {xs : List Int} {e : Ending} (h : RetInts w xs e w') : ∃ A c, e = .returned (.slice A xs.length c) ∧ xs.length ≤ c ∧ Ints w' A xs ∧ Below w.heap.size w w' := by
  obtain ⟨v, rfl, ho, hb⟩ := h
  obtain ⟨A, c, rfl, hc, hr⟩ := OwnInts.row ho
  exact ⟨A, c, rfl, hc, hr, hb⟩

section
variable (w : World) (base g : Nat) (P : List Txt) (F O U : Txt → Int) (o : List Txt)
theorem lis_calls (h : LinksAt w base g P F O U o) (n : Int) (b : Bool) (hb : b = true ↔ 0 ≤ n ∧ n < P.length) : Calls Try.prog 33 #[.pointer (some ⟨g, 0, none⟩), .int .i64 n] w fun e w' => e = .returned (.bool b) ∧ w = w' := by
  obtain ⟨B, h⟩ := h
  obtain ⟨q0, q1, q2, q3, q4⟩ := h.heads
  clear q1 q2 q3 q4 h
  by_cases h0 : 0 ≤ n
  · have h0b : decide (0 ≤ n) = true := decide_eq_true h0
    by_cases h1 : n < P.length
    · obtain rfl : b = true := hb.2 ⟨h0, h1⟩
      clear hb
      go_enter Try.func33, Try.ntmps33
      go_wp2
      go_ret
      exact ⟨rfl, rfl⟩
    · obtain rfl : b = false := by cases b with
        | false => rfl
        | true => exact absurd (hb.1 rfl).2 h1
      clear hb
      have h1b : decide (n < (P.length : Int)) = false := decide_eq_false h1
      go_enter Try.func33, Try.ntmps33
      go_wp2
      go_ret
      exact ⟨rfl, rfl⟩
  · obtain rfl : b = false := by cases b with
      | false => rfl
      | true => exact absurd (hb.1 rfl).1 h0
    clear hb
    have h0b : decide (0 ≤ n) = false := decide_eq_false h0
    go_enter Try.func33, Try.ntmps33
    go_wp2
    go_ret
    exact ⟨rfl, rfl⟩

theorem lfail_calls (h : LinksAt w base g P F O U o) (n : Int) : Calls Try.prog 13 #[.pointer (some ⟨g, 0, none⟩), .int .i64 n] w fun e w' => e = .returned (.int .i64 (askF P F (-1) n)) ∧ w = w' := by
  have his := As.mk (lis_calls w base g P F O U o h n)
  obtain ⟨B, h⟩ := h
  obtain ⟨c1, c2, c3⟩ := h.caps
  obtain ⟨q0, q1, q2, q3, q4⟩ := h.heads
  clear q1 q2 q3 q4 c2 c3
  by_cases hn : 0 ≤ n ∧ n < P.length
  · have hi := As.mk (his.out true (by simp [hn]))
    have hask : askF P F (-1) n = F (P.getD n.toNat []) := if_pos hn
    obtain ⟨m, rfl⟩ : ∃ m : Nat, n = m := ⟨n.toNat, by omega⟩
    have hml : m < P.length := by omega
    obtain ⟨r1, r2, r3, _⟩ := h.rows (get_at hml)
    rw [Int.toNat_natCast] at hask
    rw [hask]
    clear r2 r3 hask hn h
    generalize F (P.getD m []) = fv at *
    go_enter Try.func13, Try.ntmps13
    go_wp2_with (go_at_call 33; refine hi.out.mono ?_; rintro e w' ⟨rfl, rfl⟩)
    go_ret
    exact ⟨rfl, rfl⟩
  · have hi := As.mk (his.out false (by simp; omega))
    have hask : askF P F (-1) n = -1 := if_neg hn
    rw [hask]
    clear hask hn h
    go_enter Try.func13, Try.ntmps13
    go_wp2_with (go_at_call 33; refine hi.out.mono ?_; rintro e w' ⟨rfl, rfl⟩)
    go_ret
    exact ⟨rfl, rfl⟩

theorem lout_calls (h : LinksAt w base g P F O U o) (n : Int) : Calls Try.prog 15 #[.pointer (some ⟨g, 0, none⟩), .int .i64 n] w fun e w' => e = .returned (.int .i64 (askF P O (-1) n)) ∧ w = w' := by
  have his := As.mk (lis_calls w base g P F O U o h n)
  obtain ⟨B, h⟩ := h
  obtain ⟨c1, c2, c3⟩ := h.caps
  obtain ⟨q0, q1, q2, q3, q4⟩ := h.heads
  clear q0 q2 q3 q4 c1 c3
  by_cases hn : 0 ≤ n ∧ n < P.length
  · have hi := As.mk (his.out true (by simp [hn]))
    have hask : askF P O (-1) n = O (P.getD n.toNat []) := if_pos hn
    obtain ⟨m, rfl⟩ : ∃ m : Nat, n = m := ⟨n.toNat, by omega⟩
    have hml : m < P.length := by omega
    obtain ⟨r1, r2, r3, _⟩ := h.rows (get_at hml)
    rw [Int.toNat_natCast] at hask
    rw [hask]
    clear r1 r3 hask hn h
    generalize O (P.getD m []) = fv at *
    go_enter Try.func15, Try.ntmps15
    go_wp2_with (go_at_call 33; refine hi.out.mono ?_; rintro e w' ⟨rfl, rfl⟩)
    go_ret
    exact ⟨rfl, rfl⟩
  · have hi := As.mk (his.out false (by simp; omega))
    have hask : askF P O (-1) n = -1 := if_neg hn
    rw [hask]
    clear hask hn h
    go_enter Try.func15, Try.ntmps15
    go_wp2_with (go_at_call 33; refine hi.out.mono ?_; rintro e w' ⟨rfl, rfl⟩)
    go_ret
    exact ⟨rfl, rfl⟩
end

/-- The links of a tree, whole. -/
def LinksOf (w : World) (base g : Nat) (P l : List Txt) : Prop := LinksAt w base g P (failF P) (outF P l) (ownF l) (op P P.length)
def endsAt (P l : List Txt) (n : Int) : List Int := if 0 ≤ n ∧ n < P.length then endsF l (P.getD n.toNat []) else []
theorem endsAt_place {P l : List Txt} (hT : Tree P) {a : Nat} {s : Txt} (h : P[a]? = some s) : endsAt P l (a : Int) = endsF l s := by
  have hl := (List.getElem?_eq_some_iff.1 h).1
  unfold endsAt
  rw [if_pos (by omega), Int.toNat_natCast, List.getD_eq_getElem?_getD, h]; rfl
theorem endsF_length (l : List Txt) (s : Txt) : (endsF l s).length ≤ s.length := by
  unfold endsF
  rw [List.length_map]
  exact Nat.le_trans (List.length_filter_le _ _) (by simp)
/-- A round of Ends. -/
theorem ends_round {P l : List Txt} (hT : Tree P) (hlP : ∀ x, x ∈ l → x ∈ P) {a : Nat} {s : Txt} (h : P[a]? = some s) : endsF l s = (if 0 < ownF l s then [ownF l s] else []) ++ endsAt P l (outF P l s) ∧ (0 ≤ outF P l s → outF P l s < P.length ∧ (P.getD (outF P l s).toNat []).length < s.length) := by
  rw [ends_rec]
  unfold outF
  cases ho : outN l s with
  | none =>
    refine ⟨?_, fun h0 => by simp at h0⟩
    simp [endsAt]
  | some n =>
    obtain ⟨h1, h2, h3, _⟩ := outN_some ho
    obtain ⟨b, hb1, hb2⟩ := place_nat (hlP _ h3)
    have hbl := (List.getElem?_eq_some_iff.1 hb2).1
    simp only [hb1]
    refine ⟨by rw [endsAt_place hT hb2], fun _ => ⟨by omega, ?_⟩⟩
    rw [Int.toNat_natCast, List.getD_eq_getElem?_getD, hb2]
    show (s.drop n).length < _
    rw [List.length_drop]; omega
theorem backM_lt {P : List Txt} {t : Int} {s : Txt} (h : 0 ≤ t → (P.getD t.toNat []).length < s.length) : backM P (.int .i64 t) < s.length + 1 := by
  unfold backM
  show (if 0 ≤ t then (P.getD t.toNat []).length + 1 else 0) < s.length + 1
  by_cases h0 : 0 ≤ t
  · rw [if_pos h0]; have := h h0; omega
  · rw [if_neg h0]; omega
theorem ownInts_snoc {w : World} {base : Nat} {v : Value} {xs : List Int} {x : Int} (h : w.ownsRow base 3 1 v (xs.length + 1) (intVals xs ++ [.int .i64 x])) : OwnInts w base v (xs ++ [x]) := by
  unfold OwnInts
  rw [List.length_append, show intVals (xs ++ [x]) = intVals xs ++ [.int .i64 x] by simp [intVals]]
  exact h

set_option maxHeartbeats 800000 in
theorem lends_calls (w : World) (base g : Nat) (P l : List Txt) (hT : Tree P) (hlP : ∀ x, x ∈ l → x ∈ P) (hd : ∀ p ∈ P, p.length ≤ 100000) (h : LinksOf w base g P l) (n : Int) :
    Calls Try.prog 18 #[.pointer (some ⟨g, 0, none⟩), .int .i64 n] w (RetInts w (endsAt P l n)) := by
  obtain ⟨R, hR⟩ : ∃ R, endsAt P l n = R := ⟨_, rfl⟩
  rw [hR]
  have hR := As.mk hR
  have HT := As.mk hT
  have HP := As.mk hlP
  have HD := As.mk hd
  obtain ⟨B, hB⟩ := h
  have HL := As.mk hB
  have hRl : As (R.length ≤ 100000) := ⟨by
    rw [← hR.out]
    unfold endsAt
    split
    · refine Nat.le_trans (endsF_length _ _) (hd _ ?_)
      rw [List.getD_eq_getElem?_getD, List.getElem?_eq_getElem (by omega)]
      exact List.getElem_mem _
    · simp⟩
  clear hT hlP hd hB
  obtain ⟨i0, hi, hz0, hz1, hz2⟩ := info_parts info_int
  go_enter Try.func18, Try.ntmps18
  go_wp2
  go_loopw [1, 5] (fun i v wr => ∃ (m : Int) (acc : List Int), i = .int .i64 m ∧ As (acc ++ endsAt P l m = R) ∧ As (OwnInts wr w.heap.size v acc) ∧ As (Below w.heap.size w wr)) (fun i _ _ => backM P i)
  case atStart => exact ⟨n, [], rfl, hR, ⟨World.ownsRow_nil _ _ _ _⟩, ⟨Below.refl _ _⟩⟩
  case round =>
    obtain ⟨m, acc, rfl, hacc, hown, hbel⟩ := hrel
    have hin := HL.out.below hbel.out
    have his := As.mk (lis_calls wr base g P _ _ _ _ ⟨B, hin⟩ m)
    obtain ⟨c1, c2, c3⟩ := hin.caps
    obtain ⟨q0, q1, q2, q3, q4⟩ := hin.heads
    clear q0 q3 q4 c1
    have haccl : As (acc.length ≤ 100000) := ⟨by have := hRl.out; rw [← hacc.out, List.length_append] at this; omega⟩
    by_cases hm : 0 ≤ m ∧ m < P.length
    · have hi1 := As.mk (his.out true (by simp [hm]))
      obtain ⟨a, rfl⟩ : ∃ a : Nat, m = a := ⟨m.toNat, by omega⟩
      have hal : a < P.length := by omega
      have hs := get_at hal
      obtain ⟨s, hs2⟩ : ∃ s, P.getD a [] = s := ⟨_, rfl⟩
      rw [hs2] at hs
      obtain ⟨r1, r2, r3, _⟩ := hin.rows hs
      obtain ⟨e1, e2⟩ := ends_round HT.out HP.out (l := l) hs
      have hea := endsAt_place (l := l) HT.out hs
      obtain ⟨u, hu⟩ : ∃ u, ownF l s = u := ⟨_, rfl⟩
      obtain ⟨t, ht⟩ : ∃ t, outF P l s = t := ⟨_, rfl⟩
      rw [hu] at r3 e1
      rw [ht] at r2 e1 e2
      have hnext : As (∀ v, Below w.heap.size w v → v.cell? ⟨g, 1, none⟩ = some (.slice (some ⟨B.bo, 0, none⟩) P.length B.co) ∧ v.cell? ⟨B.bo, a, none⟩ = some (.int .i64 t)) := ⟨fun v hv => by
        have hin2 := HL.out.below hv
        refine ⟨hin2.heads.2.1, ?_⟩
        rw [← ht]; exact (hin2.rows hs).2.1⟩
      rw [hea, e1] at hacc
      have e2 := As.mk e2
      have hs2 := As.mk hs2
      replace hin := As.mk hin
      clear r1 e1 hea hu ht hm hs
      by_cases hu0 : 0 < u
      · have hu1 : decide (0 < u) = true := decide_eq_true hu0
        rw [if_pos hu0] at hacc
        go_wp2_with (first
          | (go_at_call 33; refine hi1.out.mono ?_; rintro e w' ⟨rfl, rfl⟩)
          | (at_builtin
             refine wpList_app1 _ rfl (.tmp 17) (.tmp 25) 32 rfl w.heap.size 3 _ 1 8 Try.underlying32 info_int rfl (by decide) _ acc.length (intVals acc) rfl hown.out [.int .i64 u] rfl (by simp [Value.oneCell']) _ rfl (by simp) (by have := haccl.out; omega) (by decide) hbel.out.size ?_
             intro v' w2 hown2 hk2 hat2 hb2
             obtain ⟨n1, n2⟩ := hnext.out w2 (hbel.out.trans hb2)))
        go_roundw
        case rel => exact ⟨t, acc ++ [u], rfl, ⟨by rw [← hacc.out, List.append_assoc]⟩, ⟨ownInts_snoc hown2⟩, ⟨hbel.out.trans hb2⟩⟩
        case measure =>
          show backM P (.int .i64 t) < backM P (.int .i64 (a : Int))
          rw [backM_nat, hs2.out]
          exact backM_lt (fun h0 => (e2.out h0).2)
      · have hu1 : decide (0 < u) = false := decide_eq_false hu0
        rw [if_neg hu0] at hacc
        go_wp2_with (go_at_call 33; refine hi1.out.mono ?_; rintro e w' ⟨rfl, rfl⟩)
        go_roundw
        case rel => exact ⟨t, acc, rfl, ⟨by rw [← hacc.out, List.nil_append]⟩, hown, hbel⟩
        case measure =>
          show backM P (.int .i64 t) < backM P (.int .i64 (a : Int))
          rw [backM_nat, hs2.out]
          exact backM_lt (fun h0 => (e2.out h0).2)
    · have hi1 := As.mk (his.out false (by simp; omega))
      have hfin : As (acc = R) := ⟨by rw [← hacc.out]; unfold endsAt; rw [if_neg hm, List.append_nil]⟩
      clear hm
      go_wp2_with (go_at_call 33; refine hi1.out.mono ?_; rintro e w' ⟨rfl, rfl⟩)
      go_ret
      exact ⟨_, rfl, hfin.out ▸ hown.out, hbel.out⟩

theorem llongest_calls (w : World) (base g : Nat) (P l : List Txt) (hT : Tree P) (hlP : ∀ x, x ∈ l → x ∈ P) (hd : ∀ p ∈ P, p.length ≤ 100000) (h : LinksOf w base g P l) (n : Int) :
    Calls Try.prog 19 #[.pointer (some ⟨g, 0, none⟩), .int .i64 n] w fun e w' => e = .returned (.int .i64 ((endsAt P l n).headD 0)) ∧ Below w.heap.size w w' := by
  have he := As.mk (lends_calls w base g P l hT hlP hd h n)
  clear hT hlP hd h
  generalize endsAt P l n = R at *
  cases R with
  | nil =>
    go_enter Try.func19, Try.ntmps19
    go_wp2_with (go_at_call 18; refine he.out.mono ?_; intro e w' hr; obtain ⟨A, c, hv, hc, hrow, hb⟩ := hr.row; rw [List.length_nil] at hv hc; subst hv; clear hr hrow)
    go_ret
    exact ⟨rfl, hb⟩
  | cons x R =>
    go_enter Try.func19, Try.ntmps19
    go_wp2_with (go_at_call 18; refine he.out.mono ?_; intro e w' hr; obtain ⟨A, c, hv, hc, hrow, hb⟩ := hr.row; obtain ⟨ad, rfl, hc0⟩ := Ints.at_ hrow (i := 0) (by simp); rw [List.getD_cons_zero] at hc0; have hc1 := hc0; rw [show ad.add 0 = ad from (by unfold Addr.add; simp)] at hc1; obtain ⟨rl, hrl⟩ : ∃ rl, (x :: R).length = rl := ⟨_, rfl⟩; have hrl0 : 0 < rl := (by rw [← hrl]; simp); rw [hrl] at hv hc; subst hv; clear hr hrow hrl)
    go_ret
    exact ⟨rfl, hb⟩
end Go.Proofs.Ytcajccknkjljfaa
