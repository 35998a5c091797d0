/- Joined texts: LinksWalk4, SparsePure, Sparse, Patset, Patset2. -/
import Derived.Test.YtdiljmhikajjiaaGreatM3
import Derived.Test.YtdiljmhikajjiaaGreatM2
import Derived.Deep.RegionLaw
import Derived.Deep.AppendLies
import Derived.Test.YtdiljmhikajjiaaGreatM1
import Derived.StringKeys
section
set_option linter.unusedVariables false
set_option linter.unusedSimpArgs false
namespace Go.Proofs.YtdiljmhikajjiaaGreat
open Go.RowKit Go.Maps Seine.Trie Seine.Links
abbrev OwnInts (w : World) (base : Nat) (v : Value) (xs : List Int) : Prop := w.ownsRow base 3 1 v xs.length (intVals xs)
theorem Ints.at_ {w : World} {A : Option Addr} {xs : List Int} (h : Ints w A xs) {i : Nat} (hi : i < xs.length) : ∃ ad, A = some ad ∧ w.cell? (ad.add i) = some (.int .i64 (xs.getD i 0)) := by
  obtain ⟨ad, h1, h2⟩ := Row.at_ h (j := i) (by rw [intVals_length]; exact hi)
  exact ⟨ad, h1, by rw [h2]; simp [intVals, hi]⟩
theorem OwnInts.row {w : World} {base : Nat} {v : Value} {xs : List Int} (h : OwnInts w base v xs) : ∃ A c, v = .slice A xs.length c ∧ xs.length ≤ c ∧ Ints w A xs := by
  obtain ⟨A, c, rfl, hc⟩ := own_slice h
  exact ⟨A, c, rfl, hc, Row.of_own h⟩
/-- A row of whole numbers in new memory. -/
def RetInts (w : World) (xs : List Int) (e : Ending) (w' : World) : Prop := ∃ v, e = .returned v ∧ OwnInts w' w.heap.size v xs ∧ Below w.heap.size w w'
theorem RetInts.row {w w' : World} {xs : List Int} {e : Ending} (h : RetInts w xs e w') : ∃ A c, e = .returned (.slice A xs.length c) ∧ xs.length ≤ c ∧ Ints w' A xs ∧ Below w.heap.size w w' := by
  obtain ⟨v, rfl, ho, hb⟩ := h
  obtain ⟨A, c, rfl, hc, hr⟩ := OwnInts.row ho
  exact ⟨A, c, rfl, hc, hr, hb⟩
section
variable (w : World) (base g : Nat) (P : List Txt) (F O U : Txt → Int) (o : List Txt)
theorem lis_calls (h : LinksAt w base g P F O U o) (n : Int) (b : Bool) (hb : b = true ↔ 0 ≤ n ∧ n < P.length) : Calls Tryz.prog 92 #[.pointer (some ⟨g, 0, none⟩), .int .i64 n] w fun e w' => e = .returned (.bool b) ∧ w = w' := by
  obtain ⟨B, h⟩ := h
  obtain ⟨q0, q1, q2, q3, q4⟩ := h.heads
  clear q1 q2 q3 q4 h
  by_cases h0 : 0 ≤ n
  · have h0b : decide (0 ≤ n) = true := decide_eq_true h0
    by_cases h1 : n < P.length
    · obtain rfl : b = true := hb.2 ⟨h0, h1⟩
      clear hb
      go_enter Tryz.func92, Tryz.ntmps92
      go_wp2
      go_ret
      exact ⟨rfl, rfl⟩
    · obtain rfl : b = false := by cases b with
        | false => rfl
        | true => exact absurd (hb.1 rfl).2 h1
      clear hb
      have h1b : decide (n < (P.length : Int)) = false := decide_eq_false h1
      go_enter Tryz.func92, Tryz.ntmps92
      go_wp2
      go_ret
      exact ⟨rfl, rfl⟩
  · obtain rfl : b = false := by cases b with
      | false => rfl
      | true => exact absurd (hb.1 rfl).1 h0
    clear hb
    have h0b : decide (0 ≤ n) = false := decide_eq_false h0
    go_enter Tryz.func92, Tryz.ntmps92
    go_wp2
    go_ret
    exact ⟨rfl, rfl⟩
theorem lfail_calls (h : LinksAt w base g P F O U o) (n : Int) : Calls Tryz.prog 74 #[.pointer (some ⟨g, 0, none⟩), .int .i64 n] w fun e w' => e = .returned (.int .i64 (askF P F (-1) n)) ∧ w = w' := by
  have his := As.mk (lis_calls w base g P F O U o h n)
  obtain ⟨B, h⟩ := h
  obtain ⟨c1, c2, c3⟩ := h.caps
  obtain ⟨q0, q1, q2, q3, q4⟩ := h.heads
  clear q1 q2 q3 q4 c2 c3
  by_cases hn : 0 ≤ n ∧ n < P.length
  · have hi := As.mk (his.out true (by simp [hn]))
    have hask : askF P F (-1) n = F (P.getD n.toNat []) := if_pos hn
    obtain ⟨m, rfl⟩ : ∃ m : Nat, n = m := ⟨n.toNat, by omega⟩
    have hml : m < P.length := by omega
    obtain ⟨r1, r2, r3, _⟩ := h.rows (get_at hml)
    rw [Int.toNat_natCast] at hask
    rw [hask]
    clear r2 r3 hask hn h
    generalize F (P.getD m []) = fv at *
    go_enter Tryz.func74, Tryz.ntmps74
    go_wp2_with (go_at_call 92; refine hi.out.mono ?_; rintro e w' ⟨rfl, rfl⟩)
    go_ret
    exact ⟨rfl, rfl⟩
  · have hi := As.mk (his.out false (by simp; omega))
    have hask : askF P F (-1) n = -1 := if_neg hn
    rw [hask]
    clear hask hn h
    go_enter Tryz.func74, Tryz.ntmps74
    go_wp2_with (go_at_call 92; refine hi.out.mono ?_; rintro e w' ⟨rfl, rfl⟩)
    go_ret
    exact ⟨rfl, rfl⟩
end
/-- The links of a tree, whole. -/
def LinksOf (w : World) (base g : Nat) (P l : List Txt) : Prop := LinksAt w base g P (failF P) (outF P l) (ownF l) (op P P.length)
def endsAt (P l : List Txt) (n : Int) : List Int := if 0 ≤ n ∧ n < P.length then endsF l (P.getD n.toNat []) else []
theorem endsAt_place {P l : List Txt} (hT : Tree P) {a : Nat} {s : Txt} (h : P[a]? = some s) : endsAt P l (a : Int) = endsF l s := by
  have hl := (List.getElem?_eq_some_iff.1 h).1
  unfold endsAt
  rw [if_pos (by omega), Int.toNat_natCast, List.getD_eq_getElem?_getD, h]; rfl
theorem endsF_length (l : List Txt) (s : Txt) : (endsF l s).length ≤ s.length := by
  unfold endsF
  rw [List.length_map]
  exact Nat.le_trans (List.length_filter_le _ _) (by simp)
/-- A round of Ends. -/
theorem ends_round {P l : List Txt} (hT : Tree P) (hlP : ∀ x, x ∈ l → x ∈ P) {a : Nat} {s : Txt} (h : P[a]? = some s) : endsF l s = (if 0 < ownF l s then [ownF l s] else []) ++ endsAt P l (outF P l s) ∧ (0 ≤ outF P l s → outF P l s < P.length ∧ (P.getD (outF P l s).toNat []).length < s.length) := by
  rw [ends_rec]
  unfold outF
  cases ho : outN l s with
  | none =>
    refine ⟨?_, fun h0 => by simp at h0⟩
    simp [endsAt]
  | some n =>
    obtain ⟨h1, h2, h3, _⟩ := outN_some ho
    obtain ⟨b, hb1, hb2⟩ := place_nat (hlP _ h3)
    have hbl := (List.getElem?_eq_some_iff.1 hb2).1
    simp only [hb1]
    refine ⟨by rw [endsAt_place hT hb2], fun _ => ⟨by omega, ?_⟩⟩
    rw [Int.toNat_natCast, List.getD_eq_getElem?_getD, hb2]
    show (s.drop n).length < _
    rw [List.length_drop]; omega
theorem backM_lt {P : List Txt} {t : Int} {s : Txt} (h : 0 ≤ t → (P.getD t.toNat []).length < s.length) : backM P (.int .i64 t) < s.length + 1 := by
  unfold backM
  show (if 0 ≤ t then (P.getD t.toNat []).length + 1 else 0) < s.length + 1
  by_cases h0 : 0 ≤ t
  · rw [if_pos h0]; have := h h0; omega
  · rw [if_neg h0]; omega
theorem ownInts_snoc {w : World} {base : Nat} {v : Value} {xs : List Int} {x : Int} (h : w.ownsRow base 3 1 v (xs.length + 1) (intVals xs ++ [.int .i64 x])) : OwnInts w base v (xs ++ [x]) := by
  unfold OwnInts
  rw [List.length_append, show intVals (xs ++ [x]) = intVals xs ++ [.int .i64 x] by simp [intVals]]
  exact h
set_option maxHeartbeats 800000 in
theorem lends_calls (w : World) (base g : Nat) (P l : List Txt) (hT : Tree P) (hlP : ∀ x, x ∈ l → x ∈ P) (hd : ∀ p ∈ P, p.length ≤ 100000) (h : LinksOf w base g P l) (n : Int) :
    Calls Tryz.prog 129 #[.pointer (some ⟨g, 0, none⟩), .int .i64 n] w (RetInts w (endsAt P l n)) := by
  obtain ⟨R, hR⟩ : ∃ R, endsAt P l n = R := ⟨_, rfl⟩
  rw [hR]
  have hR := As.mk hR
  have HT := As.mk hT
  have HP := As.mk hlP
  have HD := As.mk hd
  obtain ⟨B, hB⟩ := h
  have HL := As.mk hB
  have hRl : As (R.length ≤ 100000) := ⟨by
    rw [← hR.out]
    unfold endsAt
    split
    · refine Nat.le_trans (endsF_length _ _) (hd _ ?_)
      rw [List.getD_eq_getElem?_getD, List.getElem?_eq_getElem (by omega)]
      exact List.getElem_mem _
    · simp⟩
  clear hT hlP hd hB
  obtain ⟨i0, hi, hz0, hz1, hz2⟩ := info_parts info_int
  go_enter Tryz.func129, Tryz.ntmps129
  go_wp2
  go_loopw [1, 5] (fun i v wr => ∃ (m : Int) (acc : List Int), i = .int .i64 m ∧ As (acc ++ endsAt P l m = R) ∧ As (OwnInts wr w.heap.size v acc) ∧ As (Below w.heap.size w wr)) (fun i _ _ => backM P i)
  case atStart => exact ⟨n, [], rfl, hR, ⟨World.ownsRow_nil _ _ _ _⟩, ⟨Below.refl _ _⟩⟩
  case round =>
    obtain ⟨m, acc, rfl, hacc, hown, hbel⟩ := hrel
    have hin := HL.out.below hbel.out
    have his := As.mk (lis_calls wr base g P _ _ _ _ ⟨B, hin⟩ m)
    obtain ⟨c1, c2, c3⟩ := hin.caps
    obtain ⟨q0, q1, q2, q3, q4⟩ := hin.heads
    clear q0 q3 q4 c1
    have haccl : As (acc.length ≤ 100000) := ⟨by have := hRl.out; rw [← hacc.out, List.length_append] at this; omega⟩
    by_cases hm : 0 ≤ m ∧ m < P.length
    · have hi1 := As.mk (his.out true (by simp [hm]))
      obtain ⟨a, rfl⟩ : ∃ a : Nat, m = a := ⟨m.toNat, by omega⟩
      have hal : a < P.length := by omega
      have hs := get_at hal
      obtain ⟨s, hs2⟩ : ∃ s, P.getD a [] = s := ⟨_, rfl⟩
      rw [hs2] at hs
      obtain ⟨r1, r2, r3, _⟩ := hin.rows hs
      obtain ⟨e1, e2⟩ := ends_round HT.out HP.out (l := l) hs
      have hea := endsAt_place (l := l) HT.out hs
      obtain ⟨u, hu⟩ : ∃ u, ownF l s = u := ⟨_, rfl⟩
      obtain ⟨t, ht⟩ : ∃ t, outF P l s = t := ⟨_, rfl⟩
      rw [hu] at r3 e1
      rw [ht] at r2 e1 e2
      have hnext : As (∀ v, Below w.heap.size w v → v.cell? ⟨g, 1, none⟩ = some (.slice (some ⟨B.bo, 0, none⟩) P.length B.co) ∧ v.cell? ⟨B.bo, a, none⟩ = some (.int .i64 t)) := ⟨fun v hv => by
        have hin2 := HL.out.below hv
        refine ⟨hin2.heads.2.1, ?_⟩
        rw [← ht]; exact (hin2.rows hs).2.1⟩
      rw [hea, e1] at hacc
      have e2 := As.mk e2
      have hs2 := As.mk hs2
      replace hin := As.mk hin
      clear r1 e1 hea hu ht hm hs
      by_cases hu0 : 0 < u
      · have hu1 : decide (0 < u) = true := decide_eq_true hu0
        rw [if_pos hu0] at hacc
        go_wp2_with (first
          | (go_at_call 92; refine hi1.out.mono ?_; rintro e w' ⟨rfl, rfl⟩)
          | (at_builtin
             refine wpList_app1 _ rfl (.tmp 17) (.tmp 25) 105 rfl w.heap.size 3 _ 1 8 Tryz.underlying105 info_int rfl (by decide) _ acc.length (intVals acc) rfl hown.out [.int .i64 u] rfl (by simp [Value.oneCell']) _ rfl (by simp) (by have := haccl.out; omega) (by decide) hbel.out.size ?_
             intro v' w2 hown2 hk2 hat2 hb2
             obtain ⟨n1, n2⟩ := hnext.out w2 (hbel.out.trans hb2)))
        go_roundw
        case rel => exact ⟨t, acc ++ [u], rfl, ⟨by rw [← hacc.out, List.append_assoc]⟩, ⟨ownInts_snoc hown2⟩, ⟨hbel.out.trans hb2⟩⟩
        case measure =>
          show backM P (.int .i64 t) < backM P (.int .i64 (a : Int))
          rw [backM_nat, hs2.out]
          exact backM_lt (fun h0 => (e2.out h0).2)
      · have hu1 : decide (0 < u) = false := decide_eq_false hu0
        rw [if_neg hu0] at hacc
        go_wp2_with (go_at_call 92; refine hi1.out.mono ?_; rintro e w' ⟨rfl, rfl⟩)
        go_roundw
        case rel => exact ⟨t, acc, rfl, ⟨by rw [← hacc.out, List.nil_append]⟩, hown, hbel⟩
        case measure =>
          show backM P (.int .i64 t) < backM P (.int .i64 (a : Int))
          rw [backM_nat, hs2.out]
          exact backM_lt (fun h0 => (e2.out h0).2)
    · have hi1 := As.mk (his.out false (by simp; omega))
      have hfin : As (acc = R) := ⟨by rw [← hacc.out]; unfold endsAt; rw [if_neg hm, List.append_nil]⟩
      clear hm
      go_wp2_with (go_at_call 92; refine hi1.out.mono ?_; rintro e w' ⟨rfl, rfl⟩)
      go_ret
      exact ⟨_, rfl, hfin.out ▸ hown.out, hbel.out⟩
end Go.Proofs.YtdiljmhikajjiaaGreat
end
section
set_option linter.unusedVariables false
namespace Seine.Sparse
open Seine.Trie Seine.Links Seine.Sort
/-- The longest end of a text that is a node's path. -/
def lng (P : List Txt) (t : Txt) : Txt := match firstN (fun n => decide (t.drop n ∈ P)) 0 t.length with | some n => t.drop n | none => []
theorem lng_spec {P : List Txt} (hT : Tree P) (t : Txt) : ∃ n, n ≤ t.length ∧ lng P t = t.drop n ∧ t.drop n ∈ P ∧ ∀ j, j < n → t.drop j ∉ P := by
  unfold lng
  cases h : firstN (fun n => decide (t.drop n ∈ P)) 0 t.length with
  | some n =>
    obtain ⟨_, h2, h3, h4⟩ := firstN_some h
    exact ⟨n, by omega, rfl, of_decide_eq_true h3, fun j hj => of_decide_eq_false (h4 j (Nat.zero_le _) hj)⟩
  | none =>
    refine ⟨t.length, Nat.le_refl _, by simp, by simp; exact hT.nil_mem, fun j hj => of_decide_eq_false (firstN_none h j (Nat.zero_le _) (by omega))⟩
theorem lng_eq {P : List Txt} (hT : Tree P) {t : Txt} {n : Nat} (h1 : n ≤ t.length) (h2 : t.drop n ∈ P) (h3 : ∀ j, j < n → t.drop j ∉ P) : lng P t = t.drop n := by
  obtain ⟨m, a, b, c, d⟩ := lng_spec hT t
  rcases Nat.lt_trichotomy m n with e | e | e
  · exact absurd c (h3 m e)
  · rw [b, e]
  · exact absurd h2 (d n e)
theorem lng_mem {P : List Txt} (hT : Tree P) (t : Txt) : lng P t ∈ P := by obtain ⟨n, _, b, c, _⟩ := lng_spec hT t; rw [b]; exact c
theorem lng_nil (P : List Txt) : lng P [] = [] := rfl
theorem lng_self {P : List Txt} (hT : Tree P) {t : Txt} (h : t ∈ P) : lng P t = t := by
  have := lng_eq hT (n := 0) (t := t) (Nat.zero_le _) (by simpa using h) (fun j hj => by omega)
  simpa using this
/-- The state behind a byte hangs on the state alone. -/
theorem lng_step {P : List Txt} (hT : Tree P) (t : Txt) (c : UInt8) : lng P (t ++ [c]) = lng P (lng P t ++ [c]) := by
  obtain ⟨m, a, b, hm, d⟩ := lng_spec hT (t ++ [c])
  rw [b]
  obtain ⟨n, a', b', hn, d'⟩ := lng_spec hT t
  rw [b']
  symm
  by_cases hml : m ≤ t.length
  · rw [snoc_drop hml] at hm ⊢
    have hnm : n ≤ m := by
      rcases Nat.lt_or_ge m n with e | e
      · exact absurd (up_snoc hT hm) (d' m e)
      · exact e
    have := lng_eq hT (t := t.drop n ++ [c]) (n := m - n) (by simp; omega) (by rw [snoc_drop (by rw [List.length_drop]; omega), List.drop_drop, show n + (m - n) = m by omega]; exact hm) (fun j hj => by
      rw [snoc_drop (by rw [List.length_drop]; omega), List.drop_drop, ← snoc_drop (by omega)]
      exact d _ (by omega))
    rw [this, snoc_drop (by rw [List.length_drop]; omega), List.drop_drop, show n + (m - n) = m by omega]
  · have hml2 : m = t.length + 1 := by simp at a; omega
    subst hml2
    have := lng_eq hT (t := t.drop n ++ [c]) (n := (t.drop n ++ [c]).length) (Nat.le_refl _) (by rw [List.drop_length]; exact hT.nil_mem) (fun j hj => by
      rw [List.length_append, List.length_drop, List.length_singleton] at hj
      rw [snoc_drop (by rw [List.length_drop]; omega), List.drop_drop, ← snoc_drop (by omega)]
      exact d _ (by omega))
    rw [this]
    simp
theorem lng_len {P : List Txt} (hT : Tree P) (t : Txt) : (lng P t).length ≤ t.length := by
  obtain ⟨n, a, b, _, _⟩ := lng_spec hT t
  rw [b, List.length_drop]; omega
/-- How many look-ups a byte takes, from a state. -/
def lookN (P : List Txt) (c : UInt8) : Nat → Txt → Nat
  | 0, _ => 1
  | f + 1, s => if s ++ [c] ∈ P then 1 else match failN P s with | some n => 1 + lookN P c f (s.drop n) | none => 1
def looks1 (P : List Txt) (s : Txt) (c : UInt8) : Nat := lookN P c s.length s
theorem lookN_more (P : List Txt) (c : UInt8) : ∀ (f g : Nat) (s : Txt), s.length ≤ f → s.length ≤ g → lookN P c f s = lookN P c g s
  | 0, 0, _, _, _ => rfl
  | 0, g + 1, s, h, _ => by
    have : s = [] := List.eq_nil_of_length_eq_zero (by omega)
    subst this
    simp [lookN, failN, firstN]
  | f + 1, 0, s, _, h => by
    have : s = [] := List.eq_nil_of_length_eq_zero (by omega)
    subst this
    simp [lookN, failN, firstN]
  | f + 1, g + 1, s, h, k => by
    unfold lookN
    split
    · rfl
    · cases hf : failN P s with
      | none => rfl
      | some n =>
        obtain ⟨h1, h2, _, _⟩ := failN_some hf
        simp only
        rw [lookN_more P c f g (s.drop n) (by rw [List.length_drop]; omega) (by rw [List.length_drop]; omega)]
theorem looks1_hit {P : List Txt} {s : Txt} {c : UInt8} (h : s ++ [c] ∈ P) : looks1 P s c = 1 := by
  unfold looks1
  cases hs : s.length with
  | zero => rfl
  | succ k => unfold lookN; rw [if_pos h]
theorem looks1_root {P : List Txt} (c : UInt8) : looks1 P [] c = 1 := rfl
theorem looks1_fall {P : List Txt} {s : Txt} {c : UInt8} {n : Nat} (h : s ++ [c] ∉ P) (hf : failN P s = some n) : looks1 P s c = 1 + looks1 P (s.drop n) c := by
  obtain ⟨h1, h2, _, _⟩ := failN_some hf
  unfold looks1
  obtain ⟨k, hk⟩ : ∃ k, s.length = k + 1 := ⟨s.length - 1, by omega⟩
  rw [hk, lookN, if_neg h, hf]
  simp only
  rw [lookN_more P c k (s.drop n).length (s.drop n) (by rw [List.length_drop]; omega) (Nat.le_refl _)]
theorem looks1_pos (P : List Txt) (s : Txt) (c : UInt8) : 1 ≤ looks1 P s c := by
  unfold looks1
  cases s.length with
  | zero => exact Nat.le_refl _
  | succ k => unfold lookN; split
              · exact Nat.le_refl _
              · split <;> omega
/-- The state behind a byte: on, or from where the state falls to, or the root. -/
theorem step_hit {P : List Txt} (hT : Tree P) {s : Txt} {c : UInt8} (h : s ++ [c] ∈ P) : lng P (s ++ [c]) = s ++ [c] := lng_self hT h
theorem step_root {P : List Txt} (hT : Tree P) {c : UInt8} (h : [c] ∉ P) : lng P [c] = [] := by
  have := lng_eq hT (t := [c]) (n := 1) (by simp) (by simp; exact hT.nil_mem) (fun j hj => by
    have : j = 0 := by omega
    subst this; simpa using h)
  simpa using this
theorem step_fall {P : List Txt} (hT : Tree P) {s : Txt} {c : UInt8} {n : Nat} (h : s ++ [c] ∉ P) (hf : failN P s = some n) : lng P (s ++ [c]) = lng P (s.drop n ++ [c]) := by
  obtain ⟨h1, h2, h3, h4⟩ := failN_some hf
  obtain ⟨m, a, b, hm, d⟩ := lng_spec hT (s ++ [c])
  have hnm : n ≤ m := by
    rcases Nat.lt_or_ge m n with e | e
    · rcases Nat.eq_zero_or_pos m with z | z
      · subst z; simp at hm; exact absurd hm h
      · rw [snoc_drop (by omega)] at hm
        exact absurd (up_snoc hT hm) (h4 m z e)
    · exact e
  rw [b, ← snoc_drop h2]
  symm
  have := lng_eq hT (t := (s ++ [c]).drop n) (n := m - n) (by rw [List.length_drop]; omega) (by rw [List.drop_drop, show n + (m - n) = m by omega]; exact hm) (fun j hj => by
    rw [List.drop_drop]; exact d _ (by omega))
  rw [this, List.drop_drop, show n + (m - n) = m by omega]
/-- Each look-up but one costs a byte of the path. -/
theorem looks1_cost {P : List Txt} (hT : Tree P) (c : UInt8) : ∀ (k : Nat) (s : Txt), s.length = k → looks1 P s c + (lng P (s ++ [c])).length ≤ s.length + 2 := by
  intro k
  induction k using Nat.strongRecOn with
  | _ k ih =>
    intro s hk
    by_cases h : s ++ [c] ∈ P
    · rw [looks1_hit h, step_hit hT h]; simp; omega
    · by_cases hs : s = []
      · subst hs
        rw [looks1_root, List.nil_append, step_root hT (by simpa using h)]; simp
      · obtain ⟨n, hf⟩ := fail_some hT hs
        obtain ⟨h1, h2, _, _⟩ := failN_some hf
        rw [looks1_fall h hf, step_fall hT h hf]
        have := ih (s.drop n).length (by rw [List.length_drop]; omega) (s.drop n) rfl
        rw [List.length_drop] at this
        omega
/-- How many look-ups a line's first bytes take. -/
def looksTo (P : List Txt) (L : Txt) : Nat → Nat
  | 0 => 0
  | i + 1 => looksTo P L i + looks1 P (lng P (L.take i)) (L.getD i 0)
theorem take_snoc' (L : Txt) (i : Nat) (h : i < L.length) : L.take (i + 1) = L.take i ++ [L.getD i 0] := by
  rw [List.take_succ_eq_append_getElem h, List.getD_eq_getElem?_getD, List.getElem?_eq_getElem h]; rfl
theorem looksTo_cost {P : List Txt} (hT : Tree P) (L : Txt) : ∀ i, i ≤ L.length → i ≤ looksTo P L i ∧ looksTo P L i + (lng P (L.take i)).length ≤ 2 * i
  | 0, _ => ⟨Nat.le_refl _, by simp [looksTo, lng_nil]⟩
  | i + 1, h => by
    obtain ⟨h1, h2⟩ := looksTo_cost hT L i (by omega)
    have h3 := looks1_pos P (lng P (L.take i)) (L.getD i 0)
    have h4 := looks1_cost hT (L.getD i 0) _ (lng P (L.take i)) rfl
    rw [take_snoc' L i (by omega), lng_step hT, looksTo]
    omega
/-- The pieces that end behind a line's first bytes, by the state there. -/
def endsP (l : List Txt) (s : Txt) (i : Nat) : List Pr := (endsF l s).map fun n => ((i : Int) - n, (i : Int))
def hitsTo (P l : List Txt) (L : Txt) : Nat → List Pr
  | 0 => []
  | i + 1 => hitsTo P l L i ++ endsP l (lng P (L.take (i + 1))) (i + 1)
theorem mem_endsF {l : List Txt} {s : Txt} {n : Int} : n ∈ endsF l s ↔ ∃ k : Nat, k < s.length ∧ s.drop k ∈ l ∧ n = ((s.length - k : Nat) : Int) := by
  unfold endsF
  simp only [List.mem_map, List.mem_filter, List.mem_range, decide_eq_true_eq]
  constructor
  · rintro ⟨k, ⟨h1, h2⟩, rfl⟩; exact ⟨k, h1, h2, rfl⟩
  · rintro ⟨k, h1, h2, rfl⟩; exact ⟨k, ⟨h1, h2⟩, rfl⟩
theorem mem_endsP {P l : List Txt} (hT : Tree P) (hlP : ∀ x, x ∈ l → x ∈ P) {L : Txt} {i : Nat} (hi : i ≤ L.length) {p : Pr} : p ∈ endsP l (lng P (L.take i)) i ↔ ∃ k : Nat, p = ((k : Int), (i : Int)) ∧ k < i ∧ (L.drop k).take (i - k) ∈ l := by
  obtain ⟨n, a, b, c, d⟩ := lng_spec hT (L.take i)
  rw [List.length_take, Nat.min_eq_left hi] at a
  have hlen : (lng P (L.take i)).length = i - n := by rw [b, List.length_drop, List.length_take]; omega
  have key : ∀ k, (L.take i).drop k = (L.drop k).take (i - k) := fun k => by rw [List.drop_take]
  unfold endsP
  rw [List.mem_map]
  constructor
  · rintro ⟨z, hz, rfl⟩
    obtain ⟨k, h1, h2, rfl⟩ := mem_endsF.1 hz
    rw [hlen] at h1 ⊢
    rw [b, List.drop_drop, key] at h2
    exact ⟨n + k, by simp; omega, by omega, h2⟩
  · rintro ⟨k, rfl, h1, h2⟩
    rw [← key] at h2
    have hP := hlP _ h2
    have hnk : n ≤ k := by
      rcases Nat.lt_or_ge k n with e | e
      · exact absurd hP (d k e)
      · exact e
    refine ⟨((i - k : Nat) : Int), mem_endsF.2 ⟨k - n, by rw [hlen]; omega, by rw [b, List.drop_drop, show n + (k - n) = k by omega]; exact h2, by rw [hlen]; omega⟩, ?_⟩
    simp; omega
theorem mem_hitsTo {P l : List Txt} (hT : Tree P) (hlP : ∀ x, x ∈ l → x ∈ P) {L : Txt} : ∀ {i : Nat}, i ≤ L.length → ∀ {p : Pr}, p ∈ hitsTo P l L i ↔ ∃ k j : Nat, p = ((k : Int), (j : Int)) ∧ k < j ∧ j ≤ i ∧ (L.drop k).take (j - k) ∈ l
  | 0, _, p => by
    simp only [hitsTo, List.not_mem_nil, false_iff]
    rintro ⟨k, j, _, h1, h2, _⟩; omega
  | i + 1, h, p => by
    rw [hitsTo, List.mem_append, mem_hitsTo hT hlP (by omega), mem_endsP hT hlP h]
    constructor
    · rintro (⟨k, j, rfl, h1, h2, h3⟩ | ⟨k, rfl, h1, h2⟩)
      · exact ⟨k, j, rfl, h1, by omega, h3⟩
      · exact ⟨k, i + 1, rfl, h1, Nat.le_refl _, h2⟩
    · rintro ⟨k, j, rfl, h1, h2, h3⟩
      by_cases e : j = i + 1
      · subst e; exact .inr ⟨k, rfl, h1, h3⟩
      · exact .inl ⟨k, j, rfl, h1, by omega, h3⟩
theorem hits_occ {P l : List Txt} (hT : Tree P) (hlP : ∀ x, x ∈ l → x ∈ P) (L : Txt) : sortP (hitsTo P l L L.length) = occ l L :=
  sortP_eq (rise_occ l L) fun p => by
    rw [mem_hitsTo hT hlP (Nat.le_refl _), mem_occ]; rfl
theorem endsF_len (l : List Txt) (s : Txt) : (endsF l s).length ≤ s.length := by
  unfold endsF
  rw [List.length_map]
  exact Nat.le_trans (List.length_filter_le _ _) (by simp)
theorem hitsTo_len {P l : List Txt} (hT : Tree P) (L : Txt) (m : Nat) (hm : ∀ p ∈ P, p.length ≤ m) : ∀ i, (hitsTo P l L i).length ≤ i * m
  | 0 => by simp [hitsTo]
  | i + 1 => by
    rw [hitsTo, List.length_append]
    have h1 := hitsTo_len (l := l) hT L m hm i
    have h2 := endsF_len l (lng P (L.take (i + 1)))
    have h3 := hm _ (lng_mem hT (L.take (i + 1)))
    unfold endsP
    rw [List.length_map, Nat.succ_mul]; omega
end Seine.Sparse
end
section
set_option linter.unusedVariables false
set_option linter.unusedSimpArgs false
namespace Go.Proofs.YtdiljmhikajjiaaGreat
open Go.RowKit Go.Maps Seine.Trie Seine.Links
theorem TrieAt.keepOf {S : Nat → Prop} {w w' : World} {base g : Nat} {P : List Txt} {W : Txt → Int} (h : TrieAt w base g P W) (hk : Keeps S w w')
    (hS : ∀ b, S b → ∃ cs t fr, w.heap[b]? = some (.cells cs t fr) ∧ t ≠ 133 ∧ t ≠ 129) : TrieAt w' base g P W := by
  obtain ⟨v, mb, hg, h1, h2, ho, hm, hT⟩ := h
  have blk : ∀ b cs t fr, w.heap[b]? = some (.cells cs t fr) → (t = 133 ∨ t = 129) → ¬ S b := fun b cs t fr hb ht hs => by
    obtain ⟨cs', t', fr', h3, h4, h5⟩ := hS b hs
    rw [hb] at h3
    injection h3 with h3
    injection h3 with _ h3
    subst h3
    rcases ht with e | e
    · exact h4 e
    · exact h5 e
  refine ⟨v, mb, blk_keep hg hk (blk _ _ _ _ hg (.inl rfl)), h1, h2, own_keep ho hk (fun b c _ hb _ => blk _ _ _ _ hb (.inr rfl)), hm.keep hk (fun hs => ?_), hT⟩
  obtain ⟨es, cl, h4⟩ := hm.is_map
  obtain ⟨cs', t', fr', h3, _⟩ := hS mb hs
  rw [h4] at h3
  injection h3 with h3
  cases h3
theorem LinksAt.keepOf {S : Nat → Prop} {w w' : World} {base g : Nat} {P : List Txt} {F O U : Txt → Int} {o : List Txt} (h : LinksAt w base g P F O U o) (hk : Keeps S w w')
    (hS : ∀ b, S b → ∃ cs t fr, w.heap[b]? = some (.cells cs t fr) ∧ t ≠ 137 ∧ t ≠ 3) : LinksAt w' base g P F O U o := by
  obtain ⟨B, hg, h0, h1, h2, h3, h4, h5, h6, h7, h8⟩ := h
  have blk : ∀ b cs t fr, w.heap[b]? = some (.cells cs t fr) → (t = 137 ∨ t = 3) → ¬ S b := fun b cs t fr hb ht hs => by
    obtain ⟨cs', t', fr', k3, k4, k5⟩ := hS b hs
    rw [hb] at k3
    injection k3 with k3
    injection k3 with _ k3
    subst k3
    rcases ht with e | e
    · exact k4 e
    · exact k5 e
  exact ⟨B, blk_keep hg hk (blk _ _ _ _ hg (.inl rfl)), h0, own_keep h1 hk (fun b c _ hb _ => blk _ _ _ _ hb (.inr rfl)), own_keep h2 hk (fun b c _ hb _ => blk _ _ _ _ hb (.inr rfl)), own_keep h3 hk (fun b c _ hb _ => blk _ _ _ _ hb (.inr rfl)), h4, h5, h6, own_keep h7 hk (fun b c _ hb _ => blk _ _ _ _ hb (.inr rfl)), h8⟩
theorem onlyM_blk {w : World} {mo : Option Nat} {c : Cn} (hm : Mo w mo c) : ∀ b, OnlyM mo b → w.heap[b]? = some (.cells (cnCells c) 86 (0, 0)) := fun b h => hm b h
theorem TrieAt.keepM {w w' : World} {base g : Nat} {P : List Txt} {W : Txt → Int} {mo : Option Nat} {c : Cn} (h : TrieAt w base g P W) (hm : Mo w mo c) (hk : Keeps (OnlyM mo) w w') : TrieAt w' base g P W :=
  h.keepOf hk (fun b hb => ⟨_, _, _, onlyM_blk hm b hb, by decide, by decide⟩)
theorem LinksAt.keepM {w w' : World} {base g : Nat} {P : List Txt} {F O U : Txt → Int} {o : List Txt} {mo : Option Nat} {c : Cn} (h : LinksAt w base g P F O U o) (hm : Mo w mo c) (hk : Keeps (OnlyM mo) w w') : LinksAt w' base g P F O U o :=
  h.keepOf hk (fun b hb => ⟨_, _, _, onlyM_blk hm b hb, by decide, by decide⟩)
theorem own_cells {w : World} {base e size n b : Nat} {v : Value} {cs : List Value} (h : w.ownsRow base e size v n cs) (hb : some b = v.ownBlock) : ∃ c, w.heap[b]? = some (.cells c e (0, 0)) := by
  rcases h.2 with ⟨rfl, _⟩ | ⟨g, cap, cur, rfl, _, hh, _⟩
  · simp [Value.ownBlock] at hb
  · simp [Value.ownBlock] at hb; subst hb; exact ⟨_, hh⟩
theorem last_get {p : Txt} (h : 0 < p.length) : p.getD (p.length - 1) 0 = lastB p := by
  unfold lastB
  rw [List.getLast?_eq_getElem?, List.getD_eq_getElem?_getD]
theorem len_tot {l : List Txt} : ∀ b ∈ l, b.length ≤ tot l := by
  induction l with
  | nil => simp
  | cons x l ih =>
    intro b hb
    have e : tot (x :: l) = x.length + tot l := by simp [tot]
    rcases List.mem_cons.1 hb with rfl | hb
    · omega
    · have := ih b hb; omega
theorem path_tot {l : List Txt} {n : Nat} (h : tot l ≤ n) : ∀ p ∈ paths l, p.length ≤ n := fun p hp => by
  rcases mem_paths.1 hp with rfl | ⟨b, hb, k, hk, rfl⟩
  · simp
  · have := len_tot b hb; rw [List.length_take]; omega
/-- Where an automaton's parts lie. -/
structure SB where
  tb : Nat
  tg : Nat
  lb : Nat
  lg : Nat
  v : Value
def AutoIn (w : World) (g : Nat) (P l : List Txt) (B : SB) : Prop :=
  w.heap[g]? = some (.cells #[.pointer (some ⟨B.tg, 0, none⟩), .pointer (some ⟨B.lg, 0, none⟩), B.v] 96 (0, 0)) ∧ TrieAt w B.tb B.tg P (place l) ∧ LinksOf w B.lb B.lg P l ∧ w.ownsRow 0 100 3 B.v (P.length - 1) (rowCells P (P.length - 1))
def AutoAt (w : World) (g : Nat) (P l : List Txt) : Prop := ∃ B, AutoIn w g P l B
theorem AutoAt.below {w w' : World} {g : Nat} {P l : List Txt} (h : AutoAt w g P l) (hb : Below w.heap.size w w') : AutoAt w' g P l := by
  obtain ⟨B, h1, h2, h3, h4⟩ := h
  exact ⟨B, blkBelow hb h1, h2.below hb, LinksAt.below h3 hb, own_below h4 hb⟩
theorem AutoIn.keepM {w w' : World} {g : Nat} {P l : List Txt} {B : SB} {mo : Option Nat} {c : Cn} (h : AutoIn w g P l B) (hm : Mo w mo c) (hk : Keeps (OnlyM mo) w w') : AutoIn w' g P l B := by
  obtain ⟨h1, h2, h3, h4⟩ := h
  exact ⟨blk_keep h1 hk (hm.far h1 (.inl (by simp))), h2.keepM hm hk, LinksAt.keepM h3 hm hk, own_keep h4 hk (fun b c _ hb _ => hm.far hb (.inr (by decide)))⟩
theorem AutoAt.keepM {w w' : World} {g : Nat} {P l : List Txt} {mo : Option Nat} {c : Cn} (h : AutoAt w g P l) (hm : Mo w mo c) (hk : Keeps (OnlyM mo) w w') : AutoAt w' g P l := by
  obtain ⟨B, h⟩ := h
  exact ⟨B, h.keepM hm hk⟩
theorem info_row : (Tryz.prog.info? 100).map (fun i => (i.zero, i.size, i.bytes)) = some (some (.agg #[(.int .i64 0), (.int .u8 0), (.int .i64 0)]), 3, 24) := by kernel_rfl
/-- An automaton that is being made: k rows are there. -/
def AutoTo (w0 w : World) (g tg lg : Nat) (P : List Txt) (k : Nat) (v : Value) : Prop :=
  w.heap[g]? = some (.cells #[.pointer (some ⟨tg, 0, none⟩), .pointer (some ⟨lg, 0, none⟩), v] 96 (0, 0)) ∧ w.ownsRow w0.heap.size 100 3 v k (rowCells P k)
set_option maxRecDepth 100000 in
set_option maxHeartbeats 1600000 in
theorem snew_calls (w : World) (A : Option Addr) (c : Nat) (l : List Txt) (hx : Txts w A l) (hl : tot l ≤ 100000) (hll : l.length ≤ 1000000) :
    Calls Tryz.prog 27 #[.slice A l.length c] w fun e w' => ∃ g, e = .returned (.pointer (some ⟨g, 0, none⟩)) ∧ AutoAt w' g (paths l) l ∧ Below w.heap.size w w' := by
  have cb := As.mk (build_calls w A c l hx (by omega) hll)
  have hTr := As.mk (paths_tree l)
  have hPl := paths_len l
  have hlP := As.mk (fun x (hx : x ∈ l) => text_mem_paths hx)
  have hd : As (∀ p ∈ paths l, p.length ≤ 100000) := ⟨fun p hp => path_tot hl p hp⟩
  obtain ⟨P, hP⟩ : ∃ P, paths l = P := ⟨_, rfl⟩
  rw [hP] at cb hTr hPl hlP hd ⊢
  obtain ⟨n, hn⟩ : ∃ n, P.length = n := ⟨_, rfl⟩
  rw [hn] at hPl
  have hn0 := hTr.out.len
  rw [hn] at hn0
  replace hn := As.mk hn
  obtain ⟨i0, hi, hz0, hz1, hz2⟩ := info_parts info_row
  clear hx hP
  go_enter Tryz.func27, Tryz.ntmps27
  go_wp2_with fail
  refine Calls.mono cb.out ?_
  rintro e w1 ⟨tg, rfl, hT, hb1⟩
  have cl := As.mk (lbuild_calls w1 _ tg P l hT (by have := hn.out; omega) hd.out hlP.out)
  replace hT := As.mk hT
  replace hb1 := As.mk hb1
  go_wp2_with fail
  refine Calls.mono cl.out ?_
  rintro e w2 ⟨lg, rfl, hL, hb2⟩
  replace hT := As.mk (hT.out.below hb2)
  replace hL := As.mk hL
  have hB2 := As.mk (belowNext hb1.out hb2)
  have s2 := hB2.out.size
  have hT3 := As.mk (hT.out.below ((Below.refl _ _).alloc (Nat.le_refl _) (.cells #[.pointer (some ⟨tg, 0, none⟩), .pointer (some ⟨lg, 0, none⟩), .slice none 0 0] 96)))
  have hL3 := As.mk (LinksAt.below hL.out ((Below.refl _ _).alloc (Nat.le_refl _) (.cells #[.pointer (some ⟨tg, 0, none⟩), .pointer (some ⟨lg, 0, none⟩), .slice none 0 0] 96)))
  have hB3 := As.mk (hB2.out.alloc s2 (.cells #[.pointer (some ⟨tg, 0, none⟩), .pointer (some ⟨lg, 0, none⟩), .slice none 0 0] 96))
  have hA3 : As (AutoTo w (w2.alloc (.cells #[.pointer (some ⟨tg, 0, none⟩), .pointer (some ⟨lg, 0, none⟩), .slice none 0 0] 96)) w2.heap.size tg lg P 0 (.slice none 0 0)) := ⟨heap_alloc_new _ _, World.ownsRow_nil _ _ _ _⟩
  obtain ⟨gg, hgg⟩ : ∃ g, w2.heap.size = g := ⟨_, rfl⟩
  have hgw : w.heap.size ≤ gg := by omega
  clear hb2 hb1 cb cl hT hL
  go_wp2_with fail
  rw [hgg] at hA3
  go_loopg [5] (n + 1) (fun gk i wr => ∃ (k : Nat) (v : Value), As (n + 1 ≤ gk + k) ∧ 1 ≤ k ∧ k ≤ n ∧ i = .int .i64 k ∧ As (AutoTo w wr gg tg lg P (k - 1) v) ∧ As (TrieAt wr w.heap.size tg P (place l)) ∧ As (LinksOf wr w1.heap.size lg P l) ∧ As (Below w.heap.size w wr))
  case atStart => exact ⟨1, _, ⟨by omega⟩, Nat.le_refl _, by omega, rfl, hA3, hT3, hL3, hB3⟩
  case round =>
    obtain ⟨k, v, hgk, hk1, hk, rfl, hA, hT, hL, hbel⟩ := hrel
    have cN := As.mk (nodes_calls wr w.heap.size tg P (place l) hT.out)
    rw [hn.out] at cN
    by_cases hlt : k < n
    · obtain ⟨gp, rfl⟩ : ∃ gp, gk = gp + 1 := ⟨gk - 1, by have := hgk.out; omega⟩
      have hkn := As.mk hn.out
      have hkP : k < P.length := by rw [hn.out]; exact hlt
      obtain ⟨a, ea, haP, hap⟩ := parent_nat hTr.out hk1 hkP
      have hpa : pathF P (k : Int) = P.getD k [] := by unfold pathF; rw [if_pos (by omega), Int.toNat_natCast]
      have cp := As.mk (path_calls wr w.heap.size tg P (place l) hT.out (k : Int) hd.out)
      rw [hpa] at cp
      have hpl : 0 < (P.getD k []).length := List.length_pos_iff.2 (node_ne hTr.out hk1 hkP)
      have hpl2 := hd.out _ (List.mem_of_getElem? (get_at hkP))
      have hlast : (P.getD k []).getD ((P.getD k []).length - 1) 0 = lastB (P.getD k []) := last_get hpl
      have hrs := rowCells_succ P (k - 1)
      rw [show k - 1 + 1 = k by omega] at hrs
      unfold rowOf at hrs
      rw [ea] at hrs
      have hpar := As.mk (fun v (hv : TrieAt v w.heap.size tg P (place l)) => (by have := parent_calls v w.heap.size tg P (place l) hv (k : Int); unfold askF at this; rw [if_pos (by omega), Int.toNat_natCast, ea] at this; exact this : Calls Tryz.prog 45 #[.pointer (some ⟨tg, 0, none⟩), .int .i64 (k : Int)] v fun e w' => e = .returned (.int .i64 (a : Int)) ∧ v = w'))
      generalize lastB (P.getD k []) = x at *
      generalize P.getD k [] = p at *
      obtain ⟨pl, hpl3⟩ : ∃ m, p.length = m := ⟨_, rfl⟩
      rw [hpl3] at hpl hpl2 hlast
      replace hpl3 := As.mk hpl3
      replace hrs := As.mk hrs
      clear hap hpa hkP ea
      go_wp2_with (first
        | (go_at_call 43; refine Calls.mono cN.out ?_; rintro e w' ⟨rfl, rfl⟩)
        | (go_at_call 44; refine Calls.mono cp.out ?_; intro e w3 h3; obtain ⟨A3, c3, he, hc3, hr3, hb3⟩ := h3.rowc; subst he))
      obtain ⟨ad3, rfl, hx3⟩ := Byt.at_ hr3 (i := pl - 1) (by have := hpl3.out; omega)
      rw [hlast, hpl3.out] at *
      have hA3 : AutoTo w w3 gg tg lg P (k - 1) v := ⟨blkBelow hb3 hA.out.1, own_below hA.out.2 hb3⟩
      have hT3 := hT.out.below hb3
      have hL3 := LinksAt.below hL.out hb3
      have hbel3 := As.mk (belowNext hbel.out hb3)
      have s3 := hbel3.out.size
      obtain ⟨Av, cv, rfl, hcv⟩ := own_slice hA3.2
      have cpar := As.mk (hpar.out _ (hT3.below (Below.drew (Below.refl _ _))))
      have g2 : w3.cell? ⟨gg, 2, none⟩ = some (.slice Av (k - 1) cv) := cell_of_blk hA3.1 2
      have hgl := block_lt hA3.1
      have hfar : some gg ≠ (Value.slice Av (k - 1) cv).ownBlock := own_not_type hA3.2 hA3.1 (by decide)
      have hown2 := As.mk ((hA3.2.alloc (.cells #[.int .i64 (a : Int), .int .u8 (x.toNat : Int), .int .i64 (k : Int)] 100)).drew)
      have K1 := As.mk ((Below.cell (p := ⟨gg, 2, none⟩) ((Below.alloc (Below.refl w3.heap.size w3) (Nat.le_refl _) (.cells #[.int .i64 (a : Int), .int .u8 (x.toNat : Int), .int .i64 (k : Int)] 100)).drew) hgl).trans g2)
      have K2 := As.mk ((Below.frozen (p := ⟨gg, 2, none⟩) ((Below.alloc (Below.refl w3.heap.size w3) (Nat.le_refl _) (.cells #[.int .i64 (a : Int), .int .u8 (x.toNat : Int), .int .i64 (k : Int)] 100)).drew) hgl).trans (free_of_blk hA3.1 2))
      have hi1 : IntKind.i64.wrap ((pl : Int) - 1) = ((pl - 1 : Nat) : Int) := by simp only [IntKind.wrap, IntKind.signed, IntKind.bits]; simp; omega
      have hi2 : pl - 1 < pl := by omega
      have hA3' := As.mk hA3
      have hT3' := As.mk hT3
      have hL3' := As.mk hL3
      clear hr3 h3 hA3 hT3 hL3 hpar cp
      go_wp2_with fail
      go_region_law (first
        | (refine step_append_lies _ (by rfl) _ _ _ (by rfl) w.heap.size 100 i0 _ 3 24 Tryz.underlying94 hi hz0 hz1 hz2 rfl (by omega) (.slice Av (k - 1) cv) (k - 1) _ (by rfl) hown2.out
                 ⟨w3.heap.size, 0, none⟩ 1 1 [.int .i64 (a : Int), .int .u8 (x.toNat : Int), .int .i64 (k : Int)] (by rfl) (by rfl) (World.news_of_block (cs := #[.int .i64 (a : Int), .int .u8 (x.toNat : Int), .int .i64 (k : Int)]) (t := 100) (fr := (0, 0)) (heap_alloc_new w3 _)) (by simp [Value.oneCell'])
                 (by omega) (by unfold maxLen; omega) (by omega) (by simp; omega) (w3.heap.size + 1) (by simp) ?_
           intro g4 cap w4 hown4 hgrow hat hlt4
           have e0 := (hgrow.cell_far ⟨gg, 2, none⟩ (by show gg < _; simp; omega) hfar).trans K1.out
           have e1 := (hgrow.frozen_far ⟨gg, 2, none⟩ (by show gg < _; simp; omega) hfar).trans K2.out
           replace hgrow := As.mk hgrow
           replace hown4 := As.mk hown4)
        | (refine step_call_eq (by rfl) ?ho cpar.out ?_; (case ho => go_simp)))
      all_goals
        go_wp2_with fail
        have hkp : Keeps (fun q => some q = (Value.slice Av (k - 1) cv).ownBlock) w3 w4 := (Keeps.of_below (((Below.refl _ _).alloc (Nat.le_refl _) _).drew) _).trans ((Keeps.of_grown hgrow.out).mono (fun _ _ h => h))
        have hks5 := (hkp.mono (T := fun q => some q = (Value.slice Av (k - 1) cv).ownBlock ∨ q = gg) (fun _ _ h => .inl h)).trans ((keepsSt w4 ⟨gg, 2, none⟩ (.slice (some ⟨g4, 0, none⟩) (k - 1 + 1) cap)).mono (fun _ _ h => .inr h))
        have hSS : ∀ q, (some q = (Value.slice Av (k - 1) cv).ownBlock ∨ q = gg) → ∃ cs t fr, w3.heap[q]? = some (.cells cs t fr) ∧ (t = 100 ∨ t = 96) := fun q hq => by
          rcases hq with hq | rfl
          · obtain ⟨cs, h⟩ := own_cells hA3'.out.2 hq
            exact ⟨cs, _, _, h, .inl rfl⟩
          · exact ⟨_, _, _, hA3'.out.1, .inr rfl⟩
        have hT5 := hT3'.out.keepOf hks5 (fun q hq => by obtain ⟨cs, t, fr, h1, h2⟩ := hSS q hq; exact ⟨cs, t, fr, h1, by rcases h2 with rfl | rfl <;> decide, by rcases h2 with rfl | rfl <;> decide⟩)
        have hL5 := LinksAt.keepOf hL3'.out hks5 (fun q hq => by obtain ⟨cs, t, fr, h1, h2⟩ := hSS q hq; exact ⟨cs, t, fr, h1, by rcases h2 with rfl | rfl <;> decide, by rcases h2 with rfl | rfl <;> decide⟩)
        have hA4 := blk_keep hA3'.out.1 hkp hfar
        have hA5 : AutoTo w (w4.setCell ⟨gg, 2, none⟩ (.slice (some ⟨g4, 0, none⟩) (k - 1 + 1) cap)) gg tg lg P k (.slice (some ⟨g4, 0, none⟩) (k - 1 + 1) cap) := by
          refine ⟨?_, ?_⟩
          · have := blk_set hA4 2 (.slice (some ⟨g4, 0, none⟩) (k - 1 + 1) cap)
            rw [this]; simp
          · have h6 := hown4.out
            rw [← hrs.out] at h6
            have h7 := own_keep h6 (keepsSt w4 ⟨gg, 2, none⟩ (.slice (some ⟨g4, 0, none⟩) (k - 1 + 1) cap)) (fun b c' _ hb _ hS => by
              have hS : b = gg := hS
              subst hS
              rw [hA4] at hb
              injection hb with hb
              injection hb with _ hb
              exact absurd hb (by decide))
            rw [show k - 1 + 1 = k by omega] at h7 ⊢
            exact h7
        have hbel5 : Below w.heap.size w (w4.setCell ⟨gg, 2, none⟩ (.slice (some ⟨g4, 0, none⟩) (k - 1 + 1) cap)) :=
          hbel3.out.trans (hks5.below (fun q hq hS => by
            rcases hS with hS | hS
            · have := (own_blk hA3'.out.2 hS).1
              omega
            · omega) s3)
        rw [show k - 1 + 1 = k by omega] at hT5 hL5 hA5 hbel5
        go_roundg gp
        case rel => exact ⟨k + 1, _, ⟨by have := hgk.out; omega⟩, by omega, by omega, (by first | rfl | go_num | (congr 1; omega)), ⟨hA5⟩, ⟨hT5⟩, ⟨hL5⟩, ⟨hbel5⟩⟩
        case measure => omega
    · obtain rfl : k = n := by omega
      go_wp2_with (go_at_call 43; refine Calls.mono cN.out ?_; rintro e w' ⟨rfl, rfl⟩)
      go_ret
      refine ⟨gg, rfl, ⟨⟨w.heap.size, tg, w1.heap.size, lg, v⟩, hA.out.1, hT.out, hL.out, ?_⟩, hbel.out⟩
      rw [hn.out]
      exact own_base hA.out.2 (Nat.zero_le _)
end Go.Proofs.YtdiljmhikajjiaaGreat
end
section
set_option linter.unusedVariables false
set_option linter.unusedSimpArgs false
namespace Go.Proofs.YtdiljmhikajjiaaGreat
open Go.RowKit Go.Maps Seine.Trie Seine.Eng
theorem step_callR {P : Program} {ops : Array Oper} {o : Oper} {a : Act} {w : World} {K : Act → World → Prop} {Q : Exit → Act → World → Prop} {E : Prop} (hg : o.guard = none) {f : FuncId} {vals : Array Value} {R : Ending → World → Prop}
    (ho : (execOp a.eval o).run P w = .ok (.enter f vals) w) (hc : Calls P f vals w R) (h : ∀ e w', R e w' → ∃ v, e = .returned v ∧ K (a.put o.dst v) w') :
    if Region.wanted o (yielded ops a.tmps) = true then Oper.wp P o a w K Q else E := by
  have hw : Region.wanted o (yielded ops a.tmps) = true := by simp [Region.wanted, hg]
  rw [if_pos hw]
  unfold Oper.wp
  rw [ho, Oper.upon_enter]
  refine hc.mono ?_
  intro e w' hr
  obtain ⟨v, rfl, hk⟩ := h e w' hr
  exact hk
/-- append to an own row, as a step of a region that draws. -/
theorem step_app {P : Program} {ops : Array Oper} {o : Oper} {a : Act} {w : World} {K : Act → World → Prop} {Q : Exit → Act → World → Prop} {E : Prop} (hg : o.guard = none) (s x : Operand) (t : TypeId)
    (hop : o.op = Op.call { callee := Callee.builtin Builtin.append, args := #[s, x], argTypes := #[t, t] })
    (base : Nat) (e : TypeId) (z : Value) (size bytes : Nat) (ht : P.underlying t = some (.slice e)) (hi : (P.info? e).map (fun i => (i.zero, i.size, i.bytes)) = some (some z, size, bytes)) (hzs : z.cells.size = size) (hsz : 0 < size)
    (v : Value) (n : Nat) (xs : List Value) (hs : a.eval s = v) (hown : w.ownsRow base e size v n xs)
    (ad : Addr) (m c : Nat) (news : List Value) (hx : a.eval x = .slice (some ad) m c) (hn : news.length = m * size) (hc : ∀ j u, news[j]? = some u → w.cell? (ad.add j) = some u) (h1c : ∀ u ∈ news, u.oneCell' = true)
    (hlen : n + m ≤ 1000000000000) (hby : bytes ≤ 100) (hbase : base ≤ w.heap.size)
    (h : ∀ v' w', w'.ownsRow base e size v' (n + m) (xs ++ news) → Keeps (fun k => some k = v.ownBlock) w w' → Below base w w' → K (a.put o.dst v') w') :
    if Region.wanted o (yielded ops a.tmps) = true then Oper.wp P o a w K Q else E := by
  have hw : Region.wanted o (yielded ops a.tmps) = true := by simp [Region.wanted, hg]
  rw [if_pos hw]
  obtain ⟨i, hi, hz, hsize, hbytes⟩ := info_parts hi
  obtain ⟨v', w', hrun, r1, r2, _⟩ := run_append_own (P := P) w base t o.type e i z size bytes ht hi hz hsize hbytes hzs hsz v n xs hown ad m c news hn hc h1c (by simp only [maxLen]; omega) (by
    have : (n + m) * bytes ≤ (n + m) * 100 := Nat.mul_le_mul_left _ hby
    omega) hbase
  unfold Oper.wp
  simp [execOp, hop, resolve, invoke, builtin, hs, hx, hrun, Result.andThen]
  refine h v' w' r1 ((Keeps.of_grown r2).mono fun _ _ h => h) ((Below.refl base w).grown r2 hbase (fun k hk => ?_))
  rcases hown.2 with ⟨rfl, _⟩ | ⟨g, cap, cur, rfl, hg, _⟩
  · simp [Value.ownBlock] at hk
  · simp [Value.ownBlock] at hk; omega
theorem info_bs : (Tryz.prog.info? 23).map (fun i => (i.zero, i.size, i.bytes)) = some (some (.slice none 0 0), 1, 24) := by kernel_rfl
/-- Texts of one's own, in a slice of one's own. -/
def OwnPs (base : Nat) (w : World) (v : Value) (ls : List Txt) : Prop := ∃ vs : List Value, vs.length = ls.length ∧ w.ownsRow base 23 1 v ls.length vs ∧ ∀ i, i < ls.length → ∃ u, vs[i]? = some u ∧ OwnByt w base u (ls.getD i [])
theorem OwnPs.nil (base : Nat) (w : World) : OwnPs base w (.slice none 0 0) [] := ⟨[], rfl, World.ownsRow_nil _ _ _ _, fun i hi => absurd hi (Nat.not_lt_zero _)⟩
theorem OwnPs.below {base : Nat} {w w' : World} {v : Value} {ls : List Txt} (h : OwnPs base w v ls) (hb : Below w.heap.size w w') : OwnPs base w' v ls := by
  obtain ⟨vs, h1, h2, h3⟩ := h
  exact ⟨vs, h1, own_below h2 hb, fun i hi => by obtain ⟨u, a, b⟩ := h3 i hi; exact ⟨u, a, own_below b hb⟩⟩
/-- What stores into blocks of other makes leave. -/
theorem OwnPs.keep {S : Nat → Prop} {base : Nat} {w w' : World} {v : Value} {ls : List Txt} (h : OwnPs base w v ls) (hk : Keeps S w w') (hS : ∀ b, base ≤ b → S b → ∃ x, w.heap[b]? = some x ∧ ∀ c, x ≠ .cells c 23 (0, 0) ∧ x ≠ .cells c 5 (0, 0)) : OwnPs base w' v ls := by
  obtain ⟨vs, h1, h2, h3⟩ := h
  refine ⟨vs, h1, own_keep h2 hk (fun b c hb hh _ hs => ?_), fun i hi => ?_⟩
  · obtain ⟨x, e, hx⟩ := hS b hb hs
    rw [hh] at e
    injection e with e
    exact (hx c).1 e.symm
  · obtain ⟨u, a, b⟩ := h3 i hi
    refine ⟨u, a, own_keep b hk (fun b c hb hh _ hs => ?_)⟩
    obtain ⟨x, e, hx⟩ := hS b hb hs
    rw [hh] at e
    injection e with e
    exact (hx c).2 e.symm
theorem OwnPs.txts {base : Nat} {w : World} {v : Value} {ls : List Txt} (h : OwnPs base w v ls) : ∃ A c, v = .slice A ls.length c ∧ ls.length ≤ c ∧ Txts w A ls := by
  obtain ⟨vs, hl, ho, hbv⟩ := h
  obtain ⟨A, c, rfl, hc⟩ := own_slice ho
  refine ⟨A, c, rfl, hc, vs, hl, Row.of_own ho, fun i hi => ?_⟩
  obtain ⟨u, a, b⟩ := hbv i hi
  obtain ⟨A', c', rfl, hc'⟩ := own_slice b
  exact ⟨A', c', a, hc', Row.of_own b⟩
theorem getD_snoc_lt {ls : List Txt} {t : Txt} {i : Nat} (h : i < ls.length) : (ls ++ [t]).getD i [] = ls.getD i [] := by rw [List.getD_eq_getElem?_getD, List.getElem?_append_left h, ← List.getD_eq_getElem?_getD]
theorem getD_snoc_eq {ls : List Txt} {t : Txt} : (ls ++ [t]).getD ls.length [] = t := by rw [List.getD_eq_getElem?_getD, List.getElem?_append_right (Nat.le_refl _)]; simp
/-- Behind an append of one's own text. -/
theorem OwnPs.snoc {base : Nat} {w w' : World} {v v' u : Value} {ls : List Txt} {t : Txt} {vs : List Value} (hl : vs.length = ls.length) (hb : ∀ i, i < ls.length → ∃ u, vs[i]? = some u ∧ OwnByt w base u (ls.getD i []))
    (hu : OwnByt w base u t) (hv : w.ownsRow base 23 1 v ls.length vs) (hk : Keeps (fun k => some k = v.ownBlock) w w') (ho : w'.ownsRow base 23 1 v' (ls.length + 1) (vs ++ [u])) : OwnPs base w' v' (ls ++ [t]) := by
  have hfar : ∀ b c, w.heap[b]? = some (.cells c 5 (0, 0)) → ¬ some b = v.ownBlock := fun b c hh hs => by
    obtain ⟨c', h⟩ := own_cells hv hs
    rw [hh] at h
    injection h with h
    injection h with _ h
    exact absurd h (by decide)
  refine ⟨vs ++ [u], by simp [hl], by rw [List.length_append]; exact ho, fun i hi => ?_⟩
  rw [List.length_append, List.length_singleton] at hi
  by_cases h : i < ls.length
  · obtain ⟨x, a, b⟩ := hb i h
    rw [getD_snoc_lt h]
    exact ⟨x, by rw [List.getElem?_append_left (by omega)]; exact a, own_keep b hk (fun b c _ hh _ => hfar b c hh)⟩
  · obtain rfl : i = ls.length := by omega
    rw [getD_snoc_eq]
    exact ⟨u, by rw [← hl, List.getElem?_append_right (Nat.le_refl _)]; simp, own_keep hu hk (fun b c _ hh _ => hfar b c hh)⟩
/-- The keys are the texts. -/
def SetMap (ps : List Txt) (f : Value → Option Int) : Prop := ∀ t : Txt, t.length ≤ 1000000 → ((f (.string (bb t))).isSome = true ↔ t ∈ ps)
theorem SetMap.snoc {ps : List Txt} {f f' : Value → Option Int} {t : Txt} {n : Int} (h : SetMap ps f) (h1 : f' (.string (bb t)) = some n) (h2 : ∀ x, x ≠ .string (bb t) → f' x = f x) : SetMap (ps ++ [t]) f' := fun s hs => by
  by_cases e : s = t
  · subst e; rw [h1]; simp
  · rw [h2 _ (fun h' => e (by injection h' with h'; exact bb_inj h')), h s hs]; simp [e]
theorem str_law : Keyed Tryz.prog 9 := Keyed.of_law (WideMaps.string_law Tryz.underlying9)
theorem str_key (t : Txt) (h : t.length ≤ 1000000) : ∃ kl, keyOf Tryz.prog 9 (.string (bb t)) = some kl := ⟨_, WideMaps.keyOf_string_mk Tryz.underlying9 (by rw [bb_size]; unfold maxLen; omega)⟩
/-- A set of patterns, by value. -/
def PsAt (w : World) (base : Nat) (V : Value) (l : List Txt) : Prop :=
  ∃ v mb n f, V = .agg #[v, .map (some mb), .bool (decide ([] ∈ l))] ∧ OwnPs base w v (pset l) ∧ MapIs Tryz.prog 9 3 w mb n f ∧ SetMap (pset l) f
theorem PsAt.below {w w' : World} {base : Nat} {V : Value} {l : List Txt} (h : PsAt w base V l) (hb : Below w.heap.size w w') : PsAt w' base V l := by
  obtain ⟨v, mb, n, f, h1, h2, h3, h4⟩ := h
  exact ⟨v, mb, n, f, h1, h2.below hb, h3.below hb, h4⟩
/-- Patterns that are being made: k texts have been read; the set's block, its map's. -/
structure PsTo (w0 w : World) (gs mb : Nat) (l : List Txt) (k n : Nat) (v : Value) (f : Value → Option Int) : Prop where
  blk : w.heap[gs]? = some (.cells #[v, .map (some mb), .bool (decide ([] ∈ l.take k))] 30 (0, 0))
  row : OwnPs w0.heap.size w v (pset (l.take k))
  map : MapIs Tryz.prog 9 3 w mb n f
  key : SetMap (pset (l.take k)) f
  bel : Below w0.heap.size w0 w
theorem emp_take {l : List Txt} {k : Nat} (h : k < l.length) : decide (([] : Txt) ∈ l.take (k + 1)) = (decide (([] : Txt) ∈ l.take k) || decide (l.getD k [] = [])) := by
  have e : l.getD k [] = l[k] := by simp [h]
  rw [List.take_succ_eq_append_getElem h, e, Bool.eq_iff_iff, decide_eq_true_iff, Bool.or_eq_true, decide_eq_true_iff, decide_eq_true_iff, List.mem_append, List.mem_singleton]
  exact ⟨Or.imp id Eq.symm, Or.imp id Eq.symm⟩
set_option maxRecDepth 100000 in
set_option maxHeartbeats 1600000 in
theorem pof_calls (w : World) (A : Option Addr) (c : Nat) (l : List Txt) (hx : Txts w A l) (hl : ∀ t ∈ l, t.length ≤ 1000000) (hll : l.length ≤ 1000000) :
    Calls Tryz.prog 10 #[.slice A l.length c] w fun e w' => ∃ V, e = .returned V ∧ PsAt w' w.heap.size V l ∧ Below w.heap.size w w' := by
  have HX := As.mk hx
  have HL := As.mk hl
  have hmm := @run_makeMap Tryz.prog
  obtain ⟨n, hn⟩ : ∃ n, l.length = n := ⟨_, rfl⟩
  rw [hn] at hll ⊢
  replace hn := As.mk hn
  clear hx hl
  go_enter Tryz.func10, Tryz.ntmps10
  go_wp2
  obtain ⟨g0, hg0⟩ : ∃ g, w.heap.size = g := ⟨_, rfl⟩
  have z2 : (((w.alloc (.cells #[.slice none 0 0, .map none, .bool false] 30)).alloc (.map #[] 0)).alloc (.cells #[.slice none 0 0, .map (some (w.heap.size + 1)), .bool false] 30)).heap[g0 + 1 + 1]? = some (.cells #[.slice none 0 0, .map (some (g0 + 1)), .bool false] 30 (0, 0)) := by
    rw [← hg0]
    have := heap_alloc_new ((w.alloc (.cells #[.slice none 0 0, .map none, .bool false] 30)).alloc (.map #[] 0)) (.cells #[.slice none 0 0, .map (some (w.heap.size + 1)), .bool false] 30)
    simpa using this
  have z0 : (((w.alloc (.cells #[.slice none 0 0, .map none, .bool false] 30)).alloc (.map #[] 0)).alloc (.cells #[.slice none 0 0, .map (some (w.heap.size + 1)), .bool false] 30)).heap[g0]? = some (.cells #[.slice none 0 0, .map none, .bool false] 30 (0, 0)) := by
    rw [← hg0]; exact blk_old (blk_old (heap_alloc_new _ _))
  have zm : MapIs Tryz.prog 9 3 (((w.alloc (.cells #[.slice none 0 0, .map none, .bool false] 30)).alloc (.map #[] 0)).alloc (.cells #[.slice none 0 0, .map (some (w.heap.size + 1)), .bool false] 30)) (g0 + 1) 0 (fun _ => none) := by
    have := (MapIs.made (w.alloc (.cells #[.slice none 0 0, .map none, .bool false] 30)) Tryz.prog 9 3).below ((Below.refl _ _).alloc (Nat.le_refl _) (.cells #[.slice none 0 0, .map (some (w.heap.size + 1)), .bool false] 30))
    simpa [hg0] using this
  have zB : Below w.heap.size w (((w.alloc (.cells #[.slice none 0 0, .map none, .bool false] 30)).alloc (.map #[] 0)).alloc (.cells #[.slice none 0 0, .map (some (w.heap.size + 1)), .bool false] 30)) := (((Below.refl _ _).alloc (Nat.le_refl _) _).alloc (by simp) _).alloc (by simp; omega) _
  obtain ⟨W0, hW0⟩ : ∃ W, (((w.alloc (.cells #[.slice none 0 0, .map none, .bool false] 30)).alloc (.map #[] 0)).alloc (.cells #[.slice none 0 0, .map (some (w.heap.size + 1)), .bool false] 30)) = W := ⟨_, rfl⟩
  rw [hW0] at z0 z2 zm zB ⊢
  rw [hg0]
  have hp0 : As (PsTo w W0 (g0 + 1 + 1) (g0 + 1) l 0 0 (.slice none 0 0) (fun _ => none)) := ⟨⟨by simpa using z2, by simpa [pset_nil] using OwnPs.nil _ _, zm, fun t _ => by simp [pset_nil], zB⟩⟩
  replace z0 := As.mk z0
  replace hg0 := As.mk hg0
  clear z2 zm zB hW0
  go_loopg [12] (n + 1) (fun gk i wr => ∃ (k m : Nat) (v : Value) (f : Value → Option Int), As (n + 1 ≤ gk + k) ∧ m ≤ k ∧ k ≤ n ∧ i = .int .i64 k ∧ As (PsTo w wr (g0 + 1 + 1) (g0 + 1) l k m v f) ∧ As (wr.heap[g0]? = some (.cells #[.slice none 0 0, .map none, .bool false] 30 (0, 0))))
  case atStart => exact ⟨0, 0, _, _, ⟨by omega⟩, Nat.le_refl _, Nat.zero_le _, rfl, hp0, z0⟩
  case round =>
    obtain ⟨k, m, v, f, hgk, hmk, hk, rfl, hp, hz⟩ := hrel
    obtain ⟨pb, pr, pm, pk, pB⟩ := hp.out
    by_cases hlt : k < n
    · obtain ⟨gp, rfl⟩ : ∃ gp, gk = gp + 1 := ⟨gk - 1, by have := hgk.out; omega⟩
      have hkl : k < l.length := by rw [hn.out]; exact hlt
      obtain ⟨ad, A', c', rfl, ca0, hc', hrw⟩ := HX.out.at_ hkl
      have ca := (pB.cell (p := ad.add k) (World.block_lt_of_cell? w _ ca0)).trans ca0
      clear ca0
      have hpt := pset_take hkl
      have het := emp_take hkl
      have htl := HL.out (l.getD k []) (by rw [List.getD_eq_getElem?_getD, List.getElem?_eq_getElem hkl]; exact List.getElem_mem hkl)
      obtain ⟨t, ht⟩ : ∃ t, l.getD k [] = t := ⟨_, rfl⟩
      rw [ht] at ca hc' hrw hpt het htl
      have hpl := pset_len (l.take k)
      rw [List.length_take] at hpl
      obtain ⟨ps, hps⟩ : ∃ ps, pset (l.take k) = ps := ⟨_, rfl⟩
      rw [hps] at hpt pr pk hpl
      obtain ⟨e0, he0⟩ : ∃ e, decide (([] : Txt) ∈ l.take k) = e := ⟨_, rfl⟩
      rw [he0] at pb het
      have b0 : wr.cell? ⟨g0 + 1 + 1, 0, none⟩ = some v := cell_of_blk pb 0
      have b1 : wr.cell? ⟨g0 + 1 + 1, 1, none⟩ = some (.map (some (g0 + 1))) := cell_of_blk pb 1
      have b2 : wr.cell? ⟨g0 + 1 + 1, 2, none⟩ = some (.bool e0) := cell_of_blk pb 2
      have f2 : wr.frozen? ⟨g0 + 1 + 1, 2, none⟩ = false := free_of_blk pb 2
      obtain ⟨tl, htl2⟩ : ∃ k, t.length = k := ⟨_, rfl⟩
      by_cases hte : t = []
      · have h0 : tl = 0 := by rw [← htl2, hte]; rfl
        rw [htl2, h0] at ca
        have hpt' : pset (l.take (k + 1)) = ps := by rw [hpt]; unfold addP; rw [if_pos (.inl hte)]
        have hk9 : Keeps (fun q => q = g0 + 1 + 1) wr (wr.setCell ⟨g0 + 1 + 1, 2, none⟩ (.bool true)) := (keepsSt wr ⟨g0 + 1 + 1, 2, none⟩ _).mono fun _ _ h => h
        have hp9 : As (PsTo w (wr.setCell ⟨g0 + 1 + 1, 2, none⟩ (.bool true)) (g0 + 1 + 1) (g0 + 1) l (k + 1) m v f) := ⟨⟨by
          have := blk_set pb 2 (.bool true)
          rw [this, het, hte]; simp, by
          rw [hpt']; exact pr.keep hk9 (fun b _ hb => ⟨_, hb ▸ pb, fun c => ⟨by simp, by simp⟩⟩), pm.keep hk9 (by show ¬ (g0 + 1 = g0 + 1 + 1); omega), by rw [hpt']; exact pk, pB.setCell (p := ⟨g0 + 1 + 1, 2, none⟩) (by rw [hg0.out]; show g0 ≤ g0 + 1 + 1; omega) _⟩⟩
        have hz9 : As ((wr.setCell ⟨g0 + 1 + 1, 2, none⟩ (.bool true)).heap[g0]? = some (.cells #[.slice none 0 0, .map none, .bool false] 30 (0, 0))) := ⟨blk_far (p := ⟨g0 + 1 + 1, 2, none⟩) hz.out (by show g0 ≠ g0 + 1 + 1; omega) _⟩
        replace pb := As.mk pb
        clear hpt hpt' het pr pm pk pB hk9 hrw he0 b0 b1 hte htl htl2 hp hpl
        go_wp2_with fail
        go_roundg gp
        case rel => exact ⟨k + 1, m, v, f, ⟨by have := hgk.out; omega⟩, by omega, hlt, (by first | rfl | go_num | (congr 1; omega)), hp9, hz9⟩
        case measure => exact Nat.lt_succ_self _
      · have htn : ¬ tl = 0 := fun e => hte (List.eq_nil_of_length_eq_zero (by omega))
        have htn2 : ((tl : Int) == 0) = false := by simp; omega
        have hee : decide (t = []) = false := decide_eq_false hte
        rw [hee, Bool.or_false] at het
        obtain ⟨kl, hkey⟩ := str_key t htl
        have hcv := conv_byt (c := c') Tryz.underlying23 (Row.below hrw pB) (by omega : t.length ≤ 9223372036854775807)
        have hlk := pm.look str_law Tryz.underlying28 Tryz.underlying3 (zero_int _) hkey
        have hisS := pk t htl
        rw [htl2] at ca hcv hc'
        obtain ⟨sT, hsT⟩ : ∃ s, bb t = s := ⟨_, rfl⟩
        rw [hsT] at hcv hlk hkey hisS
        by_cases hin : t ∈ ps
        · have hpt' : pset (l.take (k + 1)) = ps := by rw [hpt]; unfold addP; rw [if_pos (.inr hin)]
          rw [hisS.2 hin] at hlk
          generalize (f (.string sT)).getD 0 = r at hlk
          have hp9 : As (PsTo w wr (g0 + 1 + 1) (g0 + 1) l (k + 1) m v f) := ⟨⟨by rw [het]; exact pb, by rw [hpt']; exact pr, pm, by rw [hpt']; exact pk, pB⟩⟩
          replace pb := As.mk pb
          clear hpt hpt' het pr pm pk pB hrw he0 b0 b2 f2 hte htl htl2 hp hpl hin hisS hkey hee htn
          go_wp2_with fail
          go_roundg gp
          case rel => exact ⟨k + 1, m, v, f, ⟨by have := hgk.out; omega⟩, by omega, hlt, (by first | rfl | go_num | (congr 1; omega)), hp9, hz⟩
          case measure => exact Nat.lt_succ_self _
        · have hpt' : pset (l.take (k + 1)) = ps ++ [t] := by
            rw [hpt]; unfold addP; rw [if_neg]; rintro (e | e)
            · exact hte e
            · exact hin e
          have hfn : (f (.string sT)).isSome = false := by
            cases h : (f (.string sT)).isSome
            · rfl
            · exact absurd (hisS.1 h) hin
          rw [hfn] at hlk
          generalize (f (.string sT)).getD 0 = r at hlk
          obtain ⟨pn, hpn⟩ : ∃ k, ps.length = k := ⟨_, rfl⟩
          rw [hpn] at hpl
          classical
          obtain ⟨w4, hrun, hm4, hg4⟩ := MapIs.put pm str_law Tryz.underlying28 Tryz.underlying3 (by unfold maxLen; omega) hkey (v := (pn : Int)) (by simp [Lit.wf, IntKind.min, IntKind.max, IntKind.signed, IntKind.bits]; omega)
            (f' := fun y => if y = .string sT then some (pn : Int) else f y) (if_pos rfl) (fun y hy => if_neg hy)
          have hk4 : As (SetMap (ps ++ [t]) (fun y => if y = .string sT then some (pn : Int) else f y)) := ⟨pk.snoc (by rw [hsT]; exact if_pos rfl) (fun x hx => by rw [hsT] at hx; exact if_neg hx)⟩
          obtain ⟨es, cl, hmes⟩ := pm.is_map
          have hkg := Keeps.of_grown hg4
          have hr4 := pr.keep hkg (fun b _ hb => by injection hb with hb; subst hb; exact ⟨_, hmes, fun c => ⟨by simp, by simp⟩⟩)
          have pb4 := blk_keep pb hkg (fun e => by injection e with e; omega)
          have hz4 := As.mk (blk_keep hz.out hkg (fun e => by injection e with e; omega))
          have hB4 : Below w.heap.size w w4 := pB.grown hg4 pB.size (fun q hq => by injection hq with hq; have := hg0.out; omega)
          obtain ⟨vs, hvl, hvo, hvb⟩ := hr4
          obtain ⟨A2, c2, rfl, hc2⟩ := own_slice hvo
          rw [hpn] at hvl hvo hc2 b0 pb4
          have hcl := As.mk (fun (v : World) (hv : Below w.heap.size w v) => (by have := cloneByt2_calls v A' c' t (Row.below hrw hv) htl; rw [htl2] at this; exact this : Calls Tryz.prog 26 #[.slice A' tl c'] v (RetByt v t)))
          have c40 : w4.cell? ⟨g0 + 1 + 1, 0, none⟩ = some (.slice A2 pn c2) := cell_of_blk pb4 0
          have hgl4 := block_lt pb4
          have hm4' := As.mk hm4
          replace hvo := As.mk hvo
          replace hvb := As.mk hvb
          replace hvl := As.mk hvl
          replace pb4 := As.mk pb4
          replace hpt' := As.mk hpt'
          replace hB4 := As.mk hB4
          replace pb := As.mk pb
          replace hpn := As.mk hpn
          replace het := As.mk het
          replace htl2 := As.mk htl2
          clear hpt pr pm pk pB hrw he0 b2 f2 hte htl hp hin hisS hkey hee htn hm4 hg4 hkg hmes hfn hps ht
          go_wp2_with fail
          have hs4 := hB4.out.size
          go_region_law (first
            | (refine step_app (by rfl) (.tmp 38) (.tmp 41) 22 (by rfl) w.heap.size 23 _ 1 24 Tryz.underlying22 info_bs rfl (by decide) (.slice A2 pn c2) pn vs (by rfl) hown5.out ⟨w5.heap.size, 0, none⟩ 1 1 [.slice A5 tl c5] (by rfl) (by rfl) hnews.out (by simp [Value.oneCell']) (by omega) (by decide) (by simp; omega) ?_
               intro v6 w6 ho6 hk6 hb6
               obtain ⟨A6, c6, rfl, hc6⟩ := own_slice ho6
               have e0 := (hk6.cell (p := ⟨g0 + 1 + 1, 0, none⟩) (by show g0 + 1 + 1 < _; simp; omega) hfar5).trans a50
               have e1 := free_of_blk (blk_keep (blk_old pb5.out) hk6 hfar5) 0
               replace ho6 := As.mk ho6
               replace hk6 := As.mk hk6
               replace hb6 := As.mk hb6)
            | (refine step_callR (by rfl) ?ho (hcl.out _ ?hv) ?_
               case ho => go_simp
               case hv => exact hB4.out.drew
               intro e w5 h5
               obtain ⟨v5, he5, ho5, hb5⟩ := h5.open_
               have hb5' : Below w4.heap.size w4 w5 := ((Below.refl _ _).drew).trans hb5
               obtain ⟨A5, c5, hv5, hc5⟩ := own_slice ho5
               rw [htl2.out] at hv5 hc5
               subst hv5
               refine ⟨_, he5, ?_⟩
               have hs5 := hb5'.size
               have pb5 := As.mk (blkBelow hb5' pb4.out)
               have c50 : w5.cell? ⟨g0 + 1 + 1, 0, none⟩ = some (.slice A2 pn c2) := cell_of_blk pb5.out 0
               have a50 : (w5.alloc (.cells #[.slice A5 tl c5] 23)).cell? ⟨g0 + 1 + 1, 0, none⟩ = some (.slice A2 pn c2) := cell_of_blk (blk_old pb5.out) 0
               have hown5 := As.mk ((own_below hvo.out hb5').alloc (.cells #[.slice A5 tl c5] 23))
               have hnews := As.mk (World.news_of_block (cs := #[.slice A5 tl c5]) (t := 23) (fr := (0, 0)) (heap_alloc_new w5 _))
               have hfar5 := own_not_type hown5.out (blk_old pb5.out) (by decide)
               replace hb5' := As.mk hb5'
               replace ho5 := As.mk ho5
               clear hb5 h5))
          all_goals
            go_wp2_with fail
            have hOw : OwnPs w.heap.size w6 (.slice A6 (pn + 1) c6) (ps ++ [t]) := by
              have hvl' : vs.length = ps.length := by rw [hvl.out, hpn.out]
              refine OwnPs.snoc (w := w5.alloc (.cells #[.slice A5 tl c5] 23)) (vs := vs) (u := .slice A5 tl c5) (v := .slice A2 pn c2) hvl' (fun i hi => ?_) (own_base (own_below ho5.out ((Below.refl _ _).alloc (Nat.le_refl _) _)) (by simp; omega)) (by rw [hpn.out]; exact hown5.out) hk6.out (by rw [hpn.out]; exact ho6.out)
              obtain ⟨u, hu, huo⟩ := hvb.out i hi
              exact ⟨u, hu, own_below (own_below huo hb5'.out) ((Below.refl _ _).alloc (Nat.le_refl _) _)⟩
            have hkA : Keeps (fun q => some q = (Value.slice A2 pn c2).ownBlock) w4 w6 := (Keeps.of_below (hb5'.out.alloc hb5'.out.size _) _).trans hk6.out
            have hk9 : Keeps (fun q => q = g0 + 1 + 1) w6 (w6.setCell ⟨g0 + 1 + 1, 0, none⟩ (.slice A6 (pn + 1) c6)) := (keepsSt w6 ⟨g0 + 1 + 1, 0, none⟩ _).mono fun _ _ h => h
            have hfA := own_not_type hvo.out pb4.out (by decide)
            have pb6 := blk_keep pb4.out hkA hfA
            have hmf : ¬ some (g0 + 1) = (Value.slice A2 pn c2).ownBlock := fun e => by
              obtain ⟨es4, cl4, h4⟩ := hm4'.out.is_map
              obtain ⟨c, h⟩ := own_cells hvo.out e
              rw [h4] at h
              injection h with h
              cases h
            have hz6 := blk_keep hz4.out hkA (own_not_type hvo.out hz4.out (by decide))
            have hB6 : Below w.heap.size w w6 := (hB4.out.trans (hb5'.out.mono hs4)).alloc (by omega) _ |>.trans hb6.out
            go_roundg gp
            case measure => exact Nat.lt_succ_self _
            case rel =>
              refine ⟨k + 1, m + 1, .slice A6 (pn + 1) c6, _, ⟨by have := hgk.out; omega⟩, by omega, hlt, (by first | rfl | go_num | (congr 1; omega)), ⟨⟨?_, ?_, (hm4'.out.keep hkA hmf).keep hk9 (by show ¬ (g0 + 1 = g0 + 1 + 1); omega), by rw [hpt'.out]; exact hk4.out, hB6.setCell (p := ⟨g0 + 1 + 1, 0, none⟩) (by rw [hg0.out]; show g0 ≤ g0 + 1 + 1; omega) _⟩⟩, ⟨blk_far (p := ⟨g0 + 1 + 1, 0, none⟩) hz6 (by show g0 ≠ g0 + 1 + 1; omega) _⟩⟩
              · have := blk_set pb6 0 (.slice A6 (pn + 1) c6)
                rw [this, het.out]; simp
              · rw [hpt'.out]; exact hOw.keep hk9 (fun b _ hb => ⟨_, hb ▸ pb6, fun c => ⟨by simp, by simp⟩⟩)
    · obtain rfl : k = n := by omega
      have htk : l.take k = l := by rw [← hn.out, List.take_length]
      rw [htk] at pb pr pk
      obtain ⟨e0, he0⟩ : ∃ e, decide (([] : Txt) ∈ l) = e := ⟨_, rfl⟩
      rw [he0] at pb
      have b0 : wr.cell? ⟨g0 + 1 + 1, 0, none⟩ = some v := cell_of_blk pb 0
      have b1 : wr.cell? ⟨g0 + 1 + 1, 1, none⟩ = some (.map (some (g0 + 1))) := cell_of_blk pb 1
      have b2 : wr.cell? ⟨g0 + 1 + 1, 2, none⟩ = some (.bool e0) := cell_of_blk pb 2
      obtain ⟨vs, hvl, hvo, hvb⟩ := pr
      obtain ⟨A2, c2, rfl, hc2⟩ := own_slice hvo
      have pr : OwnPs w.heap.size wr (.slice A2 (pset l).length c2) (pset l) := ⟨vs, hvl, hvo, hvb⟩
      obtain ⟨pn, hpn⟩ : ∃ k, (pset l).length = k := ⟨_, rfl⟩
      rw [hpn] at pr b0
      have q0 : wr.cell? ⟨g0, 0, none⟩ = some (.slice none 0 0) := cell_of_blk hz.out 0
      have q1 : wr.cell? ⟨g0, 1, none⟩ = some (.map none) := cell_of_blk hz.out 1
      have q2 : wr.cell? ⟨g0, 2, none⟩ = some (.bool false) := cell_of_blk hz.out 2
      have k0 : wr.frozen? ⟨g0, 0, none⟩ = false := free_of_blk hz.out 0
      have k1 : wr.frozen? ⟨g0, 1, none⟩ = false := free_of_blk hz.out 1
      have k2 : wr.frozen? ⟨g0, 2, none⟩ = false := free_of_blk hz.out 2
      replace he0 := As.mk he0
      replace hpn := As.mk hpn
      replace pb := As.mk pb
      replace hp := As.mk hp.out
      replace pr := As.mk pr
      replace pm := As.mk pm
      replace pk := As.mk pk
      replace pB := As.mk pB
      clear hvl hvo hvb hc2 hp htk
      go_wp2_with fail
      have s0 := blk_set hz.out 0 (.slice A2 pn c2)
      have s1 := blk_set s0 1 (.map (some (g0 + 1)))
      have s2 := blk_set s1 2 (.bool e0)
      have hk9 : Keeps (fun q => q = g0) wr (((wr.setCell ⟨g0, 0, none⟩ (.slice A2 pn c2)).setCell ⟨g0, 1, none⟩ (.map (some (g0 + 1)))).setCell ⟨g0, 2, none⟩ (.bool e0)) :=
        (((keepsSt wr ⟨g0, 0, none⟩ _).mono fun _ _ h => h).trans ((keepsSt _ ⟨g0, 1, none⟩ _).mono fun _ _ h => h)).trans ((keepsSt _ ⟨g0, 2, none⟩ _).mono fun _ _ h => h)
      have hB9 : Below w.heap.size w (((wr.setCell ⟨g0, 0, none⟩ (.slice A2 pn c2)).setCell ⟨g0, 1, none⟩ (.map (some (g0 + 1)))).setCell ⟨g0, 2, none⟩ (.bool e0)) := by
        rw [hg0.out]
        have h9 := pB.out
        rw [hg0.out] at h9
        exact ((h9.setCell (p := ⟨g0, 0, none⟩) (Nat.le_refl _) _).setCell (p := ⟨g0, 1, none⟩) (Nat.le_refl _) _).setCell (p := ⟨g0, 2, none⟩) (Nat.le_refl _) _
      refine bodyPost_ret (v := .agg #[.slice A2 pn c2, .map (some (g0 + 1)), .bool e0]) (results_cell_row (p := 2) (ty := 30) rfl _ _ g0 _ #[.slice A2 pn c2, .map (some (g0 + 1)), .bool e0] _ _ rfl (show _ = some (Obj.cells #[.slice A2 pn c2, .map (some (g0 + 1)), .bool e0] 30 (0, 0)) by rw [s2]; simp) Tryz.underlying30 rfl (by kernel_rfl)) rfl ⟨_, rfl, ⟨.slice A2 pn c2, g0 + 1, m, f, by rw [he0.out], pr.out.keep hk9 (fun b _ hb => ⟨_, hb ▸ hz.out, fun c => ⟨by simp, by simp⟩⟩), pm.out.keep hk9 (by show ¬ (g0 + 1 = g0); omega), pk.out⟩, hB9⟩
theorem pempty_calls (w : World) (base : Nat) (V : Value) (l : List Txt) (h : PsAt w base V l) : Calls Tryz.prog 24 #[V] w fun e w' => e = .returned (.bool (decide ([] ∈ l))) ∧ Below w.heap.size w w' := by
  obtain ⟨v, mb, n, f, rfl, h2, _, _⟩ := h
  obtain ⟨A, c, rfl, hc, ht⟩ := h2.txts
  obtain ⟨e0, he0⟩ : ∃ e, decide (([] : Txt) ∈ l) = e := ⟨_, rfl⟩
  rw [he0]
  have hB : ∀ o, Below w.heap.size w (w.alloc o) := fun o => (Below.refl _ _).alloc (Nat.le_refl _) _
  clear ht h2
  go_enter Tryz.func24, Tryz.ntmps24
  go_wp2
  go_ret
  exact ⟨rfl, hB _⟩
theorem pleast_calls (w : World) (base : Nat) (V : Value) (l : List Txt) (h : PsAt w base V l) (hl : ∀ t ∈ l, t.length ≤ 1000000) (hll : l.length ≤ 1000000) : Calls Tryz.prog 33 #[V] w fun e w' => e = .returned (.int .i64 (leastP (pset l) : Int)) ∧ Below w.heap.size w w' := by
  obtain ⟨v, mb, n, f, rfl, h2, _, _⟩ := h
  obtain ⟨A, c, rfl, hc, ht⟩ := h2.txts
  generalize decide (([] : Txt) ∈ l) = e0
  have hsl : As (∀ t ∈ pset l, t.length ≤ 1000000) := ⟨fun t ht => hl t (mem_pset.1 ht).1⟩
  have hpl := pset_len l
  obtain ⟨ps, hps⟩ : ∃ ps, pset l = ps := ⟨_, rfl⟩
  rw [hps] at ht hsl hc hpl ⊢
  obtain ⟨pn, hpn⟩ : ∃ k, ps.length = k := ⟨_, rfl⟩
  rw [hpn] at hc hpl ⊢
  have hz := heap_alloc_new w (.cells #[.slice A pn c, .map (some mb), .bool e0] 30)
  have hB : Below w.heap.size w (w.alloc (.cells #[.slice A pn c, .map (some mb), .bool e0] 30)) := (Below.refl _ _).alloc (Nat.le_refl _) _
  have HT := As.mk (ht.below hB)
  obtain ⟨gb, hgb⟩ : ∃ g, w.heap.size = g := ⟨_, rfl⟩
  obtain ⟨W1, hW1⟩ : ∃ W, w.alloc (.cells #[.slice A pn c, .map (some mb), .bool e0] 30) = W := ⟨_, rfl⟩
  rw [hgb] at hz hB
  rw [hW1] at hz hB HT
  have c0 : W1.cell? ⟨gb, 0, none⟩ = some (.slice A pn c) := cell_of_blk hz 0
  replace hz := As.mk hz
  replace hB := As.mk hB
  obtain ⟨R, hR⟩ : ∃ R, leastP ps = R := ⟨_, rfl⟩
  rw [hR]
  replace hR := As.mk hR
  replace hpn := As.mk hpn
  replace hps := As.mk hps
  clear ht h2 hl
  go_enter Tryz.func33, Tryz.ntmps33
  go_wp2_with (first | (rw [hW1]) | (rw [hgb]))
  go_loopw [3, 9] (fun v i wr => ∃ k : Nat, k ≤ pn ∧ i = .int .i64 k ∧ v = .int .i64 (leastP (ps.take k) : Int) ∧ wr = W1) (fun _ i _ => pn - (intOf i).toNat)
  case atStart => exact ⟨0, Nat.zero_le _, rfl, rfl, by first | rfl | exact hW1⟩
  case round =>
    obtain ⟨k, hk, rfl, rfl, rfl⟩ := hrel
    by_cases hlt : k < pn
    · have hkl : k < ps.length := by rw [hpn.out]; exact hlt
      obtain ⟨ad, A', c', rfl, ca, hc', hrw⟩ := HT.out.at_ hkl
      have hnx := As.mk (leastP_take hkl)
      have htl := hsl.out (ps.getD k []) (by rw [List.getD_eq_getElem?_getD, List.getElem?_eq_getElem hkl]; exact List.getElem_mem hkl)
      generalize ps.getD k [] = t at *
      obtain ⟨tl, htl2⟩ : ∃ k, t.length = k := ⟨_, rfl⟩
      obtain ⟨m, hm⟩ : ∃ m, leastP (ps.take k) = m := ⟨_, rfl⟩
      rw [hm] at hnx ⊢
      rw [htl2] at ca hc' htl
      have hnx2 : As (leastP (ps.take (k + 1)) = if m = 0 ∨ tl < m then tl else m) := ⟨by rw [hnx.out, ← htl2]; rfl⟩
      clear hrw hnx htl2 hm
      by_cases h0 : m = 0
      · subst h0
        go_wp2_with fail
        go_roundw
        case rel => exact ⟨k + 1, by omega, (by first | rfl | go_num | (congr 1; omega)), by rw [hnx2.out, if_pos (.inl rfl)], by first | rfl | trivial⟩
        case measure => simp [intOf]; omega
      · have e1 : ((m : Int) == 0) = false := by simp; exact h0
        by_cases h1 : tl < m
        · have e2 : decide ((tl : Int) < (m : Int)) = true := decide_eq_true (by omega)
          go_wp2_with fail
          go_roundw
          case rel => exact ⟨k + 1, by omega, (by first | rfl | go_num | (congr 1; omega)), by rw [hnx2.out, if_pos (.inr h1)], by first | rfl | trivial⟩
          case measure => simp [intOf]; omega
        · have e2 : decide ((tl : Int) < (m : Int)) = false := decide_eq_false (by omega)
          go_wp2_with fail
          go_roundw
          case rel => exact ⟨k + 1, by omega, (by first | rfl | go_num | (congr 1; omega)), by rw [hnx2.out, if_neg (by omega)], by first | rfl | trivial⟩
          case measure => simp [intOf]; omega
    · obtain rfl : k = pn := by omega
      have htk : As (ps.take k = ps) := ⟨by rw [← hpn.out, List.take_length]⟩
      rw [htk.out, hR.out]
      go_wp2_with fail
      go_ret
      exact ⟨rfl, by first | exact hB.out | (rw [hgb]; exact hB.out)⟩
end Go.Proofs.YtdiljmhikajjiaaGreat
end
section
set_option linter.unusedVariables false
set_option linter.unusedSimpArgs false
namespace Go.Proofs.YtdiljmhikajjiaaGreat
open Go.RowKit Go.Maps Seine.Trie Seine.Eng
def sumL (l : List Txt) : Nat := (l.map List.length).sum
theorem sumL_snoc (l : List Txt) (t : Txt) : sumL (l ++ [t]) = sumL l + t.length := by unfold sumL; simp
theorem sumL_take {l : List Txt} {k : Nat} (h : k < l.length) : sumL (l.take (k + 1)) = sumL (l.take k) + (l.getD k []).length := by
  rw [List.take_succ_eq_append_getElem h, sumL_snoc]
  congr 2
  simp [h]
theorem sumL_le (l : List Txt) (k : Nat) : sumL (l.take k) ≤ sumL l := by
  have h : l.take k ++ l.drop k = l := List.take_append_drop k l
  have : sumL l = sumL (l.take k) + sumL (l.drop k) := by conv => { lhs; rw [← h] }; unfold sumL; rw [List.map_append, List.sum_append]
  omega
theorem sumL_pset (l : List Txt) : sumL (pset l) ≤ tot l := by
  have := foldl_tot l []
  simpa [pset, sumL, tot] using this
set_option maxRecDepth 100000 in
theorem psize_calls (w : World) (base : Nat) (V : Value) (l : List Txt) (h : PsAt w base V l) (hl : ∀ t ∈ l, t.length ≤ 1000000) (hll : l.length ≤ 1000000) (hs : sumL (pset l) ≤ 1000000) : Calls Tryz.prog 25 #[V] w fun e w' => e = .returned (.int .i64 (sumL (pset l) : Int)) ∧ Below w.heap.size w w' := by
  obtain ⟨v, mb, n, f, rfl, h2, _, _⟩ := h
  obtain ⟨A, c, rfl, hc, ht⟩ := h2.txts
  generalize decide (([] : Txt) ∈ l) = e0
  have hsl : As (∀ t ∈ pset l, t.length ≤ 1000000) := ⟨fun t ht => hl t (mem_pset.1 ht).1⟩
  have hpl := pset_len l
  obtain ⟨ps, hps⟩ : ∃ ps, pset l = ps := ⟨_, rfl⟩
  rw [hps] at ht hsl hc hpl ⊢
  obtain ⟨pn, hpn⟩ : ∃ k, ps.length = k := ⟨_, rfl⟩
  rw [hpn] at hc hpl ⊢
  have hz := heap_alloc_new w (.cells #[.slice A pn c, .map (some mb), .bool e0] 30)
  have hB : Below w.heap.size w (w.alloc (.cells #[.slice A pn c, .map (some mb), .bool e0] 30)) := (Below.refl _ _).alloc (Nat.le_refl _) _
  have HT := As.mk (ht.below hB)
  obtain ⟨gb, hgb⟩ : ∃ g, w.heap.size = g := ⟨_, rfl⟩
  obtain ⟨W1, hW1⟩ : ∃ W, w.alloc (.cells #[.slice A pn c, .map (some mb), .bool e0] 30) = W := ⟨_, rfl⟩
  rw [hgb] at hz hB
  rw [hW1] at hz hB HT
  have c0 : W1.cell? ⟨gb, 0, none⟩ = some (.slice A pn c) := cell_of_blk hz 0
  replace hz := As.mk hz
  replace hB := As.mk hB
  replace hps := As.mk hps
  clear ht h2 hl
  rw [hps.out] at hs
  obtain ⟨R, hR⟩ : ∃ R, sumL ps = R := ⟨_, rfl⟩
  rw [hR] at hs ⊢
  have hle := As.mk (fun k => (by have := sumL_le ps k; omega : sumL (ps.take k) ≤ 1000000))
  replace hR := As.mk hR
  replace hpn := As.mk hpn
  go_enter Tryz.func25, Tryz.ntmps25
  go_wp2_with (first | (rw [hW1]) | (rw [hgb]))
  go_loopw [3, 9] (fun v i wr => ∃ k : Nat, k ≤ pn ∧ i = .int .i64 k ∧ v = .int .i64 (sumL (ps.take k) : Int) ∧ wr = W1) (fun _ i _ => pn - (intOf i).toNat)
  case atStart => exact ⟨0, Nat.zero_le _, rfl, rfl, by first | rfl | exact hW1⟩
  case round =>
    obtain ⟨k, hk, rfl, rfl, rfl⟩ := hrel
    by_cases hlt : k < pn
    · have hkl : k < ps.length := by rw [hpn.out]; exact hlt
      obtain ⟨ad, A', c', rfl, ca, hc', hrw⟩ := HT.out.at_ hkl
      have hnx := As.mk (sumL_take hkl)
      have h1 := hle.out k
      have h2 := hle.out (k + 1)
      rw [hnx.out] at h2
      generalize (ps.getD k []).length = tl at *
      obtain ⟨m, hm⟩ : ∃ m, sumL (ps.take k) = m := ⟨_, rfl⟩
      rw [hm] at hnx h1 h2 ⊢
      clear hrw hm
      go_wp2_with fail
      go_roundw
      case rel => exact ⟨k + 1, by omega, (by first | rfl | go_num | (congr 1; omega)), by rw [hnx.out]; push_cast; rfl, by first | rfl | trivial⟩
      case measure => simp [intOf]; omega
    · obtain rfl : k = pn := by omega
      have htk : As (ps.take k = ps) := ⟨by rw [← hpn.out, List.take_length]⟩
      rw [htk.out, hR.out]
      go_wp2_with fail
      go_ret
      exact ⟨rfl, by first | exact hB.out | (rw [hgb]; exact hB.out)⟩
set_option maxRecDepth 100000 in
theorem patterns_calls (w : World) (base : Nat) (V : Value) (l : List Txt) (h : PsAt w base V l) (hl : ∀ t ∈ l, t.length ≤ 1000000) (hll : l.length ≤ 1000000) : Calls Tryz.prog 23 #[V] w fun e w' => ∃ A' c', e = .returned (.slice A' (pset l).length c') ∧ (pset l).length ≤ c' ∧ Txts w' A' (pset l) ∧ Below w.heap.size w w' := by
  obtain ⟨v, mb, n, f, rfl, h2, _, _⟩ := h
  obtain ⟨A, c, rfl, hc, ht⟩ := h2.txts
  generalize decide (([] : Txt) ∈ l) = e0
  have hsl : As (∀ t ∈ pset l, t.length ≤ 1000000) := ⟨fun t ht => hl t (mem_pset.1 ht).1⟩
  have hpl := pset_len l
  obtain ⟨ps, hps⟩ : ∃ ps, pset l = ps := ⟨_, rfl⟩
  rw [hps] at ht hsl hc hpl ⊢
  obtain ⟨pn, hpn⟩ : ∃ k, ps.length = k := ⟨_, rfl⟩
  rw [hpn] at hc hpl ⊢
  have hz := heap_alloc_new w (.cells #[.slice A pn c, .map (some mb), .bool e0] 30)
  have hB : Below w.heap.size w (w.alloc (.cells #[.slice A pn c, .map (some mb), .bool e0] 30)) := (Below.refl _ _).alloc (Nat.le_refl _) _
  have HT := As.mk (ht.below hB)
  obtain ⟨gb, hgb⟩ : ∃ g, w.heap.size = g := ⟨_, rfl⟩
  obtain ⟨W1, hW1⟩ : ∃ W, w.alloc (.cells #[.slice A pn c, .map (some mb), .bool e0] 30) = W := ⟨_, rfl⟩
  rw [hgb] at hz hB
  rw [hW1] at hz hB HT
  have c0 : W1.cell? ⟨gb, 0, none⟩ = some (.slice A pn c) := cell_of_blk hz 0
  replace hz := As.mk hz
  replace hB := As.mk hB
  replace hps := As.mk hps
  clear ht h2 hl
  replace hpn := As.mk hpn
  go_enter Tryz.func23, Tryz.ntmps23
  go_wp2_with (first | (rw [hW1]) | (rw [hgb]))
  obtain ⟨s1, hs1⟩ : ∃ s, W1.heap.size = s := ⟨_, rfl⟩
  have hst : As (OwnPs s1 W1 (.slice none 0 0) (ps.take 0)) := ⟨by rw [List.take_zero]; exact OwnPs.nil _ _⟩
  have hgs1 : gb ≤ s1 := by have := block_lt hz.out; omega
  go_loopg [3, 9] (pn + 1) (fun gk v i wr => ∃ (k : Nat) (u : Value), u = v ∧ As (pn + 1 ≤ gk + k) ∧ k ≤ pn ∧ i = .int .i64 k ∧ As (OwnPs s1 wr u (ps.take k)) ∧ As (Below W1.heap.size W1 wr))
  case atStart => exact ⟨0, _, rfl, ⟨by omega⟩, Nat.zero_le _, rfl, hst, ⟨Below.refl _ _⟩⟩
  case round =>
    obtain ⟨k, u, rfl, hgk, hk, rfl, ho, hb1⟩ := hrel
    by_cases hlt : k < pn
    · obtain ⟨gp, rfl⟩ : ∃ gp, gk = gp + 1 := ⟨gk - 1, by have := hgk.out; omega⟩
      have hkl : k < ps.length := by rw [hpn.out]; exact hlt
      obtain ⟨ad, A', c', rfl, ca0, hc', hrw⟩ := HT.out.at_ hkl
      have ca := (hb1.out.cell (p := ad.add k) (World.block_lt_of_cell? W1 _ ca0)).trans ca0
      have htl := hsl.out (ps.getD k []) (by rw [List.getD_eq_getElem?_getD, List.getElem?_eq_getElem hkl]; exact List.getElem_mem hkl)
      have hnx : ps.take (k + 1) = ps.take k ++ [ps.getD k []] := by rw [List.take_succ_eq_append_getElem hkl]; simp [hkl]
      generalize ps.getD k [] = t at *
      have hcl := cloneByt2_calls wr A' c' t (Row.below hrw hb1.out) htl
      obtain ⟨tl, htl2⟩ : ∃ k, t.length = k := ⟨_, rfl⟩
      rw [htl2] at ca ca0 hc' hcl
      obtain ⟨acc, hacc⟩ : ∃ a, ps.take k = a := ⟨_, rfl⟩
      have hal : acc.length = k := by rw [← hacc, List.length_take, hpn.out]; omega
      rw [hacc] at ho hnx
      obtain ⟨vs, hvl, hvo, hvb⟩ := ho.out
      rw [hal] at hvl hvo
      replace hcl := As.mk hcl
      replace hnx := As.mk hnx
      replace htl2 := As.mk htl2
      replace hacc := As.mk hacc
      replace hal := As.mk hal
      replace hvl := As.mk hvl
      replace hvo := As.mk hvo
      replace hvb := As.mk hvb
      clear ca0 hrw ho
      have hsz := hb1.out.size
      rw [hs1] at hsz
      go_wp2_with (first
        | (go_at_call 26; refine Calls.mono hcl.out ?_; intro e w5 h5; obtain ⟨v5, he5, ho5, hb5⟩ := h5.open_; subst he5; have hs5 := hb5.size; obtain ⟨A5, c5, hv5, hc5⟩ := own_slice ho5; rw [htl2.out] at hv5 hc5; subst hv5; have hvo5 := As.mk (own_below hvo.out hb5); replace ho5 := As.mk ho5; replace hb5 := As.mk hb5; clear h5)
        | (at_builtin
           (refine wpList_app1 w5 rfl (.tmp 13) (.tmp 16) 22 rfl s1 23 _ 1 24 Tryz.underlying22 info_bs rfl (by decide) u k vs rfl hvo5.out [.slice A5 tl c5] rfl (by simp [Value.oneCell']) _ rfl (by simp) (by omega) (by decide) (by omega) ?_)
           intro v6 w6 ho6 hk6 _ hb6))
      have hOw : OwnPs s1 w6 v6 (acc ++ [t]) := by
        refine OwnPs.snoc (w := w5) (vs := vs) (u := .slice A5 tl c5) (v := u) (by rw [hvl.out, hal.out]) (fun i hi => ?_) (own_base ho5.out (by omega)) (by rw [hal.out]; exact hvo5.out) hk6 (by rw [hal.out]; exact ho6)
        obtain ⟨x, hx, hxo⟩ := hvb.out i hi
        exact ⟨x, hx, own_below hxo hb5.out⟩
      go_roundg gp
      case measure => exact Nat.lt_succ_self _
      case rel => exact ⟨k + 1, _, rfl, ⟨by have := hgk.out; omega⟩, hlt, (by first | rfl | go_num | (congr 1; omega)), ⟨by rw [hnx.out]; exact hOw⟩, ⟨by rw [hs1] at hb1 ⊢; exact (hb1.out.trans (hb5.out.mono hsz)).trans hb6⟩⟩
    · obtain rfl : k = pn := by omega
      have htk : ps.take k = ps := by rw [← hpn.out, List.take_length]
      rw [htk] at ho
      obtain ⟨A9, c9, rfl, hc9, ht9⟩ := ho.out.txts
      rw [hpn.out] at hc9 ⊢
      replace ht9 := As.mk ht9
      clear ho
      have hBr : Below gb w wr := hB.out.trans (hb1.out.mono (by omega))
      go_wp2_with fail
      go_ret
      exact ⟨A9, c9, rfl, hc9, ht9.out, by first | exact hBr | (rw [hgb]; exact hBr)⟩
end Go.Proofs.YtdiljmhikajjiaaGreat
end
