/- The walks of package twoway: the next place, all places; a nil finder. -/
import Derived.Test.YtpkapgjpnkcffaaTwoWalk4
set_option linter.unusedVariables false
set_option linter.unusedSimpArgs false
namespace Go.Proofs.Ytpkapgjpnkcffaa
open Go.RowKit Seine.Trie Seine.Two Go.Proofs.YtpkapgjpnkcffaaW.PrintWords

/-- b stands in l at i. -/
def isAt (b l : Txt) (i : Nat) : Bool := decide (i + b.length ≤ l.length ∧ (l.drop i).take b.length = b)
theorem match_iff (b l : Txt) (i : Nat) : Match (bx b) b.length (bx l) l.length i ↔ isAt b l i = true := by
  unfold isAt Match
  rw [decide_eq_true_iff]
  constructor
  · rintro ⟨h1, h2⟩
    refine ⟨h1, txt_ext (by rw [List.length_take, List.length_drop]; omega) fun j hj => ?_⟩
    have hjn : j < b.length := by rw [List.length_take] at hj; omega
    have := UInt8.toNat_inj.1 (h2 j hjn)
    simp only [List.getD_eq_getElem?_getD, List.getElem?_take, List.getElem?_drop, if_pos hjn] at this ⊢
    exact this
  · rintro ⟨h1, h2⟩
    refine ⟨h1, fun k hk => ?_⟩
    have := congrArg (fun l => (l.getD k 0).toNat) h2
    simp only [List.getD_eq_getElem?_getD, List.getElem?_take, List.getElem?_drop, if_pos hk] at this
    unfold bx
    rw [List.getD_eq_getElem?_getD, List.getD_eq_getElem?_getD]; exact this
/-- The first place from p on; -1: none. -/
def nextF (b l : Txt) (p : Nat) : Int := match (List.range' p (l.length + 1 - p)).find? (isAt b l) with | some i => i | none => -1
theorem isAt_le {b l : Txt} {i : Nat} (h : isAt b l i = true) : i + b.length ≤ l.length := (of_decide_eq_true h).1
theorem nextF_none {b l : Txt} {p : Nat} (h : nextF b l p < 0) : nextF b l p = -1 ∧ ∀ j, p ≤ j → isAt b l j = false := by
  unfold nextF at *
  cases hf : (List.range' p (l.length + 1 - p)).find? (isAt b l) with
  | some i => rw [hf] at h; simp at h; omega
  | none =>
    refine ⟨rfl, fun j hj => ?_⟩
    rw [List.find?_eq_none] at hf
    cases hi : isAt b l j with
    | false => rfl
    | true =>
      have := isAt_le hi
      exact absurd hi (hf j (List.mem_range'.2 ⟨j - p, by omega, by omega⟩))
theorem find_split {q : Nat → Bool} : ∀ {k p i : Nat}, (List.range' p k).find? q = some i → p ≤ i ∧ i < p + k ∧ q i = true ∧ (∀ j, p ≤ j → j < i → q j = false)
  | 0, p, i, h => by simp at h
  | k + 1, p, i, h => by
    rw [List.range'_succ, List.find?_cons] at h
    cases hp : q p with
    | true => rw [hp] at h; injection h with h; subst h; exact ⟨Nat.le_refl _, by omega, hp, fun j a b => by omega⟩
    | false =>
      rw [hp] at h
      obtain ⟨h1, h2, h3, h4⟩ := find_split h
      refine ⟨by omega, by omega, h3, fun j a b => ?_⟩
      rcases Nat.eq_or_lt_of_le a with e | e
      · subst e; exact hp
      · exact h4 j e b
theorem nextF_some {b l : Txt} {p : Nat} (h : 0 ≤ nextF b l p) : ∃ i : Nat, nextF b l p = i ∧ p ≤ i ∧ isAt b l i = true ∧ ∀ j, p ≤ j → j < i → isAt b l j = false := by
  unfold nextF at *
  cases hf : (List.range' p (l.length + 1 - p)).find? (isAt b l) with
  | none => rw [hf] at h; simp at h
  | some i =>
    obtain ⟨h1, h2, h3, h4⟩ := find_split hf
    exact ⟨i, rfl, h1, h3, h4⟩
theorem nextF_spec (b l : Txt) (p : Nat) : Seine.Two.next (bx b) b.length (bx l) l.length p (nextF b l p) := by
  refine ⟨fun h => ?_, fun h => ?_⟩
  · obtain ⟨i, h1, h2, h3, h4⟩ := nextF_some h
    rw [h1, Int.toNat_natCast]
    exact ⟨h2, (match_iff _ _ _).2 h3, fun j a c hm => by rw [match_iff, h4 j a c] at hm; cases hm⟩
  · obtain ⟨h1, h2⟩ := nextF_none h
    exact ⟨h1, fun j a hm => by rw [match_iff, h2 j a] at hm; cases hm⟩
/-- All places from p on. -/
def occFrom (b l : Txt) (p : Nat) : List Pr := ((List.range' p (l.length + 1 - p)).filter (isAt b l)).map fun (i : Nat) => ((i : Int), (i : Int) + (b.length : Int))
theorem filter_skip {q : Nat → Bool} : ∀ (k p i : Nat), p ≤ i → i < p + k → (∀ j, p ≤ j → j < i → q j = false) → (List.range' p k).filter q = (List.range' i (p + k - i)).filter q
  | 0, p, i, h1, h2, _ => by omega
  | k + 1, p, i, h1, h2, h3 => by
    rcases Nat.eq_or_lt_of_le h1 with e | e
    · subst e; congr 2; omega
    · rw [List.range'_succ, List.filter_cons_of_neg (by rw [h3 p (Nat.le_refl _) e]; simp), filter_skip k (p + 1) i e (by omega) (fun j a b => h3 j (by omega) b)]
      congr 2; omega
theorem occ_some {b l : Txt} {p i : Nat} (hi : nextF b l p = (i : Int)) : occFrom b l p = ((i : Int), (i : Int) + (b.length : Int)) :: occFrom b l (i + 1) := by
  obtain ⟨i', e, h1, h2, h3⟩ := nextF_some (b := b) (l := l) (p := p) (by omega)
  obtain rfl : i' = i := by omega
  have := isAt_le h2
  unfold occFrom
  rw [filter_skip (l.length + 1 - p) p i' h1 (by omega) h3, show p + (l.length + 1 - p) - i' = (l.length + 1 - (i' + 1)) + 1 by omega, List.range'_succ, List.filter_cons_of_pos (by rw [h2]), List.map_cons]
theorem occ_none {b l : Txt} {p : Nat} (h : nextF b l p < 0) : occFrom b l p = [] := by
  unfold occFrom
  rw [List.map_eq_nil_iff, List.filter_eq_nil_iff]
  intro j hj
  obtain ⟨i, _, rfl⟩ := List.mem_range'.1 hj
  rw [(nextF_none h).2 _ (by omega)]; simp
theorem occ_length (b l : Txt) (p : Nat) : (occFrom b l p).length ≤ l.length + 1 := by
  unfold occFrom
  rw [List.length_map]
  exact Nat.le_trans (List.length_filter_le _ _) (by rw [List.length_range']; omega)

theorem next_nil_calls (w : World) (A : Option Addr) (m c : Nat) (z : Int) : Calls Try.prog 12 #[.pointer none, .slice A m c, .int .i64 z] w fun e w' => e = .returned (.int .i64 (-1)) ∧ w = w' := by
  go_enter Try.func12, Try.ntmps12
  go_wp2
  go_ret
  exact ⟨rfl, rfl⟩
theorem scan_nil_calls (w : World) (A : Option Addr) (m c : Nat) : Calls Try.prog 13 #[.pointer none, .slice A m c] w fun e w' => e = .returned (.slice none 0 0) ∧ w = w' := by
  have hn := As.mk (fun v => next_nil_calls v A m c)
  go_enter Try.func13, Try.ntmps13
  go_wp2_with (go_at_call 12; refine Calls.mono (hn.out _ _) ?_; rintro e w' ⟨rfl, rfl⟩)
  refine wp_loop_rounds 1 ?_
  rw [rounds_succ]
  go_wp2
  go_ret
  exact ⟨rfl, rfl⟩
attribute [local go_sem] max2_i min2_i max_two' min_two'
set_option maxRecDepth 100000 in
set_option maxHeartbeats 1600000 in
theorem next_calls (w : World) (g : Nat) (b : Txt) (ad : Addr) (cb a s : Nat) (sm : Bool) (h : TwoIn w g b ad cb a s sm) (hl : b.length ≤ 1000000) (A : Option Addr) (c : Nat) (l : Txt) (hx : Byt w A l) (hll : l.length ≤ 1000000) (z : Int) :
    Calls Try.prog 12 #[.pointer (some ⟨g, 0, none⟩), .slice A l.length c, .int .i64 z] w fun e w' => e = .returned (.int .i64 (nextF b l z.toNat)) ∧ Below w.heap.size w w' := by
  have c4 := h.c4
  have hbl : 0 < b.length := by have := h.2.2.2.am; omega
  obtain ⟨m, hm⟩ : ∃ m, l.length = m := ⟨_, rfl⟩
  by_cases hz : (m : Int) < z
  · have hno : nextF b l z.toNat = -1 := by
      rcases Int.lt_or_le (nextF b l z.toNat) 0 with h0 | h0
      · exact (nextF_none h0).1
      · obtain ⟨i, _, h1, h2, _⟩ := nextF_some h0
        have := isAt_le h2
        omega
    rw [hno, hm]
    have hz' : decide ((m : Int) < z) = true := by simpa using hz
    clear h hx hno hm c4 hbl
    go_enter Try.func12, Try.ntmps12
    go_wp2
    go_ret
    exact ⟨rfl, Below.refl _ _⟩
  · have hz' : decide ((m : Int) < z) = false := by simpa using hz
    obtain ⟨p, hp⟩ : ∃ p : Nat, z.toNat = p := ⟨_, rfl⟩
    have hzn : max z 0 = (p : Int) := by omega
    have hzl : p ≤ 1000000 := by omega
    have huni := As.mk (fun (r : Int) hr => next_one (nextF_spec b l p) (r' := r) hr)
    rw [hp]
    clear hp hz
    rw [hm] at huni
    cases sm with
    | true =>
      have hq := As.mk (lapped_calls w g b ad cb a s h hl A c l hx hll p hzl)
      rw [hm] at hq ⊢
      clear h hx hm hbl
      go_enter Try.func12, Try.ntmps12
      go_wp2_with (go_at_call 21; refine Calls.mono hq.out ?_; rintro e w' ⟨r, rfl, hr, hb⟩)
      go_ret
      exact ⟨ret_int (huni.out r hr).symm, hb⟩
    | false =>
      have hq := As.mk (plain_calls w g b ad cb a s false h hl A c l hx hll p hzl)
      rw [hm] at hq ⊢
      clear h hx hm hbl
      go_enter Try.func12, Try.ntmps12
      go_wp2_with (go_at_call 20; refine Calls.mono hq.out ?_; rintro e w' ⟨r, rfl, hr, hb⟩)
      go_ret
      exact ⟨ret_int (huni.out r hr).symm, hb⟩

set_option maxRecDepth 100000 in
set_option maxHeartbeats 1600000 in
theorem scan_calls (w : World) (g : Nat) (b : Txt) (ad : Addr) (cb a s : Nat) (sm : Bool) (h : TwoIn w g b ad cb a s sm) (hl : b.length ≤ 1000000) (A : Option Addr) (c : Nat) (l : Txt) (hx : Byt w A l) (hll : l.length ≤ 1000000) :
    Calls Try.prog 13 #[.pointer (some ⟨g, 0, none⟩), .slice A l.length c] w (RetPrs w (occFrom b l 0)) := by
  obtain ⟨R, hR⟩ : ∃ R, occFrom b l 0 = R := ⟨_, rfl⟩
  have hRl : R.length ≤ l.length + 1 := by rw [← hR]; exact occ_length b l 0
  have hbl : 0 < b.length := by have := h.2.2.2.am; omega
  rw [hR]
  have hR := As.mk hR
  have H := As.mk h
  have hnx := As.mk (fun (v : World) (hv : Below w.heap.size w v) z => next_calls v g b ad cb a s sm (h.below hv) hl A c l (Row.below hx hv) hll z)
  clear h hx
  obtain ⟨m, hm⟩ : ∃ m, l.length = m := ⟨_, rfl⟩
  obtain ⟨n, hn⟩ : ∃ n, b.length = n := ⟨_, rfl⟩
  rw [hm] at hRl hnx hll
  rw [hn] at hbl hl
  rw [hm]
  have hm := As.mk hm
  have hn := As.mk hn
  have hRl := As.mk hRl
  go_enter Try.func13, Try.ntmps13
  go_wp2_with fail
  refine Calls.mono (hnx.out w (Below.refl _ _) 0) ?_
  rintro e w1 ⟨he, hb1⟩
  rw [show (0 : Int).toNat = 0 from rfl] at he
  obtain ⟨r0, hr0⟩ : ∃ r, nextF b l 0 = r := ⟨_, rfl⟩
  rw [hr0] at he
  subst he
  replace hr0 := As.mk hr0
  replace hb1 := As.mk hb1
  go_wp2
  go_loopg [5, 6] (m + 2) (fun gk v r wr => ∃ (p : Nat) (acc : List Pr) (z : Int), As (m + 2 ≤ gk + p) ∧ r = .int .i64 z ∧ As (nextF b l p = z) ∧ As (acc ++ occFrom b l p = R) ∧ As (OwnPrs wr w.heap.size v acc) ∧ As (Below w.heap.size w wr))
  case atStart => exact ⟨0, [], r0, ⟨by omega⟩, rfl, hr0, ⟨hR.out⟩, ⟨World.ownsRow_nil _ _ _ _⟩, hb1⟩
  case round =>
    obtain ⟨p, acc, z, hgk, rfl, hz, hacc, hown, hbel⟩ := hrel
    by_cases h0 : 0 ≤ z
    · obtain ⟨i, h1, h2, h3, h4⟩ := nextF_some (b := b) (l := l) (p := p) (by rw [hz.out]; exact h0)
      obtain rfl : z = (i : Int) := by rw [← hz.out, h1]
      have him := isAt_le h3
      rw [hm.out, hn.out] at him
      have hocc := occ_some h1
      rw [hn.out] at hocc
      rw [hocc] at hacc
      have haccl : As (acc.length ≤ m + 1) := ⟨by have := hRl.out; rw [← hacc.out, List.length_append] at this; omega⟩
      obtain ⟨gp, rfl⟩ : ∃ gp, gk = gp + 1 := ⟨gk - 1, by have := hgk.out; omega⟩
      have HI := H.out.below hbel.out
      have c0 := HI.c0
      rw [hn.out] at c0
      clear h1 h3 h4 hocc hz HI
      have hnn := As.mk (fun v hv => hnx.out v hv ((i : Int) + 1))
      obtain ⟨r2, hr2⟩ : ∃ r, nextF b l (i + 1) = r := ⟨_, rfl⟩
      rw [show ((i : Int) + 1).toNat = i + 1 by omega, hr2] at hnn
      replace hr2 := As.mk hr2
      go_wp2_with (first
        | (go_at_call 12; refine Calls.mono (hnn.out _ (hbel.out.trans hb4)) ?_; rintro e w5 ⟨rfl, hb5⟩)
        | (at_builtin
           refine wpList_app1 _ rfl (.tmp 17) (.tmp 27) 30 rfl w.heap.size 35 _ 2 16 Try.underlying30 info_pr rfl (by decide) _ acc.length (prCells acc) rfl hown.out [.int .i64 (i : Int), .int .i64 ((i : Int) + (n : Int))] rfl (by simp [Value.oneCell']) _ rfl (by simp) (by have := haccl.out; omega) (by decide) hbel.out.size ?_
           intro v' w4 hown4 hk4 hat4 hb4
           replace hown4 := As.mk hown4
           replace hk4 := As.mk hk4))
      go_roundg gp
      case rel => exact ⟨i + 1, acc ++ [((i : Int), (i : Int) + (n : Int))], r2, ⟨by have := hgk.out; omega⟩, rfl, hr2, ⟨by rw [List.append_assoc]; exact hacc.out⟩, ⟨own_below (ownPrs_snoc hown4.out) hb5⟩, ⟨belowNext (hbel.out.trans hb4) hb5⟩⟩
      case measure => omega
    · have hno := occ_none (b := b) (l := l) (p := p) (by rw [hz.out]; omega)
      rw [hno, List.append_nil] at hacc
      have h0' : decide (0 ≤ z) = false := by simp; omega
      clear hno hz
      go_wp2
      go_ret
      exact ⟨_, rfl, hacc.out ▸ hown.out, hbel.out⟩
end Go.Proofs.Ytpkapgjpnkcffaa
