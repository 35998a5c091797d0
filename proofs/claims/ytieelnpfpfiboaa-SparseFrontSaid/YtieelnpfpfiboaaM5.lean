/- Joined texts: SortWalk, SortWalk2, Sparse4, TrieRef, Texts, OccRef. -/
import Derived.Test.YtieelnpfpfiboaaM4
import Derived.Test.YtieelnpfpfiboaaM2
import Derived.RegionTactic
import Derived.BigRegion
import Derived.Deep.RegionWith
import Derived.Deep.LoopGhost
import Derived.WalkSpells
import Derived.StillTailTactics
import Derived.Test.YtieelnpfpfiboaaM3
import Derived.Test.YtieelnpfpfiboaaRefx
section
/- The walks of package pairs: which stands ahead, two rows as one, in order. -/
set_option linter.unusedVariables false
set_option linter.unusedSimpArgs false
namespace Go.Proofs.Ytieelnpfpfiboaa
open Go.RowKit Seine.Sort
attribute [local go_sem high] eqPr
theorem pless_calls (w : World) (a1 a2 b1 b2 : Int) (r : Bool) (hr : r = decide (lt (a1, a2) (b1, b2))) :
    Calls Try.prog 53 #[.agg #[.int .i64 a1, .int .i64 a2], .agg #[.int .i64 b1, .int .i64 b2]] w fun e w' => e = .returned (.bool r) ∧ Below w.heap.size w w' := by
  have hb : ∀ o o', Below w.heap.size w ((w.alloc o).alloc o') := fun o o' => ((Below.refl _ _).alloc (Nat.le_refl _) _).alloc (by simp) _
  by_cases h : a1 = b1
  · have hr2 : r = decide (a2 < b2) := by rw [hr, decide_eq_decide]; unfold lt; simp; omega
    have hx : (!(a1 == b1)) = false := by simp [h]
    clear hr
    go_enter Try.func53, Try.ntmps53
    go_wp2
    go_ret
    exact ⟨ret_bool hr2.symm, hb _ _⟩
  · have hr2 : r = decide (a1 < b1) := by rw [hr, decide_eq_decide]; unfold lt; simp; omega
    have hx : (!(a1 == b1)) = true := by simp [h]
    clear hr
    go_enter Try.func53, Try.ntmps53
    go_wp2
    go_ret
    exact ⟨ret_bool hr2.symm, hb _ _⟩
theorem Prs.tail {w : World} {ad : Addr} {x : Pr} {xs : List Pr} (h : Prs w (some ad) (x :: xs)) : Prs w (some (ad.add 2)) xs := by
  rcases h with h | ⟨ad', e, hlt, hc⟩
  · simp [prCells] at h
  · injection e with e
    subst e
    refine .inr ⟨_, rfl, by rw [Addr.block_add]; exact hlt, fun j u hu => ?_⟩
    rw [Addr.add_add', Nat.add_comm 2 j]
    exact hc _ u (by simpa [prCells] using hu)
theorem Prs.head {w : World} {A : Option Addr} {x : Pr} {xs : List Pr} (h : Prs w A (x :: xs)) : ∃ ad, A = some ad ∧ w.cell? ad = some (.int .i64 x.1) ∧ w.cell? ⟨ad.block, ad.off + 1, none⟩ = some (.int .i64 x.2) := by
  obtain ⟨ad, e, h1, h2⟩ := Prs.at_ h (i := 0) (by simp)
  have h0 : ad.add 0 = ad := by simp [Addr.add]
  rw [Nat.zero_mul, h0] at h1 h2
  exact ⟨ad, e, h1, h2⟩
theorem Addr.add_two (ad : Addr) : ad.add 2 = ⟨ad.block, ad.off + 2, none⟩ := rfl
theorem prLast {w : World} {base : Nat} {v : Value} {out : List Pr} {x : Pr} (h : OwnPrs w base v (out ++ [x])) : ∃ b c, v = .slice (some ⟨b, 0, none⟩) (out.length + 1) c ∧ out.length + 1 ≤ c ∧ w.cell? ⟨b, out.length * 2, none⟩ = some (.int .i64 x.1) ∧ w.cell? ⟨b, out.length * 2 + 1, none⟩ = some (.int .i64 x.2) ∧ b < w.heap.size := by
  obtain ⟨A, c, e, hc, hr⟩ := OwnPrs.row h
  rw [List.length_append, List.length_singleton] at e hc
  rcases h.2 with ⟨_, h0⟩ | ⟨b, cap, cur, hv, _, hh, _⟩
  · simp at h0
  · rw [hv] at e
    injection e with e1 _ e3
    subst e1
    obtain ⟨ad, e4, h1, h2⟩ := Prs.at_ hr (i := out.length) (by simp)
    injection e4 with e4
    subst e4
    have hg : (out ++ [x]).getD out.length (0, 0) = x := by simp [List.getD_eq_getElem?_getD]
    rw [hg] at h1 h2
    have hadd : (⟨b, 0, none⟩ : Addr).add (out.length * 2) = ⟨b, out.length * 2, none⟩ := by unfold Addr.add; split <;> simp_all
    rw [hadd] at h1 h2
    exact ⟨b, c, by rw [hv, e3, List.length_append, List.length_singleton], hc, h1, h2, block_lt hh⟩
/-- Where two rows are put together: what is left of each, and what is out. -/
def JRel (w : World) (a b : List Pr) (n1 n2 gk : Nat) (v1 v2 v3 : Value) (wr : World) : Prop :=
  ∃ (A' B' : Option Addr) (m1 c' m2 d' : Nat) (a' b' out : List Pr) (u : Value), v1 = .slice A' m1 c' ∧ v2 = .slice B' m2 d' ∧ v3 = u ∧ As (a'.length = m1) ∧ As (b'.length = m2) ∧ As (m1 + m2 + 1 ≤ gk) ∧ m1 ≤ c' ∧ m2 ≤ d' ∧ c' ≤ 9223372036854775807 ∧ d' ≤ 9223372036854775807 ∧ As (out.length + m1 + m2 ≤ n1 + n2) ∧
    As (Prs w A' a') ∧ As (Prs w B' b') ∧ As (Join a b a' b' out) ∧ As (OwnPrs wr w.heap.size u out) ∧ As (Below w.heap.size w wr)
theorem JRel.nextA {w wr : World} {a b a' b' out : List Pr} {n1 n2 gk m1 m2 c' d' : Nat} {x : Pr} {B' : Option Addr} (hm1 : (x :: a').length = m1) (hm2 : b'.length = m2) (hgk : m1 + m2 + 1 ≤ gk + 1) (hmc : m1 ≤ c') (hmd : m2 ≤ d') (hc' : c' ≤ 9223372036854775807) (hd' : d' ≤ 9223372036854775807)
    (hout : out.length + m1 + m2 ≤ n1 + n2) (hJ : Join a b a' b' (push out x)) (hRB : Prs w B' b') (A'' : Option Addr) (hRA : Prs w A'' a') :
    ∀ v4 w4, OwnPrs w4 w.heap.size v4 (push out x) → Below w.heap.size w w4 → JRel w a b n1 n2 gk (.slice A'' (m1 - 1) (c' - 1)) (.slice B' m2 d') v4 w4 := fun v4 w4 ho4 hb4 => by
  have := push_len out x
  rw [List.length_cons] at hm1
  exact ⟨_, _, m1 - 1, c' - 1, m2, d', a', b', _, _, rfl, rfl, rfl, ⟨by omega⟩, ⟨hm2⟩, ⟨by omega⟩, by omega, hmd, by omega, hd', ⟨by omega⟩, ⟨hRA⟩, ⟨hRB⟩, ⟨hJ⟩, ⟨ho4⟩, ⟨hb4⟩⟩
theorem JRel.nextB {w wr : World} {a b a' b' out : List Pr} {n1 n2 gk m1 m2 c' d' : Nat} {x : Pr} {A' : Option Addr} (hm1 : a'.length = m1) (hm2 : (x :: b').length = m2) (hgk : m1 + m2 + 1 ≤ gk + 1) (hmc : m1 ≤ c') (hmd : m2 ≤ d') (hc' : c' ≤ 9223372036854775807) (hd' : d' ≤ 9223372036854775807)
    (hout : out.length + m1 + m2 ≤ n1 + n2) (hJ : Join a b a' b' (push out x)) (hRA : Prs w A' a') (B'' : Option Addr) (hRB : Prs w B'' b') :
    ∀ v4 w4, OwnPrs w4 w.heap.size v4 (push out x) → Below w.heap.size w w4 → JRel w a b n1 n2 gk (.slice A' m1 c') (.slice B'' (m2 - 1) (d' - 1)) v4 w4 := fun v4 w4 ho4 hb4 => by
  have := push_len out x
  rw [List.length_cons] at hm2
  exact ⟨_, _, m1, c', m2 - 1, d' - 1, a', b', _, _, rfl, rfl, rfl, ⟨hm1⟩, ⟨by omega⟩, ⟨by omega⟩, hmc, by omega, hc', by omega, ⟨by omega⟩, ⟨hRA⟩, ⟨hRB⟩, ⟨hJ⟩, ⟨ho4⟩, ⟨hb4⟩⟩
theorem zero_len {α : Type} {x : α} {l : List α} {m : Nat} (h : (x :: l).length = m) (h1 : m ≤ 1) : l = [] := by
  rw [List.length_cons] at h
  exact List.eq_nil_of_length_eq_zero (by omega)
theorem keepsTwo {wr W1 : World} (h : Below wr.heap.size wr W1) (x1 x2 : Value) : Keeps (fun k => k = wr.heap.size) wr ((W1.setCell ⟨wr.heap.size, 0, none⟩ x1).setCell ⟨wr.heap.size, 1, none⟩ x2).drew :=
  Keeps.drew (((Keeps.of_below h (fun k => k = wr.heap.size)).trans (keepsSt W1 ⟨wr.heap.size, 0, none⟩ x1)).trans (keepsSt (W1.setCell ⟨wr.heap.size, 0, none⟩ x1) ⟨wr.heap.size, 1, none⟩ x2))
theorem nil_or_snoc : ∀ (out : List Pr), out = [] ∨ ∃ pre z, out = pre ++ [z]
  | [] => .inl rfl
  | x :: l => .inr ⟨(x :: l).dropLast, (x :: l).getLast (by simp), (List.dropLast_concat_getLast (by simp)).symm⟩
theorem took_blk (wr : World) (x1 x2 z : Value) (t : TypeId) : (((wr.alloc (.cells #[z, z] t)).setCell ⟨wr.heap.size, 0, none⟩ x1).setCell ⟨wr.heap.size, 1, none⟩ x2).heap[wr.heap.size]? = some (.cells #[x1, x2] t (0, 0)) := by
  have := blk_set (blk_set (heap_alloc_new wr (.cells #[z, z] t)) 0 x1) 1 x2
  simpa using this
theorem push_new {out : List Pr} {x : Pr} (h : out.getLast? ≠ some x) : push out x = out ++ [x] := if_neg h
theorem push_old {out : List Pr} {x : Pr} (h : out.getLast? = some x) : push out x = out := if_pos h
def Pick (t : Bool) (a b : List Pr) : Prop := (t = true → ∃ x a2, a = x :: a2 ∧ ∀ y ∈ b, lt x y ∨ x = y) ∧ (t = false → ∃ y b2, b = y :: b2 ∧ ∀ x ∈ a, lt y x ∨ y = x)
theorem Pick.left {x : Pr} {a b : List Pr} (h : ∀ y ∈ b, lt x y ∨ x = y) : Pick true (x :: a) b := ⟨fun _ => ⟨x, a, rfl, h⟩, fun h => by cases h⟩
theorem Pick.right {y : Pr} {a b : List Pr} (h : ∀ x ∈ a, lt y x ∨ y = x) : Pick false a (y :: b) := ⟨fun h => (by cases h), fun _ => ⟨y, b, rfl, h⟩⟩
abbrev zeroPair : Obj := .cells #[.int .i64 0, .int .i64 0] 45
set_option maxRecDepth 100000 in
set_option maxHeartbeats 1600000 in
theorem joined_calls (A : Option Addr) (c : Nat) (a : List Pr) (B : Option Addr) (d : Nat) (b : List Pr) (w : World) (ha : Prs w A a) (hb : Prs w B b) (hac : a.length ≤ c) (hbd : b.length ≤ d) (hcm : c ≤ maxLen) (hdm : d ≤ maxLen) (ra : Rise a) (rb : Rise b) (hl : a.length + b.length ≤ 100000000) :
    Calls Try.prog 52 #[.slice A a.length c, .slice B b.length d, .func (.func 53) #[] #[]] w (RetPrs w (sortP (a ++ b))) := by
  have hu25 := Try.underlying45
  unfold maxLen at hcm hdm
  obtain ⟨R, hR⟩ : ∃ R, sortP (a ++ b) = R := ⟨_, rfl⟩
  rw [hR]
  replace hR := As.mk hR
  obtain ⟨n1, hn1⟩ : ∃ n, a.length = n := ⟨_, rfl⟩
  obtain ⟨n2, hn2⟩ : ∃ n, b.length = n := ⟨_, rfl⟩
  rw [hn1] at hac hl ⊢
  rw [hn2] at hbd hl ⊢
  have hstart : As (JRel w a b n1 n2 (n1 + n2 + 1) (.slice A n1 c) (.slice B n2 d) (.slice none 0 0) w) :=
    ⟨⟨A, B, n1, c, n2, d, a, b, [], _, rfl, rfl, rfl, ⟨hn1⟩, ⟨hn2⟩, ⟨by omega⟩, hac, hbd, by omega, by omega, ⟨by simp⟩, ⟨ha⟩, ⟨hb⟩, ⟨Join.start ra rb⟩, ⟨World.ownsRow_nil _ _ _ _⟩, ⟨Below.refl _ _⟩⟩⟩
  clear ha hb ra rb
  go_enter Try.func52, Try.ntmps52
  go_wp2
  go_loopg [0, 1, 7] (n1 + n2 + 1) (fun gk v1 v2 v3 wr => JRel w a b n1 n2 gk v1 v2 v3 wr)
  case atStart => exact hstart.out
  case round =>
    obtain ⟨A', B', m1, c', m2, d', a', b', out, v3, rfl, rfl, rfl, hm1, hm2, hgk, hmc, hmd, hc', hd', hout, hRA, hRB, hJ, hown, hbel⟩ := hrel
    by_cases hend : m1 = 0 ∧ m2 = 0
    · obtain ⟨rfl, rfl⟩ := hend
      obtain rfl := List.eq_nil_of_length_eq_zero hm1.out
      obtain rfl := List.eq_nil_of_length_eq_zero hm2.out
      go_wp2
      go_ret
      exact ⟨_, rfl, by rw [← hR.out, ← hJ.out.done]; exact hown.out, hbel.out⟩
    · obtain ⟨gp, rfl⟩ : ∃ gp, gk = gp + 1 := ⟨gk - 1, by have := hgk.out; omega⟩
      go_upto_region 2 with fail
      go_cut [16] from 9 to 62 (fun v16 wx => v16 = .bool true ∧ wr = wx)
      case first =>
        by_cases h1 : 0 < m1
        · have hz1 : decide (0 < (m1 : Int)) = true := decide_eq_true (by omega)
          go_wp2_with fail
          go_meet
          case rel => exact ⟨rfl, rfl⟩
        · obtain rfl : m1 = 0 := by omega
          have h2 : 0 < m2 := by omega
          have hz2 : decide (0 < (m2 : Int)) = true := decide_eq_true (by omega)
          go_wp2_with fail
          go_meet
          case rel => exact ⟨rfl, rfl⟩
      case rest =>
        obtain ⟨rfl, rfl⟩ := hcut
        go_upto_region 4 with fail
        have hW0 := As.mk ((Below.refl wr.heap.size wr).alloc (Nat.le_refl _) zeroPair)
        have hq0 := As.mk (show (wr.alloc zeroPair).heap[wr.heap.size]? = some (.cells #[.int .i64 0, .int .i64 0] 45 (0, 0)) from heap_alloc_new _ _)
        obtain ⟨W0, hWe⟩ : ∃ W, wr.alloc (.cells #[.int .i64 0, .int .i64 0] 45) = W := ⟨_, rfl⟩
        unfold zeroPair at hW0 hq0
        rw [hWe] at hW0 hq0 ⊢
        clear hWe
        have hB0 := As.mk (hbel.out.trans (hW0.out.mono hbel.out.size))
        go_cut [35] from 9 to 62 (fun v35 wx => ∃ t : Bool, v35 = .bool t ∧ As (Below wr.heap.size wr wx) ∧ As (wx.heap[wr.heap.size]? = some (.cells #[.int .i64 0, .int .i64 0] 45 (0, 0))) ∧ As (Pick t a' b'))
        case first =>
          cases b' with
          | nil =>
            obtain rfl : m2 = 0 := hm2.out.symm
            cases a' with
            | nil => exact absurd ⟨hm1.out.symm, rfl⟩ hend
            | cons x a' =>
              have hP := As.mk (Pick.left (a := a') (b := []) (x := x) (by simp))
              go_region
              go_wp2_with fail
              go_meet
              case rel => exact ⟨_, rfl, ⟨hW0.out.drew⟩, hq0, hP⟩
          | cons y b' =>
            have hp2 : 0 < m2 := by have := hm2.out; simp at this; omega
            have hz3 : ((m2 : Int) == 0) = false := by simp; omega
            cases a' with
            | nil =>
              obtain rfl : m1 = 0 := hm1.out.symm
              have hP := As.mk (Pick.right (a := []) (b := b') (y := y) (by simp))
              go_region
              go_wp2_with fail
              go_meet
              case rel => exact ⟨_, rfl, ⟨hW0.out.drew⟩, hq0, hP⟩
            | cons x a' =>
              have hp1 : 0 < m1 := by have := hm1.out; simp at this; omega
              have hz1 : decide (0 < (m1 : Int)) = true := decide_eq_true (by omega)
              have hP : As (Pick (!decide (lt y x)) (x :: a') (y :: b')) := ⟨by
                by_cases hlt : lt y x
                · rw [decide_eq_true hlt]; exact Pick.right (rise_head hJ.out.ra (.inl hlt))
                · rw [decide_eq_false hlt]
                  refine Pick.left (rise_head hJ.out.rb ?_)
                  rcases lt_tri x y with h | h | h
                  · exact .inl h
                  · exact .inr h
                  · exact absurd h hlt⟩
              have hc1 := Prs.head (Row.below hRA.out hB0.out)
              have hc2 := Prs.head (Row.below hRB.out hB0.out)
              have cl := As.mk (fun v => pless_calls v y.1 y.2 x.1 x.2 (decide (lt y x)) rfl)
              generalize decide (lt y x) = t at *
              obtain ⟨o1, o2⟩ := x
              obtain ⟨o3, o4⟩ := y
              obtain ⟨ad, rfl, p1, p2⟩ := hc1
              obtain ⟨bd, rfl, p3, p4⟩ := hc2
              simp only at p1 p2 p3 p4 cl
              go_still_tail 15, (by kernel_rfl)
              change wpList _ _ _ _ _ W0.drew
              go_wp2_with (go_at_call 53; refine Calls.mono (cl.out _) ?_; rintro e W1 ⟨rfl, hb⟩)
              go_meet
              case rel => exact ⟨_, rfl, ⟨belowNext (Below.drew hW0.out) hb⟩, ⟨blkBelow hb hq0.out⟩, hP⟩
        case rest =>
          obtain ⟨t, rfl, hW, hq1, hp⟩ := hcut
          obtain ⟨W1, hWc⟩ : ∃ W, wc = W := ⟨_, rfl⟩
          rw [hWc] at hW hq1 ⊢
          clear hWc hW0 hq0 hB0
          have hB1 := As.mk (hbel.out.trans (hW.out.mono hbel.out.size))
          go_upto_if 35 with fail
          go_cut [0, 1] from 9 to 62 (fun v0 v1 wx => ∃ x1 x2, As (wx.heap[wr.heap.size]? = some (.cells #[.int .i64 x1, .int .i64 x2] 45 (0, 0))) ∧ As (Keeps (fun k => k = wr.heap.size) wr wx) ∧ As (∀ v4 w4, OwnPrs w4 w.heap.size v4 (push out (x1, x2)) → Below w.heap.size w w4 → JRel w a b n1 n2 gp v0 v1 v4 w4))
          case first =>
            cases t with
            | true =>
              obtain ⟨⟨x1, x2⟩, a2, rfl, hmin⟩ := hp.out.1 rfl
              have hJ2 := As.mk (hJ.out.takeA hmin)
              have hp1 : 0 < m1 := by have := hm1.out; simp at this; omega
              clear hmin hp
              have k0 : W1.cell? ⟨wr.heap.size, 0, none⟩ = some (.int .i64 0) := cell_of_blk hq1.out 0
              have k1 : W1.cell? ⟨wr.heap.size, 1, none⟩ = some (.int .i64 0) := cell_of_blk hq1.out 1
              have f0 : W1.frozen? ⟨wr.heap.size, 0, none⟩ = false := free_of_blk hq1.out 0
              have f1 : W1.frozen? ⟨wr.heap.size, 1, none⟩ = false := free_of_blk hq1.out 1
              obtain ⟨ad, rfl, a1, a2⟩ := Prs.head (Row.below hRA.out hB1.out)
              by_cases hcl : c' = 1
              · subst hcl
                obtain rfl : m1 = 1 := by omega
                have ha0 := zero_len hm1.out (Nat.le_refl _)
                have hfin := As.mk (JRel.nextA (x := (x1, x2)) (n1 := n1) (n2 := n2) (out := out) (wr := wr) hm1.out hm2.out hgk.out hmc hmd hc' hd' hout.out hJ2.out hRB.out (some ad) (.inl (by rw [ha0]; rfl)))
                have hK2 : Keeps (fun k => k = wr.heap.size) wr ((W1.setCell ⟨wr.heap.size, 0, none⟩ (.int .i64 x1)).setCell ⟨wr.heap.size, 1, none⟩ (.int .i64 x2)).drew := keepsTwo hW.out _ _
                have hq2 : ((W1.setCell ⟨wr.heap.size, 0, none⟩ (.int .i64 x1)).setCell ⟨wr.heap.size, 1, none⟩ (.int .i64 x2)).drew.heap[wr.heap.size]? = some (.cells #[.int .i64 x1, .int .i64 x2] 45 (0, 0)) := by
                  have := blk_set (blk_set hq1.out 0 (.int .i64 x1)) 1 (.int .i64 x2)
                  simp only [List.setIfInBounds_toArray, List.set_cons_zero, List.set_cons_succ] at this
                  exact this
                go_wp2
                go_region
                all_goals
                  go_wp2_with fail
                  go_meet
                  case rel => exact ⟨x1, x2, ⟨hq2⟩, ⟨hK2⟩, hfin⟩
              · have hfin := As.mk (JRel.nextA (x := (x1, x2)) (n1 := n1) (n2 := n2) (out := out) (wr := wr) hm1.out hm2.out hgk.out hmc hmd hc' hd' hout.out hJ2.out hRB.out (some ⟨ad.block, ad.off + 2, none⟩) (Prs.tail hRA.out))
                have hK2 : Keeps (fun k => k = wr.heap.size) wr ((W1.setCell ⟨wr.heap.size, 0, none⟩ (.int .i64 x1)).setCell ⟨wr.heap.size, 1, none⟩ (.int .i64 x2)).drew := keepsTwo hW.out _ _
                have hq2 : ((W1.setCell ⟨wr.heap.size, 0, none⟩ (.int .i64 x1)).setCell ⟨wr.heap.size, 1, none⟩ (.int .i64 x2)).drew.heap[wr.heap.size]? = some (.cells #[.int .i64 x1, .int .i64 x2] 45 (0, 0)) := by
                  have := blk_set (blk_set hq1.out 0 (.int .i64 x1)) 1 (.int .i64 x2)
                  simp only [List.setIfInBounds_toArray, List.set_cons_zero, List.set_cons_succ] at this
                  exact this
                go_wp2
                go_region
                all_goals
                  go_wp2_with fail
                  go_meet
                  case rel => exact ⟨x1, x2, ⟨hq2⟩, ⟨hK2⟩, hfin⟩
            | false =>
              obtain ⟨⟨x1, x2⟩, b2, rfl, hmin⟩ := hp.out.2 rfl
              have hJ2 := As.mk (hJ.out.takeB hmin)
              have hp1 : 0 < m2 := by have := hm2.out; simp at this; omega
              clear hmin hp
              have k0 : W1.cell? ⟨wr.heap.size, 0, none⟩ = some (.int .i64 0) := cell_of_blk hq1.out 0
              have k1 : W1.cell? ⟨wr.heap.size, 1, none⟩ = some (.int .i64 0) := cell_of_blk hq1.out 1
              have f0 : W1.frozen? ⟨wr.heap.size, 0, none⟩ = false := free_of_blk hq1.out 0
              have f1 : W1.frozen? ⟨wr.heap.size, 1, none⟩ = false := free_of_blk hq1.out 1
              obtain ⟨ad, rfl, a1, a2⟩ := Prs.head (Row.below hRB.out hB1.out)
              by_cases hcl : d' = 1
              · subst hcl
                obtain rfl : m2 = 1 := by omega
                have ha0 := zero_len hm2.out (Nat.le_refl _)
                have hfin := As.mk (JRel.nextB (x := (x1, x2)) (n1 := n1) (n2 := n2) (out := out) (wr := wr) hm1.out hm2.out hgk.out hmc hmd hc' hd' hout.out hJ2.out hRA.out (some ad) (.inl (by rw [ha0]; rfl)))
                have hK2 : Keeps (fun k => k = wr.heap.size) wr ((W1.setCell ⟨wr.heap.size, 0, none⟩ (.int .i64 x1)).setCell ⟨wr.heap.size, 1, none⟩ (.int .i64 x2)).drew := keepsTwo hW.out _ _
                have hq2 : ((W1.setCell ⟨wr.heap.size, 0, none⟩ (.int .i64 x1)).setCell ⟨wr.heap.size, 1, none⟩ (.int .i64 x2)).drew.heap[wr.heap.size]? = some (.cells #[.int .i64 x1, .int .i64 x2] 45 (0, 0)) := by
                  have := blk_set (blk_set hq1.out 0 (.int .i64 x1)) 1 (.int .i64 x2)
                  simp only [List.setIfInBounds_toArray, List.set_cons_zero, List.set_cons_succ] at this
                  exact this
                go_wp2
                go_region
                all_goals
                  go_wp2_with fail
                  go_meet
                  case rel => exact ⟨x1, x2, ⟨hq2⟩, ⟨hK2⟩, hfin⟩
              · have hfin := As.mk (JRel.nextB (x := (x1, x2)) (n1 := n1) (n2 := n2) (out := out) (wr := wr) hm1.out hm2.out hgk.out hmc hmd hc' hd' hout.out hJ2.out hRA.out (some ⟨ad.block, ad.off + 2, none⟩) (Prs.tail hRB.out))
                have hK2 : Keeps (fun k => k = wr.heap.size) wr ((W1.setCell ⟨wr.heap.size, 0, none⟩ (.int .i64 x1)).setCell ⟨wr.heap.size, 1, none⟩ (.int .i64 x2)).drew := keepsTwo hW.out _ _
                have hq2 : ((W1.setCell ⟨wr.heap.size, 0, none⟩ (.int .i64 x1)).setCell ⟨wr.heap.size, 1, none⟩ (.int .i64 x2)).drew.heap[wr.heap.size]? = some (.cells #[.int .i64 x1, .int .i64 x2] 45 (0, 0)) := by
                  have := blk_set (blk_set hq1.out 0 (.int .i64 x1)) 1 (.int .i64 x2)
                  simp only [List.setIfInBounds_toArray, List.set_cons_zero, List.set_cons_succ] at this
                  exact this
                go_wp2
                go_region
                all_goals
                  go_wp2_with fail
                  go_meet
                  case rel => exact ⟨x1, x2, ⟨hq2⟩, ⟨hK2⟩, hfin⟩
          case rest =>
            obtain ⟨x1, x2, hq2, hK2, hfin⟩ := hcut
            obtain ⟨W2, hWc2⟩ : ∃ W, wc = W := ⟨_, rfl⟩
            rw [hWc2] at hq2 hK2 ⊢
            clear hWc2
            have hown2 := As.mk (own_keep hown.out hK2.out (fun q c _ hq _ => Nat.ne_of_lt (block_lt hq)))
            have hB2 := As.mk (hbel.out.trans (hK2.out.below (B := w.heap.size) (fun k hk hk2 => by have := hbel.out.size; omega) hbel.out.size))
            have y0 : W2.cell? ⟨wr.heap.size, 0, none⟩ = some (.int .i64 x1) := cell_of_blk hq2.out 0
            have y1 : W2.cell? ⟨wr.heap.size, 1, none⟩ = some (.int .i64 x2) := cell_of_blk hq2.out 1
            have s2 := hB2.out.size
            clear hq2 hK2 hW hq1 hp
            rcases nil_or_snoc out with rfl | ⟨pre, z, rfl⟩
            · obtain ⟨Ao, co, rfl, hco⟩ := own_slice hown2.out
              have hpu := As.mk (push_new (out := []) (x := (x1, x2)) (by simp))
              go_wp2
              go_region
              obtain ⟨W3, hW3⟩ : ∃ W, W2.drew = W := ⟨_, rfl⟩
              have hown3 := (show OwnPrs W2.drew w.heap.size _ _ from hown2.out)
              rw [hW3] at hown3
              replace hown3 := As.mk hown3
              have hB3 := As.mk (show Below w.heap.size w W3 by rw [← hW3]; exact hB2.out.drew)
              have y0 : W3.cell? ⟨wr.heap.size, 0, none⟩ = some (.int .i64 x1) := by rw [← hW3]; exact y0
              have y1 : W3.cell? ⟨wr.heap.size, 1, none⟩ = some (.int .i64 x2) := by rw [← hW3]; exact y1
              have s3 := hB3.out.size
              rw [hW3]
              clear hW3
              go_wp2_with (at_builtin
                           refine wpList_app1 _ rfl (.tmp 59) (.tmp 61) 33 rfl w.heap.size 45 _ 2 16 Try.underlying33 info_pr rfl (by decide) _ 0 (prCells []) rfl hown3.out [.int .i64 x1, .int .i64 x2] rfl (by simp [Value.oneCell']) _ rfl (by simp) (by omega) (by decide) s3 ?_
                           intro v4 w4 ho4 hk4 _ hb4)
              go_roundg gp
              case rel => exact hfin.out _ _ (by rw [hpu.out]; exact ho4) (hB3.out.trans hb4)
              case measure => omega
            · have hpl : (pre ++ [z]).length = pre.length + 1 := by simp
              obtain ⟨bo, co, rfl, hco, z1, z2, _⟩ := prLast hown2.out
              obtain ⟨z1', z2'⟩ := z
              obtain ⟨pl, hpl2⟩ : ∃ k, pre.length = k := ⟨_, rfl⟩
              rw [hpl2] at hpl hco z1 z2 ⊢
              have hob := hout.out
              rw [hpl] at hob
              have hpl3 := As.mk hpl2
              have hpl4 := As.mk hpl
              clear hpl hpl2
              by_cases hzx : z1' = x1 ∧ z2' = x2
              · obtain ⟨e1, e2⟩ := hzx
                subst e1
                subst e2
                have hpu := As.mk (push_old (out := pre ++ [(z1', z2')]) (x := (z1', z2')) (by simp))
                have hne0 : (((pl : Int) + 1) == 0) = false := by simp; omega
                go_wp2
                go_region
                go_wp2
                go_roundg gp
                case rel => exact hfin.out _ _ (by rw [hpu.out, ← hpl3.out]; exact hown2.out) hB2.out.drew
                case measure => omega
              · have hne0 : (((pl : Int) + 1) == 0) = false := by simp; omega
                have e1 : (!(z1' == x1) || !(z2' == x2)) = true := by
                  simp only [Bool.or_eq_true, Bool.not_eq_true', beq_eq_false_iff_ne]; omega
                have hpu := As.mk (push_new (out := pre ++ [(z1', z2')]) (x := (x1, x2)) (by simp; omega))
                clear hzx
                go_wp2
                go_region
                obtain ⟨W3, hW3⟩ : ∃ W, W2.drew = W := ⟨_, rfl⟩
                have hown3 := (show OwnPrs W2.drew w.heap.size _ _ from hown2.out)
                rw [hW3] at hown3
                replace hown3 := As.mk hown3
                have hB3 := As.mk (show Below w.heap.size w W3 by rw [← hW3]; exact hB2.out.drew)
                have y0 : W3.cell? ⟨wr.heap.size, 0, none⟩ = some (.int .i64 x1) := by rw [← hW3]; exact y0
                have y1 : W3.cell? ⟨wr.heap.size, 1, none⟩ = some (.int .i64 x2) := by rw [← hW3]; exact y1
                have s3 := hB3.out.size
                rw [hW3]
                clear hW3
                have hown4 : W3.ownsRow w.heap.size 45 2 (.slice (some ⟨bo, 0, none⟩) (pl + 1) co) (pl + 1) (prCells (pre ++ [(z1', z2')])) := by have := hown3.out; unfold OwnPrs at this; rwa [hpl4.out, hpl3.out] at this
                replace hown4 := As.mk hown4
                go_wp2_with (at_builtin
                             refine wpList_app1 _ rfl (.tmp 59) (.tmp 61) 33 rfl w.heap.size 45 _ 2 16 Try.underlying33 info_pr rfl (by decide) _ (pl + 1) (prCells (pre ++ [(z1', z2')])) rfl hown4.out [.int .i64 x1, .int .i64 x2] rfl (by simp [Value.oneCell']) _ rfl (by simp) (by omega) (by decide) s3 ?_
                             intro v4 w4 ho4 hk4 _ hb4)
                go_roundg gp
                case rel => exact hfin.out _ _ (by rw [hpu.out]; unfold OwnPrs; rw [List.length_append, List.length_append, List.length_singleton, hpl3.out, prCells_snoc]; exact ho4) (hB3.out.trans hb4)
                case measure => omega
end Go.Proofs.Ytieelnpfpfiboaa
end
section
/- The walks of package pairs: a copy, pairs in order. -/
set_option linter.unusedVariables false
set_option linter.unusedSimpArgs false
namespace Go.Proofs.Ytieelnpfpfiboaa
open Go.RowKit Seine.Sort
theorem prs_one {b : List Pr} : ∀ u ∈ prCells b, u.oneCell' = true := fun u hu => by
  obtain ⟨x, _, hx⟩ := List.mem_flatMap.1 hu
  rcases List.mem_cons.1 hx with rfl | hx
  · rfl
  · rw [List.mem_singleton] at hx; subst hx; rfl
set_option maxRecDepth 100000 in
set_option maxHeartbeats 400000 in
theorem clonePrs_calls (A : Option Addr) (c : Nat) (l : List Pr) (w : World) (h : Prs w A l) (hl : l.length ≤ 1000000) :
    Calls Try.prog 51 #[.slice A l.length c] w (RetPrs w l) := by
  obtain ⟨n, hn⟩ : ∃ n, l.length = n := ⟨_, rfl⟩
  rw [hn] at hl ⊢
  replace hn := As.mk hn
  have H := As.mk h
  clear h
  cases A with
  | none =>
    have hl0 : l = [] := by
      rcases H.out with h | ⟨ad, e, _⟩
      · have := congrArg List.length h; rw [prCells_length] at this; exact List.eq_nil_of_length_eq_zero (by rw [List.length_nil] at this; omega)
      · cases e
    subst hl0
    have hnil : ∀ (w : World) (n c : Nat), (binOp .eql 33 (.slice none n c) (.slice none 0 0)).run Try.prog w = .ok (.bool true) w := fun w n c => Lib.run_eql_slice_nil w _ _ none n c 0 0 Try.underlying33
    go_enter Try.func51, Try.ntmps51
    go_wp2
    go_ret
    exact ⟨_, rfl, World.ownsRow_nil _ _ _ _, Below.refl _ _⟩
  | some ad =>
    have hown : As ((w.alloc (.cells #[] 45)).ownsRow w.heap.size 45 2 (.slice (some ⟨w.heap.size, 0, none⟩) 0 0) 0 []) := ⟨⟨rfl, .inr ⟨_, 0, #[], rfl, Nat.le_refl _, heap_alloc_new w _, Nat.le_refl _, Nat.zero_le _, rfl, rfl⟩⟩⟩
    have hrow := As.mk (Row.alloc H.out (.cells #[] 45))
    have hnl : As ((prCells l).length = n * 2) := ⟨by rw [prCells_length, hn.out]⟩
    have hnil : ∀ (w : World) (a : Addr) (n c : Nat), (binOp .eql 33 (.slice (some a) n c) (.slice none 0 0)).run Try.prog w = .ok (.bool false) w := fun w a n c => Lib.run_eql_slice_nil w _ _ (some a) n c 0 0 Try.underlying33
    go_enter Try.func51, Try.ntmps51
    go_wp2_with (at_builtin
                 refine wpList_apps _ rfl (.tmp 5) (.tmp 6) 33 rfl w.heap.size 45 _ 2 16 Try.underlying33 info_pr rfl (by decide) _ 0 [] rfl hown.out (some ad) n c (prCells l) hrow.out hnl.out prs_one rfl (by omega) (by decide) (by simp) ?_
                 intro v' w' h2 h3)
    go_ret
    exact ⟨v', rfl, by unfold OwnPrs; rw [hn.out]; simpa using h2, ((Below.refl _ _).alloc (Nat.le_refl _) _).trans h3⟩
theorem Prs.take_ {w : World} {A : Option Addr} {l : List Pr} (h : Prs w A l) (m : Nat) : Prs w A (l.take m) := by
  rcases h with h | ⟨ad, e, hlt, hc⟩
  · have h0 : l = [] := by have := congrArg List.length h; rw [prCells_length] at this; exact List.eq_nil_of_length_eq_zero (by rw [List.length_nil] at this; omega)
    subst h0
    exact .inl (by simp [prCells])
  · refine .inr ⟨ad, e, hlt, fun j u hu => hc j u ?_⟩
    have : prCells l = prCells (l.take m) ++ prCells (l.drop m) := by unfold prCells; rw [← List.flatMap_append, List.take_append_drop]
    rw [this, List.getElem?_append_left (List.getElem?_eq_some_iff.1 hu).1]; exact hu
theorem Prs.drop_ {w : World} {ad : Addr} {l : List Pr} (h : Prs w (some ad) l) (m : Nat) (hm : m ≤ l.length) : Prs w (some (ad.add (m * 2))) (l.drop m) := by
  rcases h with h | ⟨ad', e, hlt, hc⟩
  · have h0 : l = [] := by have := congrArg List.length h; rw [prCells_length] at this; exact List.eq_nil_of_length_eq_zero (by rw [List.length_nil] at this; omega)
    subst h0
    exact .inl (by simp [prCells])
  · injection e with e
    subst e
    refine .inr ⟨_, rfl, by rw [Addr.block_add]; exact hlt, fun j u hu => ?_⟩
    rw [Addr.add_add']
    refine hc _ u ?_
    have : prCells l = prCells (l.take m) ++ prCells (l.drop m) := by unfold prCells; rw [← List.flatMap_append, List.take_append_drop]
    rw [this, List.getElem?_append_right (by rw [prCells_length, List.length_take]; omega), prCells_length, List.length_take, Nat.min_eq_left hm, Nat.add_sub_cancel_left]; exact hu
theorem RetPrs.out {w w' : World} {xs : List Pr} {e : Ending} (h : RetPrs w xs e w') : ∃ v, e = .returned v ∧ OwnPrs w' w.heap.size v xs ∧ Below w.heap.size w w' := h
theorem RetPrs.row2 {w w' : World} {xs : List Pr} {e : Ending} (h : RetPrs w xs e w') : ∃ A c, e = .returned (.slice A xs.length c) ∧ xs.length ≤ c ∧ c ≤ maxLen ∧ Prs w' A xs ∧ Below w.heap.size w w' := by
  obtain ⟨v, rfl, ho, hb⟩ := h
  obtain ⟨A, c, rfl, hc, hr⟩ := OwnPrs.row ho
  refine ⟨A, c, rfl, hc, ?_, hr, hb⟩
  rcases ho.2 with ⟨hv, _⟩ | ⟨g, cap, cur, hv, _, _, _, hcm, _⟩
  · injection hv with _ _ h; omega
  · injection hv with _ _ h; omega
set_option maxRecDepth 100000 in
set_option maxHeartbeats 1600000 in
theorem sort_calls (k : Nat) : ∀ (A : Option Addr) (c : Nat) (l : List Pr) (w : World), l.length ≤ k → Prs w A l → l.length ≤ c → c ≤ maxLen → l.length ≤ 1000000 →
    Calls Try.prog 37 #[.slice A l.length c] w (RetPrs w (sortP l)) := by
  induction k with
  | zero =>
    intro A c l w hk h hc hcm hl
    obtain rfl : l = [] := List.eq_nil_of_length_eq_zero (by omega)
    have cc := As.mk (clonePrs_calls A c [] w h (by simp))
    rw [List.length_nil] at cc ⊢
    clear h
    go_enter Try.func37, Try.ntmps37
    go_wp2_with (go_at_call 51; refine Calls.mono cc.out ?_; rintro e w1 ⟨v, rfl, ho, hb⟩)
    go_ret
    exact ⟨v, rfl, ho, hb⟩
  | succ k ih =>
    intro A c l w hk h hc hcm hl
    unfold maxLen at hcm
    by_cases h2 : l.length < 2
    · have hs := As.mk (sortP_short h2)
      have cc := As.mk (clonePrs_calls A c l w h hl)
      obtain ⟨n, hn⟩ : ∃ n, l.length = n := ⟨_, rfl⟩
      rw [hn] at h2 cc ⊢
      rw [hs.out]
      clear h hn
      go_enter Try.func37, Try.ntmps37
      go_wp2_with (go_at_call 51; refine Calls.mono cc.out ?_; rintro e w1 ⟨v, rfl, ho, hb⟩)
      go_ret
      exact ⟨v, rfl, ho, hb⟩
    · obtain ⟨ad, rfl, _, _⟩ := Prs.at_ h (i := 0) (by omega)
      have HX := As.mk h
      obtain ⟨n, hn⟩ : ∃ n, l.length = n := ⟨_, rfl⟩
      obtain ⟨m, hm⟩ : ∃ m, n / 2 = m := ⟨_, rfl⟩
      have ct := As.mk (fun v (hv : Below w.heap.size w v) => (by have := ih (some ad) c (l.take m) v (by rw [List.length_take]; omega) ((Prs.take_ HX.out m).below hv) (by rw [List.length_take]; omega) (by unfold maxLen; omega) (by rw [List.length_take]; omega); rw [List.length_take, Nat.min_eq_left (by omega)] at this; exact this : Calls Try.prog 37 #[.slice (some ad) m c] v (RetPrs v (sortP (l.take m)))))
      have cd := As.mk (fun v (hv : Below w.heap.size w v) => (by have := ih (some (ad.add (m * 2))) (c - m) (l.drop m) v (by rw [List.length_drop]; omega) ((Prs.drop_ HX.out m (by omega)).below hv) (by rw [List.length_drop]; omega) (by unfold maxLen; omega) (by rw [List.length_drop]; omega); rw [List.length_drop, hn] at this; exact this : Calls Try.prog 37 #[.slice (some (ad.add (m * 2))) (n - m) (c - m)] v (RetPrs v (sortP (l.drop m)))))
      have hlt := As.mk (show (sortP (l.take m)).length ≤ 1000000 by have := sortP_len (l.take m); rw [List.length_take] at this; omega)
      have hld := As.mk (show (sortP (l.drop m)).length ≤ 1000000 by have := sortP_len (l.drop m); rw [List.length_drop] at this; omega)
      have hrt := As.mk (rise_sortP (l.take m))
      have hrd := As.mk (rise_sortP (l.drop m))
      rw [← sortP_split l m]
      rw [hn] at hk hc hl h2 ⊢
      replace hn := As.mk hn
      generalize sortP (l.take m) = S1 at *
      generalize sortP (l.drop m) = S2 at *
      have hm1 : m < n := by omega
      have hm2 : 1 ≤ m := by omega
      have hmc : ¬ c = m := by omega
      have hmc1 : m ≤ c := by omega
      have hmn : m ≤ n := by omega
      have hq : (n : Int) / 2 = (m : Int) := by omega
      replace hm := As.mk hm
      clear h ih
      go_enter Try.func37, Try.ntmps37
      go_wp2_with fail
      go_region_with (first
        | (go_at_call 37; with_reducible refine Calls.mono (ct.out _ ?hb) ?_; (case hb => (repeat (first | (with_reducible assumption) | (with_reducible exact Below.refl _ _) | (with_reducible refine Below.drew ?_) | (with_reducible refine below_drewN ?_ _) | (with_reducible refine Below.alloc ?_ (by (first | omega | (simp only [World.size_alloc, World.size_drew]; done) | (simp only [World.size_alloc, World.size_drew]; omega))) _) | (refine Below.trans ?_ (Below.mono (by with_reducible assumption) (by (first | omega | (simp only [World.size_alloc, World.size_drew]; done) | (simp only [World.size_alloc, World.size_drew]; omega)))))))); intro e w1 h1; obtain ⟨A1, c1, he, hc1, hm1', hr1, hb1⟩ := h1.row2; subst he; clear h1)
        | (go_at_call 37; with_reducible refine Calls.mono (cd.out _ ?hb) ?_; (case hb => (repeat (first | (with_reducible assumption) | (with_reducible exact Below.refl _ _) | (with_reducible refine Below.drew ?_) | (with_reducible refine below_drewN ?_ _) | (with_reducible refine Below.alloc ?_ (by (first | omega | (simp only [World.size_alloc, World.size_drew]; done) | (simp only [World.size_alloc, World.size_drew]; omega))) _) | (refine Below.trans ?_ (Below.mono (by with_reducible assumption) (by (first | omega | (simp only [World.size_alloc, World.size_drew]; done) | (simp only [World.size_alloc, World.size_drew]; omega)))))))); intro e w2 h2; obtain ⟨A2, c2, he, hc2, hm2', hr2, hb2⟩ := h2.row2; subst he; clear h2)
        | (go_at_call 52; with_reducible refine Calls.mono (joined_calls A1 c1 S1 A2 c2 S2 _ ?p1 ?p2 hc1 hc2 hm1' hm2' hrt.out hrd.out ?p3) ?_; (case p1 => first | exact hr1 | exact Row.below hr1 hb2); (case p2 => first | exact hr2 | exact Row.below hr2 hb1); (case p3 => have := hlt.out; have := hld.out; omega); intro e w3 h3; obtain ⟨v3, he, ho3, hb3⟩ := h3.out; subst he))
      all_goals
        go_wp2_with fail
        go_ret
        have e1 := hb1.size
        have e2 := hb2.size
        simp only [World.size_drew] at e1 e2
        refine ⟨v3, rfl, own_base ho3 (by omega), ?_⟩
        (repeat (first | (with_reducible assumption) | (with_reducible exact Below.refl _ _) | (with_reducible refine Below.drew ?_) | (with_reducible refine below_drewN ?_ _) | (with_reducible refine Below.alloc ?_ (by (first | omega | (simp only [World.size_alloc, World.size_drew]; done) | (simp only [World.size_alloc, World.size_drew]; omega))) _) | (refine Below.trans ?_ (Below.mono (by with_reducible assumption) (by (first | omega | (simp only [World.size_alloc, World.size_drew]; done) | (simp only [World.size_alloc, World.size_drew]; omega)))))))
end Go.Proofs.Ytieelnpfpfiboaa
end
section
/- The walk of sparse.Scan. -/
set_option linter.unusedVariables false
set_option linter.unusedSimpArgs false
namespace Go.Proofs.Ytieelnpfpfiboaa
open Go.RowKit Go.Maps Seine.Trie Seine.Links Seine.Sparse
open Seine.Sort (sortP sortP_len)
/-- A counting that has room. -/
def Cn.room (c : Cn) : Prop := 0 ≤ c.s ∧ c.s ≤ 100000000000 ∧ 0 ≤ c.l ∧ c.l ≤ 100000000000 ∧ 0 ≤ c.h ∧ c.h ≤ 100000000000 ∧ 0 ≤ c.m ∧ c.m ≤ 100000000000
def Cn.more (c : Cn) (i k : Nat) : Cn := ⟨c.s + (i : Int), c.l + (k : Int), c.h, c.m⟩
theorem Cn.more_zero (c : Cn) : c.more 0 0 = c := by unfold Cn.more; simp
theorem Cn.more_ok {c : Cn} (h : c.room) {i k : Nat} (hi : i ≤ 1000000) (hk : k ≤ 2000000) : (c.more i k).ok := by unfold Cn.room at h; unfold Cn.more Cn.ok; simp only; omega
theorem Keeps.transBelow {S : Nat → Prop} {w0 wr w4 : World} (h : Keeps S w0 wr) (k : Below w0.heap.size wr w4) : Keeps S w0 w4 :=
  ⟨k.os.trans h.os, k.tape.trans h.tape, k.output.trans h.output, Nat.le_trans h.size k.size, fun i hi hn => (k.block i hi).trans (h.block i hi hn)⟩
theorem Mo.belowAt {w w' : World} {mo : Option Nat} {c : Cn} {base : Nat} (h : Mo w mo c) (hlt : ∀ g, mo = some g → g < base) (hb : Below base w w') : Mo w' mo c := fun g e => (hb.block g (hlt g e)).trans (h g e)
theorem OwnPrs.row2 {w : World} {base : Nat} {v : Value} {xs : List Pr} (h : OwnPrs w base v xs) : ∃ A c, v = .slice A xs.length c ∧ xs.length ≤ c ∧ c ≤ maxLen ∧ Prs w A xs := by
  obtain ⟨A, c, rfl, hc, hr⟩ := OwnPrs.row h
  refine ⟨A, c, rfl, hc, ?_, hr⟩
  rcases h.2 with ⟨hv, _⟩ | ⟨g, cap, cur, hv, _, _, _, hcm, _⟩
  · injection hv with _ _ h; omega
  · injection hv with _ _ h; omega
/-- Pairs in new memory; all that was there stays, but for what counts. -/
def RetPrsM (w : World) (mo : Option Nat) (xs : List Pr) (cn : Cn) (e : Ending) (w' : World) : Prop := ∃ v, e = .returned v ∧ OwnPrs w' w.heap.size v xs ∧ Mo w' mo cn ∧ Keeps (OnlyM mo) w w'
theorem RetPrsM.out {w w' : World} {mo : Option Nat} {xs : List Pr} {cn : Cn} {e : Ending} (h : RetPrsM w mo xs cn e w') : ∃ A c, e = .returned (.slice A xs.length c) ∧ xs.length ≤ c ∧ c ≤ maxLen ∧ Prs w' A xs ∧ Mo w' mo cn ∧ Keeps (OnlyM mo) w w' ∧ OwnPrs w' w.heap.size (.slice A xs.length c) xs := by
  obtain ⟨v, rfl, ho, hm, hk⟩ := h
  obtain ⟨A, c, rfl, hc, hcm, hr⟩ := OwnPrs.row2 ho
  exact ⟨A, c, rfl, hc, hcm, hr, hm, hk, ho⟩
/-- What a scan hands from byte to byte. -/
structure ScanAt (w wr : World) (P l : List Txt) (L : Txt) (mo : Option Nat) (cn : Cn) (i : Nat) (v : Value) : Prop where
  own : OwnPrs wr w.heap.size v (hitsTo P l L i)
  mt : Mo wr mo (cn.more i (looksTo P L i))
  keep : Keeps (OnlyM mo) w wr
theorem sscan_none (w : World) (mv lv : Value) : Calls Try.prog 14 #[.pointer none, mv, lv] w fun e w' => e = .returned (.slice none 0 0) ∧ w = w' := by
  go_enter Try.func14, Try.ntmps14
  go_wp2
  go_ret
  exact ⟨rfl, rfl⟩
theorem RetInts.out {w w' : World} {xs : List Int} {e : Ending} (h : RetInts w xs e w') : ∃ v, e = .returned v ∧ OwnInts w' w.heap.size v xs ∧ Below w.heap.size w w' := h
theorem endsAt_eq {P l : List Txt} (hT : Tree P) (t : Txt) : endsAt P l (place P (lng P t)) = endsF l (lng P t) := by
  obtain ⟨a, ea, ha⟩ := place_nat' (lng_mem hT t)
  rw [ea]; exact endsAt_place hT ha
theorem endsF_range {l : List Txt} {s : Txt} {n : Int} (h : n ∈ endsF l s) : 1 ≤ n ∧ n ≤ s.length := by
  obtain ⟨k, h1, _, rfl⟩ := mem_endsF.1 h; omega
set_option maxRecDepth 100000 in
set_option maxHeartbeats 3200000 in
theorem sscan_calls (w : World) (g : Nat) (P l : List Txt) (h : AutoAt w g P l) (mo : Option Nat) (cn : Cn) (hm : Mo w mo cn) (hok : cn.room) (hT : Tree P) (hlP : ∀ x, x ∈ l → x ∈ P) (m : Nat) (hpm : ∀ p ∈ P, p.length ≤ m) (hm1 : m ≤ 100000) (hl : P.length ≤ 1000000)
    (A : Option Addr) (c : Nat) (L : Txt) (hx : Byt w A L) (hL : L.length ≤ 1000000) (hLm : L.length * m ≤ 1000000) :
    Calls Try.prog 14 #[.pointer (some ⟨g, 0, none⟩), .pointer (madr mo), .slice A L.length c] w (RetPrsM w mo (sortP (hitsTo P l L L.length)) (cn.more L.length (looksTo P L L.length))) := by
  have HA := As.mk h
  have HM := As.mk hm
  have hTr := As.mk hT
  have ctx := As.mk (fun v (hv : Below w.heap.size w v) => mtext_calls v mo cn (HM.out.below hv) A c L (Row.below hx hv) hL)
  obtain ⟨B, h1, h2, h3, h4⟩ := h
  obtain ⟨Av, cv, hv, hcv⟩ := own_slice h4
  have hrow := Row.of_own (by rw [hv] at h4; exact h4)
  have csp := As.mk (fun v (hb : Below w.heap.size w v) => msparse_calls v mo Av cv (P.length - 1) P hT hl (Row.below hrow hb) rfl)
  have hc2 := As.mk (fun v (hb : Below w.heap.size w v) => (show v.cell? ⟨g, 2, none⟩ = some (.slice Av (P.length - 1) cv) by rw [← hv]; exact cell_of_blk (blkBelow hb h1) 2))
  have d0 := hc2.out _ ((Below.refl _ _).drew)
  obtain ⟨n, hn⟩ : ∃ k, L.length = k := ⟨_, rfl⟩
  obtain ⟨pl, hpl⟩ : ∃ k, P.length - 1 = k := ⟨_, rfl⟩
  rw [hn] at ctx hL hLm ⊢
  rw [hpl] at csp hc2 d0
  have hn' := As.mk hn
  have hpm' := As.mk hpm
  have hlP' := As.mk hlP
  have hpl' := As.mk hpl
  clear h1 h2 h3 h4 hv hrow hm hT hx hn hpm hlP hpl
  go_enter Try.func14, Try.ntmps14
  go_wp2_with fail
  go_cut [7, 8] (fun v7 v8 wx => ∃ tb eb, v7 = .pointer (some ⟨tb, 0, none⟩) ∧ v8 = .pointer (some ⟨eb, 0, none⟩) ∧ As (TextAt wx tb mo L) ∧ As (TabS wx eb mo P) ∧ As (Below w.heap.size w wx))
  case first =>
    have hwd : Below w.heap.size w w.drew := (Below.refl _ _).drew
    go_region_with (first
      | (go_at_call 31; with_reducible refine Calls.mono (ctx.out _ ?hv) ?_; (case hv => with_reducible assumption); rintro e w1 ⟨tb, rfl, ht1, hb1⟩; have hw1 : Below w.heap.size w w1 := belowNext (by with_reducible assumption) hb1; have d1 := hc2.out _ hw1)
      | (go_at_call 32; with_reducible refine Calls.mono (csp.out _ ?hv) ?_; (case hv => with_reducible assumption); rintro e w2 ⟨eb, rfl, ht2, hb2⟩; have hw2 : Below w.heap.size w w2 := belowNext (by with_reducible assumption) hb2))
    all_goals
      go_wp2_with fail
      go_meet
      case rel => first
        | exact ⟨tb, eb, rfl, rfl, ⟨ht1.below hb2⟩, ⟨ht2⟩, ⟨hw2⟩⟩
        | exact ⟨tb, eb, rfl, rfl, ⟨ht1⟩, ⟨ht2.below hb1⟩, ⟨hw1⟩⟩
  case rest =>
    obtain ⟨tb, eb, rfl, rfl, hTx, hTab, hbw⟩ := hcut
    obtain ⟨W0, hW0⟩ : ∃ W, wc = W := ⟨_, rfl⟩
    rw [hW0] at hTx hTab hbw ⊢
    clear hW0 ctx csp hc2 d0
    have hA0 := As.mk (HA.out.below hbw.out)
    have hM0 := As.mk (HM.out.below hbw.out)
    have hglt := As.mk (fun g (e : mo = some g) => (block_lt (hM0.out g e) : g < W0.heap.size))
    have clen := As.mk (mlen_calls W0 tb mo L hTx.out)
    rw [hn'.out] at clen
    have hS0 : As (ScanAt W0 W0 P l L mo cn 0 (.slice none 0 0)) := ⟨⟨World.ownsRow_nil _ _ _ _, by rw [show looksTo P L 0 = 0 from rfl, Cn.more_zero]; exact hM0.out, Keeps.refl _ _⟩⟩
    have hp0 : place P (lng P (L.take 0)) = 0 := by rw [List.take_zero, lng_nil, place_at hTr.out.nodup hTr.out.root]; rfl
    go_wp2_with (go_at_call 33; refine Calls.mono clen.out ?_; rintro e w' ⟨rfl, rfl⟩)
    go_loopg [9, 10, 27] (n + 1) (fun gk v9 v10 v27 wr => ∃ (i : Nat) (u : Value), u = v9 ∧ As (n + 1 ≤ gk + i) ∧ i ≤ n ∧ v27 = .int .i64 i ∧ v10 = .int .i64 (place P (lng P (L.take i))) ∧ As (ScanAt W0 wr P l L mo cn i u))
    case atStart => exact ⟨0, _, rfl, ⟨by omega⟩, Nat.zero_le _, rfl, by rw [hp0], hS0⟩
    case round =>
      obtain ⟨i, u, rfl, hgk, hi, rfl, rfl, hS⟩ := hrel
      by_cases hlt : i < n
      · obtain ⟨gp, rfl⟩ : ∃ gp, gk = gp + 1 := ⟨gk - 1, by have := hgk.out; omega⟩
        have hlook := looksTo_cost hTr.out L (i + 1) (by rw [hn'.out]; omega)
        have hlook0 := looksTo_cost hTr.out L i (by rw [hn'.out]; omega)
        have cat := As.mk (mat_calls wr tb mo L (hTx.out.keep hM0.out hS.out.keep) _ hS.out.mt (Cn.more_ok hok (by omega) (by omega)) i (by rw [hn'.out]; exact hlt))
        have hsm := lng_mem hTr.out (L.take i)
        have hsx : looksTo P L (i + 1) = looksTo P L i + looks1 P (lng P (L.take i)) (L.getD i 0) := rfl
        have hnx : lng P (lng P (L.take i) ++ [L.getD i 0]) = lng P (L.take (i + 1)) := by rw [take_snoc' L i (by rw [hn'.out]; exact hlt), ← lng_step hTr.out]
        have cst := As.mk (fun v (hk : Keeps (OnlyM mo) W0 v) (hmv : Mo v mo (cn.more (i + 1) (looksTo P L i))) => sstep_calls v g eb P l (hA0.out.keepM hM0.out hk) mo (hTab.out.keep hM0.out hk) _ hmv hTr.out hl _ hsm (L.getD i 0) ⟨by
          have h1 : (cn.more (i + 1) (looksTo P L i)).looked (looks1 P (lng P (L.take i)) (L.getD i 0)) = cn.more (i + 1) (looksTo P L (i + 1)) := by rw [hsx]; unfold Cn.more Cn.looked; simp only [Cn.mk.injEq, true_and, and_true]; push_cast; omega
          rw [h1]; exact Cn.more_ok hok (by omega) (by omega), Cn.more_ok hok (by omega) (by omega)⟩)
        have hlk : (cn.more (i + 1) (looksTo P L i)).looked (looks1 P (lng P (L.take i)) (L.getD i 0)) = cn.more (i + 1) (looksTo P L (i + 1)) := by rw [hsx]; unfold Cn.more Cn.looked; simp only [Cn.mk.injEq, true_and, and_true]; push_cast; omega
        rw [hnx, hlk] at cst
        have hmS : { cn.more i (looksTo P L i) with s := (cn.more i (looksTo P L i)).s + 1 } = cn.more (i + 1) (looksTo P L i) := by unfold Cn.more; simp only [Cn.mk.injEq, true_and, and_true]; push_cast; omega
        rw [hmS] at cat
        have hendE := endsAt_eq (l := l) hTr.out (L.take (i + 1))
        have hEl := endsF_len l (lng P (L.take (i + 1)))
        have hEm := hpm'.out _ (lng_mem hTr.out (L.take (i + 1)))
        have hEr := As.mk (fun z (hz : z ∈ endsF l (lng P (L.take (i + 1)))) => endsF_range hz)
        have hh : hitsTo P l L (i + 1) = hitsTo P l L i ++ (endsF l (lng P (L.take (i + 1)))).map fun z => (((i + 1 : Nat) : Int) - z, ((i + 1 : Nat) : Int)) := rfl
        have hhl := hitsTo_len (l := l) hTr.out L m hpm'.out i
        have hll := lng_len hTr.out (L.take (i + 1))
        rw [List.length_take, hn'.out] at hll
        have cen := As.mk (fun v (hk : Keeps (OnlyM mo) W0 v) => (by
          obtain ⟨B, h1, h2, h3, h4⟩ := hA0.out.keepM hM0.out hk
          have := lends_calls v B.lb B.lg P l hTr.out hlP'.out (fun p hp => Nat.le_trans (hpm'.out p hp) hm1) h3 (place P (lng P (L.take (i + 1))))
          rw [hendE] at this
          exact ⟨_, cell_of_blk h1 1, this⟩ : ∃ lg, v.cell? ⟨g, 1, none⟩ = some (.pointer (some ⟨lg, 0, none⟩)) ∧ Calls Try.prog 36 #[.pointer (some ⟨lg, 0, none⟩), .int .i64 (place P (lng P (L.take (i + 1))))] v (RetInts v (endsF l (lng P (L.take (i + 1)))))))
        generalize endsF l (lng P (L.take (i + 1))) = E at *
        obtain ⟨st2, hst2⟩ : ∃ x, place P (lng P (L.take (i + 1))) = x := ⟨_, rfl⟩
        rw [hst2] at cst hendE cen
        replace hst2 := As.mk hst2
        generalize place P (lng P (L.take i)) = st1 at *
        generalize L.getD i 0 = x at *
        have hwx : IntKind.u8.wrap (x.toNat : Int) = (x.toNat : Int) := by have := x.toNat_lt; simp only [IntKind.wrap, IntKind.signed, IntKind.bits]; simp; omega
        replace hh := As.mk hh
        clear hsx hnx hlk hmS hendE hsm hlook hlook0
        go_wp2_with (first
          | (go_at_call 35; refine Calls.mono cat.out ?_; rintro e w4 ⟨rfl, hm4, hk4⟩; have hk4' := hS.out.keep.trans hk4)
          | (go_at_call 34; refine Calls.mono (cst.out _ hk4' hm4) ?_; rintro e w5 ⟨rfl, hm5, hk5⟩; have hk5' := hk4'.trans hk5; obtain ⟨lg, hlg, cE⟩ := cen.out _ hk5')
          | (go_at_call 36; refine Calls.mono cE ?_; intro e w6 h6; obtain ⟨vE, heE, hoE, hb6⟩ := h6.out; subst heE; obtain ⟨AE, cE', rfl, hcE⟩ := own_slice hoE))
        obtain ⟨H, hH⟩ : ∃ H, hitsTo P l L i = H := ⟨_, rfl⟩
        obtain ⟨hSo, hSm, hSk⟩ := hS.out
        rw [hH] at hSo hh hhl
        obtain ⟨el, hel⟩ : ∃ k, E.length = k := ⟨_, rfl⟩
        have hown6 : OwnPrs w6 W0.heap.size u H := own_below (own_keep (own_keep hSo hk4 (fun b c' _ hb _ => hSm.far hb (.inr (by decide)))) hk5 (fun b c' _ hb _ => hm4.far hb (.inr (by decide)))) hb6
        have hin : As (OwnPrs w6 W0.heap.size u (H ++ (E.take 0).map fun z => (((i + 1 : Nat) : Int) - z, ((i + 1 : Nat) : Int)))) := ⟨by rw [List.take_zero, List.map_nil, List.append_nil]; exact hown6⟩
        have hmo6 := As.mk (hm5.below hb6)
        have hkp6 := As.mk (hk5'.trans (Keeps.of_below hb6 _))
        have hoE' := As.mk hoE
        have hW5 := hk5'.size
        rw [hel] at hcE ⊢
        have hHl : As (H.length + el ≤ 1000000) := ⟨by
          have : (i + 1) * m ≤ n * m := Nat.mul_le_mul_right _ (by omega)
          rw [Nat.succ_mul] at this
          omega⟩
        have hel6 : el ≤ 1000000 := by have := hHl.out; omega
        replace hel := As.mk hel
        replace hH := As.mk hH
        clear cat cst cen cE hm4 hk4 hk4' hm5 hk5 hk5' hb6 h6 hoE hown6 hS hSo hSm hSk hhl hlg
        go_loopg [9, 45] (el + 1) (fun g2 v9 v45 wq => ∃ (j : Nat) (u2 : Value), u2 = v9 ∧ As (el + 1 ≤ g2 + j) ∧ j ≤ el ∧ v45 = .int .i64 j ∧ As (OwnPrs wq W0.heap.size u2 (H ++ (E.take j).map fun z => (((i + 1 : Nat) : Int) - z, ((i + 1 : Nat) : Int)))) ∧ As (Mo wq mo (cn.more (i + 1) (looksTo P L (i + 1)))) ∧ As (Keeps (OnlyM mo) W0 wq) ∧ As (wq.ownsRow w5.heap.size 3 1 (.slice AE el cE') el (intVals E)))
        case atStart => exact ⟨0, _, rfl, ⟨by omega⟩, Nat.zero_le _, rfl, hin, hmo6, hkp6, ⟨by rw [← hel.out]; exact hoE'.out⟩⟩
        case round =>
          obtain ⟨j, u2, rfl, hgk2, hj, rfl, hown, hmq, hkq, hoq⟩ := hrel
          by_cases hjl : j < el
          · obtain ⟨gq, rfl⟩ : ∃ gq, gk = gq + 1 := ⟨gk - 1, by have := hgk2.out; omega⟩
            obtain ⟨ad, rfl, hc0⟩ := Ints.at_ (Row.of_own hoq.out) (i := j) (by rw [hel.out]; exact hjl)
            have hjE : j < E.length := by rw [hel.out]; exact hjl
            have hzz := hEr.out (E.getD j 0) (by rw [List.getD_eq_getElem?_getD, List.getElem?_eq_getElem hjE]; exact List.getElem_mem hjE)
            have htk : (E.take (j + 1)).map (fun z => (((i + 1 : Nat) : Int) - z, ((i + 1 : Nat) : Int))) = (E.take j).map (fun z => (((i + 1 : Nat) : Int) - z, ((i + 1 : Nat) : Int))) ++ [(((i + 1 : Nat) : Int) - E.getD j 0, ((i + 1 : Nat) : Int))] := by
              rw [List.take_succ_eq_append_getElem hjE, List.map_append, List.getD_eq_getElem?_getD, List.getElem?_eq_getElem hjE]; rfl
            have hql : (H ++ (E.take j).map fun z => (((i + 1 : Nat) : Int) - z, ((i + 1 : Nat) : Int))).length + 1 ≤ 1000000 := by
              rw [List.length_append, List.length_map, List.length_take]
              have := hHl.out; omega
            generalize (E.take j).map (fun z => (((i + 1 : Nat) : Int) - z, ((i + 1 : Nat) : Int))) = Q at *
            generalize E.getD j 0 = z at *
            obtain ⟨ql, hqq⟩ : ∃ k, (H ++ Q).length = k := ⟨_, rfl⟩
            rw [hqq] at hql
            have hown' : wr.ownsRow W0.heap.size 45 2 u2 ql (prCells (H ++ Q)) := by have := hown.out; unfold OwnPrs at this; rwa [hqq] at this
            have hz0 := hzz.1
            have hz1 := hzz.2
            have hsq := hkq.out.size
            have hwz : IntKind.i64.wrap ((i : Int) + 1 - z) = (i : Int) + 1 - z := by simp only [IntKind.wrap, IntKind.signed, IntKind.bits]; simp; omega
            replace hown' := As.mk hown'
            replace hqq := As.mk hqq
            replace htk := As.mk htk
            clear hjE hzz hown
            go_wp2_with (at_builtin
                         (refine wpList_app1 wr rfl (.tmp 49) (.tmp 57) 33 rfl W0.heap.size 45 _ 2 16 Try.underlying33 info_pr rfl (by decide) u2 ql (prCells (H ++ Q)) rfl hown'.out [.int .i64 ((i : Int) + 1 - z), .int .i64 ((i : Int) + 1)] rfl (by simp [Value.oneCell']) _ rfl (by simp) (by omega) (by decide) hsq ?_)
                         intro v8 w8 ho8 hk8 _ hb8)
            have hoq8 := own_keep hoq.out hk8 (fun b c' _ hb _ hS => own_not_type hown'.out hb (by decide) hS)
            have hkq8 := hkq.out.transBelow hb8
            have hmq8 := hmq.out.belowAt hglt.out hb8
            go_roundg gq
            case rel =>
              refine ⟨j + 1, _, rfl, ⟨by have := hgk2.out; omega⟩, by omega, (by first | rfl | go_num | (congr 1; omega)), ⟨?_⟩, ⟨hmq8⟩, ⟨hkq8⟩, ⟨hoq8⟩⟩
              rw [htk.out, ← List.append_assoc]
              unfold OwnPrs
              rw [List.length_append, hqq.out, List.length_singleton, prCells_snoc]
              push_cast
              exact ho8
            case measure => omega
          · obtain rfl : el = j := by omega
            have hfin : As (ScanAt W0 wr P l L mo cn (i + 1) u2) := ⟨⟨by rw [hh.out]; have := hown.out; rw [List.take_of_length_le (by rw [hel.out]; exact Nat.le_refl _)] at this; exact this, hmq.out, hkq.out⟩⟩
            go_wp2
            go_roundg gp
            case rel => exact ⟨i + 1, _, rfl, ⟨by have := hgk.out; omega⟩, by omega, (by first | rfl | go_num | (congr 1; omega)), congrArg _ hst2.out.symm, hfin⟩
            case measure => omega
      · obtain rfl : n = i := by omega
        have hhl := hitsTo_len (l := l) hTr.out L m hpm'.out n
        have hso : RetPrsM w mo (sortP (hitsTo P l L n)) (cn.more n (looksTo P L n)) = RetPrsM w mo (sortP (hitsTo P l L n)) (cn.more n (looksTo P L n)) := rfl
        have hSo := hS.out.own
        have hSm := As.mk hS.out.mt
        have hSk := As.mk hS.out.keep
        obtain ⟨Ao, co, rfl, hco, hcm, hro⟩ := OwnPrs.row2 hSo
        have cso := As.mk (sort_calls _ Ao co (hitsTo P l L n) wr (Nat.le_refl _) hro hco hcm (by omega))
        have hss := hS.out.keep.size
        clear hSo hro hS hso
        generalize sortP (hitsTo P l L n) = R at *
        go_wp2_with (go_at_call 37; refine Calls.mono cso.out ?_; intro e w9 h9; obtain ⟨v9, he, ho9, hb9⟩ := h9.out; subst he)
        go_ret
        have hs0 := hbw.out.size
        exact ⟨v9, rfl, own_base ho9 (by omega), hSm.out.below hb9, ((Keeps.of_below hbw.out _).trans hSk.out).trans (Keeps.of_below hb9 _)⟩
end Go.Proofs.Ytieelnpfpfiboaa
end
section
/- The references on trees (seineref06), as the printer tells them, are the plain laws'. -/
set_option linter.unusedVariables false
set_option linter.unusedSimpArgs false
namespace Go.Proofs.Ytieelnpfpfiboaa
open Go.RowKit Seine.Trie Seine.Links Go.Proofs.YtieelnpfpfiboaaW.PrintWords Go.Proofs.Ytieelnpfpfiboaa.Ref

theorem kdTxts {w : World} {A : Option Addr} {l : List Txt} (h : Txts w A l) (hl : l.length ≤ 9223372036854775807) (ht : ∀ x ∈ l, x.length ≤ 9223372036854775807) : Kd.C (Kd.slice 5 (Kd.int .u8)) w A l.length (l.map nb) := by
  refine ⟨by simp, hl, fun h0 => ?_⟩
  obtain ⟨ad0, A0, c0, e0, _⟩ := h.at_ h0
  refine ⟨ad0, e0, fun j p hp => ?_⟩
  have hj : j < l.length := by
    have := (List.getElem?_eq_some_iff.1 hp).1
    simpa using this
  obtain ⟨ad, A', c', e1, h1, h2, h3⟩ := h.at_ hj
  rw [e0] at e1; injection e1 with e1; subst e1
  have hp' : p = nb (l.getD j []) := by
    rw [List.getElem?_map, List.getElem?_eq_getElem hj] at hp
    injection hp with hp
    rw [← hp]; simp [List.getD_eq_getElem?_getD, hj]
  subst hp'
  have hlen : (l.getD j []).length ≤ 9223372036854775807 := ht _ (by rw [List.getD_eq_getElem?_getD, List.getElem?_eq_getElem hj]; exact List.getElem_mem _)
  refine ⟨[.slice A' (nb (l.getD j [])).length c'], rfl, ⟨A', c', rfl, by rw [nb_length]; exact h2, by rw [nb_length]; exact kdU8 h3 hlen⟩, fun i u hu => ?_⟩
  have hi : i = 0 := by
    have := (List.getElem?_eq_some_iff.1 hu).1
    simpa using this
  subst hi
  injection hu with hu
  subst hu
  have e : (Kd.slice 5 (Kd.int .u8)).sz = 1 := rfl
  rw [e, Nat.mul_one, Nat.add_zero, nb_length]
  exact h1

/-- A row of texts, as strings. -/
structure KdS (w : World) (A : Option Addr) (l : List Txt) : Prop where
  row : Kd.C Kd.string w A (l.map bb).length (l.map bb)
theorem KdS.below {w w' : World} {A : Option Addr} {l : List Txt} (h : KdS w A l) (hb : Below w.heap.size w w') : KdS w' A l := ⟨Kd.C_below h.row hb⟩
theorem KdS.at_ {w : World} {A : Option Addr} {l : List Txt} (h : KdS w A l) {i : Nat} (hi : i < l.length) : ∃ ad, A = some ad ∧ w.cell? (ad.add i) = some (.string (bb (l.getD i []))) := by
  obtain ⟨ad, e, hc⟩ := Kd.at_string h.row (i : Int) (by omega) (by rw [List.length_map]; omega)
  rw [rdOf_bb l i hi, Int.toNat_natCast] at hc
  exact ⟨ad, e, hc⟩
theorem KdS.of_R {w : World} {base e : Nat} {ok : Nat → Prop} {v : Value} {l : List Txt} (h : Kd.R Kd.string e w base ok v (l.map bb)) : ∃ A c, v = .slice A l.length c ∧ l.length ≤ c ∧ KdS w A l := by
  obtain ⟨A, c, hv, hc, hr⟩ := Kd.R_reads h
  rw [List.length_map] at hv hc
  exact ⟨A, c, hv, hc, ⟨hr⟩⟩
/-! ### Place -/
theorem place_drop {l : List Txt} {s : Txt} {i : Nat} (h : i < l.length) (hne : l.getD i [] ≠ s) : place (l.drop i) s = if place (l.drop (i + 1)) s < 0 then -1 else place (l.drop (i + 1)) s + 1 := by
  have e : l.drop i = l.getD i [] :: l.drop (i + 1) := by
    rw [List.drop_eq_getElem_cons h]; simp [List.getD_eq_getElem?_getD, h]
  rw [e, place, if_neg hne]
theorem refPlace_from (l : List Txt) (s : Txt) (hl : l.length ≤ 1000000000) : ∀ (d i : Nat), i + d = l.length → Evl (fun k => seineref06_Place.l0 k (l.map bb) (bb s) (i : Int)) (if place (l.drop i) s < 0 then -1 else i + place (l.drop i) s)
  | 0, i, h => by
    refine ⟨1, fun k hk => ?_⟩
    obtain ⟨m, rfl⟩ : ∃ m, k = m + 1 := ⟨k - 1, by omega⟩
    have hd : l.drop i = [] := List.drop_eq_nil_of_le (by omega)
    simp only [seineref06_Place.l0, List.length_map]
    rw [if_neg (by omega), hd, if_pos (by simp [place])]
  | d + 1, i, h => by
    have hi : i < l.length := by omega
    have ih := refPlace_from l s hl d (i + 1) (by omega)
    by_cases he : l.getD i [] = s
    · refine ⟨1, fun k hk => ?_⟩
      obtain ⟨m, rfl⟩ : ∃ m, k = m + 1 := ⟨k - 1, by omega⟩
      have e : l.drop i = l.getD i [] :: l.drop (i + 1) := by
        rw [List.drop_eq_getElem_cons hi]; simp [List.getD_eq_getElem?_getD, hi]
      simp only [seineref06_Place.l0, List.length_map]
      rw [if_pos (by omega), if_pos (by omega), rdOf_bb l i hi, bb_toList, bb_toList, if_pos he, e, place, if_pos he]
      simp
    · have e : (if place (l.drop i) s < 0 then -1 else i + place (l.drop i) s) = (if place (l.drop (i + 1)) s < 0 then -1 else ((i + 1 : Nat) : Int) + place (l.drop (i + 1)) s) := by
        rw [place_drop hi he]
        have := (place_range (l.drop (i + 1)) s).1
        by_cases h0 : place (l.drop (i + 1)) s < 0
        · rw [if_pos h0, if_pos h0, if_pos (by decide)]
        · rw [if_neg h0, if_neg h0, if_neg (by omega)]; push_cast; omega
      rw [e]
      refine ih.step fun k => ?_
      simp only [seineref06_Place.l0, List.length_map]
      rw [if_pos (by omega), if_pos (by omega), rdOf_bb l i hi, bb_toList, bb_toList, if_neg he, w64 (by omega) (by omega)]
      rfl
theorem refPlace (l : List Txt) (s : Txt) (hl : l.length ≤ 1000000000) : Evl (fun k => seineref06_Place.f k (l.map bb) (bb s)) (place l s) := by
  have := refPlace_from l s hl l.length 0 (by omega)
  have e : (if place (l.drop 0) s < 0 then -1 else ((0 : Nat) : Int) + place (l.drop 0) s) = place l s := by
    rw [List.drop_zero]
    have := (place_range l s).1
    split <;> omega
  rw [e] at this
  exact this

/-! ### Paths -/
theorem bb_nil : (⟨#[]⟩ : ByteArray) = bb [] := rfl
theorem refPaths_in (l : List Txt) (j : Nat) (hj : j < l.length) (hl : l.length ≤ 1000000) (ht : tot l ≤ 1000000) (R : List ByteArray)
    (hend : Evl (fun k => seineref06_Paths.l0 k (l.map bb) ((addText (paths (l.take j)) (l.getD j [])).map bb) ((j + 1 : Nat) : Int)) R) :
    ∀ (d n : Nat), n + d = (l.getD j []).length → Evl (fun k => seineref06_Paths.l1 k (l.map bb) ((addTo (paths (l.take j)) (l.getD j []) n).map bb) (j : Int) ((n + 1 : Nat) : Int)) R
  | 0, n, h => by
    obtain ⟨N, hN⟩ := hend
    refine ⟨N + 1, fun k hk => ?_⟩
    obtain ⟨m, rfl⟩ : ∃ m, k = m + 1 := ⟨k - 1, by omega⟩
    simp only [seineref06_Paths.l1, List.length_map]
    rw [if_pos (by omega), if_pos (by omega), rdOf_bb l j hj, bb_size, if_neg (by omega), w64 (by omega) (by omega)]
    have := hN m (by omega)
    rw [show addText (paths (l.take j)) (l.getD j []) = addTo (paths (l.take j)) (l.getD j []) n by unfold addText; rw [← h]; rfl] at this
    exact_mod_cast this
  | d + 1, n, h => by
    obtain ⟨N, ih⟩ := refPaths_in l j hj hl ht R hend d (n + 1) (by omega)
    have hb := tot_take l j hj
    have hlen := addTo_len (paths (l.take j)) (l.getD j []) n
    have hpl := paths_len (l.take j)
    have hnl : n < (l.getD j []).length := by omega
    generalize hP : addTo (paths (l.take j)) (l.getD j []) n = P at *
    have hPl : P.length ≤ 1000000000 := by omega
    obtain ⟨M, hM⟩ := refPlace P ((l.getD j []).take (n + 1)) hPl
    have hnext : addTo (paths (l.take j)) (l.getD j []) (n + 1) = addPath P ((l.getD j []).take (n + 1)) := by rw [addTo, hP]
    refine ⟨max N M + 1, fun k hk => ?_⟩
    obtain ⟨m, rfl⟩ : ∃ m, k = m + 1 := ⟨k - 1, by omega⟩
    have ihm := ih m (by omega)
    rw [hnext] at ihm
    have hMm : seineref06_Place.f m (P.map bb) (bb ((l.getD j []).take (n + 1))) = some (place P ((l.getD j []).take (n + 1))) := hM m (by omega)
    simp only [seineref06_Paths.l1, List.length_map]
    rw [if_pos (by omega), if_pos (by omega), rdOf_bb l j hj, bb_size, if_pos (by omega), if_pos (by omega), bb_to, show (((n + 1 : Nat) : Int)).toNat = n + 1 from rfl, hMm]
    simp only [Option.bind_some]
    by_cases h0 : place P ((l.getD j []).take (n + 1)) < 0
    · rw [if_pos h0, if_pos (by omega), w64s (n + 1) (by omega)]
      rw [addPath, if_neg (place_neg.1 h0), List.map_append] at ihm
      exact ihm
    · rw [if_neg h0, w64s (n + 1) (by omega)]
      rw [addPath, if_pos (place_mem.1 (by omega))] at ihm
      exact ihm
theorem refPaths_from (l : List Txt) (hl : l.length ≤ 1000000) (ht : tot l ≤ 1000000) : ∀ (d j : Nat), j + d = l.length → Evl (fun k => seineref06_Paths.l0 k (l.map bb) ((paths (l.take j)).map bb) (j : Int)) ((paths l).map bb)
  | 0, j, h => by
    refine ⟨1, fun k hk => ?_⟩
    obtain ⟨m, rfl⟩ : ∃ m, k = m + 1 := ⟨k - 1, by omega⟩
    simp only [seineref06_Paths.l0, List.length_map]
    rw [if_neg (by omega), List.take_of_length_le (by omega)]
  | d + 1, j, h => by
    have hj : j < l.length := by omega
    have ih := refPaths_from l hl ht d (j + 1) (by omega)
    have hs : paths (l.take (j + 1)) = addText (paths (l.take j)) (l.getD j []) := by rw [take_snoc_txt l j hj, paths_snoc]
    rw [hs] at ih
    have := refPaths_in l j hj hl ht _ ih (l.getD j []).length 0 (by omega)
    refine this.step fun k => ?_
    simp only [seineref06_Paths.l0, List.length_map]
    rw [if_pos (by omega)]
    rfl
theorem refPaths (l : List Txt) (hl : l.length ≤ 1000000) (ht : tot l ≤ 1000000) : Evl (fun k => seineref06_Paths.f k (l.map bb)) ((paths l).map bb) := by
  have := refPaths_from l hl ht l.length 0 (by omega)
  exact this
end Go.Proofs.Ytieelnpfpfiboaa
end
section
/- The law's 'texts', 'few', and the references on paths, by their contracts. -/
set_option linter.unusedVariables false
set_option linter.unusedSimpArgs false
namespace Go.Proofs.Ytieelnpfpfiboaa
open Go.RowKit Seine.Trie Go.Proofs.YtieelnpfpfiboaaW.PrintWords Go.Proofs.Ytieelnpfpfiboaa.Ref
theorem refTexts (l : List Txt) (hl : l.length ≤ 6000000000000) : Evl (fun k => seinelaw08_texts.f k (l.map nb)) (if ∀ x ∈ l, x.length ≤ 40 then (l.map bb, decide (l.length ≤ 12)) else ([], false)) := by
  have key : ∀ (d i : Nat), i + d = l.length → Evl (fun k => seinelaw08_texts.l0 k (l.map nb) ((l.take i).map bb) (i : Int)) (if ∀ x ∈ l.drop i, x.length ≤ 40 then (l.map bb, decide (l.length ≤ 12)) else ([], false)) := by
    intro d
    induction d with
    | zero =>
      intro i h
      refine ⟨1, fun k hk => ?_⟩
      obtain ⟨q, rfl⟩ : ∃ q, k = q + 1 := ⟨k - 1, by omega⟩
      simp only [seinelaw08_texts.l0, List.length_map]
      rw [if_neg (by omega), List.drop_eq_nil_of_le (by omega), if_pos (by simp), List.take_of_length_le (by omega)]
      congr 2
      rw [decide_eq_decide]; omega
    | succ d ih =>
      intro i h
      have hi : i < l.length := by omega
      have hdr : l.drop i = l.getD i [] :: l.drop (i + 1) := by
        rw [List.drop_eq_getElem_cons hi]; simp [List.getD_eq_getElem?_getD, hi]
      have hrd : (l.map nb).getD (i : Int).toNat [] = nb (l.getD i []) := by
        rw [Int.toNat_natCast]; simp [List.getD_eq_getElem?_getD, hi]
      by_cases h40 : (l.getD i []).length ≤ 40
      · have hc : (∀ x ∈ l.drop i, x.length ≤ 40) ↔ ∀ x ∈ l.drop (i + 1), x.length ≤ 40 := by
          rw [hdr]; simp only [List.mem_cons, forall_eq_or_imp]
          exact ⟨fun h => h.2, fun h => ⟨h40, h⟩⟩
        simp only [hc]
        refine (ih (i + 1) (by omega)).step fun k => ?_
        simp only [seinelaw08_texts.l0, List.length_map]
        rw [if_pos (by omega), if_pos (by omega), if_neg (by show ¬ ((((l.map nb).getD (i : Int).toNat []).length : Nat) : Int) > 40; rw [hrd, nb_length]; omega), if_pos (by rw [List.length_take]; omega), w64 (by omega) (by omega)]
        show seinelaw08_texts.l0 k _ (_ ++ [strOfNums ((l.map nb).getD (i : Int).toNat [])]) _ = _
        rw [hrd, bb_nums, take_snoc_txt l i hi, List.map_append]
        rfl
      · have hc : ¬ ∀ x ∈ l.drop i, x.length ≤ 40 := by
          rw [hdr]; intro hx; exact h40 (hx _ (by simp))
        rw [if_neg hc]
        refine ⟨1, fun k hk => ?_⟩
        obtain ⟨q, rfl⟩ : ∃ q, k = q + 1 := ⟨k - 1, by omega⟩
        simp only [seinelaw08_texts.l0, List.length_map]
        rw [if_pos (by omega), if_pos (by omega), if_pos (by show ((((l.map nb).getD (i : Int).toNat []).length : Nat) : Int) > 40; rw [hrd, nb_length]; omega)]
  have := key l.length 0 (by omega)
  rw [List.drop_zero] at this
  exact this
theorem texts_calls (w : World) (A : Option Addr) (c : Nat) (l : List Txt) (hx : Txts w A l) (hc : l.length ≤ c) (hr : c * 24 ≤ 140737488351232) (hm : ∀ x ∈ l, x.length ≤ maxLen) :
    Calls Try.prog 10 #[.slice A l.length c] w fun e w' => (∃ A' c' b, e = .returned (.tuple #[.slice A' (if b then l.length else 0) c', .bool (b && decide (l.length ≤ 12))]) ∧ (b = decide (∀ x ∈ l, x.length ≤ 40)) ∧ (b = true → l.length ≤ c' ∧ KdS w' A' l)) ∧ Below w.heap.size w w' := by
  obtain ⟨k, hk⟩ := (refTexts l (by omega)).get
  have hkd := kdTxts hx (by omega) (fun x h => by have := hm x h; unfold maxLen at this; omega)
  by_cases h40 : ∀ x ∈ l, x.length ≤ 40
  · rw [if_pos h40] at hk
    have := seinelaw08_texts.calls k A c (l.map nb) (l.map bb) (decide (l.length ≤ 12)) w (by rw [List.length_map]; exact hkd) (by rw [List.length_map]; exact hc) hk
    rw [List.length_map] at this
    refine this.mono ?_
    rintro e w' ⟨v, rfl, hR, hb⟩
    obtain ⟨A', c', rfl, hc', hS⟩ := KdS.of_R hR
    exact ⟨⟨A', c', true, by simp, (decide_eq_true h40).symm, fun _ => ⟨hc', hS⟩⟩, hb⟩
  · rw [if_neg h40] at hk
    have := seinelaw08_texts.calls k A c (l.map nb) [] false w (by rw [List.length_map]; exact hkd) (by rw [List.length_map]; exact hc) hk
    rw [List.length_map] at this
    refine this.mono ?_
    rintro e w' ⟨v, rfl, hR, hb⟩
    obtain ⟨A', c', rfl, hc', hS⟩ := KdS.of_R (l := []) hR
    exact ⟨⟨A', c', false, by simp, (decide_eq_false h40).symm, fun h => by cases h⟩, hb⟩
theorem lfew_calls (w : World) (A : Option Addr) (c : Nat) (b : Txt) (hb : Byt w A b) (hc : b.length ≤ c) (hl : b.length ≤ 9223372036854775807) :
    Calls Try.prog 11 #[.slice A b.length c] w fun e w' => e = .returned (.bool (decide (b.length ≤ 120))) ∧ Below w.heap.size w w' := by
  have := seinelaw08_few.calls A c (nb b) (decide (b.length ≤ 120)) w (by rw [nb_length]; exact kdU8 hb hl) (by rw [nb_length]; exact hc) (by simp only [seinelaw08_few.f, nb_length, Option.some.injEq, decide_eq_decide]; omega)
  rw [nb_length] at this
  exact this.mono fun e w' h => ⟨h.1, h.2.below⟩
theorem rpaths_calls (w : World) (A : Option Addr) (c : Nat) (l : List Txt) (h : KdS w A l) (hc : l.length ≤ c) (hl : l.length ≤ 1000000) (ht : tot l ≤ 1000000) :
    Calls Try.prog 19 #[.slice A l.length c] w fun e w' => ∃ A' c', e = .returned (.slice A' (paths l).length c') ∧ (paths l).length ≤ c' ∧ KdS w' A' (paths l) ∧ Below w.heap.size w w' := by
  obtain ⟨k, hk⟩ := (refPaths l hl ht).get
  have := seineref06_Paths.calls k A c (l.map bb) ((paths l).map bb) w h.row (by rw [List.length_map]; exact hc) hk
  rw [List.length_map] at this
  refine this.mono ?_
  rintro e w' ⟨v, rfl, hR, hb⟩
  obtain ⟨A', c', rfl, hc', hS⟩ := KdS.of_R hR
  exact ⟨A', c', rfl, hc', hS, hb⟩
theorem rplace_calls (w : World) (A : Option Addr) (c : Nat) (P : List Txt) (h : KdS w A P) (hc : P.length ≤ c) (hl : P.length ≤ 1000000) (s : Txt) :
    Calls Try.prog 24 #[.slice A P.length c, .string (bb s)] w fun e w' => e = .returned (.int .i64 (place P s)) ∧ Below w.heap.size w w' := by
  obtain ⟨k, hk⟩ := (refPlace P s (by omega)).get
  have := seineref06_Place.calls k A c (P.map bb) (bb s) _ w h.row (by rw [List.length_map]; exact hc) hk
  rw [List.length_map] at this
  exact this.mono fun e w' h => ⟨h.1, h.2.below⟩
/-- Of few short texts. -/
structure Few (l : List Txt) : Prop where
  len : l.length ≤ 12
  short : ∀ x ∈ l, x.length ≤ 40
theorem Few.tot {l : List Txt} (h : Few l) : tot l ≤ 480 := by
  have : ∀ l : List Txt, (∀ x ∈ l, x.length ≤ 40) → Go.Proofs.Ytieelnpfpfiboaa.tot l ≤ 40 * l.length := by
    intro l
    induction l with
    | nil => intro _; simp [Go.Proofs.Ytieelnpfpfiboaa.tot]
    | cons x l ih =>
      intro h
      have h1 := h x (by simp)
      have h2 := ih fun y hy => h y (by simp [hy])
      simp only [Go.Proofs.Ytieelnpfpfiboaa.tot, List.map_cons, List.sum_cons, List.length_cons] at h2 ⊢
      omega
  have h1 := this l h.short
  have h2 := h.len
  omega
theorem Few.paths_len {l : List Txt} (h : Few l) : (paths l).length ≤ 481 := by have := Go.Proofs.Ytieelnpfpfiboaa.paths_len l; have := h.tot; omega
theorem Few.path_short {l : List Txt} (h : Few l) : ∀ p ∈ paths l, p.length ≤ 40 := fun p hp => by
  rcases ((paths_spec l).2 p).1 hp with rfl | ⟨b, hb, k, hk, rfl⟩
  · simp
  · have := h.short b hb; rw [List.length_take]; omega
theorem text_path {l : List Txt} : ∀ x, x ∈ l → x ∈ paths l := fun x hx => ((paths_spec l).2 x).2 (.inr ⟨x, hx, x.length, Nat.le_refl _, by simp⟩)
theorem Byt.take {w : World} {A : Option Addr} {b : Txt} (h : Byt w A b) (k : Nat) : Byt w A (b.take k) := by
  rcases h with h | ⟨ad, e, hlt, hc⟩
  · have : b = [] := by have := congrArg List.length h; rw [byCells_length] at this; exact List.eq_nil_of_length_eq_zero this
    subst this
    exact .inl (by simp [byCells])
  · refine .inr ⟨ad, e, hlt, fun j u hu => hc j u ?_⟩
    unfold byCells at hu ⊢
    rw [List.map_take, List.getElem?_take] at hu
    split at hu
    · exact hu
    · cases hu
end Go.Proofs.Ytieelnpfpfiboaa
end
section
/- The reference on what stands in a line (seineref03.Occ), as the printer tells it, is the plain law's. -/
set_option linter.unusedVariables false
set_option linter.unusedSimpArgs false
namespace Go.Proofs.Ytieelnpfpfiboaa
open Go.RowKit Seine.Trie Go.Proofs.YtieelnpfpfiboaaW.PrintWords Go.Proofs.Ytieelnpfpfiboaa.Ref
open Seine.Sort (occ occTo occRow occTo_len occTo_succ occRow_len)
def toS (p : Pr) : S45 := ⟨p.1, p.2⟩
theorem prs_of_C {w : World} {A : Option Addr} {xs : List Pr} (h : Kd.C k45 w A xs.length (xs.map toS)) : Prs w A xs := by
  rcases Nat.eq_zero_or_pos xs.length with h0 | h0
  · exact .inl (by rw [List.eq_nil_of_length_eq_zero h0]; rfl)
  · have key : ∀ i, i < xs.length → ∃ ad, A = some ad ∧ w.cell? (ad.add (i * 2)) = some (.int .i64 (xs.getD i (0, 0)).1) ∧ w.cell? ⟨(ad.add (i * 2)).block, (ad.add (i * 2)).off + 1, none⟩ = some (.int .i64 (xs.getD i (0, 0)).2) := fun i hi => by
      have := at_T45 h (i : Int) (by omega) (by omega)
      have e : rd_T45 (xs.map toS) (i : Int) = toS (xs.getD i (0, 0)) := by
        unfold rd_T45
        rw [Int.toNat_natCast, List.getD_eq_getElem?_getD, List.getElem?_map, List.getD_eq_getElem?_getD, List.getElem?_eq_getElem hi]; rfl
      rw [e, Int.toNat_natCast] at this
      exact this
    obtain ⟨ad, rfl, c0, _⟩ := key 0 h0
    refine .inr ⟨ad, rfl, ?_, fun j u hu => ?_⟩
    · have := World.block_lt_of_cell? w _ c0
      rwa [Addr.block_add] at this
    · have hj : j < xs.length * 2 := by rw [← prCells_length]; exact (List.getElem?_eq_some_iff.1 hu).1
      obtain ⟨ad', e, d0, d1⟩ := key (j / 2) (by omega)
      injection e with e
      subst e
      obtain ⟨p0, p1⟩ := prCells_at xs (j / 2) (by omega)
      rcases Nat.mod_two_eq_zero_or_one j with hm | hm
      · rw [show j / 2 * 2 = j by omega] at d0 p0
        rw [hu] at p0
        injection p0 with p0
        rw [d0, p0]
      · rw [show j / 2 * 2 + 1 = j by omega] at p1
        rw [← Addr.add_field _ _ _ (by omega), show j / 2 * 2 + 1 = j by omega] at d1
        rw [hu] at p1
        injection p1 with p1
        rw [d1, p1]
theorem bbeq (a b : Txt) : ((bb a).toList == (bb b).toList) = decide (a = b) := by
  rw [bb_toList, bb_toList]
  by_cases h : a = b <;> simp [h]
theorem refOcc_l2 (T : List Txt) (L : Txt) (hT : T.length ≤ 1000000) (hL : L.length ≤ 1000000) (out : List Pr) (i j : Nat) (hij : i < j) (hj : j ≤ L.length) (ho : out.length ≤ 2000000000000) (R : List S45) :
    ∀ (d k : Nat) (b : Bool), k + d = T.length → Evl (fun q => seineref03_Occ.l1 q (bb L) (T.map bb) ((out ++ if b = true ∨ (L.drop i).take (j - i) ∈ T.drop k then [((i : Int), (j : Int))] else []).map toS) (i : Int) ((j + 1 : Nat) : Int)) R →
      Evl (fun q => seineref03_Occ.l2 q (bb L) (T.map bb) (out.map toS) (i : Int) (j : Int) b (k : Int)) R := by
  have hpush : ∀ (b : Bool) (k : Nat), (b = true ∨ (L.drop i).take (j - i) ∈ T.drop k) → (out ++ if b = true ∨ (L.drop i).take (j - i) ∈ T.drop k then [((i : Int), (j : Int))] else []).map toS = out.map toS ++ [(⟨(i : Int), (j : Int)⟩ : S45)] := fun b k h => by rw [if_pos h, List.map_append]; rfl
  have hnone : ∀ (b : Bool) (k : Nat), ¬ (b = true ∨ (L.drop i).take (j - i) ∈ T.drop k) → (out ++ if b = true ∨ (L.drop i).take (j - i) ∈ T.drop k then [((i : Int), (j : Int))] else []).map toS = out.map toS := fun b k h => by rw [if_neg h, List.append_nil]
  intro d
  induction d with
  | zero =>
    intro k b hk h
    have hdr : T.drop k = [] := List.drop_eq_nil_of_le (by omega)
    rw [hdr] at h
    refine h.step fun q => ?_
    simp only [seineref03_Occ.l2, List.length_map]
    rw [if_neg (by omega), w64 (by omega) (by omega)]
    by_cases hb : b = true
    · rw [if_pos hb, if_pos (by omega)]
      have := hpush b k (.inl hb)
      rw [hdr] at this
      rw [this]; push_cast; rfl
    · rw [if_neg hb]
      have := hnone b k (by rw [hdr]; simp [hb])
      rw [hdr] at this
      rw [this]; push_cast; rfl
  | succ d ih =>
    intro k b hk h
    have hkl : k < T.length := by omega
    have hdr : T.drop k = T.getD k [] :: T.drop (k + 1) := by rw [List.drop_eq_getElem_cons hkl]; simp [List.getD_eq_getElem?_getD, hkl]
    by_cases hb : b = true
    · rw [hpush b k (.inl hb)] at h
      refine h.step fun q => ?_
      simp only [seineref03_Occ.l2, List.length_map]
      rw [if_pos (by omega), if_pos hb, if_pos (by omega), w64 (by omega) (by omega)]
      push_cast; rfl
    · obtain rfl : b = false := by simpa using hb
      have hpl : ((L.drop i).take (j - i)).length = j - i := by rw [List.length_take, List.length_drop]; omega
      by_cases hlen : (T.getD k []).length = j - i
      · refine (ih (k + 1) (decide ((L.drop i).take (j - i) = T.getD k [])) (by omega) ?_).step fun q => ?_
        · have : (decide ((L.drop i).take (j - i) = T.getD k []) = true ∨ (L.drop i).take (j - i) ∈ T.drop (k + 1)) ↔ (false = true ∨ (L.drop i).take (j - i) ∈ T.drop k) := by
            rw [hdr, List.mem_cons, decide_eq_true_eq]; simp
          simp only [this]; exact h
        · simp only [seineref03_Occ.l2, List.length_map]
          rw [rdOf_bb T k hkl, bb_size, bb_size, w64 (by omega) (by omega), w64 (by omega) (by omega), if_pos (by omega), if_neg (by simp), if_pos (by omega), if_pos (by omega), if_pos (by omega), if_pos (by omega), if_pos (by omega), Int.toNat_natCast, Int.toNat_natCast, bb_extract, bbeq, w64s k (by omega)]
      · refine (ih (k + 1) false (by omega) ?_).step fun q => ?_
        · have : (false = true ∨ (L.drop i).take (j - i) ∈ T.drop (k + 1)) ↔ (false = true ∨ (L.drop i).take (j - i) ∈ T.drop k) := by
            rw [hdr, List.mem_cons]
            constructor
            · rintro (h | h)
              · exact .inl h
              · exact .inr (.inr h)
            · rintro (h | h | h)
              · exact .inl h
              · exact absurd (by rw [← h, hpl]) hlen
              · exact .inr h
          simp only [this]; exact h
        · simp only [seineref03_Occ.l2, List.length_map]
          rw [rdOf_bb T k hkl, bb_size, w64 (by omega) (by omega), w64 (by omega) (by omega), if_pos (by omega), if_neg (by simp), if_pos (by omega), if_neg (by omega), w64s k (by omega)]
/-- What begins at a place and ends from another one on. -/
def rowFrom (T : List Txt) (L : Txt) (i j : Nat) : List Pr := ((List.range' j (L.length + 1 - j)).filter fun j => decide ((L.drop i).take (j - i) ∈ T)).map fun (j : Nat) => ((i : Int), (j : Int))
theorem rowFrom_step (T : List Txt) (L : Txt) (i j : Nat) (hj : j ≤ L.length) : rowFrom T L i j = (if (L.drop i).take (j - i) ∈ T then [((i : Int), (j : Int))] else []) ++ rowFrom T L i (j + 1) := by
  unfold rowFrom
  rw [show L.length + 1 - j = (L.length + 1 - (j + 1)) + 1 by omega, List.range'_succ, List.filter_cons]
  by_cases h : (L.drop i).take (j - i) ∈ T
  · rw [if_pos h, if_pos (decide_eq_true h)]; rfl
  · rw [if_neg h, if_neg (by simpa using h)]; rfl
theorem rowFrom_end (T : List Txt) (L : Txt) (i j : Nat) (hj : L.length < j) : rowFrom T L i j = [] := by
  unfold rowFrom
  rw [show L.length + 1 - j = 0 by omega]; rfl
theorem rowFrom_len (T : List Txt) (L : Txt) (i j : Nat) : (rowFrom T L i j).length ≤ L.length + 1 := by
  unfold rowFrom
  rw [List.length_map]
  exact Nat.le_trans (List.length_filter_le _ _) (by simp)
theorem refOcc_l1 (T : List Txt) (L : Txt) (hT : T.length ≤ 1000000) (hL : L.length ≤ 1000000) (i : Nat) (R : List S45) :
    ∀ (d j : Nat) (out : List Pr), j + d = L.length + 1 → i < j → out.length + d ≤ 2000000000000 → Evl (fun q => seineref03_Occ.l0 q (bb L) (T.map bb) ((out ++ rowFrom T L i j).map toS) ((i + 1 : Nat) : Int)) R →
      Evl (fun q => seineref03_Occ.l1 q (bb L) (T.map bb) (out.map toS) (i : Int) (j : Int)) R := by
  intro d
  induction d with
  | zero =>
    intro j out hj hij ho h
    rw [rowFrom_end T L i j (by omega), List.append_nil] at h
    refine h.step fun q => ?_
    simp only [seineref03_Occ.l1, bb_size]
    rw [if_neg (by omega), w64 (by omega) (by omega)]
    push_cast; rfl
  | succ d ih =>
    intro j out hj hij ho h
    rw [rowFrom_step T L i j (by omega), ← List.append_assoc] at h
    have h1 := ih (j + 1) (out ++ if (L.drop i).take (j - i) ∈ T then [((i : Int), (j : Int))] else []) (by omega) (by omega) (by rw [List.length_append]; split <;> simp <;> omega) h
    have h2 := refOcc_l2 T L hT hL out i j hij (by omega) (by omega) R T.length 0 false (by omega) (by simpa using h1)
    refine h2.step fun q => ?_
    simp only [seineref03_Occ.l1, bb_size]
    rw [if_pos (by omega)]; rfl
theorem refOcc (T : List Txt) (L : Txt) (hT : T.length ≤ 1000000) (hL : L.length ≤ 1000000) : Evl (fun q => seineref03_Occ.f q (bb L) (T.map bb)) ((occ T L).map toS) := by
  have key : ∀ (d i : Nat), i + d = L.length → Evl (fun q => seineref03_Occ.l0 q (bb L) (T.map bb) ((occTo T L i).map toS) (i : Int)) ((occ T L).map toS) := by
    intro d
    induction d with
    | zero =>
      intro i hi
      obtain rfl : i = L.length := by omega
      refine ⟨1, fun q hq => ?_⟩
      obtain ⟨m, rfl⟩ : ∃ m, q = m + 1 := ⟨q - 1, by omega⟩
      simp only [seineref03_Occ.l0, bb_size]
      rw [if_neg (by omega)]; rfl
    | succ d ih =>
      intro i hi
      have hol := occTo_len T L i
      have hol2 : i * L.length ≤ 1000000 * 1000000 := Nat.mul_le_mul (by omega) hL
      have h := ih (i + 1) (by omega)
      rw [occTo_succ] at h
      have hrow : occRow T L i (L.length - i) = rowFrom T L i (i + 1) := by unfold occRow rowFrom; rw [show L.length + 1 - (i + 1) = L.length - i by omega]
      rw [hrow] at h
      have h1 := refOcc_l1 T L hT hL i _ (L.length - i) (i + 1) (occTo T L i) (by omega) (by omega) (by omega) h
      refine h1.step fun q => ?_
      simp only [seineref03_Occ.l0, bb_size]
      rw [if_pos (by omega), w64 (by omega) (by omega)]
      push_cast; rfl
  have := key L.length 0 (by omega)
  exact this
theorem rocc_calls (w : World) (A : Option Addr) (c : Nat) (T : List Txt) (h : KdS w A T) (hc : T.length ≤ c) (hT : T.length ≤ 1000000) (L : Txt) (hL : L.length ≤ 1000000) :
    Calls Try.prog 16 #[.string (bb L), .slice A T.length c] w fun e w' => ∃ A' c', e = .returned (.slice A' (occ T L).length c') ∧ (occ T L).length ≤ c' ∧ Prs w' A' (occ T L) ∧ Below w.heap.size w w' := by
  obtain ⟨k, hk⟩ := (refOcc T L hT hL).get
  have := seineref03_Occ.calls k (bb L) A c (T.map bb) _ w h.row (by rw [List.length_map]; exact hc) hk
  rw [List.length_map] at this
  refine this.mono ?_
  rintro e w' ⟨v, rfl, hR, hb⟩
  obtain ⟨A', c', rfl, hc', hC⟩ := Kd.R_reads hR
  rw [List.length_map] at hc' hC ⊢
  exact ⟨A', c', rfl, hc', prs_of_C hC, hb⟩
end Go.Proofs.Ytieelnpfpfiboaa
end
