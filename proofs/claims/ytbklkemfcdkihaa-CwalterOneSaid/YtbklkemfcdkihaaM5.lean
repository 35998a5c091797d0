/- Joined texts: Back, ShiftsPure, Shifts, Shifts2. -/
import Derived.Test.YtbklkemfcdkihaaM2
import Derived.Test.YtbklkemfcdkihaaM4
import Derived.Deep.RegionHeld3
import Derived.Deep.RegionWith
import Derived.Deep.LoopGhost
import Derived.StillTailTactics
import Derived.WalkSpells
import Derived.Deep.RegionLaw
import Derived.Deep.AppendLies
import Derived.Deep.QuietTactic
import Derived.BigQuiet
section
/- The walks of package back: bytes turned round, texts as a tree from their ends. -/
set_option linter.unusedVariables false
set_option linter.unusedSimpArgs false
namespace Go.Proofs.Ytbklkemfcdkihaa
open Go.RowKit Seine.Trie Seine.Cw
attribute [local go_sem high] max2_i min2_i max_two' min_two'
theorem turn_calls (w : World) (A : Option Addr) (c : Nat) (b : Txt) (h : Byt w A b) (hl : b.length ≤ 1000000) :
    Calls Try.prog 50 #[.slice A b.length c] w (RetByt w b.reverse) := by
  have cc := As.mk (cloneByt2_calls w A c b h hl)
  have hl' := As.mk hl
  obtain ⟨n, hn⟩ : ∃ n, b.length = n := ⟨_, rfl⟩
  rw [hn] at cc ⊢
  clear hn
  go_enter Try.func50, Try.ntmps50
  go_wp2_with fail
  refine Calls.mono cc.out ?_
  rintro e w1 ⟨v, rfl, ho, hb⟩
  have cr := As.mk (reverse_calls w1 w.heap.size v b ho)
  have hbs := hb.size
  have ho := As.mk ho
  have hb := As.mk hb
  go_wp2_with fail
  refine Calls.mono (cr.out hl) ?_
  rintro e w2 ⟨rfl, ho2, hk2⟩
  go_wp2
  go_ret
  exact ⟨_, rfl, ho2, hb.out.trans (hk2.below (fun k hk hS => by have := own_blk ho.out hS; omega) hbs)⟩
theorem closer_calls (w : World) (old n : Nat) : Calls Try.prog 49 #[.int .i64 (old : Int), .int .i64 (n : Int)] w fun e w' => e = .returned (.int .i64 ((if old = 0 then n else min old n : Nat) : Int)) ∧ w = w' := by
  by_cases h : old = 0
  · subst h
    rw [if_pos rfl]
    go_enter Try.func49, Try.ntmps49
    go_wp2
    go_ret
    exact ⟨rfl, rfl⟩
  · have h1 : ((old : Int) == 0) = false := by simpa using h
    have h2 : As (min (old : Int) (n : Int) = ((min old n : Nat) : Int)) := ⟨by omega⟩
    rw [if_neg h, ← h2.out]
    clear h
    go_enter Try.func49, Try.ntmps49
    go_wp2
    go_ret
    exact ⟨rfl, rfl⟩

theorem near_snoc (T : List Txt) (t : Txt) (c : UInt8) : near (T ++ [t]) c = if c ∈ t then (if near T c = 0 then t.idxOf c + 1 else min (near T c) (t.idxOf c + 1)) else near T c := by
  unfold near; rw [List.foldl_append]; rfl
theorem least_snoc (T : List Txt) (t : Txt) : least (T ++ [t]) = if least T = 0 then t.length else min (least T) t.length := by
  unfold least; rw [List.foldl_append]; rfl
theorem near_step (T : List Txt) (t : Txt) (m : Nat) (h : m < t.length) (x : UInt8) (hx : t.getD m 0 = x) (c : UInt8) :
    near (T ++ [t.take (m + 1)]) c = if c = x then (if near (T ++ [t.take m]) c = 0 then m + 1 else min (near (T ++ [t.take m]) c) (m + 1)) else near (T ++ [t.take m]) c := by
  rw [near_snoc, near_snoc, take_snoc_b t m h, hx]
  have hl : (t.take m).length = m := by rw [List.length_take]; omega
  by_cases hm : c ∈ t.take m
  · have hi : (t.take m ++ [x]).idxOf c = (t.take m).idxOf c := by rw [List.idxOf_append, if_pos hm]
    have hlt : (t.take m).idxOf c < m := by have := List.idxOf_lt_length_iff.2 hm; omega
    rw [if_pos (List.mem_append_left _ hm), if_pos hm, hi]
    generalize (t.take m).idxOf c = k at *
    generalize near T c = a
    (repeat' split) <;> omega
  · by_cases hc : c = x
    · subst hc
      have hi : (t.take m ++ [c]).idxOf c = m := by rw [List.idxOf_append, if_neg hm, hl]; simp
      rw [if_pos (by simp), if_neg hm, hi, if_pos rfl]
    · rw [if_neg (by simp [hm, hc]), if_neg hm, if_neg hc]
theorem near_empty (T : List Txt) (c : UInt8) : near (T ++ [[]]) c = near T c := by rw [near_snoc, if_neg (by simp)]
/-- Texts that aren't empty, each turned round. -/
def turnT (l : List Txt) : List Txt := (l.filter fun t => !t.isEmpty).map List.reverse
theorem turnT_snoc (l : List Txt) (t : Txt) : turnT (l ++ [t]) = turnT l ++ if t = [] then [] else [t.reverse] := by
  unfold turnT
  rw [List.filter_append, List.map_append]
  congr 1
  cases t <;> simp
theorem turnT_ne (l : List Txt) : ∀ t ∈ turnT l, t ≠ [] := by
  intro t ht
  obtain ⟨x, hx, rfl⟩ := List.mem_map.1 ht
  have := (List.mem_filter.1 hx).2
  simpa using this
theorem turnT_mem (l : List Txt) : ∀ x, x ≠ [] → (x ∈ l ↔ x.reverse ∈ turnT l) := by
  intro x hx
  unfold turnT
  rw [List.mem_map]
  constructor
  · intro h; exact ⟨x, List.mem_filter.2 ⟨h, by simpa using hx⟩, rfl⟩
  · rintro ⟨y, hy, e⟩
    rw [List.reverse_inj] at e
    subst e
    exact (List.mem_filter.1 hy).1
theorem turnT_len (l : List Txt) : (turnT l).length ≤ l.length := by unfold turnT; rw [List.length_map]; exact List.length_filter_le _ _
theorem turnT_tot : ∀ l : List Txt, tot (turnT l) = tot l
  | [] => rfl
  | t :: l => by
    have h := turnT_tot l
    unfold turnT tot at *
    cases t with
    | nil => simp at h ⊢; exact h
    | cons a t => simp at h ⊢; omega
theorem turnT_of (l : List Txt) (h : ∀ x ∈ l, x.length ≤ 40) : ∀ x ∈ turnT l, x.length ≤ 40 := by
  intro x hx
  obtain ⟨y, hy, rfl⟩ := List.mem_map.1 hx
  rw [List.length_reverse]; exact h y (List.mem_filter.1 hy).1
/-! ### in memory -/
def backL (p : Option Addr) (n : Nat) (f : UInt8 → Nat) : List Value := .pointer p :: .int .i64 (n : Int) :: (List.range 256).map fun i => .int .i64 (f (UInt8.ofNat i) : Int)
theorem back_zero : Try.zeroCells94 = (backL none 0 (fun _ => 0)).toArray := by kernel_rfl
theorem backL_near (p : Option Addr) (n : Nat) (f : UInt8 → Nat) (c : UInt8) : (backL p n f).toArray[2 + c.toNat]? = some (.int .i64 (f c : Int)) := by
  have hc := c.toNat_lt
  rw [List.getElem?_toArray, show 2 + c.toNat = c.toNat + 1 + 1 by omega]
  unfold backL
  rw [List.getElem?_cons_succ, List.getElem?_cons_succ, List.getElem?_map, List.getElem?_range (by omega)]
  simp
theorem backL_ptr (p q : Option Addr) (n : Nat) (f : UInt8 → Nat) : (backL p n f).toArray.setIfInBounds 0 (.pointer q) = (backL q n f).toArray := by unfold backL; simp
theorem backL_least (p : Option Addr) (n m : Nat) (f : UInt8 → Nat) : (backL p n f).toArray.setIfInBounds 1 (.int .i64 (m : Int)) = (backL p m f).toArray := by unfold backL; simp
theorem backL_set (p : Option Addr) (n m : Nat) (f g : UInt8 → Nat) (c : UInt8) (h : ∀ x, g x = if x = c then m else f x) : (backL p n f).toArray.setIfInBounds (2 + c.toNat) (.int .i64 (m : Int)) = (backL p n g).toArray := by
  have hc := c.toNat_lt
  rw [List.setIfInBounds_toArray, show 2 + c.toNat = c.toNat + 1 + 1 by omega]
  congr 1
  unfold backL
  rw [List.set_cons_succ, List.set_cons_succ]
  congr 2
  apply List.ext_getElem?
  intro i
  rw [List.getElem?_set]
  by_cases hi : i < 256
  · rw [List.getElem?_map, List.getElem?_map, List.getElem?_range hi]
    simp only [Option.map_some, h, List.length_map, List.length_range]
    by_cases he : c.toNat = i
    · subst he
      simp; omega
    · rw [if_neg he, if_neg (fun e => he (by rw [← e]; simp; omega))]
  · rw [List.getElem?_map, List.getElem?_map, List.getElem?_eq_none (by simp; omega)]
    simp; omega
/-- Texts of the call's own, in a slice of its own. -/
def OwnTs (w : World) (base : Nat) (v : Value) (T : List Txt) : Prop := ∃ vs : List Value, vs.length = T.length ∧ w.ownsRow base 23 1 v T.length vs ∧ ∀ (i : Nat) (x : Txt), T[i]? = some x → ∃ u : Value, vs[i]? = some u ∧ OwnByt w base u x
theorem OwnTs.nil (w : World) (base : Nat) : OwnTs w base (.slice none 0 0) [] := ⟨[], rfl, World.ownsRow_nil _ _ _ _, fun i x h => by simp at h⟩
theorem OwnTs.keep {S : Nat → Prop} {w w' : World} {base : Nat} {v : Value} {T : List Txt} (h : OwnTs w base v T) (hk : Keeps S w w') (hS : ∀ b c t fr, w.heap[b]? = some (.cells c t fr) → S b → t ≠ 5 ∧ t ≠ 23) : OwnTs w' base v T := by
  obtain ⟨vs, h1, h2, h3⟩ := h
  refine ⟨vs, h1, own_keep h2 hk (fun b c _ hb _ hs => (hS b c _ _ hb hs).2 rfl), fun i x hi => ?_⟩
  obtain ⟨u, h4, h5⟩ := h3 i x hi
  exact ⟨u, h4, own_keep h5 hk (fun b c _ hb _ hs => (hS b c _ _ hb hs).1 rfl)⟩
theorem OwnTs.below {w w' : World} {base : Nat} {v : Value} {T : List Txt} (h : OwnTs w base v T) (hb : Below w.heap.size w w') : OwnTs w' base v T := by
  obtain ⟨vs, h1, h2, h3⟩ := h
  refine ⟨vs, h1, own_below h2 hb, fun i x hi => ?_⟩
  obtain ⟨u, h4, h5⟩ := h3 i x hi
  exact ⟨u, h4, own_below h5 hb⟩
theorem OwnTs.row {w : World} {base : Nat} {v : Value} {T : List Txt} (h : OwnTs w base v T) : ∃ A c, v = .slice A T.length c ∧ T.length ≤ c ∧ Txts w A T := by
  obtain ⟨vs, h1, h2, h3⟩ := h
  obtain ⟨A, c, rfl, hc⟩ := own_slice h2
  refine ⟨A, c, rfl, hc, vs, h1, Row.of_own h2, fun i hi => ?_⟩
  obtain ⟨u, h4, h5⟩ := h3 i (T.getD i []) (by simp [List.getD_eq_getElem?_getD, hi])
  obtain ⟨A', c', rfl, hc', hr⟩ := h5.row
  exact ⟨A', c', h4, hc', hr⟩
theorem OwnTs.snoc {w w' : World} {base : Nat} {v v' u : Value} {T : List Txt} {x : Txt} {vs : List Value} (hl : vs.length = T.length) (hb : ∀ (i : Nat) (x : Txt), T[i]? = some x → ∃ u : Value, vs[i]? = some u ∧ OwnByt w base u x) (hx : OwnByt w base u x)
    (ho : w.ownsRow base 23 1 v T.length vs) (hk : Keeps (fun k => some k = v.ownBlock) w w') (h' : w'.ownsRow base 23 1 v' (T.length + 1) (vs ++ [u])) : OwnTs w' base v' (T ++ [x]) ∧ OwnByt w' base u x := by
  have kp : ∀ {u x}, OwnByt w base u x → OwnByt w' base u x := fun h => own_keep h hk (fun b c _ hb _ hS => own_not_type ho hb (by decide) hS)
  refine ⟨⟨vs ++ [u], by simp [hl], by rw [List.length_append]; exact h', fun i y hi => ?_⟩, kp hx⟩
  have hil : i < (T ++ [x]).length := (List.getElem?_eq_some_iff.1 hi).1
  rw [List.length_append, List.length_singleton] at hil
  by_cases h : i < T.length
  · rw [List.getElem?_append_left h] at hi
    obtain ⟨u', a, b⟩ := hb i y hi
    exact ⟨u', by rw [List.getElem?_append_left (by omega)]; exact a, kp b⟩
  · obtain rfl : i = T.length := by omega
    rw [List.getElem?_append_right (Nat.le_refl _), Nat.sub_self] at hi
    simp at hi; subst hi
    exact ⟨u, by rw [← hl, List.getElem?_append_right (Nat.le_refl _)]; simp, kp hx⟩
def BackTo (w : World) (base g : Nat) (n : Nat) (f : UInt8 → Nat) (v : Value) (T : List Txt) : Prop :=
  w.heap[g]? = some (.cells (backL none n f).toArray 94 (0, 0)) ∧ OwnTs w base v T
/-- A tree of texts from their ends: T are the texts turned round. -/
def BackAt (w : World) (g : Nat) (T : List Txt) : Prop :=
  ∃ tb tg, w.heap[g]? = some (.cells (backL (some ⟨tg, 0, none⟩) (least T) (near T)).toArray 94 (0, 0)) ∧ TrieAt w tb tg (paths T) (place T)
theorem BackAt.below {w w' : World} {g : Nat} {T : List Txt} (h : BackAt w g T) (hb : Below w.heap.size w w') : BackAt w' g T := by
  obtain ⟨tb, tg, h1, h2⟩ := h
  exact ⟨tb, tg, blkBelow hb h1, h2.below hb⟩
theorem BackTo.below {w w' : World} {base g n : Nat} {f : UInt8 → Nat} {v : Value} {T : List Txt} (h : BackTo w base g n f v T) (hb : Below w.heap.size w w') : BackTo w' base g n f v T := ⟨blkBelow hb h.1, h.2.below hb⟩

set_option maxRecDepth 100000 in
set_option maxHeartbeats 1600000 in
theorem bbuild_calls (w : World) (A : Option Addr) (c : Nat) (l : List Txt) (hx : Txts w A l) (hl : tot l ≤ 900000) (hll : l.length ≤ 1000000) :
    Calls Try.prog 23 #[.slice A l.length c] w fun e w' => ∃ g, e = .returned (.pointer (some ⟨g, 0, none⟩)) ∧ BackAt w' g (turnT l) ∧ Below w.heap.size w w' := by
  have HX := As.mk hx
  obtain ⟨n, hn⟩ : ∃ n, l.length = n := ⟨_, rfl⟩
  rw [hn] at hll ⊢
  replace hn := As.mk hn
  have HL := As.mk hl
  have hbz := heap_alloc_new w (.cells Try.zeroCells94 94)
  rw [back_zero] at hbz
  have hT0 : As (BackTo (w.alloc (.cells Try.zeroCells94 94)) w.heap.size w.heap.size (least (turnT (l.take 0))) (near (turnT (l.take 0))) (.slice none 0 0) (turnT (l.take 0))) := ⟨by rw [back_zero]; exact hbz, by rw [List.take_zero]; exact OwnTs.nil _ _⟩
  have hB0 : As (Below w.heap.size w (w.alloc (.cells Try.zeroCells94 94))) := ⟨(Below.refl _ _).alloc (Nat.le_refl _) _⟩
  have hst : As (∀ k, k < n → l.take (k + 1) = l.take k ++ [l.getD k []]) := ⟨fun k h => take_snoc_txt l k (by rw [hn.out]; exact h)⟩
  clear hx hl hbz
  go_enter Try.func23, Try.ntmps23
  go_wp2
  obtain ⟨gb, hgb⟩ : ∃ g, w.heap.size = g := ⟨_, rfl⟩
  obtain ⟨W0, hW0⟩ : ∃ W, w.alloc (.cells Try.zeroCells94 94) = W := ⟨_, rfl⟩
  rw [hW0] at hT0 hB0 ⊢
  rw [hgb] at hT0 hB0 ⊢
  replace hgb := As.mk hgb
  clear hW0
  go_loopg [5, 14] (n + 1) (fun gk v i wr => ∃ (k : Nat) (u : Value), u = v ∧ As (n + 1 ≤ gk + k) ∧ k ≤ n ∧ i = .int .i64 k ∧ As (BackTo wr gb gb (least (turnT (l.take k))) (near (turnT (l.take k))) u (turnT (l.take k))) ∧ As (Below gb w wr))
  case atStart => exact ⟨0, _, rfl, ⟨by omega⟩, Nat.zero_le _, rfl, hT0, hB0⟩
  case round =>
    obtain ⟨k, u, rfl, hgk, hk, rfl, hto, hbel⟩ := hrel
    by_cases hlt : k < n
    · obtain ⟨gp, rfl⟩ : ∃ gp, gk = gp + 1 := ⟨gk - 1, by have := hgk.out; omega⟩
      have hbr : Below w.heap.size w wr := by rw [hgb.out]; exact hbel.out
      obtain ⟨ad, A', c', rfl, a1, hc', hbyt⟩ := (HX.out.below hbr).at_ (i := k) (by rw [hn.out]; exact hlt)
      obtain ⟨t, ht⟩ : ∃ t, l.getD k [] = t := ⟨_, rfl⟩
      rw [ht] at a1 hc' hbyt
      have htk : l.take (k + 1) = l.take k ++ [t] := by rw [hst.out k hlt, ht]
      have htt : t.length ≤ 900000 := by have h1 := tot_take l k (by rw [hn.out]; exact hlt); rw [ht] at h1; have := HL.out; omega
      have hsn := turnT_snoc (l.take k) t
      rw [← htk] at hsn
      obtain ⟨T, hT⟩ : ∃ T, turnT (l.take k) = T := ⟨_, rfl⟩
      rw [hT] at hsn hto
      by_cases h0 : t = []
      · subst h0
        rw [if_pos rfl, List.append_nil] at hsn
        have hfin := As.mk hto.out
        rw [← hsn] at hfin
        clear hto hsn hT hbyt htk
        go_wp2
        go_roundg gp
        case rel => exact ⟨k + 1, u, rfl, ⟨by have := hgk.out; omega⟩, by omega, (by first | rfl | go_num | (congr 1; omega)), hfin, hbel⟩
        case measure => omega
      · have ct := As.mk (turn_calls wr A' c' t hbyt (by omega))
        have hpos : 0 < t.length := List.length_pos_iff.2 h0
        rw [if_neg h0] at hsn
        replace hsn := As.mk hsn
        obtain ⟨s, hs⟩ : ∃ s, t.reverse = s := ⟨_, rfl⟩
        have hsl : s.length = t.length := by rw [← hs, List.length_reverse]
        rw [hs] at hsn ct
        obtain ⟨m, hm⟩ : ∃ m, t.length = m := ⟨_, rfl⟩
        rw [hm] at a1 hc' htt ct hpos hsl
        obtain ⟨L0, hL0⟩ : ∃ L, least T = L := ⟨_, rfl⟩
        obtain ⟨L1, hL1⟩ : ∃ L, least (T ++ [s]) = L := ⟨_, rfl⟩
        have hLs : (if L0 = 0 then m else min L0 m) = L1 := by rw [← hL1, least_snoc, hsl, hL0]
        have cc1 := As.mk (fun v => (by rw [← hLs]; exact closer_calls v L0 m : Calls Try.prog 49 #[.int .i64 (L0 : Int), .int .i64 (m : Int)] v fun e w' => e = .returned (.int .i64 (L1 : Int)) ∧ v = w'))
        rw [hL0] at hto
        have hne0 : ∀ c, near (T ++ [s.take 0]) c = near T c := fun c => by rw [List.take_zero]; exact near_empty T c
        have hnT : near T = near (T ++ [s.take 0]) := (funext hne0).symm
        rw [hnT] at hto
        obtain ⟨hq, vs, hvl, hov, hvb⟩ := hto.out
        obtain ⟨Au, cu, rfl, hcu⟩ := own_slice hov
        replace hsl := As.mk hsl
        replace hL1 := As.mk hL1
        have hm0 : ((m : Int) == 0) = false := by simp; omega
        have hgs : gb ≤ wr.heap.size := by have := hbel.out.size; have := hgb.out; omega
        obtain ⟨tl, htl⟩ : ∃ k, T.length = k := ⟨_, rfl⟩
        have hTl : T.length ≤ 1000000 := by have := turnT_len (l.take k); rw [hT, List.length_take] at this; omega
        rw [htl] at hTl hov hcu hvl ⊢
        replace htl := As.mk htl
        have hq := As.mk hq
        have hov := As.mk hov
        have hvb := As.mk hvb
        replace hvl := As.mk hvl
        clear hbyt hs hm h0 htk hne0 hnT hL0 hLs hto hT
        go_wp2_with (first
          | (go_at_call 50; refine Calls.mono ct.out ?_; intro e w1 h1; obtain ⟨vt, he, ho1, hb1⟩ := h1.open_; subst he; obtain ⟨At, ct', rfl, hct', hbt1⟩ := ho1.row; rw [hsl.out] at hct' ⊢; replace hbt1 := As.mk hbt1; replace hb1 := As.mk hb1; have hs1 := hb1.out.size)
          | (at_builtin
             refine wpList_app1 _ rfl (.tmp 23) (.tmp 25) 22 rfl gb 23 _ 1 24 Try.underlying22 info_bs rfl (by decide) _ tl vs rfl (own_below hov.out hb1.out) [.slice At m ct'] rfl (by simp [Value.oneCell']) _ rfl (by simp) (by omega) (by decide) (by omega) ?_
             intro v' w2 ho2 hk2 hat2 hb2
             have hq1 := blkBelow hb1.out hq.out
             have hq2 := blk_keep hq1 hk2 (own_not_type (own_below hov.out hb1.out) hq1 (by decide))
             have e1 : w2.cell? ⟨gb, 1, none⟩ = some (.int .i64 (L0 : Int)) := cell_of_blk hq2 1
             have f1 := free_of_blk hq2 1)
          | (go_at_call 49; refine Calls.mono (cc1.out _) ?_; rintro e w' ⟨rfl, rfl⟩))
        have hk12 : Below gb w w2 := (hbel.out.trans (hb1.out.mono hgs)).trans hb2
        have ho1' : OwnByt w1 wr.heap.size (.slice At m ct') s := by rw [← hsl.out]; exact ho1
        have hsnoc := OwnTs.snoc (v' := v') (w' := w2) (T := T) (x := s) (hvl.out.trans htl.out.symm) (fun i x hi => by obtain ⟨u, a, b⟩ := hvb.out i x hi; exact ⟨u, a, own_below b hb1.out⟩) (own_base ho1' hgs) (by rw [htl.out]; exact own_below hov.out hb1.out) hk2 (by rw [htl.out]; exact ho2)
        have hS3 : ∀ b c t fr, w2.heap[b]? = some (.cells c t fr) → b = gb → t ≠ 5 ∧ t ≠ 23 := fun b c t fr hb e => by
          subst e; rw [hq2] at hb; injection hb with hb; injection hb with _ hb; subst hb; exact ⟨by decide, by decide⟩
        have hT3 : As (BackTo (w2.setCell ⟨gb, 1, none⟩ (.int .i64 (L1 : Int))) gb gb L1 (near (T ++ [s.take 0])) v' (T ++ [s])) := ⟨by have := blk_set hq2 1 (.int .i64 (L1 : Int)); rw [backL_least] at this; exact this, hsnoc.1.keep (keepsSt w2 ⟨gb, 1, none⟩ _) hS3⟩
        have hs3 : As (OwnByt (w2.setCell ⟨gb, 1, none⟩ (.int .i64 (L1 : Int))) gb (.slice At m ct') s) := ⟨own_keep hsnoc.2 (keepsSt w2 ⟨gb, 1, none⟩ _) (fun b c _ hb _ e => (hS3 b c _ _ hb e).1 rfl)⟩
        have hb3 : As (Below gb w (w2.setCell ⟨gb, 1, none⟩ (.int .i64 (L1 : Int)))) := ⟨hk12.setCell (Nat.le_refl _) _⟩
        generalize w2.setCell ⟨gb, 1, none⟩ (.int .i64 (L1 : Int)) = w3 at *
        obtain ⟨wo, rfl⟩ : ∃ wo : World, wo = wr := ⟨_, rfl⟩
        obtain ⟨go, rfl⟩ : ∃ go : Nat, go = gp := ⟨_, rfl⟩
        clear hk12 hsnoc hS3 hq1 hq2 e1 f1 hk2 ho2 hat2 hb2 ho1 ho1' hbt1 hb1 ct cc1 hov hvb hq hvl hcu
        go_loopg [40] (m + 1) (fun g2 j wr2 => ∃ q : Nat, As (m + 1 ≤ g2 + q) ∧ q ≤ m ∧ j = .int .i64 q ∧ As (BackTo wr2 gb gb L1 (near (T ++ [s.take q])) v' (T ++ [s])) ∧ As (OwnByt wr2 gb (.slice At m ct') s) ∧ As (Below gb w wr2))
        case atStart => exact ⟨0, ⟨by omega⟩, Nat.zero_le _, rfl, hT3, hs3, hb3⟩
        case round =>
          obtain ⟨q, hgq, hq, rfl, hto, hos, hbel2⟩ := hrel
          by_cases hlq : q < m
          · obtain ⟨gq, rfl⟩ : ∃ gq, gk = gq + 1 := ⟨gk - 1, by have := hgq.out; omega⟩
            obtain ⟨A2, c2, e2, _, hby2⟩ := OwnByt.row hos.out
            injection e2 with e2 e3 e4
            clear e3 e4
            subst e2
            obtain ⟨ad2, rfl, hcm⟩ := Byt.at_ hby2 (i := q) (by rw [hsl.out]; exact hlq)
            obtain ⟨x, hx⟩ : ∃ x, s.getD q 0 = x := ⟨_, rfl⟩
            rw [hx] at hcm
            obtain ⟨v0, hv0⟩ : ∃ y, near (T ++ [s.take q]) x = y := ⟨_, rfl⟩
            obtain ⟨v1, hv1⟩ : ∃ y, (if v0 = 0 then q + 1 else min v0 (q + 1)) = y := ⟨_, rfl⟩
            have hns : As (∀ c, near (T ++ [s.take (q + 1)]) c = if c = x then v1 else near (T ++ [s.take q]) c) := ⟨fun c => by
              rw [near_step T s q (by rw [hsl.out]; exact hlq) x hx c]
              by_cases e : c = x
              · subst e; rw [if_pos rfl, if_pos rfl, hv0, hv1]
              · rw [if_neg e, if_neg e]⟩
            have cc2 := As.mk (fun v => (by rw [← hv1]; exact closer_calls v v0 (q + 1) : Calls Try.prog 49 #[.int .i64 (v0 : Int), .int .i64 ((q + 1 : Nat) : Int)] v fun e w' => e = .returned (.int .i64 (v1 : Int)) ∧ v = w'))
            have hxl := x.toNat_lt
            have hq4 := hto.out.1
            have hcq := cell_of_blk hq4 (2 + x.toNat)
            rw [backL_near, hv0] at hcq
            have hfq := free_of_blk hq4 (2 + x.toNat)
            replace hq4 := As.mk hq4
            obtain ⟨xn, hxn⟩ : ∃ k, x.toNat = k := ⟨_, rfl⟩
            rw [hxn] at hcm hcq hfq hxl
            replace hxn := As.mk hxn
            clear hv0 hv1 hby2 hx
            go_wp2
            go_region_with (go_at_call 49; refine Calls.mono (cc2.out _) ?_; rintro e w' ⟨rfl, rfl⟩)
            all_goals
              go_wp2
              go_roundg gq
              case rel =>
                refine ⟨q + 1, ⟨by have := hgq.out; omega⟩, by omega, (by first | rfl | go_num | (congr 1; omega)), ⟨?_⟩, ⟨?_⟩, ⟨(hbel2.out.setCell (Nat.le_refl _) _).drew⟩⟩
                · have hS : ∀ b c t fr, wr.heap[b]? = some (.cells c t fr) → b = gb → t ≠ 5 ∧ t ≠ 23 := fun b c t fr hb e => by
                    subst e; rw [hq4.out] at hb; injection hb with hb; injection hb with _ hb; subst hb; exact ⟨by decide, by decide⟩
                  refine ⟨?_, (hto.out.2.keep (keepsSt wr ⟨gb, 2 + xn, none⟩ _) hS).below (Below.refl _ _).drew⟩
                  have := blk_set hq4.out (2 + xn) (.int .i64 (v1 : Int))
                  rw [← hxn.out, backL_set none L1 v1 _ _ x hns.out] at this
                  rw [← hxn.out]
                  exact this
                · exact own_below (own_keep hos.out (keepsSt wr ⟨gb, 2 + xn, none⟩ _) (fun b c _ hb _ e => by
                    have e : b = gb := e
                    subst e; rw [hq4.out] at hb; injection hb with hb; injection hb with _ hb; exact absurd hb (by decide))) (Below.refl _ _).drew
              case measure => omega
          · obtain rfl : q = m := by omega
            have hto2 := hto.out
            rw [List.take_of_length_le (by rw [hsl.out]; omega), ← hL1.out, ← hsn.out] at hto2
            replace hto2 := As.mk hto2
            go_wp2
            go_roundg go
            case rel => exact ⟨k + 1, v', rfl, ⟨by have := hgk.out; omega⟩, by omega, (by first | rfl | go_num | (congr 1; omega)), hto2, hbel2⟩
            case measure => omega
    · obtain rfl : k = n := by omega
      rw [← hn.out, List.take_length] at hto
      obtain ⟨hq, hown⟩ := hto.out
      have hTn := turnT_ne l
      have htot := turnT_tot l
      have htl := turnT_len l
      obtain ⟨T, hT⟩ : ∃ T, turnT l = T := ⟨_, rfl⟩
      rw [hT] at hto hq hown hTn htot htl
      replace hT := As.mk hT
      obtain ⟨Ac, cc, rfl, hcc, htx⟩ := hown.row
      have cb := As.mk (build_calls wr Ac cc T htx (by have := HL.out; omega) (by have := hn.out; omega))
      have hgs : gb ≤ wr.heap.size := by have := hbel.out.size; have := hgb.out; omega
      have hglt := block_lt hq
      replace hq := As.mk hq
      clear htx hown hto hst
      generalize T.length = tl at *
      go_wp2_with (go_at_call 38; refine Calls.mono cb.out ?_; rintro e w1 ⟨tg, rfl, hT1, hb1⟩; have hq1 := blkBelow hb1 hq.out; have f1 := free_of_blk hq1 0; have e1 := cell_of_blk hq1 0)
      go_ret
      rw [hT.out]
      refine ⟨gb, rfl, ⟨wr.heap.size, tg, ?_, ?_⟩, ?_⟩
      · have := blk_set hq1 0 (.pointer (some ⟨tg, 0, none⟩)); rw [backL_ptr] at this; exact this
      · exact hT1.keepOf (keepsSt w1 ⟨gb, 0, none⟩ _) (fun b e => by
          have e : b = gb := e
          subst e; exact ⟨_, _, _, hq1, by decide, by decide⟩)
      · rw [hgb.out]; exact (hbel.out.trans (hb1.mono hgs)).setCell (Nat.le_refl _) _
end Go.Proofs.Ytbklkemfcdkihaa
end
section
/- The plain law of shifts.Build: what its passes make of each node's two numbers. No program, no memory. -/
set_option linter.unusedVariables false
namespace Seine.Cw
open Seine.Trie Seine.Sort
theorem leastN_congr {q r : Nat → Bool} {b : Nat} (h : ∀ j, 0 < j → q j = r j) : leastN q b = leastN r b := by
  unfold leastN
  congr 2
  funext n
  by_cases hn : 0 < n
  · rw [h n hn]
  · simp [hn]
theorem leastN_or (q r : Nat → Bool) {b : Nat} (hb : 0 < b) : leastN (fun n => q n || r n) b = min (leastN q b) (leastN r b) := by
  obtain ⟨q1, q2, q3, q4⟩ := leastN_spec q b hb
  obtain ⟨r1, r2, r3, r4⟩ := leastN_spec r b hb
  refine leastN_eq hb (by omega) (by omega) (fun h => ?_) (fun j h0 hj => ?_)
  · rcases Nat.le_total (leastN q b) (leastN r b) with h1 | h1
    · rw [Nat.min_eq_left h1] at h ⊢; simp [q3 h]
    · rw [Nat.min_eq_right h1] at h ⊢; simp [r3 h]
  · rw [q4 j h0 (by omega), r4 j h0 (by omega)]; rfl
theorem leastN_one {b m : Nat} (hb : 0 < b) (hm : 0 < m) : leastN (fun n => decide (n = m)) b = min b m := by
  rcases Nat.lt_or_ge m b with h | h
  · rw [Nat.min_eq_right (by omega)]
    exact leastN_eq hb hm (by omega) (fun _ => by simp) (fun j _ hj => by simp; omega)
  · rw [Nat.min_eq_left h]
    exact leastN_eq hb hb (Nat.le_refl _) (fun h => absurd h (Nat.lt_irrefl _)) (fun j _ hj => by simp; omega)
theorem leastN_none {b : Nat} (hb : 0 < b) : leastN (fun _ => false) b = b := leastN_eq hb hb (Nat.le_refl _) (fun h => absurd h (Nat.lt_irrefl _)) (fun _ _ _ => rfl)
/-- One number more. -/
theorem leastN_add {q q' : Nat → Bool} {b m : Nat} (hb : 0 < b) (hm : 0 < m) (h : ∀ j, 0 < j → q' j = (q j || decide (j = m))) : leastN q' b = min (leastN q b) m := by
  rw [leastN_congr h, leastN_or q _ hb, leastN_one hb hm]
  have := (leastN_spec q b hb).2.1
  omega
/-- The first of the two numbers behind the nodes ws, and the first m bytes of a node p. -/
def firstTo (ws : List Txt) (b : Nat) (p : Txt) (m : Nat) (s : Txt) : Nat := leastN (fun n => (ws.any fun w => goesB w s n) || (decide (n ≤ m) && goesB p s n)) b
def wholeTo (T ws : List Txt) (b : Nat) (p : Txt) (m : Nat) (s : Txt) : Nat := leastN (fun n => (ws.any fun w => decide (w ∈ T) && goesB w s n) || (decide (p ∈ T) && (decide (n ≤ m) && goesB p s n))) b
theorem goes_step (p s : Txt) (m : Nat) (hm : m < p.length) (j : Nat) : (decide (j ≤ m + 1) && goesB p s j) = ((decide (j ≤ m) && goesB p s j) || decide (j = m + 1 ∧ p.drop (m + 1) = s)) := by
  rw [Bool.eq_iff_iff]
  simp only [Bool.and_eq_true, Bool.or_eq_true, decide_eq_true_eq, goesB_iff]
  constructor
  · rintro ⟨h1, h2, h3⟩
    by_cases h : j = m + 1
    · subst h; exact .inr ⟨rfl, h3⟩
    · exact .inl ⟨by omega, h2, h3⟩
  · rintro (⟨h1, h2, h3⟩ | ⟨h1, h3⟩)
    · exact ⟨by omega, h2, h3⟩
    · subst h1; exact ⟨Nat.le_refl _, by omega, h3⟩
theorem firstTo_step (ws : List Txt) {b : Nat} (hb : 0 < b) (p : Txt) (m : Nat) (hm : m < p.length) (s : Txt) : firstTo ws b p (m + 1) s = if s = p.drop (m + 1) then min (firstTo ws b p m s) (m + 1) else firstTo ws b p m s := by
  unfold firstTo
  by_cases h : s = p.drop (m + 1)
  · rw [if_pos h]
    refine leastN_add hb (by omega) (fun j hj => ?_)
    rw [goes_step p s m hm j, ← Bool.or_assoc]
    simp [h]
  · rw [if_neg h]
    refine leastN_congr (fun j hj => ?_)
    rw [goes_step p s m hm j]
    have : ¬ (j = m + 1 ∧ p.drop (m + 1) = s) := fun hh => h hh.2.symm
    simp [this]
theorem wholeTo_step (T ws : List Txt) {b : Nat} (hb : 0 < b) (p : Txt) (m : Nat) (hm : m < p.length) (hp : p ∈ T) (s : Txt) : wholeTo T ws b p (m + 1) s = if s = p.drop (m + 1) then min (wholeTo T ws b p m s) (m + 1) else wholeTo T ws b p m s := by
  unfold wholeTo
  simp only [decide_eq_true hp, Bool.true_and]
  by_cases h : s = p.drop (m + 1)
  · rw [if_pos h]
    refine leastN_add hb (by omega) (fun j hj => ?_)
    rw [goes_step p s m hm j, ← Bool.or_assoc]
    simp [h]
  · rw [if_neg h]
    refine leastN_congr (fun j hj => ?_)
    rw [goes_step p s m hm j]
    have : ¬ (j = m + 1 ∧ p.drop (m + 1) = s) := fun hh => h hh.2.symm
    simp [this]
theorem wholeTo_none (T ws : List Txt) (b : Nat) (p : Txt) (m k : Nat) (hp : p ∉ T) (s : Txt) : wholeTo T ws b p m s = wholeTo T ws b p k s := by
  unfold wholeTo; simp only [decide_eq_false hp, Bool.false_and]
theorem firstTo_start (ws : List Txt) (b : Nat) (p q : Txt) (s : Txt) : firstTo ws b p 0 s = firstTo ws b q 0 s := by
  unfold firstTo
  refine leastN_congr (fun j hj => ?_)
  have : decide (j ≤ 0) = false := by simp; omega
  rw [this]; simp
theorem wholeTo_start (T ws : List Txt) (b : Nat) (p q : Txt) (s : Txt) : wholeTo T ws b p 0 s = wholeTo T ws b q 0 s := by
  unfold wholeTo
  refine leastN_congr (fun j hj => ?_)
  have : decide (j ≤ 0) = false := by simp; omega
  rw [this]; simp
theorem firstTo_next (ws : List Txt) (b : Nat) (p q : Txt) (s : Txt) : firstTo ws b p p.length s = firstTo (ws ++ [p]) b q 0 s := by
  unfold firstTo
  refine leastN_congr (fun j hj => ?_)
  have h0 : decide (j ≤ 0) = false := by simp; omega
  rw [h0, List.any_append]
  simp only [List.any_cons, List.any_nil, Bool.or_false, Bool.false_and]
  congr 1
  rw [Bool.eq_iff_iff]
  simp only [Bool.and_eq_true, decide_eq_true_eq, goesB_iff]
  exact ⟨fun h => h.2, fun h => ⟨h.1, h⟩⟩
theorem wholeTo_next (T ws : List Txt) (b : Nat) (p q : Txt) (s : Txt) : wholeTo T ws b p p.length s = wholeTo T (ws ++ [p]) b q 0 s := by
  unfold wholeTo
  refine leastN_congr (fun j hj => ?_)
  have h0 : decide (j ≤ 0) = false := by simp; omega
  rw [h0, List.any_append]
  simp only [List.any_cons, List.any_nil, Bool.or_false, Bool.false_and, Bool.and_false]
  congr 2
  rw [Bool.eq_iff_iff]
  simp only [Bool.and_eq_true, decide_eq_true_eq, goesB_iff]
  exact ⟨fun h => h.2, fun h => ⟨h.1, h⟩⟩
theorem firstTo_all (T : List Txt) (s : Txt) : firstTo (paths T) (least T) [] 0 s = firstF T s := by
  unfold firstTo firstF
  refine leastN_congr (fun j hj => ?_)
  have h0 : decide (j ≤ 0) = false := by simp; omega
  rw [h0]; simp
theorem wholeTo_all (T : List Txt) (s : Txt) : wholeTo T (paths T) (least T) [] 0 s = wholeF T s := by
  unfold wholeTo wholeF
  refine leastN_congr (fun j hj => ?_)
  have h0 : decide (j ≤ 0) = false := by simp; omega
  rw [h0, Bool.false_and, Bool.and_false, Bool.or_false, Bool.eq_iff_iff, List.any_eq_true, List.any_eq_true]
  constructor
  · rintro ⟨w, hw, h⟩
    rw [Bool.and_eq_true, decide_eq_true_eq] at h
    exact ⟨w, h.1, h.2⟩
  · rintro ⟨w, hw, h⟩
    exact ⟨w, text_mem_paths hw, by rw [Bool.and_eq_true, decide_eq_true_eq]; exact ⟨hw, h⟩⟩
theorem firstTo_first {b : Nat} (hb : 0 < b) (s : Txt) : firstTo [] b [] 0 s = b := by
  unfold firstTo
  rw [leastN_congr (r := fun _ => false) (fun j hj => by
    have h0 : decide (j ≤ 0) = false := by simp; omega
    rw [h0]; simp), leastN_none hb]
theorem wholeTo_first (T : List Txt) {b : Nat} (hb : 0 < b) (s : Txt) : wholeTo T [] b [] 0 s = b := by
  unfold wholeTo
  rw [leastN_congr (r := fun _ => false) (fun j hj => by
    have h0 : decide (j ≤ 0) = false := by simp; omega
    rw [h0]; simp), leastN_none hb]
theorem second_nil {T : List Txt} : secondF T [] = wholeF T [] := by
  unfold secondF wholeF
  refine leastN_congr (fun j hj => ?_)
  simp
theorem second_snoc {T : List Txt} (hb : 0 < least T) (p : Txt) (c : UInt8) : secondF T (p ++ [c]) = min (wholeF T (p ++ [c])) (secondF T p) := by
  unfold secondF wholeF
  rw [← leastN_or _ _ hb]
  refine leastN_congr (fun j hj => ?_)
  rw [List.length_append, List.length_singleton, List.range_succ, List.any_append]
  simp only [List.any_cons, List.any_nil, Bool.or_false]
  rw [List.take_of_length_le (by simp), Bool.or_comm]
  congr 1
  rw [Bool.eq_iff_iff, List.any_eq_true, List.any_eq_true]
  constructor
  · rintro ⟨k, hk, h⟩
    have hk' := List.mem_range.1 hk
    rw [List.take_append_of_le_length (by omega)] at h
    exact ⟨k, hk, h⟩
  · rintro ⟨k, hk, h⟩
    have hk' := List.mem_range.1 hk
    exact ⟨k, hk, by rw [List.take_append_of_le_length (by omega)]; exact h⟩
theorem second_up {T : List Txt} (hb : 0 < least T) (s : Txt) (hs : s ≠ []) : secondF T s = min (wholeF T s) (secondF T s.dropLast) := by
  obtain ⟨p, c, rfl⟩ : ∃ p c, s = p ++ [c] := ⟨s.dropLast, s.getLast hs, (List.dropLast_concat_getLast hs).symm⟩
  rw [second_snoc hb, List.dropLast_concat]
/-- Each path's beginning of a byte less stands ahead of it. -/
def Up (P : List Txt) : Prop := ∀ i p, P[i]? = some p → p ≠ [] → p.dropLast ∈ P.take i
theorem Up.put {P : List Txt} (h : Up P) {p : Txt} (hd : p.dropLast ∈ P) : Up (addPath P p) := by
  unfold addPath
  split
  · exact h
  · intro i q hi hq
    by_cases hil : i < P.length
    · rw [List.getElem?_append_left hil] at hi
      rw [List.take_append_of_le_length (by omega)]
      exact h i q hi hq
    · have hi2 := (List.getElem?_eq_some_iff.1 hi).1
      rw [List.length_append, List.length_singleton] at hi2
      obtain rfl : i = P.length := by omega
      rw [List.getElem?_append_right (Nat.le_refl _), Nat.sub_self] at hi
      simp at hi; subst hi
      rw [List.take_append_of_le_length (Nat.le_refl _), List.take_length]
      exact hd
theorem Up.to {P : List Txt} (hT : Tree P) (h : Up P) (b : Txt) : ∀ n, n ≤ b.length → Up (addTo P b n)
  | 0, _ => h
  | n + 1, hn => by
    have h1 := Up.to hT h b n (by omega)
    obtain ⟨_, h2, _⟩ := addTo_spec hT b n (by omega)
    exact h1.put (by rw [take_dropLast (by omega)]; exact h2)
theorem paths_up (l : List Txt) : Up (paths l) := by
  have H : ∀ n (l : List Txt), l.length = n → Up (paths l) := by
    intro n
    induction n with
    | zero =>
      intro l hl
      rw [List.eq_nil_of_length_eq_zero hl]
      intro i p hi hp
      have e : paths [] = [[]] := rfl
      rw [e] at hi
      cases i with
      | zero => simp at hi; exact absurd hi hp
      | succ i => simp at hi
    | succ n ih =>
      intro l hl
      have hne : l ≠ [] := by intro h; simp [h] at hl
      obtain ⟨m, x, rfl⟩ : ∃ m x, l = m ++ [x] := ⟨l.dropLast, l.getLast hne, (List.dropLast_concat_getLast hne).symm⟩
      rw [paths_snoc]
      exact Up.to (paths_tree m) (ih m (by simp at hl; omega)) x x.length (Nat.le_refl _)
  exact H _ l rfl
/-- The second number, where the nodes ks have theirs. -/
def secondTo (T ks : List Txt) (s : Txt) : Nat := if s ∈ ks then secondF T s else wholeF T s
theorem secondTo_step {T ks : List Txt} (hb : 0 < least T) {s : Txt} (hs : s ≠ []) (hn : s ∉ ks) (hp : s.dropLast ∈ ks) (q : Txt) : secondTo T (ks ++ [s]) q = if q = s then min (secondTo T ks s) (secondTo T ks s.dropLast) else secondTo T ks q := by
  unfold secondTo
  by_cases h : q = s
  · subst h
    rw [if_pos (by simp), if_pos rfl, if_neg hn, if_pos hp, second_up hb q hs]
  · rw [if_neg h]
    by_cases hk : q ∈ ks
    · rw [if_pos (by simp [hk]), if_pos hk]
    · rw [if_neg (by simp [hk, h]), if_neg hk]
theorem secondTo_root (T : List Txt) (q : Txt) : secondTo T [[]] q = wholeF T q := by
  unfold secondTo
  by_cases h : q = []
  · subst h; rw [if_pos (by simp), second_nil]
  · rw [if_neg (by simp [h])]
end Seine.Cw
end
section
/- The walks of package shifts: how far a window may be moved. -/
set_option linter.unusedVariables false
set_option linter.unusedSimpArgs false
namespace Go.Proofs.Ytbklkemfcdkihaa
open Go.RowKit Seine.Trie Seine.Cw
attribute [local go_sem high] max2_i min2_i max_two' min_two'
theorem bleast_calls (w : World) (g : Nat) (T : List Txt) (h : BackAt w g T) : Calls Try.prog 51 #[.pointer (some ⟨g, 0, none⟩)] w fun e w' => e = .returned (.int .i64 (least T : Int)) ∧ w = w' := by
  obtain ⟨tb, tg, h1, h2⟩ := h
  have c1 : w.cell? ⟨g, 1, none⟩ = some (.int .i64 (least T : Int)) := cell_of_blk h1 1
  generalize least T = L at *
  clear h1 h2
  go_enter Try.func51, Try.ntmps51
  go_wp2
  go_ret
  exact ⟨rfl, rfl⟩
theorem bnear_calls (w : World) (g : Nat) (T : List Txt) (h : BackAt w g T) (c : UInt8) : Calls Try.prog 89 #[.pointer (some ⟨g, 0, none⟩), .int .u8 (c.toNat : Int)] w fun e w' => e = .returned (.int .i64 (near T c : Int)) ∧ w = w' := by
  obtain ⟨tb, tg, h1, h2⟩ := h
  have c1 := cell_of_blk h1 (2 + c.toNat)
  rw [backL_near] at c1
  generalize near T c = L at *
  have hc := c.toNat_lt
  generalize c.toNat = x at *
  clear h1 h2
  go_enter Try.func89, Try.ntmps89
  go_wp2
  go_ret
  exact ⟨rfl, rfl⟩
/-- Is a node a whole text? -/
def wholeN (T : List Txt) (n : Int) : Bool := decide (0 ≤ askF (paths T) (place T) (-1) n)
theorem bwhole_calls (w : World) (g : Nat) (T : List Txt) (h : BackAt w g T) (n : Int) : Calls Try.prog 80 #[.pointer (some ⟨g, 0, none⟩), .int .i64 n] w fun e w' => e = .returned (.bool (wholeN T n)) ∧ w = w' := by
  obtain ⟨tb, tg, h1, h2⟩ := h
  have c0 : w.cell? ⟨g, 0, none⟩ = some (.pointer (some ⟨tg, 0, none⟩)) := cell_of_blk h1 0
  have cw := As.mk (word_calls w tb tg (paths T) (place T) h2 n)
  unfold wholeN
  generalize askF (paths T) (place T) (-1) n = r at *
  clear h1 h2
  go_enter Try.func80, Try.ntmps80
  go_wp2_with (go_at_call 87; refine Calls.mono cw.out ?_; rintro e w' ⟨rfl, rfl⟩)
  go_ret
  exact ⟨rfl, rfl⟩
theorem wholeN_at {T : List Txt} {a : Nat} {p : Txt} (h : (paths T)[a]? = some p) : wholeN T (a : Int) = decide (p ∈ T) := by
  unfold wholeN askF
  have ha := (List.getElem?_eq_some_iff.1 h).1
  rw [if_pos (by omega), Int.toNat_natCast, List.getD_eq_getElem?_getD, h, Option.getD_some]
  by_cases hp : p ∈ T
  · rw [decide_eq_true hp, decide_eq_true (place_mem.2 hp)]
  · rw [decide_eq_false hp, decide_eq_false (by have := place_neg.2 hp; omega)]
theorem shless_calls (w : World) (p : Addr) (x n : Nat) (hc : w.cell? p = some (.int .i64 (x : Int))) (hf : w.frozen? p = false) (y : Nat) (hy : min x n = y) (N : Int) (hN : N = (n : Int)) : Calls Try.prog 78 #[.pointer (some p), .int .i64 N] w fun e w' => e = .returned (.tuple #[]) ∧ w' = w.setCell p (.int .i64 (y : Int)) := by
  subst hN
  have h2 : As (min (x : Int) (n : Int) = (y : Int)) := ⟨by omega⟩
  rw [← h2.out]
  clear hy
  go_enter Try.func78, Try.ntmps78
  go_wp2
  go_end0
  exact ⟨rfl, rfl⟩
/-! ### each node's two numbers -/
def farCells (P : List Txt) (F S : Txt → Nat) : List Value := P.flatMap fun p => [.int .i64 (F p : Int), .int .i64 (S p : Int)]
theorem farCells_length (P : List Txt) (F S : Txt → Nat) : (farCells P F S).length = P.length * 2 := by
  unfold farCells
  induction P with
  | nil => rfl
  | cons x P ih => rw [List.flatMap_cons, List.length_append, ih]; simp only [List.length_cons, List.length_nil]; omega
theorem farCells_snoc (P : List Txt) (F S : Txt → Nat) (p : Txt) : farCells (P ++ [p]) F S = farCells P F S ++ [.int .i64 (F p : Int), .int .i64 (S p : Int)] := by unfold farCells; rw [List.flatMap_append]; simp
theorem farCells_at : ∀ {P : List Txt} {F S : Txt → Nat} {a : Nat} {s : Txt}, P[a]? = some s → (farCells P F S)[a * 2]? = some (.int .i64 (F s : Int)) ∧ (farCells P F S)[a * 2 + 1]? = some (.int .i64 (S s : Int))
  | [], _, _, a, s, h => by simp at h
  | x :: P, F, S, 0, s, h => by simp at h; subst h; exact ⟨rfl, rfl⟩
  | x :: P, F, S, a + 1, s, h => by
    have := farCells_at (P := P) (F := F) (S := S) (a := a) (s := s) (by simpa using h)
    rw [show (a + 1) * 2 = a * 2 + 2 by omega, show a * 2 + 2 + 1 = (a * 2 + 1) + 2 by omega]
    exact this
theorem farCells_congr {P : List Txt} {F S F' S' : Txt → Nat} (hF : ∀ s ∈ P, F s = F' s) (hS : ∀ s ∈ P, S s = S' s) : farCells P F S = farCells P F' S' := fm_congr (fun x hx => by rw [hF x hx, hS x hx])
theorem farCells_set0 : ∀ {P : List Txt} {F F' S : Txt → Nat} {a : Nat} {s : Txt}, P.Nodup → P[a]? = some s → (∀ p ∈ P, p ≠ s → F' p = F p) → (farCells P F S).set (a * 2) (.int .i64 (F' s : Int)) = farCells P F' S
  | [], _, _, _, a, s, _, h, _ => by simp at h
  | x :: P, F, F', S, 0, s, hn, h, ho => by
    simp at h; subst h
    have : farCells P F S = farCells P F' S := farCells_congr (fun y hy => (ho y (List.mem_cons_of_mem _ hy) (fun e => by subst e; exact (List.nodup_cons.1 hn).1 hy)).symm) (fun _ _ => rfl)
    show (.int .i64 (F' x : Int)) :: .int .i64 (S x : Int) :: farCells P F S = _
    rw [this]; rfl
  | x :: P, F, F', S, a + 1, s, hn, h, ho => by
    have hm : s ∈ P := List.mem_of_getElem? (by simpa using h : P[a]? = some s)
    have := farCells_set0 (P := P) (F := F) (F' := F') (S := S) (a := a) (s := s) (List.nodup_cons.1 hn).2 (by simpa using h) (fun p hp => ho p (List.mem_cons_of_mem _ hp))
    rw [show (a + 1) * 2 = a * 2 + 2 by omega]
    show (.int .i64 (F x : Int)) :: .int .i64 (S x : Int) :: (farCells P F S).set (a * 2) _ = .int .i64 (F' x : Int) :: .int .i64 (S x : Int) :: farCells P F' S
    rw [this, ho x (by simp) (fun e => by subst e; exact (List.nodup_cons.1 hn).1 hm)]
theorem farCells_set1 : ∀ {P : List Txt} {F S S' : Txt → Nat} {a : Nat} {s : Txt}, P.Nodup → P[a]? = some s → (∀ p ∈ P, p ≠ s → S' p = S p) → (farCells P F S).set (a * 2 + 1) (.int .i64 (S' s : Int)) = farCells P F S'
  | [], _, _, _, a, s, _, h, _ => by simp at h
  | x :: P, F, S, S', 0, s, hn, h, ho => by
    simp at h; subst h
    have : farCells P F S = farCells P F S' := farCells_congr (fun _ _ => rfl) (fun y hy => (ho y (List.mem_cons_of_mem _ hy) (fun e => by subst e; exact (List.nodup_cons.1 hn).1 hy)).symm)
    show (.int .i64 (F x : Int)) :: .int .i64 (S' x : Int) :: farCells P F S = _
    rw [this]; rfl
  | x :: P, F, S, S', a + 1, s, hn, h, ho => by
    have hm : s ∈ P := List.mem_of_getElem? (by simpa using h : P[a]? = some s)
    have := farCells_set1 (P := P) (F := F) (S := S) (S' := S') (a := a) (s := s) (List.nodup_cons.1 hn).2 (by simpa using h) (fun p hp => ho p (List.mem_cons_of_mem _ hp))
    rw [show (a + 1) * 2 + 1 = a * 2 + 1 + 2 by omega]
    show (.int .i64 (F x : Int)) :: .int .i64 (S x : Int) :: (farCells P F S).set (a * 2 + 1) _ = .int .i64 (F x : Int) :: .int .i64 (S' x : Int) :: farCells P F S'
    rw [this, ho x (by simp) (fun e => by subst e; exact (List.nodup_cons.1 hn).1 hm)]
theorem info_two : (Try.prog.info? 99).map (fun i => (i.zero, i.size, i.bytes)) = some (some (.agg #[(.int .i64 0), (.int .i64 0)]), 2, 16) := by kernel_rfl
/-- The numbers of k nodes lie there. -/
def ShIn (w : World) (base g gb : Nat) (T : List Txt) (v : Value) (Q : List Txt) (F S : Txt → Nat) : Prop :=
  w.heap[g]? = some (.cells #[.pointer (some ⟨gb, 0, none⟩), v] 98 (0, 0)) ∧ BackAt w gb T ∧ w.ownsRow base 99 2 v Q.length (farCells Q F S)
theorem BackAt.keepOf {S : Nat → Prop} {w w' : World} {g : Nat} {T : List Txt} (h : BackAt w g T) (hk : Keeps S w w') (hS : ∀ b, S b → ∃ cs t fr, w.heap[b]? = some (.cells cs t fr) ∧ t ≠ 118 ∧ t ≠ 114 ∧ t ≠ 94) : BackAt w' g T := by
  obtain ⟨tb, tg, h1, h2⟩ := h
  refine ⟨tb, tg, blk_keep h1 hk (fun hs => ?_), h2.keepOf hk (fun b hb => by obtain ⟨cs, t, fr, h3, h4, h5, _⟩ := hS b hb; exact ⟨cs, t, fr, h3, h4, h5⟩)⟩
  obtain ⟨cs, t, fr, h3, _, _, h4⟩ := hS g hs
  rw [h1] at h3; injection h3 with h3; injection h3 with _ h3; exact h4 h3.symm
theorem ShIn.below {w w' : World} {base g gb : Nat} {T : List Txt} {v : Value} {Q : List Txt} {F S : Txt → Nat} (h : ShIn w base g gb T v Q F S) (hb : Below w.heap.size w w') : ShIn w' base g gb T v Q F S := ⟨blkBelow hb h.1, h.2.1.below hb, own_below h.2.2 hb⟩
/-- A number of the nodes' is another one. -/
theorem ShIn.store {w : World} {base g gb : Nat} {T : List Txt} {v : Value} {Q : List Txt} {F S F' S' : Txt → Nat} (h : ShIn w base g gb T v Q F S) {b c : Nat} (hv : v = .slice (some ⟨b, 0, none⟩) Q.length c) (i : Nat) (u : Value)
    (hu : (farCells Q F S).set i u = farCells Q F' S') : ShIn (w.setCell ⟨b, i, none⟩ u) base g gb T v Q F' S' ∧ base ≤ b ∧ Keeps (fun k => k = b) w (w.setCell ⟨b, i, none⟩ u) := by
  subst hv
  obtain ⟨h1, h2, h3⟩ := h
  have s1 := World.ownsRow.stored h3 i u
  rw [hu] at s1
  have hb := own_blk h3 (k := b) rfl
  obtain ⟨cs, hcs⟩ := own_cells h3 (b := b) rfl
  refine ⟨⟨?_, h2.keepOf (keepsSt w ⟨b, i, none⟩ u) (fun k e => ?_), s1.1⟩, hb.1, keepsSt w ⟨b, i, none⟩ u⟩
  · refine blk_keep h1 (keepsSt w ⟨b, i, none⟩ u) (fun e => ?_)
    have e : g = b := e
    subst e; rw [hcs] at h1; injection h1 with h1; injection h1 with _ h1; exact absurd h1 (by decide)
  · have e : k = b := e
    subst e; exact ⟨_, _, _, hcs, by decide, by decide, by decide⟩
theorem ShIn.cells {w : World} {base g gb : Nat} {T : List Txt} {v : Value} {Q : List Txt} {F S : Txt → Nat} (h : ShIn w base g gb T v Q F S) {b c : Nat} (hv : v = .slice (some ⟨b, 0, none⟩) Q.length c) {a : Nat} {s : Txt} (ha : Q[a]? = some s) :
    w.cell? ⟨b, a * 2, none⟩ = some (.int .i64 (F s : Int)) ∧ w.frozen? ⟨b, a * 2, none⟩ = false ∧ w.cell? ⟨b, a * 2 + 1, none⟩ = some (.int .i64 (S s : Int)) ∧ w.frozen? ⟨b, a * 2 + 1, none⟩ = false := by
  subst hv
  have hal := (List.getElem?_eq_some_iff.1 ha).1
  obtain ⟨p0, p1⟩ := farCells_at (F := F) (S := S) ha
  refine ⟨?_, World.ownsRow.frozenAt h.2.2 _, ?_, World.ownsRow.frozenAt h.2.2 _⟩
  · rw [World.ownsRow.cellAt h.2.2 (a * 2) (by omega), p0]
  · rw [World.ownsRow.cellAt h.2.2 (a * 2 + 1) (by omega), p1]
theorem Byt.drop {w : World} {ad : Addr} {p : Txt} (h : Byt w (some ad) p) (m : Nat) : Byt w (some (ad.add m)) (p.drop m) := by
  rcases h with h | ⟨ad', e, hlt, hc⟩
  · have h0 : p = [] := by have := congrArg List.length h; rw [byCells_length] at this; exact List.eq_nil_of_length_eq_zero this
    subst h0
    exact .inl (by simp [byCells])
  · injection e with e
    subst e
    refine .inr ⟨_, rfl, by rw [Addr.block_add]; exact hlt, fun j u hu => ?_⟩
    rw [Addr.add_add']
    refine hc _ u ?_
    unfold byCells at hu ⊢
    rw [List.map_drop, List.getElem?_drop] at hu
    exact hu
theorem BackAt.open_ {w : World} {g : Nat} {T P : List Txt} (h : BackAt w g T) (hP : As (paths T = P)) : ∃ tb tg, w.cell? ⟨g, 0, none⟩ = some (.pointer (some ⟨tg, 0, none⟩)) ∧ TrieAt w tb tg P (place T) := by
  obtain ⟨tb, tg, h1, h2⟩ := h
  rw [hP.out] at h2
  exact ⟨tb, tg, cell_of_blk h1 0, h2⟩
set_option maxRecDepth 100000 in
set_option maxHeartbeats 6400000 in
theorem goes_calls (w : World) (base g gb : Nat) (T P : List Txt) (hP : As (paths T = P)) (L n : Nat) (hn : P.length = n) (hb0 : 0 < L) (b c k : Nat) (p : Txt) (hk : P[k]? = some p)
    (h : ShIn w base g gb T (.slice (some ⟨b, 0, none⟩) n c) P (firstTo (P.take k) L [] 0) (wholeTo T (P.take k) L [] 0)) (hl : n ≤ 1000000) (hd : ∀ p ∈ P, p.length ≤ 100000) :
    Calls Try.prog 52 #[.pointer (some ⟨g, 0, none⟩), .int .i64 (k : Int)] w fun e w' => e = .returned (.tuple #[]) ∧
      ShIn w' base g gb T (.slice (some ⟨b, 0, none⟩) n c) P (firstTo (P.take (k + 1)) L [] 0) (wholeTo T (P.take (k + 1)) L [] 0) ∧ Keeps (fun q => q = b) w w' := by
  have hT : As (Tree P) := ⟨by rw [← hP.out]; exact paths_tree T⟩
  have hkl := (List.getElem?_eq_some_iff.1 hk).1
  have htk : P.take (k + 1) = P.take k ++ [p] := by rw [List.take_succ_eq_append_getElem hkl]; congr 2; exact (List.getElem?_eq_some_iff.1 hk).2
  obtain ⟨Pk, hPk⟩ : ∃ Q, P.take k = Q := ⟨_, rfl⟩
  obtain ⟨Pn, hPn⟩ : ∃ Q, P.take (k + 1) = Q := ⟨_, rfl⟩
  rw [hPn, hPk] at htk
  rw [hPk] at h
  rw [hPn]
  have hF0 := As.mk (fun s => firstTo_start Pk L [] p s)
  have hS0 := As.mk (fun s => wholeTo_start T Pk L [] p s)
  have hFn := As.mk (fun s => firstTo_next Pk L p [] s)
  have hSn := As.mk (fun s => wholeTo_next T Pk L p [] s)
  have hF := As.mk (fun m (hm : m < p.length) s => firstTo_step Pk hb0 p m hm s)
  have hS := As.mk (fun m (hm : m < p.length) (hp : p ∈ T) s => wholeTo_step T Pk hb0 p m hm hp s)
  have hSN := As.mk (fun (hp : p ∉ T) m s => wholeTo_none T Pk L p m (m + 1) hp s)
  rw [← htk] at hFn hSn
  have hwn := As.mk (wholeN_at (T := T) (a := k) (p := p) (by rw [hP.out]; exact hk))
  have hpl := hd p (List.mem_of_getElem? hk)
  have hpa : pathF P (k : Int) = p := by unfold pathF; rw [if_pos (by omega), Int.toNat_natCast, List.getD_eq_getElem?_getD, hk]; rfl
  have h1 : As (ShIn w base g gb T (.slice (some ⟨b, 0, none⟩) n c) P (firstTo Pk L p 0) (wholeTo T Pk L p 0)) := ⟨by rw [← funext hF0.out, ← funext hS0.out]; exact h⟩
  obtain ⟨g1, g2, g3⟩ := h
  obtain ⟨tb, tg, c1, g5⟩ := g2.open_ hP
  have c0 : w.cell? ⟨g, 0, none⟩ = some (.pointer (some ⟨gb, 0, none⟩)) := cell_of_blk g1 0
  have cp := As.mk (path_calls w tb tg P (place T) g5 (k : Int) hd)
  rw [hpa] at cp
  obtain ⟨pl, hpl2⟩ : ∃ n, p.length = n := ⟨_, rfl⟩
  rw [hpl2] at hpl hF hS hFn hSn
  replace hn := As.mk hn
  replace hpl2 := As.mk hpl2
  replace hPk := As.mk hPk
  replace hPn := As.mk hPn
  have hbase := own_blk g3 (k := b) rfl
  clear g1 g2 g3 g5 hk hkl htk hF0 hS0 hd hpa
  go_enter Try.func52, Try.ntmps52
  go_wp2_with (go_at_call 41; refine Calls.mono cp.out ?_; intro e w1 h9; obtain ⟨vp, he, ho1, hb1⟩ := h9.open_; subst he; obtain ⟨Ap, cpp, rfl, hcpp, _⟩ := ho1.row; rw [hpl2.out] at hcpp ⊢)
  have hs1 := hb1.size
  have hw1 : As (ShIn w1 base g gb T (.slice (some ⟨b, 0, none⟩) n c) P (firstTo Pk L p 0) (wholeTo T Pk L p 0)) := ⟨h1.out.below hb1⟩
  have ho1' : As (OwnByt w1 w.heap.size (.slice Ap pl cpp) p) := ⟨by rw [← hpl2.out]; exact ho1⟩
  have hk1 : As (Keeps (fun q => q = b) w w1) := ⟨Keeps.of_below hb1 _⟩
  have hbw := hbase.2
  clear ho1 hb1 h1 cp c0 c1
  go_loopg [6] (pl + 1) (fun gk i wr => ∃ m : Nat, As (pl + 1 ≤ gk + m) ∧ m ≤ pl ∧ i = .int .i64 ((m + 1 : Nat) : Int) ∧ As (ShIn wr base g gb T (.slice (some ⟨b, 0, none⟩) n c) P (firstTo Pk L p m) (wholeTo T Pk L p m)) ∧ As (OwnByt wr w.heap.size (.slice Ap pl cpp) p) ∧ As (Keeps (fun q => q = b) w wr))
  case atStart => exact ⟨0, ⟨by omega⟩, Nat.zero_le _, (by first | rfl | go_num | (congr 1; omega)), hw1, ho1', hk1⟩
  case round =>
    obtain ⟨m, hgk, hm, rfl, hsh, hop, hkp⟩ := hrel
    by_cases hlt : m < pl
    · obtain ⟨gp, rfl⟩ : ∃ gp, gk = gp + 1 := ⟨gk - 1, by have := hgk.out; omega⟩
      obtain ⟨A2, c2, e2, _, hby⟩ := OwnByt.row hop.out
      injection e2 with e2 e3 e4
      clear e3 e4
      subst e2
      obtain ⟨ad, rfl, _⟩ := Byt.at_ hby (i := 0) (by have := hpl2.out; omega)
      obtain ⟨s, hs⟩ : ∃ s, p.drop (m + 1) = s := ⟨_, rfl⟩
      have hsl : s.length = pl - (m + 1) := by rw [← hs, List.length_drop, hpl2.out]
      have hFs := As.mk (hF.out m hlt)
      have hSs := As.mk (hS.out m hlt)
      rw [hs] at hFs hSs
      obtain ⟨g1, g2, g3⟩ := hsh.out
      obtain ⟨tb, tg, c1, g5⟩ := g2.open_ hP
      have c0 : wr.cell? ⟨g, 0, none⟩ = some (.pointer (some ⟨gb, 0, none⟩)) := cell_of_blk g1 0
      have c2 : wr.cell? ⟨g, 1, none⟩ = some (.slice (some ⟨b, 0, none⟩) n c) := cell_of_blk g1 1
      have hbd := hby.drop (m + 1)
      rw [hs] at hbd
      have hmi : ((m + 1 : Nat) : Int) ≤ (pl : Int) := by omega
      have hcf : ∀ A' d, Byt wr A' s → Calls Try.prog 79 #[.pointer (some ⟨tg, 0, none⟩), .slice A' (pl - (m + 1)) d] wr.drew fun e w' => e = .returned (.int .i64 (place P s)) ∧ wr.drew = w' := fun A' d hA => by
        have := find_calls wr.drew tb tg P (place T) (g5.below (Below.refl _ _).drew) (by have := hn.out; omega) A' d s (Row.drew hA) (by omega)
        rw [hsl] at this; exact this
      have hsd : ShIn wr.drew base g gb T (.slice (some ⟨b, 0, none⟩) n c) P (firstTo Pk L p m) (wholeTo T Pk L p m) := hsh.out.below (Below.refl _ _).drew
      obtain ⟨csb, hcsb⟩ := own_cells g3 (b := b) rfl
      have hkd := hkp.out.drew
      have hod : OwnByt wr.drew w.heap.size (.slice (some ad) pl cpp) p := own_below hop.out (Below.refl _ _).drew
      have hcsd : wr.drew.heap[b]? = some (.cells csb 99 (0, 0)) := hcsb
      have hnd := hT.out.nodup
      by_cases hcc : cpp = m + 1
      · obtain rfl : pl = m + 1 := by omega
        subst hcc
        have cf0 := hcf (some ad) 0 (by
          have : s = [] := List.eq_nil_of_length_eq_zero (by omega)
          rw [this]; exact .inl rfl)
        rw [Nat.sub_self] at cf0
        have hmm : m + 1 ≤ m + 1 := Nat.le_refl _
        by_cases hq : s ∈ P
        · obtain ⟨a, ea, ha⟩ := place_nat hq
          rw [ea] at cf0
          have cf := As.mk cf0
          have hal := (List.getElem?_eq_some_iff.1 ha).1
          obtain ⟨d0, d1, d2, d3⟩ := hsd.cells (b := b) (c := c) (by rw [hn.out]) ha
          obtain ⟨y0, hy0⟩ : ∃ y, min (firstTo Pk L p m s) (m + 1) = y := ⟨_, rfl⟩
          have e0 : firstTo Pk L p (m + 1) s = y0 := by rw [hFs.out, if_pos rfl]; exact hy0
          have hset0 : (farCells P (firstTo Pk L p m) (wholeTo T Pk L p m)).set (a * 2) (.int .i64 (y0 : Int)) = farCells P (firstTo Pk L p (m + 1)) (wholeTo T Pk L p m) := by
            rw [← e0]
            exact farCells_set0 hnd ha (fun q _ hqs => by rw [hFs.out, if_neg hqs])
          have hst1 := hsd.store (b := b) (c := c) (by rw [hn.out]) (a * 2) (.int .i64 (y0 : Int)) hset0
          have cl0 := shless_calls wr.drew ⟨b, a * 2, none⟩ _ (m + 1) d0 d1 y0 hy0 ((m : Int) + 1) (by omega)
          obtain ⟨W5, hW5⟩ : ∃ W, wr.drew.setCell ⟨b, a * 2, none⟩ (.int .i64 (y0 : Int)) = W := ⟨_, rfl⟩
          rw [hW5] at hst1 cl0
          replace cl0 := As.mk cl0
          clear hW5
          have cw := As.mk (bwhole_calls _ gb T hst1.1.2.1 (k : Int))
          rw [hwn.out] at cw
          have c20 : W5.cell? ⟨g, 0, none⟩ = some (.pointer (some ⟨gb, 0, none⟩)) := cell_of_blk hst1.1.1 0
          have c22 : W5.cell? ⟨g, 1, none⟩ = some (.slice (some ⟨b, 0, none⟩) n c) := cell_of_blk hst1.1.1 1
          have hkk1 : Keeps (fun q => q = b) wr.drew W5 := hst1.2.2
          have hho1 : OwnByt W5 w.heap.size (.slice (some ad) (m+1) (m+1)) p := own_keep hod hkk1 (fun b' c' _ hb' _ hS => by
            have hS : b' = b := hS
            subst hS; rw [hcsd] at hb'; injection hb' with hb'; injection hb' with _ hb'; exact absurd hb' (by decide))
          obtain ⟨csb2, hcsb2⟩ := own_cells hst1.1.2.2 (b := b) rfl
          by_cases hp : p ∈ T
          · rw [decide_eq_true hp] at cw
            obtain ⟨_, _, d6, d7⟩ := hst1.1.cells (b := b) (c := c) (by rw [hn.out]) ha
            obtain ⟨y1, hy1⟩ : ∃ y, min (wholeTo T Pk L p m s) (m + 1) = y := ⟨_, rfl⟩
            have e1 : wholeTo T Pk L p (m + 1) s = y1 := by rw [hSs.out hp, if_pos rfl]; exact hy1
            have hset1 : (farCells P (firstTo Pk L p (m + 1)) (wholeTo T Pk L p m)).set (a * 2 + 1) (.int .i64 (y1 : Int)) = farCells P (firstTo Pk L p (m + 1)) (wholeTo T Pk L p (m + 1)) := by
              rw [← e1]
              exact farCells_set1 hnd ha (fun q _ hqs => by rw [hSs.out hp, if_neg hqs])
            have hst2 := hst1.1.store (b := b) (c := c) (by rw [hn.out]) (a * 2 + 1) (.int .i64 (y1 : Int)) hset1
            have cl1 := shless_calls _ ⟨b, a * 2 + 1, none⟩ _ (m + 1) d6 d7 y1 hy1 ((m : Int) + 1) (by omega)
            obtain ⟨W6, hW6⟩ : ∃ W, W5.setCell ⟨b, a * 2 + 1, none⟩ (.int .i64 (y1 : Int)) = W := ⟨_, rfl⟩
            rw [hW6] at hst2 cl1
            replace cl1 := As.mk cl1
            clear hW6
            have hfin := As.mk hst2.1
            have hkf := As.mk (hkd.trans ((hkk1.trans hst2.2.2).mono (fun _ _ h => h)))
            have hof := As.mk (own_keep hho1 hst2.2.2 (fun b' c' _ hb' _ hS => by
              have hS : b' = b := hS
              subst hS; rw [hcsb2] at hb'; injection hb' with hb'; injection hb' with _ hb'; exact absurd hb' (by decide)))
            replace ha := As.mk ha
            clear hst1 hst2 hset0 hset1 e0 e1 hy0 hy1 hcf cf0 hsd hod hkd hkk1 hho1 hcsb hcsd hcsb2 g1 g2 g3 g5 hop hkp hsh hbd hby hnd d0 d1 d2 d3 d6 d7
            have han : a < n := by have := hn.out; omega
            clear hal
            go_wp2_with fail
            go_region_with (go_at_call 79; refine Calls.mono cf.out ?_; rintro e w' ⟨rfl, rfl⟩)
            all_goals
              go_wp2_with (first
                | (go_at_call 80; refine Calls.mono cw.out ?_; rintro e w' ⟨rfl, rfl⟩)
                | (go_at_call 78; (first | with_reducible refine Calls.mono cl0.out ?_ | with_reducible refine Calls.mono cl1.out ?_); rintro e w' ⟨rfl, rfl⟩))
              go_roundg gp
              case rel => exact ⟨m + 1, ⟨by have := hgk.out; omega⟩, by omega, (by first | rfl | go_num | (congr 1; omega)), hfin, hof, hkf⟩
              case measure => omega
          · rw [decide_eq_false hp] at cw
            have hfin := As.mk hst1.1
            rw [funext (hSN.out hp m)] at hfin
            have hkf := As.mk (hkd.trans hkk1)
            have hof := As.mk hho1
            clear hst1 hset0 e0 hy0 hcf cf0 hsd hod hkd hkk1 hho1 hcsb hcsd hcsb2 g1 g2 g3 g5 hop hkp hsh hbd hby hnd d0 d1 d2 d3
            have han : a < n := by have := hn.out; omega
            clear hal
            go_wp2_with fail
            go_region_with (go_at_call 79; refine Calls.mono cf.out ?_; rintro e w' ⟨rfl, rfl⟩)
            all_goals
              go_wp2_with (first
                | (go_at_call 80; refine Calls.mono cw.out ?_; rintro e w' ⟨rfl, rfl⟩)
                | (go_at_call 78; refine Calls.mono cl0.out ?_; rintro e w' ⟨rfl, rfl⟩))
              go_roundg gp
              case rel => exact ⟨m + 1, ⟨by have := hgk.out; omega⟩, by omega, (by first | rfl | go_num | (congr 1; omega)), hfin, hof, hkf⟩
              case measure => omega
        · have hpn := place_none hq
          rw [hpn] at cf0
          have cf := As.mk cf0
          have hFe : farCells P (firstTo Pk L p m) (wholeTo T Pk L p m) = farCells P (firstTo Pk L p (m + 1)) (wholeTo T Pk L p (m + 1)) := farCells_congr (fun x hx => by
              rw [hFs.out, if_neg (fun e : x = s => hq (by rw [← e]; exact hx))]) (fun x hx => by
              by_cases hp : p ∈ T
              · rw [hSs.out hp, if_neg (fun e : x = s => hq (by rw [← e]; exact hx))]
              · exact hSN.out hp m x)
          have hfin := hsd
          unfold ShIn at hfin
          rw [hFe] at hfin
          replace hfin := As.mk (show ShIn wr.drew base g gb T (.slice (some ⟨b, 0, none⟩) n c) P (firstTo Pk L p (m + 1)) (wholeTo T Pk L p (m + 1)) from hfin)
          have hkf := As.mk hkd
          have hof := As.mk hod
          clear hcf cf0 hsd hod hkd hcsb hcsd g1 g2 g3 g5 hop hkp hsh hbd hby hnd hFe
          go_wp2_with fail
          go_region_with (go_at_call 79; refine Calls.mono cf.out ?_; rintro e w' ⟨rfl, rfl⟩)
          all_goals
            go_wp2
            go_roundg gp
            case rel => exact ⟨m + 1, ⟨by have := hgk.out; omega⟩, by omega, (by first | rfl | go_num | (congr 1; omega)), hfin, hof, hkf⟩
            case measure => omega
      · have hcc' : ¬ (m + 1 = cpp) := fun e => hcc e.symm
        have cf0 := hcf (some ⟨ad.block, ad.off + (m + 1), none⟩) (cpp - (m + 1)) hbd
        by_cases hq : s ∈ P
        · obtain ⟨a, ea, ha⟩ := place_nat hq
          rw [ea] at cf0
          have cf := As.mk cf0
          have hal := (List.getElem?_eq_some_iff.1 ha).1
          obtain ⟨d0, d1, d2, d3⟩ := hsd.cells (b := b) (c := c) (by rw [hn.out]) ha
          obtain ⟨y0, hy0⟩ : ∃ y, min (firstTo Pk L p m s) (m + 1) = y := ⟨_, rfl⟩
          have e0 : firstTo Pk L p (m + 1) s = y0 := by rw [hFs.out, if_pos rfl]; exact hy0
          have hset0 : (farCells P (firstTo Pk L p m) (wholeTo T Pk L p m)).set (a * 2) (.int .i64 (y0 : Int)) = farCells P (firstTo Pk L p (m + 1)) (wholeTo T Pk L p m) := by
            rw [← e0]
            exact farCells_set0 hnd ha (fun q _ hqs => by rw [hFs.out, if_neg hqs])
          have hst1 := hsd.store (b := b) (c := c) (by rw [hn.out]) (a * 2) (.int .i64 (y0 : Int)) hset0
          have cl0 := shless_calls wr.drew ⟨b, a * 2, none⟩ _ (m + 1) d0 d1 y0 hy0 ((m : Int) + 1) (by omega)
          obtain ⟨W5, hW5⟩ : ∃ W, wr.drew.setCell ⟨b, a * 2, none⟩ (.int .i64 (y0 : Int)) = W := ⟨_, rfl⟩
          rw [hW5] at hst1 cl0
          replace cl0 := As.mk cl0
          clear hW5
          have cw := As.mk (bwhole_calls _ gb T hst1.1.2.1 (k : Int))
          rw [hwn.out] at cw
          have c20 : W5.cell? ⟨g, 0, none⟩ = some (.pointer (some ⟨gb, 0, none⟩)) := cell_of_blk hst1.1.1 0
          have c22 : W5.cell? ⟨g, 1, none⟩ = some (.slice (some ⟨b, 0, none⟩) n c) := cell_of_blk hst1.1.1 1
          have hkk1 : Keeps (fun q => q = b) wr.drew W5 := hst1.2.2
          have hho1 : OwnByt W5 w.heap.size (.slice (some ad) pl cpp) p := own_keep hod hkk1 (fun b' c' _ hb' _ hS => by
            have hS : b' = b := hS
            subst hS; rw [hcsd] at hb'; injection hb' with hb'; injection hb' with _ hb'; exact absurd hb' (by decide))
          obtain ⟨csb2, hcsb2⟩ := own_cells hst1.1.2.2 (b := b) rfl
          by_cases hp : p ∈ T
          · rw [decide_eq_true hp] at cw
            obtain ⟨_, _, d6, d7⟩ := hst1.1.cells (b := b) (c := c) (by rw [hn.out]) ha
            obtain ⟨y1, hy1⟩ : ∃ y, min (wholeTo T Pk L p m s) (m + 1) = y := ⟨_, rfl⟩
            have e1 : wholeTo T Pk L p (m + 1) s = y1 := by rw [hSs.out hp, if_pos rfl]; exact hy1
            have hset1 : (farCells P (firstTo Pk L p (m + 1)) (wholeTo T Pk L p m)).set (a * 2 + 1) (.int .i64 (y1 : Int)) = farCells P (firstTo Pk L p (m + 1)) (wholeTo T Pk L p (m + 1)) := by
              rw [← e1]
              exact farCells_set1 hnd ha (fun q _ hqs => by rw [hSs.out hp, if_neg hqs])
            have hst2 := hst1.1.store (b := b) (c := c) (by rw [hn.out]) (a * 2 + 1) (.int .i64 (y1 : Int)) hset1
            have cl1 := shless_calls _ ⟨b, a * 2 + 1, none⟩ _ (m + 1) d6 d7 y1 hy1 ((m : Int) + 1) (by omega)
            obtain ⟨W6, hW6⟩ : ∃ W, W5.setCell ⟨b, a * 2 + 1, none⟩ (.int .i64 (y1 : Int)) = W := ⟨_, rfl⟩
            rw [hW6] at hst2 cl1
            replace cl1 := As.mk cl1
            clear hW6
            have hfin := As.mk hst2.1
            have hkf := As.mk (hkd.trans ((hkk1.trans hst2.2.2).mono (fun _ _ h => h)))
            have hof := As.mk (own_keep hho1 hst2.2.2 (fun b' c' _ hb' _ hS => by
              have hS : b' = b := hS
              subst hS; rw [hcsb2] at hb'; injection hb' with hb'; injection hb' with _ hb'; exact absurd hb' (by decide)))
            replace ha := As.mk ha
            clear hst1 hst2 hset0 hset1 e0 e1 hy0 hy1 hcf cf0 hsd hod hkd hkk1 hho1 hcsb hcsd hcsb2 g1 g2 g3 g5 hop hkp hsh hbd hby hnd d0 d1 d2 d3 d6 d7
            have han : a < n := by have := hn.out; omega
            clear hal
            go_wp2_with fail
            go_region_with (go_at_call 79; refine Calls.mono cf.out ?_; rintro e w' ⟨rfl, rfl⟩)
            all_goals
              go_wp2_with (first
                | (go_at_call 80; refine Calls.mono cw.out ?_; rintro e w' ⟨rfl, rfl⟩)
                | (go_at_call 78; (first | with_reducible refine Calls.mono cl0.out ?_ | with_reducible refine Calls.mono cl1.out ?_); rintro e w' ⟨rfl, rfl⟩))
              go_roundg gp
              case rel => exact ⟨m + 1, ⟨by have := hgk.out; omega⟩, by omega, (by first | rfl | go_num | (congr 1; omega)), hfin, hof, hkf⟩
              case measure => omega
          · rw [decide_eq_false hp] at cw
            have hfin := As.mk hst1.1
            rw [funext (hSN.out hp m)] at hfin
            have hkf := As.mk (hkd.trans hkk1)
            have hof := As.mk hho1
            clear hst1 hset0 e0 hy0 hcf cf0 hsd hod hkd hkk1 hho1 hcsb hcsd hcsb2 g1 g2 g3 g5 hop hkp hsh hbd hby hnd d0 d1 d2 d3
            have han : a < n := by have := hn.out; omega
            clear hal
            go_wp2_with fail
            go_region_with (go_at_call 79; refine Calls.mono cf.out ?_; rintro e w' ⟨rfl, rfl⟩)
            all_goals
              go_wp2_with (first
                | (go_at_call 80; refine Calls.mono cw.out ?_; rintro e w' ⟨rfl, rfl⟩)
                | (go_at_call 78; refine Calls.mono cl0.out ?_; rintro e w' ⟨rfl, rfl⟩))
              go_roundg gp
              case rel => exact ⟨m + 1, ⟨by have := hgk.out; omega⟩, by omega, (by first | rfl | go_num | (congr 1; omega)), hfin, hof, hkf⟩
              case measure => omega
        · have hpn := place_none hq
          rw [hpn] at cf0
          have cf := As.mk cf0
          have hFe : farCells P (firstTo Pk L p m) (wholeTo T Pk L p m) = farCells P (firstTo Pk L p (m + 1)) (wholeTo T Pk L p (m + 1)) := farCells_congr (fun x hx => by
              rw [hFs.out, if_neg (fun e : x = s => hq (by rw [← e]; exact hx))]) (fun x hx => by
              by_cases hp : p ∈ T
              · rw [hSs.out hp, if_neg (fun e : x = s => hq (by rw [← e]; exact hx))]
              · exact hSN.out hp m x)
          have hfin := hsd
          unfold ShIn at hfin
          rw [hFe] at hfin
          replace hfin := As.mk (show ShIn wr.drew base g gb T (.slice (some ⟨b, 0, none⟩) n c) P (firstTo Pk L p (m + 1)) (wholeTo T Pk L p (m + 1)) from hfin)
          have hkf := As.mk hkd
          have hof := As.mk hod
          clear hcf cf0 hsd hod hkd hcsb hcsd g1 g2 g3 g5 hop hkp hsh hbd hby hnd hFe
          go_wp2_with fail
          go_region_with (go_at_call 79; refine Calls.mono cf.out ?_; rintro e w' ⟨rfl, rfl⟩)
          all_goals
            go_wp2
            go_roundg gp
            case rel => exact ⟨m + 1, ⟨by have := hgk.out; omega⟩, by omega, (by first | rfl | go_num | (congr 1; omega)), hfin, hof, hkf⟩
            case measure => omega
    · obtain rfl : m = pl := by omega
      have hfin := hsh.out
      rw [funext hFn.out, funext hSn.out] at hfin
      replace hfin := As.mk hfin
      go_wp2
      go_end0
      exact ⟨rfl, hfin.out, hkp.out⟩
end Go.Proofs.Ytbklkemfcdkihaa
end
section
/- The walk of shifts.Build. -/
set_option linter.unusedVariables false
set_option linter.unusedSimpArgs false
namespace Go.Proofs.Ytbklkemfcdkihaa
open Go.RowKit Seine.Trie Seine.Links Seine.Cw
attribute [local go_sem high] max2_i min2_i max_two' min_two'
theorem farCells_put (k L : Nat) (P : List Txt) (hk : k < P.length) : farCells (P.take (k + 1)) (fun _ => L) (fun _ => L) = farCells (P.take k) (fun _ => L) (fun _ => L) ++ [.int .i64 (L : Int), .int .i64 (L : Int)] := by
  rw [List.take_succ_eq_append_getElem hk, farCells_snoc]
theorem first_root (L : Nat) (s : Txt) (hb : 0 < L) : firstTo [[]] L [] 0 s = L := by
  have := firstTo_next [] L [] [] s
  rw [List.length_nil, List.nil_append] at this
  rw [← this, firstTo_first hb]
theorem whole_root (T : List Txt) (L : Nat) (s : Txt) (hb : 0 < L) : wholeTo T [[]] L [] 0 s = L := by
  have := wholeTo_next T [] L [] [] s
  rw [List.length_nil, List.nil_append] at this
  rw [← this, wholeTo_first T hb]
/-- How far a window may be moved, by what fitted. -/
def ShAt (w : World) (gs gb : Nat) (T : List Txt) : Prop := T ≠ [] → ∃ base v, ShIn w base gs gb T v (paths T) (firstF T) (secondF T)
theorem ShAt.below {w w' : World} {gs gb : Nat} {T : List Txt} (h : ShAt w gs gb T) (hb : Below w.heap.size w w') : ShAt w' gs gb T := fun hne => by
  obtain ⟨base, v, h⟩ := h hne
  exact ⟨base, v, h.below hb⟩
theorem shbuild_none (w : World) (gb : Nat) (h : BackAt w gb []) :
    Calls Try.prog 24 #[.pointer (some ⟨gb, 0, none⟩)] w fun e w' => ∃ g, e = .returned (.pointer (some ⟨g, 0, none⟩)) ∧ ShAt w' g gb [] ∧ Below w.heap.size w w' := by
  have hB := As.mk ((Below.refl w.heap.size w).alloc (Nat.le_refl _) (.cells #[.pointer (some ⟨gb, 0, none⟩), .slice none 0 0] 98))
  have cl := As.mk (bleast_calls _ gb [] (h.below hB.out))
  rw [show least [] = 0 from rfl] at cl
  clear h
  go_enter Try.func24, Try.ntmps24
  go_wp2_with (go_at_call 51; refine Calls.mono cl.out ?_; rintro e w' ⟨rfl, rfl⟩)
  go_ret
  exact ⟨_, rfl, fun h => absurd rfl h, hB.out⟩
set_option maxRecDepth 100000 in
set_option maxHeartbeats 6400000 in
theorem shbuild_calls (w : World) (gb : Nat) (T P : List Txt) (hP : As (paths T = P)) (L n : Nat) (hL : As (least T = L)) (hn : P.length = n) (hb0 : 0 < L) (hl : n ≤ 1000000) (hd : ∀ p ∈ P, p.length ≤ 100000) (h : BackAt w gb T) :
    Calls Try.prog 24 #[.pointer (some ⟨gb, 0, none⟩)] w fun e w' => ∃ g, e = .returned (.pointer (some ⟨g, 0, none⟩)) ∧ ShAt w' g gb T ∧ Below w.heap.size w w' := by
  have hB := As.mk ((Below.refl w.heap.size w).alloc (Nat.le_refl _) (.cells #[.pointer (some ⟨gb, 0, none⟩), .slice none 0 0] 98))
  have hbk := h.below hB.out
  have hS0 : As (ShIn (w.alloc (.cells #[.pointer (some ⟨gb, 0, none⟩), .slice none 0 0] 98)) w.heap.size w.heap.size gb T (.slice none 0 0) (P.take 0) (fun _ => L) (fun _ => L)) := ⟨heap_alloc_new _ _, hbk, by rw [List.take_zero]; exact World.ownsRow_nil _ _ _ _⟩
  have hT : As (Tree P) := ⟨by rw [← hP.out]; exact paths_tree T⟩
  have hn0 := hT.out.len
  rw [hn] at hn0
  obtain ⟨i0, hi, hz0, hz1, hz2⟩ := info_parts info_two
  obtain ⟨gg, hgg⟩ : ∃ g, w.heap.size = g := ⟨_, rfl⟩
  obtain ⟨W0, hW0⟩ : ∃ W, w.alloc (.cells #[.pointer (some ⟨gb, 0, none⟩), .slice none 0 0] 98) = W := ⟨_, rfl⟩
  have cl := As.mk (bleast_calls _ gb T hbk)
  rw [hL.out] at cl
  rw [hW0] at cl hS0 hB hbk
  rw [hgg] at hS0 hB
  replace hn := As.mk hn
  have hL0 : ((L : Int) == 0) = false := by simp; omega
  obtain ⟨tb, tg, c1, g5⟩ := hbk.open_ hP
  have cN := As.mk (nodes_calls _ tb tg P (place T) g5)
  rw [hn.out] at cN
  replace hW0 := As.mk hW0
  replace hgg := As.mk hgg
  clear h hbk g5
  go_enter Try.func24, Try.ntmps24
  go_wp2_with fail
  rw [hW0.out]
  simp only [hgg.out]
  refine Calls.mono cl.out ?_
  rintro e w' ⟨rfl, rfl⟩
  go_wp2_with (go_at_call 40; refine Calls.mono cN.out ?_; rintro e w' ⟨rfl, rfl⟩)
  go_loopg [18] (n + 1) (fun gk i wr => ∃ (k : Nat) (v : Value), As (n + 1 ≤ gk + k) ∧ k ≤ n ∧ i = .int .i64 k ∧ As (ShIn wr gg gg gb T v (P.take k) (fun _ => L) (fun _ => L)) ∧ As (Below gg w wr))
  case atStart => exact ⟨0, _, ⟨by omega⟩, Nat.zero_le _, rfl, hS0, hB⟩
  case round =>
    obtain ⟨k, v, hgk, hk, rfl, hS, hbel⟩ := hrel
    have hgw : gg ≤ wr.heap.size := by have := hbel.out.size; have := hgg.out; omega
    by_cases hlt : k < n
    · obtain ⟨gp, rfl⟩ : ∃ gp, gk = gp + 1 := ⟨gk - 1, by have := hgk.out; omega⟩
      have hput := As.mk (farCells_put k L P (by rw [hn.out]; exact hlt))
      have htl : (P.take k).length = k := by rw [List.length_take, hn.out]; omega
      have htl2 : (P.take (k + 1)).length = k + 1 := by rw [List.length_take, hn.out]; omega
      obtain ⟨g1, g2, g3⟩ := hS.out
      rw [htl] at g3
      obtain ⟨Av, cv, rfl, hcv⟩ := own_slice g3
      have cle := As.mk (bleast_calls wr.drew gb T (g2.below (Below.refl _ _).drew))
      rw [hL.out] at cle
      have q1 : wr.cell? ⟨gg, 1, none⟩ = some (.slice Av k cv) := cell_of_blk g1 1
      have hgl := block_lt g1
      have hfar : some gg ≠ (Value.slice Av k cv).ownBlock := own_not_type g3 g1 (by decide)
      have hown2 := As.mk ((g3.alloc (.cells #[.int .i64 (L : Int), .int .i64 (L : Int)] 99)).drew)
      have K1 := As.mk ((Below.cell (p := ⟨gg, 1, none⟩) ((Below.alloc (Below.refl wr.heap.size wr) (Nat.le_refl _) (.cells #[.int .i64 (L : Int), .int .i64 (L : Int)] 99)).drew) hgl).trans q1)
      have K2 := As.mk ((Below.frozen (p := ⟨gg, 1, none⟩) ((Below.alloc (Below.refl wr.heap.size wr) (Nat.le_refl _) (.cells #[.int .i64 (L : Int), .int .i64 (L : Int)] 99)).drew) hgl).trans (free_of_blk g1 1))
      have G1 := As.mk g1
      have G2 := As.mk g2
      have G3 := As.mk g3
      clear g1 g2 g3
      go_wp2_with fail
      go_region_law (first
        | (refine step_append_lies _ (by rfl) _ _ _ (by rfl) gg 99 i0 _ 2 16 Try.underlying96 hi hz0 hz1 hz2 rfl (by omega) (.slice Av k cv) k _ (by rfl) hown2.out
                 ⟨wr.heap.size, 0, none⟩ 1 1 [.int .i64 (L : Int), .int .i64 (L : Int)] (by rfl) (by rfl) (World.news_of_block (cs := #[.int .i64 (L : Int), .int .i64 (L : Int)]) (t := 99) (fr := (0, 0)) (heap_alloc_new wr _)) (by simp [Value.oneCell'])
                 (by omega) (by unfold maxLen; omega) (by omega) (by simp; omega) (wr.heap.size + 1) (by simp) ?_
           intro g4 cap w4 hown4 hgrow hat hlt4
           have e0 := (hgrow.cell_far ⟨gg, 1, none⟩ (by show gg < _; simp; omega) hfar).trans K1.out
           have e1 := (hgrow.frozen_far ⟨gg, 1, none⟩ (by show gg < _; simp; omega) hfar).trans K2.out
           replace hgrow := As.mk hgrow
           replace hown4 := As.mk hown4)
        | (refine step_call_eq (by rfl) ?ho cle.out ?_; (case ho => go_simp)))
      all_goals
        go_wp2_with fail
        have hkp : Keeps (fun q => some q = (Value.slice Av k cv).ownBlock) wr w4 := (Keeps.of_below (((Below.refl _ _).alloc (Nat.le_refl _) _).drew) _).trans ((Keeps.of_grown hgrow.out).mono (fun _ _ h => h))
        have hks5 := (hkp.mono (T := fun q => some q = (Value.slice Av k cv).ownBlock ∨ q = gg) (fun _ _ h => .inl h)).trans ((keepsSt w4 ⟨gg, 1, none⟩ (.slice (some ⟨g4, 0, none⟩) (k + 1) cap)).mono (fun _ _ h => .inr h))
        have hSS : ∀ q, (some q = (Value.slice Av k cv).ownBlock ∨ q = gg) → ∃ cs t fr, wr.heap[q]? = some (.cells cs t fr) ∧ (t = 99 ∨ t = 98) := fun q hq => by
          rcases hq with hq | rfl
          · obtain ⟨cs, h⟩ := own_cells G3.out hq
            exact ⟨cs, _, _, h, .inl rfl⟩
          · exact ⟨_, _, _, G1.out, .inr rfl⟩
        have hB5 := G2.out.keepOf hks5 (fun q hq => by obtain ⟨cs, t, fr, h1, h2⟩ := hSS q hq; exact ⟨cs, t, fr, h1, by rcases h2 with rfl | rfl <;> decide, by rcases h2 with rfl | rfl <;> decide, by rcases h2 with rfl | rfl <;> decide⟩)
        have hA4 := blk_keep G1.out hkp hfar
        have hS5 : ShIn (w4.setCell ⟨gg, 1, none⟩ (.slice (some ⟨g4, 0, none⟩) (k + 1) cap)) gg gg gb T (.slice (some ⟨g4, 0, none⟩) (k + 1) cap) (P.take (k + 1)) (fun _ => L) (fun _ => L) := by
          refine ⟨?_, hB5, ?_⟩
          · have := blk_set hA4 1 (.slice (some ⟨g4, 0, none⟩) (k + 1) cap)
            rw [this]; simp
          · have h6 := hown4.out
            rw [← hput.out] at h6
            have h7 := own_keep h6 (keepsSt w4 ⟨gg, 1, none⟩ (.slice (some ⟨g4, 0, none⟩) (k + 1) cap)) (fun b c' _ hb _ hS => by
              have hS : b = gg := hS
              subst hS
              rw [hA4] at hb
              injection hb with hb
              injection hb with _ hb
              exact absurd hb (by decide))
            rw [htl2]
            exact h7
        have hbel5 : Below gg w (w4.setCell ⟨gg, 1, none⟩ (.slice (some ⟨g4, 0, none⟩) (k + 1) cap)) :=
          hbel.out.trans (hks5.below (fun q hq hS => by
            rcases hS with hS | hS
            · have := (own_blk G3.out hS).1
              omega
            · omega) hgw)
        go_roundg gp
        case rel => exact ⟨k + 1, _, ⟨by have := hgk.out; omega⟩, by omega, (by first | rfl | go_num | (congr 1; omega)), ⟨hS5⟩, ⟨hbel5⟩⟩
        case measure => omega
    · obtain rfl : k = n := by omega
      have hPk : P.take k = P := List.take_of_length_le (by have := hn.out; omega)
      have hS1 := hS.out
      rw [hPk] at hS1
      have hg3 := hS1.2.2
      rw [hn.out] at hg3
      obtain ⟨fb, fc, rfl, hfb, hfc⟩ := hg3.form (by omega)
      have hroot : P.take 1 = [[]] := by
        have := hT.out.root
        cases hPP : P with
        | nil => rw [hPP] at this; simp at this
        | cons x Q => rw [hPP] at this; simp at this; subst this; rfl
      have hF1 : (fun _ : Txt => L) = firstTo (P.take 1) L [] 0 := by funext s; rw [hroot, first_root L s hb0]
      have hW1 : (fun _ : Txt => L) = wholeTo T (P.take 1) L [] 0 := by funext s; rw [hroot, whole_root T L s hb0]
      have hS2 : As (ShIn wr gg gg gb T (.slice (some ⟨fb, 0, none⟩) k fc) P (firstTo (P.take 1) L [] 0) (wholeTo T (P.take 1) L [] 0)) := ⟨by rw [← hF1, ← hW1]; exact hS1⟩
      obtain ⟨W2, hW2⟩ : ∃ W, wr = W := ⟨_, rfl⟩
      rw [hW2] at hS2 hbel ⊢
      clear hS hS1 hg3 hW2 hF1 hW1 hPk hgw hW0 cl cN c1 hS0 hB
      go_wp2_with fail
      go_loopg [4] (k + 1) (fun gk i wr => ∃ q : Nat, As (k + 1 ≤ gk + q) ∧ 1 ≤ q ∧ q ≤ k ∧ i = .int .i64 q ∧ As (ShIn wr gg gg gb T (.slice (some ⟨fb, 0, none⟩) k fc) P (firstTo (P.take q) L [] 0) (wholeTo T (P.take q) L [] 0)) ∧ As (Below gg w wr))
      case atStart => exact ⟨1, ⟨by omega⟩, Nat.le_refl _, by omega, rfl, hS2, hbel⟩
      case round =>
        obtain ⟨q, hgq, hq1, hq, rfl, hS, hbel2⟩ := hrel
        have hgw : gg ≤ wr.heap.size := by have := hbel2.out.size; have := hgg.out; omega
        obtain ⟨g1, g2, g3⟩ := hS.out
        obtain ⟨tb, tg, c1, g5⟩ := g2.open_ hP
        have cN := As.mk (nodes_calls wr tb tg P (place T) g5)
        rw [hn.out] at cN
        by_cases hlt : q < k
        · obtain ⟨gp, rfl⟩ : ∃ gp, gk = gp + 1 := ⟨gk - 1, by have := hgq.out; omega⟩
          obtain ⟨p, hp⟩ : ∃ p, P[q]? = some p := ⟨_, List.getElem?_eq_getElem (by have := hn.out; omega)⟩
          have cg := As.mk (goes_calls wr gg gg gb T P hP L k hn.out hb0 fb fc q p hp hS.out hl hd)
          clear g1 g2 g3 g5 hp
          go_wp2_with (first
            | (go_at_call 40; refine Calls.mono cN.out ?_; rintro e w' ⟨rfl, rfl⟩)
            | (go_at_call 52; refine Calls.mono cg.out ?_; rintro e w5 ⟨rfl, hS5, hk5⟩))
          go_roundg gp
          case rel => exact ⟨q + 1, ⟨by have := hgq.out; omega⟩, by omega, by omega, (by first | rfl | go_num | (congr 1; omega)), ⟨hS5⟩, ⟨hbel2.out.trans (hk5.below (fun z hz e => by omega) hgw)⟩⟩
          case measure => omega
        · obtain rfl : q = k := by omega
          have hPk : P.take q = P := List.take_of_length_le (by have := hn.out; omega)
          have hFF : firstTo P L [] 0 = firstF T := by funext s; rw [← hL.out, ← hP.out, firstTo_all]
          have hSS : wholeTo T P L [] 0 = secondTo T (P.take 1) := by funext s; rw [hroot, secondTo_root, ← hL.out, ← hP.out, wholeTo_all]
          have hS3 := hS.out
          rw [hPk, hFF, hSS] at hS3
          replace hS3 := As.mk hS3
          obtain ⟨W3, hW3⟩ : ∃ W, wr = W := ⟨_, rfl⟩
          rw [hW3] at hS3 hbel2 cN c1 ⊢
          clear hS hW3 hPk hFF hSS hgw g1 g2 g3 g5
          go_wp2_with (go_at_call 40; refine Calls.mono cN.out ?_; rintro e w' ⟨rfl, rfl⟩)
          clear cN c1
          go_loopg [5] (q + 1) (fun gk i wr => ∃ r : Nat, As (q + 1 ≤ gk + r) ∧ 1 ≤ r ∧ r ≤ q ∧ i = .int .i64 r ∧ As (ShIn wr gg gg gb T (.slice (some ⟨fb, 0, none⟩) q fc) P (firstF T) (secondTo T (P.take r))) ∧ As (Below gg w wr))
          case atStart => exact ⟨1, ⟨by omega⟩, Nat.le_refl _, by omega, rfl, hS3, hbel2⟩
          case round =>
            obtain ⟨r, hgr, hr1, hr, rfl, hS, hbel3⟩ := hrel
            have hgw : gg ≤ wr.heap.size := by have := hbel3.out.size; have := hgg.out; omega
            obtain ⟨g1, g2, g3⟩ := hS.out
            obtain ⟨tb, tg, c1, g5⟩ := g2.open_ hP
            have cN := As.mk (nodes_calls wr tb tg P (place T) g5)
            rw [hn.out] at cN
            by_cases hlt : r < q
            · obtain ⟨gp, rfl⟩ : ∃ gp, gk = gp + 1 := ⟨gk - 1, by have := hgr.out; omega⟩
              have hrP : r < P.length := by have := hn.out; omega
              obtain ⟨s, hs⟩ : ∃ p, P[r]? = some p := ⟨_, List.getElem?_eq_getElem hrP⟩
              have hsd : P.getD r [] = s := by rw [List.getD_eq_getElem?_getD, hs]; rfl
              have hne : s ≠ [] := by rw [← hsd]; exact node_ne hT.out hr1 hrP
              have hup := (show Up P by rw [← hP.out]; exact paths_up T) r s hs hne
              obtain ⟨a, ea, ha⟩ := place_nat (List.mem_of_mem_take hup)
              have hpar : parent P s = (a : Int) := by unfold parent; rw [if_neg hne]; exact ea
              have hns : s ∉ P.take r := fun hm => by
                obtain ⟨j, hj⟩ := List.mem_iff_getElem?.1 hm
                have hjr : j < r := by have := (List.getElem?_eq_some_iff.1 hj).1; rw [List.length_take] at this; omega
                rw [List.getElem?_take_of_lt hjr] at hj
                have := nodup_get hT.out.nodup hj hs
                omega
              have htk : P.take (r + 1) = P.take r ++ [s] := by rw [List.take_succ_eq_append_getElem hrP]; congr 2; exact (List.getElem?_eq_some_iff.1 hs).2
              have hstep := secondTo_step (T := T) (by rw [hL.out]; exact hb0) hne hns hup
              rw [← htk] at hstep
              have cpar := As.mk (parent_calls wr.drew tb tg P (place T) (g5.below (Below.refl _ _).drew) (r : Int))
              have hask : askF P (parent P) (-1) (r : Int) = (a : Int) := by unfold askF; rw [if_pos (by omega), Int.toNat_natCast, hsd, hpar]
              rw [hask] at cpar
              have hsd2 : ShIn wr.drew gg gg gb T (.slice (some ⟨fb, 0, none⟩) q fc) P (firstF T) (secondTo T (P.take r)) := hS.out.below (Below.refl _ _).drew
              obtain ⟨_, _, d2, d3⟩ := hS.out.cells (b := fb) (c := fc) (by rw [hn.out]) hs
              obtain ⟨_, _, d6, _⟩ := hS.out.cells (b := fb) (c := fc) (by rw [hn.out]) ha
              obtain ⟨x, hx⟩ : ∃ x, secondTo T (P.take r) s = x := ⟨_, rfl⟩
              obtain ⟨y, hy⟩ : ∃ x, secondTo T (P.take r) s.dropLast = x := ⟨_, rfl⟩
              obtain ⟨z, hz⟩ : ∃ z, min x y = z := ⟨_, rfl⟩
              have ez : secondTo T (P.take (r + 1)) s = z := by rw [hstep, if_pos rfl, hx, hy, hz]
              have hset : (farCells P (firstF T) (secondTo T (P.take r))).set (r * 2 + 1) (.int .i64 (z : Int)) = farCells P (firstF T) (secondTo T (P.take (r + 1))) := by
                rw [← ez]
                exact farCells_set1 hT.out.nodup hs (fun t _ hts => by rw [hstep, if_neg hts])
              have hmin : min (x : Int) (y : Int) = (z : Int) := by omega
              have hst := hS.out.store (b := fb) (c := fc) (by rw [hn.out]) (r * 2 + 1) (.int .i64 (z : Int)) hset
              have han : a < q := by have := (List.getElem?_eq_some_iff.1 ha).1; have := hn.out; omega
              rw [hx] at d2
              rw [hy] at d6
              have c0 : wr.cell? ⟨gg, 1, none⟩ = some (.slice (some ⟨fb, 0, none⟩) q fc) := cell_of_blk g1 1
              replace hst := As.mk hst
              clear hsd hup ea ha hpar hns htk hstep hask hsd2 hx hy hz ez hset hs hrP hne g1 g2 g3 g5
              go_wp2_with (go_at_call 40; refine Calls.mono cN.out ?_; rintro e w' ⟨rfl, rfl⟩)
              refine wp_region_still_tail 29 (by kernel_rfl) (by kernel_rfl) ?_
              simp only [List.take_succ_cons, List.take_zero, List.drop_succ_cons, List.drop_zero]
              iterate 22 still_step
              refine wpStill_step (fun K hK => ?_)
              go_simp
              refine ⟨_, cpar.out.mono (fun e w' h => ⟨h.1, h.2.symm⟩), hK _ ?_⟩
              clear hK K
              iterate 6 still_step
              refine wpStill_nil ?_
              change wpList _ _ _ _ _ wr.drew
              go_wp2_with fail
              go_roundg gp
              case rel =>
                refine ⟨r + 1, ⟨by have := hgr.out; omega⟩, by omega, by omega, (by first | rfl | go_num | (congr 1; omega)), ⟨hst.out.1.below (Below.refl _ _).drew⟩, ⟨hbel3.out.trans (((hst.out.2.2.below (fun z hz e => by omega) hgw)).drew)⟩⟩
              case measure => omega
            · obtain rfl : r = q := by omega
              have hPk : P.take r = P := List.take_of_length_le (by have := hn.out; omega)
              have hfin : ShIn wr gg gg gb T (.slice (some ⟨fb, 0, none⟩) r fc) (paths T) (firstF T) (secondF T) := by
                have h0 := hS.out
                rw [hPk] at h0
                rw [hP.out]
                refine ⟨h0.1, h0.2.1, ?_⟩
                rw [farCells_congr (F' := firstF T) (S' := secondTo T P) (fun _ _ => rfl) (fun s hs => by unfold secondTo; rw [if_pos hs])]
                exact h0.2.2
              replace hfin := As.mk hfin
              clear hS g1 g2 g3 g5 hPk
              go_wp2_with (go_at_call 40; refine Calls.mono cN.out ?_; rintro e w' ⟨rfl, rfl⟩)
              go_ret
              exact ⟨gg, rfl, fun _ => ⟨gg, _, hfin.out⟩, by rw [hgg.out]; exact hbel3.out⟩
end Go.Proofs.Ytbklkemfcdkihaa
end
