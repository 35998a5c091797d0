/- Joined texts: Fold, Fold2, Classes, Dfa, LinksOrder, LinksWalk, LinksWalk2. -/
import Derived.Test.YtglalojbdlepfaaM2
import Derived.Deep.LoopGhost
import Derived.Deep.MidRow
import Derived.Laws.Bits64b
import Derived.ChangeKeysEq
import Derived.StillTailTactics
import Derived.Deep.WholeRow
section
/- The walks of package fold: sets of bytes, four numbers each. -/
set_option linter.unusedVariables false
set_option linter.unusedSimpArgs false
namespace Go.Proofs.Ytglalojbdlepfaa
open Go.RowKit Seine.Trie Seine.Dfa
/-- A set as the program keeps it. -/
def setV (ws : Nat → Nat) : Array Value := #[.int .u64 (ws 0 : Int), .int .u64 (ws 1 : Int), .int .u64 (ws 2 : Int), .int .u64 (ws 3 : Int)]
def Small (ws : Nat → Nat) : Prop := ∀ i, ws i < 18446744073709551616
/-- ws is the set q. -/
def IsSet (ws : Nat → Nat) (q : UInt8 → Bool) : Prop := Small ws ∧ ∀ c, memS ws c = q c
theorem IsSet.none : IsSet (fun _ => 0) (fun _ => false) := ⟨fun _ => Nat.zero_lt_succ _, memS_none⟩
def withF (ws : Nat → Nat) (c : UInt8) : Nat → Nat := fun i => if i = c.toNat / 64 then ws i ||| 1 <<< (c.toNat % 64) else ws i
theorem small_with {ws : Nat → Nat} (h : Small ws) (c : UInt8) : Small (withF ws c) := fun i => by
  unfold withF
  split
  · exact Nat.or_lt_two_pow (n := 64) (h i) (by
      rw [Nat.one_shiftLeft]; exact Nat.pow_lt_pow_right (by omega) (Nat.mod_lt _ (by decide)))
  · exact h i
theorem IsSet.with_ {ws : Nat → Nat} {q : UInt8 → Bool} (h : IsSet ws q) (c : UInt8) : IsSet (withF ws c) (fun d => q d || decide (d = c)) := ⟨small_with h.1 c, fun d => by
  have := memS_with ws c d
  unfold withF
  rw [this, h.2 d]⟩
theorem IsSet.union {ws vs : Nat → Nat} {q r : UInt8 → Bool} (h : IsSet ws q) (k : IsSet vs r) : IsSet (fun i => ws i ||| vs i) (fun d => q d || r d) :=
  ⟨fun i => Nat.or_lt_two_pow (n := 64) (h.1 i) (k.1 i), fun d => by rw [memS_union, h.2 d, k.2 d]⟩
theorem alloc2cell (w : World) (A B : Array Value) (t u j : Nat) : ((w.alloc (.cells A t)).alloc (.cells B u)).cell? ⟨w.heap.size + 1, j, none⟩ = B[j]? := cell_of_blk (blk_new1 w _ _) j
theorem alloc3cell (w : World) (A B C : Array Value) (t u v j : Nat) : (((w.alloc (.cells A t)).alloc (.cells B u)).alloc (.cells C v)).cell? ⟨w.heap.size + 1 + 1, j, none⟩ = C[j]? := by
  have h : ((w.alloc (.cells A t)).alloc (.cells B u)).heap.size = w.heap.size + 1 + 1 := by simp
  rw [← h]
  exact cell_of_blk (heap_alloc_new _ _) j
theorem shl_one (k : Nat) (hk : k < 64) : IntKind.u64.wrap (2 ^ k) = ((1 <<< k : Nat) : Int) := by
  rw [IntKind.wrap_u64, Nat.one_shiftLeft]
  have : (2 : Nat) ^ k < 2 ^ 64 := Nat.pow_lt_pow_right (by omega) hk
  have h2 : ((2 : Int) ^ k) = (((2 : Nat) ^ k : Nat) : Int) := by push_cast; rfl
  rw [h2, Int.emod_eq_of_lt (Int.natCast_nonneg _) (by omega)]
theorem bit_and (x k : Nat) (hx : x < 18446744073709551616) : ((((x : Int).fdiv (2 ^ k)) : Int)) = ((x >>> k : Nat) : Int) := by
  have h2 : ((2 : Int) ^ k) = (((2 : Nat) ^ k : Nat) : Int) := by push_cast; rfl
  rw [h2, Int.fdiv_eq_ediv_of_nonneg _ (Int.natCast_nonneg _), Nat.shiftRight_eq_div_pow]
  rfl
set_option maxRecDepth 100000 in
theorem with_calls (w : World) (ws : Nat → Nat) (hs : Small ws) (c : UInt8) :
    Calls Try.prog 71 #[.agg (setV ws), .int .u8 (c.toNat : Int)] w fun e w' => e = .returned (.agg (setV (withF ws c))) ∧ Below w.heap.size w w' := by
  have hc := c.toNat_lt
  have hset : ∀ (i : Nat), c.toNat / 64 = i → withF ws c = fun j => if j = i then ws i ||| 1 <<< (c.toNat % 64) else ws j := fun i hi => by
    funext j
    unfold withF
    rw [hi]
    split
    · rename_i h; rw [h]
    · rfl
  obtain ⟨k, hk⟩ : ∃ k, c.toNat % 64 = k := ⟨_, rfl⟩
  have hk64 : k < 64 := by omega
  have hsh := shl_one k hk64
  obtain ⟨b, hb⟩ : ∃ b, 1 <<< k = b := ⟨_, rfl⟩
  have hb64 : b < 18446744073709551616 := by rw [← hb, Nat.one_shiftLeft]; exact Nat.pow_lt_pow_right (m := k) (n := 64) (by omega) hk64
  have hor := fun i => bits_or_u64_nat (ws i) b (hs i) hb64
  rw [hk, hb] at hset
  rw [hb] at hsh
  have hsV : setV ws = #[.int .u64 (ws 0 : Int), .int .u64 (ws 1 : Int), .int .u64 (ws 2 : Int), .int .u64 (ws 3 : Int)] := rfl
  rw [hsV]
  clear hsV
  have e2 : (c.toNat : Int) % 64 = (k : Int) := by omega
  rcases (show c.toNat / 64 = 0 ∨ c.toNat / 64 = 1 ∨ c.toNat / 64 = 2 ∨ c.toNat / 64 = 3 by omega) with h | h | h | h
  · --
    have h2 := As.mk (hset _ h)
    have e1 : (c.toNat : Int) / 64 = 0 := by omega
    have hor0 := hor 0
    clear hset hor hb
    have hB : ∀ A B, Below w.heap.size w ((w.alloc (.cells A 84)).alloc (.cells B 84)) := fun A B => ((Below.refl _ _).alloc (Nat.le_refl _) _).alloc (by simp) _
    go_enter Try.func71, Try.ntmps71
    go_wp2
    refine bodyPost_ret (v := .agg (setV (withF ws c))) ?_ rfl ⟨rfl, hB _ _⟩
    rw [h2.out]
    simp [results, Try.results71, go_sem, alloc2cell, setV, hsh, hor0]
  · --
    have h2 := As.mk (hset _ h)
    have e1 : (c.toNat : Int) / 64 = 1 := by omega
    have hor0 := hor 1
    clear hset hor hb
    have hB : ∀ A B, Below w.heap.size w ((w.alloc (.cells A 84)).alloc (.cells B 84)) := fun A B => ((Below.refl _ _).alloc (Nat.le_refl _) _).alloc (by simp) _
    go_enter Try.func71, Try.ntmps71
    go_wp2
    refine bodyPost_ret (v := .agg (setV (withF ws c))) ?_ rfl ⟨rfl, hB _ _⟩
    rw [h2.out]
    simp [results, Try.results71, go_sem, alloc2cell, setV, hsh, hor0]
  · --
    have h2 := As.mk (hset _ h)
    have e1 : (c.toNat : Int) / 64 = 2 := by omega
    have hor0 := hor 2
    clear hset hor hb
    have hB : ∀ A B, Below w.heap.size w ((w.alloc (.cells A 84)).alloc (.cells B 84)) := fun A B => ((Below.refl _ _).alloc (Nat.le_refl _) _).alloc (by simp) _
    go_enter Try.func71, Try.ntmps71
    go_wp2
    refine bodyPost_ret (v := .agg (setV (withF ws c))) ?_ rfl ⟨rfl, hB _ _⟩
    rw [h2.out]
    simp [results, Try.results71, go_sem, alloc2cell, setV, hsh, hor0]
  · --
    have h2 := As.mk (hset _ h)
    have e1 : (c.toNat : Int) / 64 = 3 := by omega
    have hor0 := hor 3
    clear hset hor hb
    have hB : ∀ A B, Below w.heap.size w ((w.alloc (.cells A 84)).alloc (.cells B 84)) := fun A B => ((Below.refl _ _).alloc (Nat.le_refl _) _).alloc (by simp) _
    go_enter Try.func71, Try.ntmps71
    go_wp2
    refine bodyPost_ret (v := .agg (setV (withF ws c))) ?_ rfl ⟨rfl, hB _ _⟩
    rw [h2.out]
    simp [results, Try.results71, go_sem, alloc2cell, setV, hsh, hor0]
theorem has_bit (x k : Nat) (hx : x < 18446744073709551616) : (bits .and .u64 ((x : Int) / 2 ^ k) 1 == 1) = x.testBit k := by
  have h2 : ((2 : Int) ^ k) = (((2 : Nat) ^ k : Nat) : Int) := by push_cast; rfl
  have h3 : ((x : Int) / 2 ^ k) = ((x >>> k : Nat) : Int) := by rw [h2, Nat.shiftRight_eq_div_pow]; rfl
  have h4 : x >>> k < 18446744073709551616 := Nat.lt_of_le_of_lt (by rw [Nat.shiftRight_eq_div_pow]; exact Nat.div_le_self _ _) hx
  have h5 := bits_and_u64_nat (x >>> k) 1 h4 (by decide)
  rw [h3, show (1 : Int) = ((1 : Nat) : Int) from rfl, h5, Nat.testBit_eq_decide_div_mod_eq, Nat.and_one_is_mod, Nat.shiftRight_eq_div_pow]
  rw [Bool.eq_iff_iff, beq_iff_eq, decide_eq_true_eq]
  omega
set_option maxRecDepth 100000 in
theorem has_calls (w : World) (ws : Nat → Nat) (hs : Small ws) (c : UInt8) (x : Int) (hx : x = (c.toNat : Int)) :
    Calls Try.prog 72 #[.agg (setV ws), .int .u8 x] w fun e w' => e = .returned (.bool (memS ws c)) ∧ Below w.heap.size w w' := by
  subst hx
  have hc := c.toNat_lt
  obtain ⟨k, hk⟩ : ∃ k, c.toNat % 64 = k := ⟨_, rfl⟩
  have hk64 : k < 64 := by omega
  have e2 : (c.toNat : Int) % 64 = (k : Int) := by omega
  have hsV : setV ws = #[.int .u64 (ws 0 : Int), .int .u64 (ws 1 : Int), .int .u64 (ws 2 : Int), .int .u64 (ws 3 : Int)] := rfl
  rw [hsV]
  clear hsV
  rcases (show c.toNat / 64 = 0 ∨ c.toNat / 64 = 1 ∨ c.toNat / 64 = 2 ∨ c.toNat / 64 = 3 by omega) with h | h | h | h
  · --
    have e1 : (c.toNat : Int) / 64 = 0 := by omega
    have hr : memS ws c = (ws 0).testBit k := by unfold memS; rw [h, hk]
    have hbt := As.mk (has_bit (ws 0) k (hs 0))
    rw [hr]
    clear hr
    have hB : ∀ A, Below w.heap.size w (w.alloc (.cells A 84)) := fun A => (Below.refl _ _).alloc (Nat.le_refl _) _
    go_enter Try.func72, Try.ntmps72
    go_wp2
    go_ret
    exact ⟨ret_bool hbt.out, hB _⟩
  · --
    have e1 : (c.toNat : Int) / 64 = 1 := by omega
    have hr : memS ws c = (ws 1).testBit k := by unfold memS; rw [h, hk]
    have hbt := As.mk (has_bit (ws 1) k (hs 1))
    rw [hr]
    clear hr
    have hB : ∀ A, Below w.heap.size w (w.alloc (.cells A 84)) := fun A => (Below.refl _ _).alloc (Nat.le_refl _) _
    go_enter Try.func72, Try.ntmps72
    go_wp2
    go_ret
    exact ⟨ret_bool hbt.out, hB _⟩
  · --
    have e1 : (c.toNat : Int) / 64 = 2 := by omega
    have hr : memS ws c = (ws 2).testBit k := by unfold memS; rw [h, hk]
    have hbt := As.mk (has_bit (ws 2) k (hs 2))
    rw [hr]
    clear hr
    have hB : ∀ A, Below w.heap.size w (w.alloc (.cells A 84)) := fun A => (Below.refl _ _).alloc (Nat.le_refl _) _
    go_enter Try.func72, Try.ntmps72
    go_wp2
    go_ret
    exact ⟨ret_bool hbt.out, hB _⟩
  · --
    have e1 : (c.toNat : Int) / 64 = 3 := by omega
    have hr : memS ws c = (ws 3).testBit k := by unfold memS; rw [h, hk]
    have hbt := As.mk (has_bit (ws 3) k (hs 3))
    rw [hr]
    clear hr
    have hB : ∀ A, Below w.heap.size w (w.alloc (.cells A 84)) := fun A => (Below.refl _ _).alloc (Nat.le_refl _) _
    go_enter Try.func72, Try.ntmps72
    go_wp2
    go_ret
    exact ⟨ret_bool hbt.out, hB _⟩
set_option maxRecDepth 100000 in
theorem union_calls (w : World) (ws vs : Nat → Nat) (hs : Small ws) (hv : Small vs) :
    Calls Try.prog 45 #[.agg (setV ws), .agg (setV vs)] w fun e w' => e = .returned (.agg (setV fun i => ws i ||| vs i)) ∧ Below w.heap.size w w' := by
  have hor0 := bits_or_u64_nat (ws 0) (vs 0) (hs 0) (hv 0)
  have hor1 := bits_or_u64_nat (ws 1) (vs 1) (hs 1) (hv 1)
  have hor2 := bits_or_u64_nat (ws 2) (vs 2) (hs 2) (hv 2)
  have hor3 := bits_or_u64_nat (ws 3) (vs 3) (hs 3) (hv 3)
  have i0 : ∀ (a b c d : Int) (w : World), (Instr.index 84 (.agg #[.int .u64 a, .int .u64 b, .int .u64 c, .int .u64 d]) (.int .i64 0)).run Try.prog w = .ok (.int .u64 a) w := fun a b c d w => by kernel_rfl
  have i1 : ∀ (a b c d : Int) (w : World), (Instr.index 84 (.agg #[.int .u64 a, .int .u64 b, .int .u64 c, .int .u64 d]) (.int .i64 1)).run Try.prog w = .ok (.int .u64 b) w := fun a b c d w => by kernel_rfl
  have i2 : ∀ (a b c d : Int) (w : World), (Instr.index 84 (.agg #[.int .u64 a, .int .u64 b, .int .u64 c, .int .u64 d]) (.int .i64 2)).run Try.prog w = .ok (.int .u64 c) w := fun a b c d w => by kernel_rfl
  have i3 : ∀ (a b c d : Int) (w : World), (Instr.index 84 (.agg #[.int .u64 a, .int .u64 b, .int .u64 c, .int .u64 d]) (.int .i64 3)).run Try.prog w = .ok (.int .u64 d) w := fun a b c d w => by kernel_rfl
  have hsV : ∀ ws, setV ws = #[.int .u64 (ws 0 : Int), .int .u64 (ws 1 : Int), .int .u64 (ws 2 : Int), .int .u64 (ws 3 : Int)] := fun _ => rfl
  rw [hsV ws, hsV vs]
  clear hsV
  go_enter Try.func45, Try.ntmps45
  go_wp2
  refine wp_loop_rounds 5 ?_
  rw [rounds_succ]
  go_wp2
  rw [rounds_succ]
  go_wp2
  rw [rounds_succ]
  go_wp2
  rw [rounds_succ]
  go_wp2
  rw [rounds_succ]
  go_wp2
  refine bodyPost_ret (v := .agg (setV fun i => ws i ||| vs i)) ?_ rfl ⟨rfl, (((Below.refl _ _).alloc (Nat.le_refl _) _).alloc (by simp) _).alloc (by simp; omega) _⟩
  simp [results, Try.results45, go_sem, alloc3cell, setV]
theorem blk_sets {b t : Nat} : ∀ (vs : List Value) (o : Nat) (w : World) (c : Array Value), w.heap[b]? = some (.cells c t (0, 0)) → o + vs.length ≤ c.size →
    (w.setCells b o vs).heap[b]? = some (.cells (c.toList.take o ++ vs ++ c.toList.drop (o + vs.length)).toArray t (0, 0))
  | [], o, w, c, h, hl => by
    rw [World.setCells, h]; simp
  | v :: r, o, w, c, h, hl => by
    have hl' : o + 1 + r.length ≤ c.size := by simp at hl; omega
    rw [World.setCells, blk_sets r (o + 1) _ (c.setIfInBounds o v) (blk_set h o v) (by simp; omega)]
    have h1 : (c.setIfInBounds o v).toList.take (o + 1) = c.toList.take o ++ [v] := by
      rw [Array.toList_setIfInBounds, List.take_add_one, List.getElem?_set_self (by simp; omega), List.take_set_of_le (Nat.le_refl _)]; rfl
    have h2 : (c.setIfInBounds o v).toList.drop (o + 1 + r.length) = c.toList.drop (o + (v :: r).length) := by
      rw [Array.toList_setIfInBounds, List.drop_set_of_lt (by omega)]
      congr 1; simp; omega
    rw [h1, h2]; simp
theorem blk_all {b t : Nat} {w : World} {c d : Array Value} (h : w.heap[b]? = some (.cells c t (0, 0))) (hs : d.size = c.size) : (w.setCells b 0 d.toList).heap[b]? = some (.cells d t (0, 0)) := by
  rw [blk_sets d.toList 0 w c h (by simp [hs])]
  rw [List.drop_eq_nil_of_le (by simp [hs])]
  simp
theorem below_sets {base b : Nat} (hb : base ≤ b) : ∀ (vs : List Value) (o : Nat) {w0 w : World}, Below base w0 w → Below base w0 (w.setCells b o vs)
  | [], _, _, _, h => h
  | v :: r, o, _, _, h => below_sets hb r (o + 1) (h.setCell (p := ⟨b, o, none⟩) hb v)
theorem far_sets {b b' : Nat} {x : Obj} (hb : b' ≠ b) : ∀ (vs : List Value) (o : Nat) {w : World}, w.heap[b']? = some x → (w.setCells b o vs).heap[b']? = some x
  | [], _, _, h => h
  | v :: r, o, _, h => far_sets hb r (o + 1) (blk_far (p := ⟨b, o, none⟩) h hb v)
theorem setV_one (ws : Nat → Nat) : (setV ws).all (·.oneCell') = true := by simp [setV, Value.oneCell']
theorem there_blk {w : World} {b t : Nat} {c : Array Value} (h : w.heap[b]? = some (.cells c t (0, 0))) {o n : Nat} (hn : o + n ≤ c.size) : w.there b o n := fun j hj =>
  ⟨by rw [cell_of_blk h]; simp; omega, free_of_blk h _⟩
/-- Bytes of a set. -/
theorem of_set_step {b : Txt} {i : Nat} (hi : i < b.length) {ws : Nat → Nat} (h : IsSet ws fun d => decide (d ∈ b.take i)) : IsSet (withF ws (b.getD i 0)) fun d => decide (d ∈ b.take (i + 1)) := by
  have h1 := h.with_ (b.getD i 0)
  refine ⟨h1.1, fun d => ?_⟩
  rw [h1.2 d, take_snoc_b b i hi, Bool.eq_iff_iff]
  simp
set_option maxRecDepth 100000 in
set_option maxHeartbeats 800000 in
theorem fof_calls (w : World) (A : Option Addr) (c : Nat) (b : Txt) (hb : Byt w A b) (hl : b.length ≤ 1000000) :
    Calls Try.prog 46 #[.slice A b.length c] w fun e w' => ∃ ws, e = .returned (.agg (setV ws)) ∧ IsSet ws (fun d => decide (d ∈ b)) ∧ Below w.heap.size w w' := by
  have HB := As.mk hb
  have hst := As.mk (fun i (hi : i < b.length) ws (h : IsSet ws fun d => decide (d ∈ b.take i)) => of_set_step hi h)
  have hs0 : As (IsSet (fun _ => 0) fun d => decide (d ∈ b.take 0)) := ⟨by simpa using IsSet.none⟩
  have hfin : As (∀ ws, IsSet ws (fun d => decide (d ∈ b.take b.length)) → IsSet ws fun d => decide (d ∈ b)) := ⟨fun ws h => by rw [List.take_length] at h; exact h⟩
  obtain ⟨n, hn⟩ : ∃ n, b.length = n := ⟨_, rfl⟩
  rw [hn] at hl hfin hst ⊢
  replace hn := As.mk hn
  clear hb
  go_enter Try.func46, Try.ntmps46
  go_wp2
  obtain ⟨gb, hgb⟩ : ∃ g, w.heap.size = g := ⟨_, rfl⟩
  have hz0 : As ((((w.alloc (.cells (setV fun _ => 0) 84)).alloc (.cells (setV fun _ => 0) 84)).heap[gb]? = some (.cells (setV fun _ => 0) 84 (0, 0)))) := ⟨by rw [← hgb]; exact blk_old (heap_alloc_new w _)⟩
  have hz1 : As ((((w.alloc (.cells (setV fun _ => 0) 84)).alloc (.cells (setV fun _ => 0) 84)).heap[gb + 1]? = some (.cells (setV fun _ => 0) 84 (0, 0)))) := ⟨by rw [← hgb]; exact blk_new1 w _ _⟩
  have hzB : As (Below gb w ((w.alloc (.cells (setV fun _ => 0) 84)).alloc (.cells (setV fun _ => 0) 84))) := ⟨by rw [← hgb]; exact ((Below.refl _ _).alloc (Nat.le_refl _) _).alloc (by simp) _⟩
  obtain ⟨W0, hW0⟩ : ∃ W, (w.alloc (.cells (setV fun _ => 0) 84)).alloc (.cells (setV fun _ => 0) 84) = W := ⟨_, rfl⟩
  rw [hW0] at hz0 hz1 hzB
  rw [show (w.alloc (.cells #[.int .u64 0, .int .u64 0, .int .u64 0, .int .u64 0] 84)).alloc (.cells #[.int .u64 0, .int .u64 0, .int .u64 0, .int .u64 0] 84) = W0 from hW0]
  rw [hgb]
  replace hgb := As.mk hgb
  clear hW0
  go_loopg [8] (n + 1) (fun gk i wr => ∃ (k : Nat) (ws : Nat → Nat), As (n + 1 ≤ gk + k) ∧ k ≤ n ∧ i = .int .i64 k ∧ As (wr.heap[gb]? = some (.cells (setV fun _ => 0) 84 (0, 0))) ∧ As (wr.heap[gb + 1]? = some (.cells (setV ws) 84 (0, 0))) ∧ As (IsSet ws fun d => decide (d ∈ b.take k)) ∧ As (Below gb w wr))
  case atStart => exact ⟨0, _, ⟨by omega⟩, Nat.zero_le _, rfl, hz0, hz1, hs0, hzB⟩
  case round =>
    obtain ⟨k, ws, hgk, hk, rfl, h0, h1, his, hbel⟩ := hrel
    have c0 : wr.cell? ⟨gb + 1, 0, none⟩ = some (.int .u64 (ws 0 : Int)) := cell_of_blk h1.out 0
    have c1 : wr.cell? ⟨gb + 1, 1, none⟩ = some (.int .u64 (ws 1 : Int)) := cell_of_blk h1.out 1
    have c2 : wr.cell? ⟨gb + 1, 2, none⟩ = some (.int .u64 (ws 2 : Int)) := cell_of_blk h1.out 2
    have c3 : wr.cell? ⟨gb + 1, 3, none⟩ = some (.int .u64 (ws 3 : Int)) := cell_of_blk h1.out 3
    by_cases hlt : k < n
    · obtain ⟨gp, rfl⟩ : ∃ gp, gk = gp + 1 := ⟨gk - 1, by have := hgk.out; omega⟩
      have hHB := Row.below HB.out (show Below w.heap.size w wr by rw [hgb.out]; exact hbel.out)
      obtain ⟨ad, rfl, ca⟩ := Byt.at_ hHB (i := k) (by rw [hn.out]; exact hlt)
      have hnx := As.mk (hst.out k hlt ws his.out)
      obtain ⟨x, hx⟩ : ∃ x, b.getD k 0 = x := ⟨_, rfl⟩
      rw [hx] at ca hnx
      have cw := As.mk (with_calls wr ws his.out.1 x)
      unfold setV at cw
      have hgs : gb ≤ wr.heap.size := by have := hbel.out.size; have := hgb.out; omega
      clear hHB hx
      have inf : (Try.prog.info? 84).map (·.size) = some 4 := by kernel_rfl
      go_wp2_with (first | (go_at_call 71; refine Calls.mono cw.out ?_; rintro e w1 ⟨rfl, hb1⟩; have q1 := As.mk (blkBelow hb1 h1.out); have q0 := As.mk (blkBelow hb1 h0.out); have hb2 := As.mk (hbel.out.trans (hb1.mono hgs)); clear hb1) | (refine wpList_store_mid (w := w1) rfl 84 (.tmp 3) (.tmp 14) rfl (gb + 1) 0 (setV (withF ws x)) rfl rfl (there_blk q1.out (by simp [setV])) inf (setV_one _) ?_))
      go_roundg gp
      case measure => exact Nat.lt_succ_self _
      case rel => exact ⟨k + 1, withF ws x, ⟨by have := hgk.out; omega⟩, hlt, (by first | rfl | go_num | (congr 1; omega)), ⟨far_sets (by omega) _ _ q0.out⟩, ⟨blk_all q1.out (by simp [setV])⟩, hnx, ⟨below_sets (by omega) _ _ hb2.out⟩⟩
    · obtain rfl : k = n := by omega
      have inf : (Try.prog.info? 84).map (·.size) = some 4 := by kernel_rfl
      have hq0 := blk_all (d := setV ws) h0.out (by simp [setV])
      have hl0 := below_sets (base := gb) (Nat.le_refl gb) (setV ws).toList 0 hbel.out
      go_wp2_with (refine wpList_store_mid (w := wr) rfl 84 (.tmp 2) (.tmp 16) rfl gb 0 (setV ws) rfl rfl (there_blk h0.out (by simp [setV])) inf (setV_one _) ?_; generalize wr.setCells gb 0 (setV ws).toList = W9 at hq0 hl0 ⊢; have e0 : W9.cell? ⟨gb, 0, none⟩ = some (.int .u64 (ws 0 : Int)) := cell_of_blk hq0 0; have e1 : W9.cell? ⟨gb, 1, none⟩ = some (.int .u64 (ws 1 : Int)) := cell_of_blk hq0 1; have e2 : W9.cell? ⟨gb, 2, none⟩ = some (.int .u64 (ws 2 : Int)) := cell_of_blk hq0 2; have e3 : W9.cell? ⟨gb, 3, none⟩ = some (.int .u64 (ws 3 : Int)) := cell_of_blk hq0 3; replace hq0 := As.mk hq0; replace hl0 := As.mk hl0)
      refine bodyPost_ret (v := .agg (setV ws)) ?_ rfl ⟨ws, rfl, hfin.out ws his.out, by rw [hgb.out]; exact hl0.out⟩
      simp [results, Try.results46, go_sem, e0, e1, e2, e3, setV]
end Go.Proofs.Ytglalojbdlepfaa
end
section
/- The walk of fold.Set.List. -/
set_option linter.unusedVariables false
set_option linter.unusedSimpArgs false
namespace Go.Proofs.Ytglalojbdlepfaa
open Go.RowKit Seine.Trie Seine.Dfa
theorem info_u64 : (Try.prog.info? 82).map (fun i => (i.zero, i.size, i.bytes)) = some (some (.int .u64 0), 1, 8) := by kernel_rfl
theorem eqSet (d : Nat) (w : World) (x0 x1 x2 x3 y0 y1 y2 y3 : Int) :
    (Op.equalIn (d + 2) 84 (.agg #[.int .u64 x0, .int .u64 x1, .int .u64 x2, .int .u64 x3]) (.agg #[.int .u64 y0, .int .u64 y1, .int .u64 y2, .int .u64 y3])).run Try.prog w = .ok (x0 == y0 && (x1 == y1 && (x2 == y2 && (x3 == y3)))) w := by
  obtain ⟨i0, hi, _⟩ := info_parts info_u64
  have h1 : Try.prog.cellsOf 82 = 1 := by kernel_rfl
  rw [run_equalIn_array (P := Try.prog) w (d + 1) _ _ Try.underlying84 hi, h1]
  have hr : List.range 4 = [0, 1, 2, 3] := rfl
  have p0 : ∀ a b c e : Int, (part 82 #[.int .u64 a, .int .u64 b, .int .u64 c, .int .u64 e] (0 * 1)).run Try.prog w = .ok (.int .u64 a) w := fun a b c e => by go_simp
  have p1 : ∀ a b c e : Int, (part 82 #[.int .u64 a, .int .u64 b, .int .u64 c, .int .u64 e] (1 * 1)).run Try.prog w = .ok (.int .u64 b) w := fun a b c e => by go_simp
  have p2 : ∀ a b c e : Int, (part 82 #[.int .u64 a, .int .u64 b, .int .u64 c, .int .u64 e] (2 * 1)).run Try.prog w = .ok (.int .u64 c) w := fun a b c e => by go_simp
  have p3 : ∀ a b c e : Int, (part 82 #[.int .u64 a, .int .u64 b, .int .u64 c, .int .u64 e] (3 * 1)).run Try.prog w = .ok (.int .u64 e) w := fun a b c e => by go_simp
  have e0 : ∀ a b : Int, (Op.equalIn (d + 1) 82 (.int .u64 a) (.int .u64 b)).run Try.prog w = .ok (a == b) w := fun a b => by go_simp
  rw [hr]
  simp only [Op.eqItems, Sem.run_bind, p0, p1, p2, p3, e0, Result.andThen_ok]
  have q1 : ∀ a b c e : Int, (part 82 #[.int .u64 a, .int .u64 b, .int .u64 c, .int .u64 e] 1).run Try.prog w = .ok (.int .u64 b) w := p1
  have q2 : ∀ a b c e : Int, (part 82 #[.int .u64 a, .int .u64 b, .int .u64 c, .int .u64 e] 2).run Try.prog w = .ok (.int .u64 c) w := p2
  have q3 : ∀ a b c e : Int, (part 82 #[.int .u64 a, .int .u64 b, .int .u64 c, .int .u64 e] 3).run Try.prog w = .ok (.int .u64 e) w := p3
  cases h : (x0 == y0)
  · simp
  · cases h2 : (x1 == y1)
    · simp [q1, e0, h2]
    · cases h3 : (x2 == y2)
      · simp [q1, q2, e0, h2, h3]
      · cases h4 : (x3 == y3) <;> simp [q1, q2, q3, e0, h2, h3, h4]
attribute [local go_sem high] eqSet
theorem listTo_nil {q : UInt8 → Bool} (h : ∀ c, q c = false) (k : Nat) : listTo q k = [] := by
  unfold listTo
  rw [List.filter_eq_nil_iff]
  intro c _; rw [h c]; simp
theorem listTo_congr {q r : UInt8 → Bool} (h : ∀ c, q c = r c) (k : Nat) : listTo q k = listTo r k := by
  rw [show q = r from funext h]
set_option maxRecDepth 100000 in
set_option maxHeartbeats 800000 in
theorem list_calls (w : World) (ws : Nat → Nat) (hs : Small ws) :
    Calls Try.prog 47 #[.agg (setV ws)] w (RetByt w (listTo (memS ws) 256)) := by
  obtain ⟨R, hR⟩ : ∃ R, listTo (memS ws) 256 = R := ⟨_, rfl⟩
  rw [hR]
  have hzero : As ((ws 0 : Int) = 0 → (ws 1 : Int) = 0 → (ws 2 : Int) = 0 → (ws 3 : Int) = 0 → R = []) := ⟨fun a b c d => by
    rw [← hR]
    refine listTo_nil (fun x => ?_) _
    have hx := x.toNat_lt
    unfold memS
    have : ws (x.toNat / 64) = 0 := by
      rcases (show x.toNat / 64 = 0 ∨ x.toNat / 64 = 1 ∨ x.toNat / 64 = 2 ∨ x.toNat / 64 = 3 by omega) with h | h | h | h <;> rw [h] <;> omega
    rw [this]; simp⟩
  replace hR := As.mk hR
  have hs := As.mk hs
  obtain ⟨gb, hgb⟩ : ∃ g, w.heap.size = g := ⟨_, rfl⟩
  have hz0 : As ((w.alloc (.cells (setV ws) 84)).heap[gb]? = some (.cells (setV ws) 84 (0, 0))) := ⟨by rw [← hgb]; exact heap_alloc_new w _⟩
  have hzB : As (Below gb w (w.alloc (.cells (setV ws) 84))) := ⟨by rw [← hgb]; exact (Below.refl _ _).alloc (Nat.le_refl _) _⟩
  have hzs : (w.alloc (.cells (setV ws) 84)).heap.size = gb + 1 := by rw [← hgb]; simp
  obtain ⟨W0, hW0⟩ : ∃ W, w.alloc (.cells (setV ws) 84) = W := ⟨_, rfl⟩
  rw [hW0] at hz0 hzB hzs
  have hW0' := show w.alloc (.cells #[.int .u64 (ws 0 : Int), .int .u64 (ws 1 : Int), .int .u64 (ws 2 : Int), .int .u64 (ws 3 : Int)] 84) = W0 from hW0
  clear hW0
  have c0 : W0.cell? ⟨gb, 0, none⟩ = some (.int .u64 (ws 0 : Int)) := cell_of_blk hz0.out 0
  have c1 : W0.cell? ⟨gb, 1, none⟩ = some (.int .u64 (ws 1 : Int)) := cell_of_blk hz0.out 1
  have c2 : W0.cell? ⟨gb, 2, none⟩ = some (.int .u64 (ws 2 : Int)) := cell_of_blk hz0.out 2
  have c3 : W0.cell? ⟨gb, 3, none⟩ = some (.int .u64 (ws 3 : Int)) := cell_of_blk hz0.out 3
  have hsV : setV ws = #[.int .u64 (ws 0 : Int), .int .u64 (ws 1 : Int), .int .u64 (ws 2 : Int), .int .u64 (ws 3 : Int)] := rfl
  rw [hsV]
  clear hsV
  generalize hx0 : (ws 0 : Int) = x0 at *
  generalize hx1 : (ws 1 : Int) = x1 at *
  generalize hx2 : (ws 2 : Int) = x2 at *
  generalize hx3 : (ws 3 : Int) = x3 at *
  replace hx0 := As.mk hx0
  replace hx1 := As.mk hx1
  replace hx2 := As.mk hx2
  replace hx3 := As.mk hx3
  cases hz : (x0 == 0 && (x1 == 0 && (x2 == 0 && x3 == 0)))
  · go_enter Try.func47, Try.ntmps47
    go_wp2_with (rw [hW0'])
    clear hW0' hz
    go_loopw [3, 8] (fun v i wr => ∃ k : Nat, k ≤ 256 ∧ i = .int .i64 k ∧ As (OwnByt wr (gb + 1) v (listTo (memS ws) k)) ∧ As (Below (gb + 1) W0 wr)) (fun _ i _ => 256 - (intOf i).toNat)
    case atStart => exact ⟨0, by omega, rfl, ⟨World.ownsRow_nil _ _ _ _⟩, ⟨Below.refl _ _⟩⟩
    case round =>
      obtain ⟨k, hk, rfl, hown, hbel⟩ := hrel
      have hsz := hbel.out.size
      rw [hzs] at hsz
      have hbl : As (wr.heap[gb]? = some (.cells (setV ws) 84 (0, 0))) := ⟨by rw [hbel.out.block gb (by omega)]; exact hz0.out⟩
      have d0 : wr.cell? ⟨gb, 0, none⟩ = some (.int .u64 x0) := by rw [← hx0.out]; exact cell_of_blk hbl.out 0
      have d1 : wr.cell? ⟨gb, 1, none⟩ = some (.int .u64 x1) := by rw [← hx1.out]; exact cell_of_blk hbl.out 1
      have d2 : wr.cell? ⟨gb, 2, none⟩ = some (.int .u64 x2) := by rw [← hx2.out]; exact cell_of_blk hbl.out 2
      have d3 : wr.cell? ⟨gb, 3, none⟩ = some (.int .u64 x3) := by rw [← hx3.out]; exact cell_of_blk hbl.out 3
      by_cases hlt : k < 256
      · have hcb : ((UInt8.ofNat k).toNat : Int) = (k : Int) := by simp; omega
        have hc := As.mk (has_calls wr ws hs.out (UInt8.ofNat k) (k : Int) hcb.symm)
        have hsV : setV ws = #[.int .u64 x0, .int .u64 x1, .int .u64 x2, .int .u64 x3] := by rw [← hx0.out, ← hx1.out, ← hx2.out, ← hx3.out]; rfl
        rw [hsV] at hc
        clear hsV
        have hst := As.mk (listTo_succ (memS ws) k)
        have hlen := listTo_len (memS ws) k
        generalize listTo (memS ws) k = acc at *
        cases hm : memS ws (UInt8.ofNat k)
        · rw [hm] at hst hc
          have hst : As (listTo (memS ws) (k + 1) = acc) := ⟨by have := hst.out; simpa using this⟩
          clear hcb hm
          go_wp2_with (go_at_call 72; refine Calls.mono hc.out ?_; rintro e w1 ⟨rfl, hb1⟩; have hb1 := As.mk hb1)
          go_roundw
          case rel => exact ⟨k + 1, by omega, by go_num, ⟨by rw [hst.out]; exact own_below hown.out hb1.out⟩, ⟨below_lift hbel.out hb1.out hsz⟩⟩
          case measure => simp [intOf]; omega
        · rw [hm] at hst hc
          have hst : As (listTo (memS ws) (k + 1) = acc ++ [UInt8.ofNat k]) := ⟨by have := hst.out; simpa using this⟩
          have hcb := As.mk hcb
          clear hm
          go_wp2_with (first
            | (go_at_call 72; refine Calls.mono hc.out ?_; rintro e w1 ⟨rfl, hb1⟩; have hown1 := As.mk (own_below hown.out hb1); have hb1 := As.mk (below_lift hbel.out hb1 hsz))
            | (at_builtin
               refine wpList_app1 _ rfl (.tmp 15) (.tmp 18) 23 rfl (gb + 1) 5 _ 1 1 Try.underlying23 info_u8 rfl (by decide) _ acc.length (byCells acc) rfl hown1.out [.int .u8 (k : Int)] rfl (by simp [Value.oneCell']) _ rfl (by simp) (by omega) (by decide) (by have := hb1.out.size; omega) ?_
               intro v' w2 ho2 hk2 hat2 hb2))
          go_roundw
          case rel => exact ⟨k + 1, by omega, by go_num, ⟨by rw [hst.out]; refine ownByt_snoc ?_; rw [hcb.out]; exact ho2⟩, ⟨hb1.out.trans hb2⟩⟩
          case measure => simp [intOf]; omega
      · have hk2 : k = 256 := by omega
        rw [hk2, hR.out] at hown
        clear hk2
        go_wp2
        go_ret
        exact ⟨_, rfl, by rw [hgb]; exact own_base hown.out (Nat.le_succ _), by rw [hgb]; exact hzB.out.trans (hbel.out.mono (Nat.le_succ _))⟩
  · have hRn : R = [] := by
      simp only [Bool.and_eq_true, beq_iff_eq] at hz
      exact hzero.out hz.1 hz.2.1 hz.2.2.1 hz.2.2.2
    have hRn := As.mk hRn
    go_enter Try.func47, Try.ntmps47
    go_wp2_with (rw [hW0'])
    go_ret
    refine ⟨_, rfl, ?_, by rw [hgb]; exact hzB.out⟩
    rw [hRn.out]
    exact World.ownsRow_nil _ _ _ _
end Go.Proofs.Ytglalojbdlepfaa
end
section
/- The walks of package classes: bytes' classes, 257 numbers by value. -/
set_option linter.unusedVariables false
set_option linter.unusedSimpArgs false
namespace Go.Proofs.Ytglalojbdlepfaa
open Go.RowKit Seine.Trie Seine.Dfa
/-- Classes as the program keeps them: F says each byte's, n how many. -/
def clsCells (F : UInt8 → Nat) (n : Nat) : List Value := (List.range 256).map (fun i => Value.int .i64 (F (UInt8.ofNat i) : Int)) ++ [.int .i64 (n : Int)]
theorem clsCells_length (F : UInt8 → Nat) (n : Nat) : (clsCells F n).length = 257 := by simp [clsCells]
theorem clsCells_at (F : UInt8 → Nat) (n : Nat) (c : UInt8) : (clsCells F n)[c.toNat]? = some (.int .i64 (F c : Int)) := by
  unfold clsCells
  rw [List.getElem?_append_left (by simpa using c.toNat_lt), List.getElem?_map, List.getElem?_range c.toNat_lt]; simp
theorem clsCells_n (F : UInt8 → Nat) (n : Nat) : (clsCells F n)[256]? = some (.int .i64 (n : Int)) := by
  unfold clsCells
  rw [List.getElem?_append_right (by simp)]; simp
def clsV (F : UInt8 → Nat) (n : Nat) : Array Value := (clsCells F n).toArray
set_option maxRecDepth 100000 in
theorem class_calls (w : World) (F : UInt8 → Nat) (n : Nat) (c : UInt8) (x : Int) (hx : x = (c.toNat : Int)) :
    Calls Try.prog 22 #[.agg (clsV F n), .int .u8 x] w fun e w' => e = .returned (.int .i64 (F c : Int)) ∧ Below w.heap.size w w' := by
  subst hx
  have hc := c.toNat_lt
  obtain ⟨C, hC⟩ : ∃ C, clsV F n = C := ⟨_, rfl⟩
  have hs : C.size = 257 := by rw [← hC]; simp [clsV, clsCells_length]
  have hat : C[c.toNat]? = some (.int .i64 (F c : Int)) := by rw [← hC]; simp [clsV, clsCells_at]
  rw [hC]
  obtain ⟨gb, hgb⟩ : ∃ g, w.heap.size = g := ⟨_, rfl⟩
  have hz0 : (w.alloc (.cells C 47)).heap[gb]? = some (.cells C 47 (0, 0)) := by rw [← hgb]; exact heap_alloc_new w _
  have hcell : (w.alloc (.cells C 47)).cell? ⟨gb, c.toNat, none⟩ = some (.int .i64 (F c : Int)) := by rw [cell_of_blk hz0]; exact hat
  have hB : Below w.heap.size w (w.alloc (.cells C 47)) := (Below.refl _ _).alloc (Nat.le_refl _) _
  clear hC hz0
  go_enter Try.func22, Try.ntmps22
  go_wp2
  go_ret
  exact ⟨rfl, hB⟩
set_option maxRecDepth 100000 in
theorem clen_calls (w : World) (F : UInt8 → Nat) (n : Nat) (hn : n ≤ 256) :
    Calls Try.prog 24 #[.agg (clsV F n)] w fun e w' => e = .returned (.int .i64 ((n + 1 : Nat) : Int)) ∧ Below w.heap.size w w' := by
  obtain ⟨C, hC⟩ : ∃ C, clsV F n = C := ⟨_, rfl⟩
  have hs : C.size = 257 := by rw [← hC]; simp [clsV, clsCells_length]
  have hat : C[256]? = some (.int .i64 (n : Int)) := by rw [← hC]; simp [clsV, clsCells_n]
  rw [hC]
  obtain ⟨gb, hgb⟩ : ∃ g, w.heap.size = g := ⟨_, rfl⟩
  have hz0 : (w.alloc (.cells C 47)).heap[gb]? = some (.cells C 47 (0, 0)) := by rw [← hgb]; exact heap_alloc_new w _
  have hcell : (w.alloc (.cells C 47)).cell? ⟨gb, 256, none⟩ = some (.int .i64 (n : Int)) := by rw [cell_of_blk hz0]; exact hat
  have hB : Below w.heap.size w (w.alloc (.cells C 47)) := (Below.refl _ _).alloc (Nat.le_refl _) _
  clear hC hz0
  go_enter Try.func24, Try.ntmps24
  go_wp2
  go_ret
  exact ⟨by push_cast; rfl, hB⟩
theorem zero_cls : (∀ w, (zeroValue 47).run Try.prog w = .ok (.agg (clsV (fun _ => 0) 0)) w) ∧ (Try.prog.info? 47).map (·.size) = some 257 :=
  zero_of_info (by kernel_rfl)
theorem clsV_size (F : UInt8 → Nat) (n : Nat) : (clsV F n).size = 257 := by simp [clsV, clsCells_length]
theorem clsV_one (F : UInt8 → Nat) (n : Nat) : (clsV F n).all (·.oneCell') = true := by
  refine all_oneCell_toArray ?_
  intro v hv
  unfold clsCells at hv
  rcases List.mem_append.1 hv with h | h
  · obtain ⟨i, _, rfl⟩ := List.mem_map.1 h; rfl
  · rw [List.mem_singleton.1 h]; rfl
theorem store_set {w : World} {b t : Nat} {C : Array Value} (h : w.heap[b]? = some (.cells C t (0, 0))) (hs : C.size = 4) (us : Nat → Nat) :
    (storeCells ⟨b, 0, none⟩ (setV us).toList 0).run Try.prog w = .ok () (w.setCells b 0 (setV us).toList) := by
  have ht : w.there b 0 4 := there_blk h (by omega)
  have h4 : (setV us).toList.length = 4 := rfl
  have := run_storeCells_cells (P := Try.prog) b 0 (setV us).toList 0 w (fun j hj => by simpa using (ht j (by omega)).1) (fun j hj => by simpa using (ht j (by omega)).2)
    (fun v hv => (Array.all_eq_true_iff_forall_mem.1 (setV_one us)) v (by simpa using hv))
  simpa using this
theorem clsCells_get (F : UInt8 → Nat) (n : Nat) {i : Nat} (hi : i < 256) : (clsCells F n)[i]? = some (.int .i64 (F (UInt8.ofNat i) : Int)) := by
  unfold clsCells
  rw [List.getElem?_append_left (by simpa using hi), List.getElem?_map, List.getElem?_range hi]; rfl
theorem clsV_setN (F : UInt8 → Nat) (n m : Nat) : (clsV F n).setIfInBounds 256 (.int .i64 (m : Int)) = clsV F m := by
  apply Array.toList_inj.1
  rw [Array.toList_setIfInBounds]
  unfold clsV
  apply List.ext_getElem?
  intro i
  rw [List.getElem?_set]
  by_cases h : 256 = i
  · subst h
    show _ = (clsCells F m)[256]?
    rw [clsCells_n F m]; simp [clsCells_length]
  · rw [if_neg h]
    by_cases hi : i < 256
    · show (clsCells F n)[i]? = (clsCells F m)[i]?
      rw [clsCells_get _ _ hi, clsCells_get _ _ hi]
    · rw [List.getElem?_eq_none (by simp [clsCells_length]; omega), List.getElem?_eq_none (by simp [clsCells_length]; omega)]
theorem clsV_setF (F G : UInt8 → Nat) (n m : Nat) (b : UInt8) (h : ∀ c, G c = if c = b then m else F c) : (clsV F n).setIfInBounds b.toNat (.int .i64 (m : Int)) = clsV G n := by
  have hb := b.toNat_lt
  apply Array.toList_inj.1
  rw [Array.toList_setIfInBounds]
  unfold clsV
  apply List.ext_getElem?
  intro i
  rw [List.getElem?_set]
  by_cases hi : i < 256
  · show _ = (clsCells G n)[i]?
    rw [clsCells_get G n hi, h]
    by_cases hbi : b.toNat = i
    · have : UInt8.ofNat i = b := by rw [← hbi]; simp
      rw [if_pos hbi, if_pos this, if_pos (by simp [clsCells_length]; omega)]
    · rw [if_neg hbi, if_neg (fun e => hbi (by rw [← e]; simp; omega))]
      exact clsCells_get _ _ hi
  · rw [if_neg (by omega)]
    by_cases h2 : i = 256
    · subst h2
      show (clsCells F n)[256]? = (clsCells G n)[256]?
      rw [clsCells_n, clsCells_n]
    · rw [List.getElem?_eq_none (by simp [clsCells_length]; omega), List.getElem?_eq_none (by simp [clsCells_length]; omega)]
theorem stands_take {l : List Txt} {k : Nat} (hk : k < l.length) (d : UInt8) : stands (l.take (k + 1)) d = (stands (l.take k) d || decide (d ∈ l.getD k [])) := by
  rw [List.take_succ_eq_append_getElem hk, stands_snoc]; simp [hk]
set_option maxRecDepth 100000 in
set_option maxHeartbeats 1600000 in
theorem cof_calls (w : World) (A : Option Addr) (c : Nat) (l : List Txt) (htx : Txts w A l) (hl : ∀ t ∈ l, t.length ≤ 1000000) (hll : l.length ≤ 1000000) :
    Calls Try.prog 19 #[.slice A l.length c] w fun e w' => e = .returned (.agg (clsV (clsF l) (listTo (stands l) 256).length)) ∧ Below w.heap.size w w' := by
  have HX := As.mk htx
  have hl := As.mk hl
  have hstep := As.mk (fun k (hk : k < l.length) d => stands_take hk d)
  obtain ⟨n, hn⟩ : ∃ n, l.length = n := ⟨_, rfl⟩
  rw [hn] at hll ⊢
  replace hn := As.mk hn
  have hzv := zero_cls.1
  obtain ⟨Z, hZ⟩ : ∃ Z, clsV (fun _ => 0) 0 = Z := ⟨_, rfl⟩
  rw [hZ] at hzv
  replace hZ := As.mk hZ
  clear htx
  go_enter Try.func19, Try.ntmps19
  go_wp2
  obtain ⟨gb, hgb⟩ : ∃ g, w.heap.size = g := ⟨_, rfl⟩
  have hz0 : As ((((w.alloc (.cells Z 47)).alloc (.cells (setV fun _ => 0) 84)).heap[gb]? = some (.cells Z 47 (0, 0)))) := ⟨by rw [← hgb]; exact blk_old (heap_alloc_new w _)⟩
  have hz1 : As ((((w.alloc (.cells Z 47)).alloc (.cells (setV fun _ => 0) 84)).heap[gb + 1]? = some (.cells (setV fun _ => 0) 84 (0, 0)))) := ⟨by rw [← hgb]; exact blk_new1 w _ _⟩
  have hzB : As (Below gb w ((w.alloc (.cells Z 47)).alloc (.cells (setV fun _ => 0) 84))) := ⟨by rw [← hgb]; exact ((Below.refl _ _).alloc (Nat.le_refl _) _).alloc (by simp) _⟩
  obtain ⟨W0, hW0⟩ : ∃ W, (w.alloc (.cells Z 47)).alloc (.cells (setV fun _ => 0) 84) = W := ⟨_, rfl⟩
  rw [hW0] at hz0 hz1 hzB
  rw [show (w.alloc (.cells Z 47)).alloc (.cells #[.int .u64 0, .int .u64 0, .int .u64 0, .int .u64 0] 84) = W0 from hW0]
  rw [hgb]
  replace hgb := As.mk hgb
  clear hW0
  go_loopg [11] (n + 1) (fun gk i wr => ∃ (k : Nat) (ws : Nat → Nat), As (n + 1 ≤ gk + k) ∧ k ≤ n ∧ i = .int .i64 k ∧ As (wr.heap[gb]? = some (.cells Z 47 (0, 0))) ∧ As (wr.heap[gb + 1]? = some (.cells (setV ws) 84 (0, 0))) ∧ As (IsSet ws fun d => stands (l.take k) d) ∧ As (Below gb w wr))
  case atStart => exact ⟨0, _, ⟨by omega⟩, Nat.zero_le _, rfl, hz0, hz1, ⟨by simpa [stands] using IsSet.none⟩, hzB⟩
  case round =>
    obtain ⟨k, ws, hgk, hk, rfl, h0, h1, his, hbel⟩ := hrel
    by_cases hlt : k < n
    · obtain ⟨gp, rfl⟩ : ∃ gp, gk = gp + 1 := ⟨gk - 1, by have := hgk.out; omega⟩
      have hHB := HX.out.below (show Below w.heap.size w wr by rw [hgb.out]; exact hbel.out)
      have hkl : k < l.length := by rw [hn.out]; exact hlt
      obtain ⟨ad, A', c', rfl, ca, hc', hrw⟩ := hHB.at_ hkl
      have hnx := As.mk (hstep.out k hkl)
      have hlt2 : As ((l.getD k []).length ≤ 1000000) := ⟨hl.out _ (by rw [List.getD_eq_getElem?_getD, List.getElem?_eq_getElem hkl]; exact List.getElem_mem hkl)⟩
      obtain ⟨t, ht⟩ : ∃ t, l.getD k [] = t := ⟨_, rfl⟩
      rw [ht] at ca hc' hrw hnx hlt2
      replace hrw := As.mk hrw
      replace hc' := As.mk hc'
      have hgs : gb ≤ wr.heap.size := by have := hbel.out.size; have := hgb.out; omega
      clear hHB ht hkl
      have cof := As.mk (fun v (hv : Below wr.heap.size wr v) => fof_calls v A' c' t (Row.below hrw.out hv) hlt2.out)
      have cun := As.mk (fun v (vs : Nat → Nat) (hv : Small vs) => union_calls v ws vs his.out.1 hv)
      have hsV : setV ws = #[.int .u64 (ws 0 : Int), .int .u64 (ws 1 : Int), .int .u64 (ws 2 : Int), .int .u64 (ws 3 : Int)] := rfl
      rw [hsV] at cun
      have c0 : wr.cell? ⟨gb + 1, 0, none⟩ = some (.int .u64 (ws 0 : Int)) := cell_of_blk h1.out 0
      have c1 : wr.cell? ⟨gb + 1, 1, none⟩ = some (.int .u64 (ws 1 : Int)) := cell_of_blk h1.out 1
      have c2 : wr.cell? ⟨gb + 1, 2, none⟩ = some (.int .u64 (ws 2 : Int)) := cell_of_blk h1.out 2
      have c3 : wr.cell? ⟨gb + 1, 3, none⟩ = some (.int .u64 (ws 3 : Int)) := cell_of_blk h1.out 3
      have inf : (Try.prog.info? 84).map (·.size) = some 4 := by kernel_rfl
      go_wp2_with fail
      go_region_with (first
        | (go_at_call 46; (with_reducible refine Calls.mono (cof.out _ ?hb) ?_); (case hb => (repeat (first | (with_reducible assumption) | (with_reducible exact Below.refl _ _) | (with_reducible refine Below.drew ?_) | (with_reducible refine below_drewN ?_ _) | (with_reducible refine Below.alloc ?_ (by (first | omega | (simp only [World.size_alloc, World.size_drew]; done) | (simp only [World.size_alloc, World.size_drew]; omega))) _) | (refine Below.trans ?_ (Below.mono (by with_reducible assumption) (by (first | omega | (simp only [World.size_alloc, World.size_drew]; done) | (simp only [World.size_alloc, World.size_drew]; omega)))))))); intro e w1 hh; obtain ⟨vs, he, hvs, hb1⟩ := hh; subst he; have hb1' : Below wr.heap.size wr w1 := (by (repeat (first | (with_reducible assumption) | (with_reducible exact Below.refl _ _) | (with_reducible refine Below.drew ?_) | (with_reducible refine below_drewN ?_ _) | (with_reducible refine Below.alloc ?_ (by (first | omega | (simp only [World.size_alloc, World.size_drew]; done) | (simp only [World.size_alloc, World.size_drew]; omega))) _) | (refine Below.trans ?_ (Below.mono (by with_reducible assumption) (by (first | omega | (simp only [World.size_alloc, World.size_drew]; done) | (simp only [World.size_alloc, World.size_drew]; omega)))))))); clear hb1; have q1 := As.mk (blkBelow hb1' h1.out); have e0 : w1.cell? ⟨gb + 1, 0, none⟩ = some (.int .u64 (ws 0 : Int)) := cell_of_blk q1.out 0; have e1 : w1.cell? ⟨gb + 1, 1, none⟩ = some (.int .u64 (ws 1 : Int)) := cell_of_blk q1.out 1; have e2 : w1.cell? ⟨gb + 1, 2, none⟩ = some (.int .u64 (ws 2 : Int)) := cell_of_blk q1.out 2; have e3 : w1.cell? ⟨gb + 1, 3, none⟩ = some (.int .u64 (ws 3 : Int)) := cell_of_blk q1.out 3; have hvs' := As.mk hvs; clear hvs; have hb1 := As.mk hb1'; clear hb1')
        | (go_at_call 45; refine Calls.mono (cun.out _ vs hvs'.out.1) ?_; rintro e w2 ⟨rfl, hb2⟩; have q2 := blkBelow hb2 q1.out; have hsc := store_set q2 (by rfl) (fun i => ws i ||| vs i); have hb2' : Below wr.heap.size wr w2 := hb1.out.trans (hb2.mono hb1.out.size); replace q2 := As.mk q2; clear hb2; have hb2 := As.mk hb2'; clear hb2'))
      all_goals
        go_wp2_with fail
        go_roundg gp
        case measure => exact Nat.lt_succ_self _
        case rel =>
          have hun := his.out.union hvs'.out
          exact ⟨k + 1, fun i => ws i ||| vs i, ⟨by have := hgk.out; omega⟩, hlt, (by first | rfl | go_num | (congr 1; omega)), ⟨far_sets (by omega) _ _ (blkBelow hb2.out h0.out)⟩, ⟨blk_all q2.out (by simp [setV])⟩, ⟨⟨hun.1, fun d => (hun.2 d).trans (hnx.out d).symm⟩⟩, ⟨below_sets (by omega) _ _ (hbel.out.trans (hb2.out.mono hgs))⟩⟩
    · obtain rfl : k = n := by omega
      clear hlt hk hgk
      have hst : As (IsSet ws (stands l)) := ⟨by have := his.out; rw [← hn.out, List.take_length] at this; exact this⟩
      have hR : As (listTo (memS ws) 256 = listTo (stands l) 256) := ⟨by rw [listTo_congr hst.out.2]⟩
      obtain ⟨R, hRR⟩ : ∃ R, listTo (stands l) 256 = R := ⟨_, rfl⟩
      obtain ⟨g6, hg6⟩ : ∃ g, wr.heap.size = g := ⟨_, rfl⟩
      have hg6b : gb + 1 < g6 := by rw [← hg6]; exact block_lt h1.out
      have v0 : As ((wr.alloc (.cells Z 47)).heap[gb]? = some (.cells Z 47 (0, 0))) := ⟨blk_old h0.out⟩
      have v1 : As ((wr.alloc (.cells Z 47)).heap[gb + 1]? = some (.cells (setV ws) 84 (0, 0))) := ⟨blk_old h1.out⟩
      have v6 : As ((wr.alloc (.cells Z 47)).heap[g6]? = some (.cells Z 47 (0, 0))) := ⟨by rw [← hg6]; exact heap_alloc_new wr _⟩
      have vB : As (Below gb w (wr.alloc (.cells Z 47))) := ⟨hbel.out.alloc (by omega) _⟩
      have vs6 : (wr.alloc (.cells Z 47)).heap.size = g6 + 1 := by simp; exact hg6
      obtain ⟨W1, hW1⟩ : ∃ W, wr.alloc (.cells Z 47) = W := ⟨_, rfl⟩
      rw [hW1] at v0 v1 v6 vB vs6
      have c0 : W1.cell? ⟨gb + 1, 0, none⟩ = some (.int .u64 (ws 0 : Int)) := cell_of_blk v1.out 0
      have c1 : W1.cell? ⟨gb + 1, 1, none⟩ = some (.int .u64 (ws 1 : Int)) := cell_of_blk v1.out 1
      have c2 : W1.cell? ⟨gb + 1, 2, none⟩ = some (.int .u64 (ws 2 : Int)) := cell_of_blk v1.out 2
      have c3 : W1.cell? ⟨gb + 1, 3, none⟩ = some (.int .u64 (ws 3 : Int)) := cell_of_blk v1.out 3
      have cli := list_calls W1 ws hst.out.1
      rw [hR.out, hRR] at cli
      replace cli := As.mk cli
      replace hRR := As.mk hRR
      clear hR
      go_wp2_with (first | (rw [hW1]) | (rw [hg6]) | (go_at_call 47; refine Calls.mono cli.out ?_; rintro e w2 ⟨vl, rfl, hvl, hb2⟩; obtain ⟨A2, c2', rfl, hc2'⟩ := own_slice hvl; have hvl := As.mk hvl; have hb2 := As.mk hb2))
      obtain ⟨m, hm⟩ : ∃ m, R.length = m := ⟨_, rfl⟩
      have hm256 : m ≤ 256 := by rw [← hm, ← hRR.out]; exact listTo_len _ _
      rw [hm]
      replace hm := As.mk hm
      have u6 : As (w2.heap[g6]? = some (.cells (clsV (clsTo l 0) 0) 47 (0, 0))) := ⟨by
        rw [show clsTo l 0 = fun _ => 0 from funext fun c => clsTo_zero l c, hZ.out]
        exact blkBelow hb2.out v6.out⟩
      go_loopw [23] (fun i wr => ∃ j : Nat, j ≤ m ∧ i = .int .i64 j ∧ As (wr.heap[g6]? = some (.cells (clsV (clsTo l j) j) 47 (0, 0))) ∧ As (Keeps (fun k => k = g6) w2 wr)) (fun i _ => m - (intOf i).toNat)
      case atStart => exact ⟨0, by omega, rfl, u6, ⟨Keeps.refl _ _⟩⟩
      case round =>
        obtain ⟨j, hj, rfl, h6, hkp⟩ := hrel
        have hvq : As (OwnByt wr (g6 + 1) (.slice A2 R.length c2') R) := ⟨own_keep (vs6 ▸ hvl.out) hkp.out (fun b _ hb _ _ e => by omega)⟩
        by_cases hlt : j < m
        · obtain ⟨ad, rfl, cx⟩ := Byt.at_ (Row.of_own hvq.out) (i := j) (by rw [hm.out]; exact hlt)
          have hst := As.mk (fun b (h : R[j]? = some b) => clsTo_step l j b (by rw [hRR.out]; exact h))
          have hRj : As (R[j]? = some (R.getD j 0)) := ⟨by rw [List.getD_eq_getElem?_getD, List.getElem?_eq_getElem (by rw [hm.out]; exact hlt)]; rfl⟩
          obtain ⟨x, hx⟩ : ∃ x, R.getD j 0 = x := ⟨_, rfl⟩
          rw [hx] at cx hRj
          have hx256 := x.toNat_lt
          clear hx
          have d256 : wr.cell? ⟨g6, 256, none⟩ = some (.int .i64 (j : Int)) := by rw [cell_of_blk h6.out]; show (clsCells _ _).toArray[256]? = _; simp [clsCells_n]
          have f256 : wr.frozen? ⟨g6, 256, none⟩ = false := free_of_blk h6.out _
          have h6' : (wr.setCell ⟨g6, 256, none⟩ (.int .i64 ((j : Int) + 1))).heap[g6]? = some (.cells (clsV (clsTo l j) (j + 1)) 47 (0, 0)) := by
            have := blk_set h6.out 256 (.int .i64 ((j + 1 : Nat) : Int))
            rw [clsV_setN] at this
            exact this
          have dn : (wr.setCell ⟨g6, 256, none⟩ (.int .i64 ((j : Int) + 1))).cell? ⟨g6, 256, none⟩ = some (.int .i64 ((j : Int) + 1)) := by
            rw [cell_of_blk h6']; show (clsCells _ _).toArray[256]? = _; simp [clsCells_n]
          have dx : (wr.setCell ⟨g6, 256, none⟩ (.int .i64 ((j : Int) + 1))).cell? ⟨g6, x.toNat, none⟩ = some (.int .i64 (clsTo l j x : Int)) := by
            rw [cell_of_blk h6']; show (clsCells _ _).toArray[x.toNat]? = _; simp [clsCells_at]
          have fx : (wr.setCell ⟨g6, 256, none⟩ (.int .i64 ((j : Int) + 1))).frozen? ⟨g6, x.toNat, none⟩ = false := free_of_blk h6' _
          have h7 : As (((wr.setCell ⟨g6, 256, none⟩ (.int .i64 ((j : Int) + 1))).setCell ⟨g6, x.toNat, none⟩ (.int .i64 ((j : Int) + 1))).heap[g6]? = some (.cells (clsV (clsTo l (j + 1)) (j + 1)) 47 (0, 0))) := ⟨by
            have := blk_set h6' x.toNat (.int .i64 ((j + 1 : Nat) : Int))
            rw [clsV_setF (clsTo l j) (clsTo l (j + 1)) (j + 1) (j + 1) x (fun c => hst.out x hRj.out c)] at this
            exact this⟩
          have hk7 : As (Keeps (fun k => k = g6) w2 ((wr.setCell ⟨g6, 256, none⟩ (.int .i64 ((j : Int) + 1))).setCell ⟨g6, x.toNat, none⟩ (.int .i64 ((j : Int) + 1)))) := ⟨(hkp.out.trans ((keepsSt _ ⟨g6, 256, none⟩ _).mono fun _ _ h => h)).trans ((keepsSt _ ⟨g6, x.toNat, none⟩ _).mono fun _ _ h => h)⟩
          replace h6' := As.mk h6'
          go_wp2_with fail
          go_roundw
          case rel => exact ⟨j + 1, by omega, by go_num, h7, hk7⟩
          case measure => simp [intOf]; omega
        · obtain rfl : j = m := by omega
          have hall : clsTo l j = clsF l := by
            funext c
            have := clsTo_all l c
            rw [hRR.out, hm.out] at this
            exact this
          rw [hall] at h6
          have q0 : As (wr.heap[gb]? = some (.cells Z 47 (0, 0))) := ⟨(hkp.out.block gb (block_lt (blkBelow hb2.out v0.out)) (by omega)).trans (blkBelow hb2.out v0.out)⟩
          have hZs : Z.size = 257 := by rw [← hZ.out]; exact clsV_size _ _
          have hsz := zero_cls.2
          have hF : As (Below gb w wr) := ⟨(vB.out.trans (hb2.out.mono (by omega))).trans (hkp.out.below (fun k _ hS => by omega) (Nat.le_trans (by omega) hb2.out.size))⟩
          obtain ⟨C, hC⟩ : ∃ C, clsV (clsF l) j = C := ⟨_, rfl⟩
          have hCs : C.size = 257 := by rw [← hC]; exact clsV_size _ _
          have hC1 : C.all (·.oneCell') = true := by rw [← hC]; exact clsV_one _ _
          rw [hC] at h6
          have hq0 := blk_all (d := C) q0.out (by rw [hCs, hZs])
          have hl0 := below_sets (base := gb) (Nat.le_refl gb) C.toList 0 hF.out
          go_wp2_with (first
            | (refine wpList_load_row (w := wr) rfl 47 (.tmp 6) rfl g6 rfl _ _ _ _ h6.out Try.underlying47 rfl (by rw [hCs]; exact hsz) ?_)
            | (refine wpList_store_mid (w := wr) rfl 47 (.tmp 2) (.tmp 37) rfl gb 0 C rfl rfl (there_blk q0.out (by omega)) (by rw [hCs]; exact hsz) hC1 ?_; generalize wr.setCells gb 0 C.toList = W9 at hq0 hl0 ⊢; replace hq0 := As.mk hq0; replace hl0 := As.mk hl0))
          refine bodyPost_ret (v := .agg C) (results_cell_row (p := 2) (ty := 47) rfl _ _ gb _ C _ _ rfl hq0.out Try.underlying47 rfl (by rw [hCs]; exact hsz)) rfl ⟨?_, by rw [hgb.out]; exact hl0.out⟩
          rw [hRR.out, hm.out, hC]
end Go.Proofs.Ytglalojbdlepfaa
end
section
/- The walks of package dfa: a row. -/
set_option linter.unusedVariables false
set_option linter.unusedSimpArgs false
namespace Go.Proofs.Ytglalojbdlepfaa
open Go.RowKit Seine.Trie Seine.Dfa
set_option maxRecDepth 100000 in
set_option maxHeartbeats 1600000 in
theorem row_calls (w : World) (g nb cp N m W a b : Nat) (F : UInt8 → Nat) (n : Int) (hm : m ≤ 256) (hW : m + 1 = W) (hC : w.rangeAt g 2 (clsCells F m)) (hg : g < w.heap.size)
    (h259 : w.cell? ⟨g, 259, none⟩ = some (.slice (some ⟨nb, 0, none⟩) N cp)) (hn : n = (a : Int)) (ha : a ≤ 1000000) (hb : a * W = b) (hbN : b + W ≤ N) (hNc : N ≤ cp) (hcp : cp ≤ 1000000000000) :
    Calls Try.prog 48 #[.pointer (some ⟨g, 0, none⟩), .int .i64 n] w fun e w' => e = .returned (.slice (some ⟨nb, b, none⟩) W (cp - b)) ∧ Below w.heap.size w w' := by
  subst hn
  have hlen := As.mk (clen_calls w F m hm)
  rw [hW] at hlen
  have hsz := zero_cls.2
  have hmul : (a : Int) * (W : Int) = (b : Int) := by rw [← hb]; push_cast; rfl
  have hW1 : 1 ≤ W := by omega
  have hW2 : W ≤ 257 := by omega
  obtain ⟨C, hCC⟩ : ∃ C, clsCells F m = C := ⟨_, rfl⟩
  have hCs : C.length = 257 := by rw [← hCC]; exact clsCells_length _ _
  have hV : clsV F m = C.toArray := by rw [← hCC]; rfl
  rw [hCC] at hC
  rw [hV] at hlen
  replace hC := As.mk hC
  replace hb := As.mk hb
  replace hW := As.mk hW
  clear hV hCC
  go_enter Try.func48, Try.ntmps48
  go_wp2_with (first
    | (refine wpList_load_mid (w := w) rfl 47 (.tmp 8) rfl g 2 rfl C _ hC.out Try.underlying47 rfl (by rw [hCs]; exact hsz) ?_)
    | (go_at_call 24; refine Calls.mono hlen.out ?_; rintro e w1 ⟨rfl, hb1⟩; have q259 := (hb1.cell (p := ⟨g, 259, none⟩) hg).trans h259; replace hb1 := As.mk hb1))
  rw [show b + W - b = W by omega]
  go_ret
  exact ⟨rfl, hb1.out⟩
set_option maxRecDepth 100000 in
set_option maxHeartbeats 1600000 in
theorem width_calls (w : World) (g m W : Nat) (F : UInt8 → Nat) (hm : m ≤ 256) (hW : m + 1 = W) (hC : w.rangeAt g 2 (clsCells F m)) :
    Calls Try.prog 23 #[.pointer (some ⟨g, 0, none⟩)] w fun e w' => e = .returned (.int .i64 (W : Int)) ∧ Below w.heap.size w w' := by
  have hlen := As.mk (clen_calls w F m hm)
  rw [hW] at hlen
  have hsz := zero_cls.2
  obtain ⟨C, hCC⟩ : ∃ C, clsCells F m = C := ⟨_, rfl⟩
  have hCs : C.length = 257 := by rw [← hCC]; exact clsCells_length _ _
  have hV : clsV F m = C.toArray := by rw [← hCC]; rfl
  have h2 : w.cell? ⟨g, 2, none⟩ = some (C[0]'(by omega)) := hC 0 _ (by rw [hCC]; exact List.getElem?_eq_getElem (by omega))
  rw [hCC] at hC
  rw [hV] at hlen
  replace hC := As.mk hC
  clear hV hCC h2
  go_enter Try.func23, Try.ntmps23
  go_wp2_with (first
    | (refine wpList_load_mid (w := w) rfl 47 (.tmp 7) rfl g 2 rfl C _ hC.out Try.underlying47 rfl (by rw [hCs]; exact hsz) ?_)
    | (go_at_call 24; refine Calls.mono hlen.out ?_; rintro e w1 ⟨rfl, hb1⟩; replace hb1 := As.mk hb1))
  go_ret
  exact ⟨rfl, hb1.out⟩
set_option maxRecDepth 100000 in
theorem dstates_calls (w : World) (base g tg : Nat) (P : List Txt) (F : Txt → Int) (ht : TrieAt w base tg P F) (h0 : w.cell? ⟨g, 0, none⟩ = some (.pointer (some ⟨tg, 0, none⟩))) :
    Calls Try.prog 21 #[.pointer (some ⟨g, 0, none⟩)] w fun e w' => e = .returned (.int .i64 (P.length : Int)) ∧ w' = w := by
  have hn := As.mk (nodes_calls w base tg P F ht)
  clear ht
  go_enter Try.func21, Try.ntmps21
  go_wp2_with (go_at_call 29; refine Calls.mono hn.out ?_; rintro e w1 ⟨rfl, rfl⟩)
  go_ret
  exact ⟨rfl, rfl⟩
set_option maxRecDepth 100000 in
theorem dpath_calls (w : World) (base g tg : Nat) (P : List Txt) (F : Txt → Int) (ht : TrieAt w base tg P F) (n : Int) (hd : ∀ p ∈ P, p.length ≤ 100000) (h0 : w.cell? ⟨g, 0, none⟩ = some (.pointer (some ⟨tg, 0, none⟩))) :
    Calls Try.prog 27 #[.pointer (some ⟨g, 0, none⟩), .int .i64 n] w (RetByt w (pathF P n)) := by
  have hn := As.mk (path_calls w base tg P F ht n hd)
  clear ht
  go_enter Try.func27, Try.ntmps27
  go_wp2_with (go_at_call 52; refine Calls.mono hn.out ?_; rintro e w1 ⟨v, rfl, ho, hb⟩)
  go_ret
  exact ⟨v, rfl, ho, hb⟩
end Go.Proofs.Ytglalojbdlepfaa
end
section
/- The plain law of package links: the nodes by their depth. -/
set_option linter.unusedVariables false
set_option linter.unusedSimpArgs false
namespace Seine.Links
open Seine.Trie

theorem nodup_len {α : Type} [DecidableEq α] : ∀ {a b : List α}, a.Nodup → (∀ x, x ∈ a → x ∈ b) → a.length ≤ b.length
  | [], b, _, _ => Nat.zero_le _
  | x :: a, b, hn, hs => by
    have hx := hs x (by simp)
    have h1 := nodup_len (a := a) (b := b.erase x) (List.nodup_cons.1 hn).2 fun y hy => by
      have hne : y ≠ x := fun e => (List.nodup_cons.1 hn).1 (e ▸ hy)
      exact (List.mem_erase_of_ne hne).2 (hs y (by simp [hy]))
    rw [List.length_erase_of_mem hx] at h1
    have := List.length_pos_of_mem hx
    simp only [List.length_cons]
    omega

def kidsT (P : List Txt) (s : Txt) : List Txt := (kids P s).map fun c => s ++ [c]
def op (P : List Txt) : Nat → List Txt
  | 0 => [[]]
  | i + 1 => op P i ++ (match (op P i)[i]? with | some s => kidsT P s | none => [])
theorem mem_kids {P : List Txt} {s : Txt} {c : UInt8} : c ∈ kids P s ↔ s ++ [c] ∈ P := by
  unfold kids
  rw [List.mem_filter, decide_eq_true_iff]
  refine ⟨fun h => h.2, fun h => ⟨?_, h⟩⟩
  rw [List.mem_map]
  exact ⟨c.toNat, List.mem_range.2 c.toNat_lt, by simp⟩
theorem mem_kidsT {P : List Txt} {s x : Txt} : x ∈ kidsT P s ↔ ∃ c, x = s ++ [c] ∧ s ++ [c] ∈ P := by
  unfold kidsT
  rw [List.mem_map]
  exact ⟨fun ⟨c, h, e⟩ => ⟨c, e.symm, mem_kids.1 h⟩, fun ⟨c, e, h⟩ => ⟨c, mem_kids.2 h, e.symm⟩⟩
theorem nodup_map' {α β : Type} {f : α → β} : ∀ {l : List α}, l.Nodup → (∀ x y, x ∈ l → y ∈ l → f x = f y → x = y) → (l.map f).Nodup
  | [], _, _ => by simp
  | a :: l, h, hf => by
    rw [List.map_cons, List.nodup_cons]
    refine ⟨fun hm => ?_, nodup_map' (List.nodup_cons.1 h).2 fun x y hx hy => hf x y (by simp [hx]) (by simp [hy])⟩
    obtain ⟨y, hy, e⟩ := List.mem_map.1 hm
    exact (List.nodup_cons.1 h).1 (hf y a (by simp [hy]) (by simp) e ▸ hy)
theorem kids_nodup (P : List Txt) (s : Txt) : (kids P s).Nodup := by
  unfold kids
  refine List.Pairwise.filter _ (nodup_map' List.nodup_range fun x y hx hy h => ?_)
  have hx := List.mem_range.1 hx
  have hy := List.mem_range.1 hy
  have := congrArg UInt8.toNat h
  simp at this
  omega
theorem kidsT_nodup (P : List Txt) (s : Txt) : (kidsT P s).Nodup := nodup_map' (kids_nodup P s) fun x y _ _ h => by simpa using h

theorem op_next {P : List Txt} {i : Nat} {s : Txt} (h : (op P i)[i]? = some s) : op P (i + 1) = op P i ++ kidsT P s := by
  show op P i ++ _ = _
  rw [h]
theorem op_same {P : List Txt} {i : Nat} (h : (op P i).length ≤ i) : op P (i + 1) = op P i := by
  show op P i ++ _ = _
  rw [List.getElem?_eq_none h, List.append_nil]
theorem op_stop {P : List Txt} {i : Nat} (h : (op P i).length ≤ i) : ∀ k, op P (i + k) = op P i
  | 0 => rfl
  | k + 1 => by
    have := op_stop h k
    rw [← Nat.add_assoc, op_same (by rw [this]; omega), this]
theorem op_mono (P : List Txt) (i : Nat) : ∀ k, ∃ m, op P (i + k) = op P i ++ m
  | 0 => ⟨[], by simp⟩
  | k + 1 => by
    obtain ⟨m, hm⟩ := op_mono P i k
    refine ⟨m ++ (match (op P (i + k))[i + k]? with | some s => kidsT P s | none => []), ?_⟩
    rw [← List.append_assoc, ← hm]
    rfl
theorem op_get {P : List Txt} {i j k : Nat} {s : Txt} (hij : i ≤ j) (h : (op P i)[k]? = some s) : (op P j)[k]? = some s := by
  obtain ⟨m, hm⟩ := op_mono P i (j - i)
  rw [show i + (j - i) = j by omega] at hm
  rw [hm, List.getElem?_append_left (List.getElem?_eq_some_iff.1 h).1, h]
theorem op_back {P : List Txt} {i j k : Nat} {s : Txt} (hij : i ≤ j) (h : (op P j)[k]? = some s) (hk : k < (op P i).length) : (op P i)[k]? = some s := by
  obtain ⟨m, hm⟩ := op_mono P i (j - i)
  rw [show i + (j - i) = j by omega] at hm
  rw [hm, List.getElem?_append_left hk] at h
  exact h
theorem op_long {P : List Txt} {i j : Nat} (hij : j ≤ i) (h : j < (op P i).length) : j < (op P j).length := by
  by_cases hc : j < (op P j).length
  · exact hc
  · have := op_stop (P := P) (i := j) (by omega) (i - j)
    rw [show j + (i - j) = i by omega] at this
    rw [this] at h
    exact h
theorem op_mem {P : List Txt} {x : Txt} : ∀ {i : Nat}, x ∈ op P i → x = [] ∨ ∃ j s c, j < i ∧ (op P j)[j]? = some s ∧ x = s ++ [c] ∧ x ∈ P
  | 0, h => .inl (by simpa [op] using h)
  | i + 1, h => by
    rcases hg : (op P i)[i]? with _ | s
    · rw [op_same (List.getElem?_eq_none_iff.1 hg)] at h
      rcases op_mem h with e | ⟨j, s, c, a, b⟩
      · exact .inl e
      · exact .inr ⟨j, s, c, by omega, b⟩
    · rw [op_next hg, List.mem_append] at h
      rcases h with h | h
      · rcases op_mem h with e | ⟨j, s, c, a, b⟩
        · exact .inl e
        · exact .inr ⟨j, s, c, by omega, b⟩
      · obtain ⟨c, e, hm⟩ := mem_kidsT.1 h
        exact .inr ⟨i, s, c, by omega, hg, e, e ▸ hm⟩
theorem nodup_get {α : Type} {l : List α} (h : l.Nodup) {i j : Nat} {x : α} (hi : l[i]? = some x) (hj : l[j]? = some x) : i = j := by
  exact (List.getElem?_inj (List.getElem?_eq_some_iff.1 hi).1 h).1 (hi.trans hj.symm)
theorem op_nodup (P : List Txt) : ∀ i, (op P i).Nodup
  | 0 => by simp [op]
  | i + 1 => by
    have ih := op_nodup P i
    rcases hg : (op P i)[i]? with _ | s
    · rw [op_same (List.getElem?_eq_none_iff.1 hg)]; exact ih
    · rw [op_next hg]
      refine List.nodup_append.2 ⟨ih, kidsT_nodup P s, fun x hx y hy e => ?_⟩
      subst e
      obtain ⟨c, e, hm⟩ := mem_kidsT.1 hy
      rcases op_mem hx with e' | ⟨j, s', c', hj, hg', e', _⟩
      · rw [e'] at e; simp at e
      · rw [e'] at e
        have hs : s' = s := (List.append_inj' e rfl).1
        subst hs
        have := nodup_get ih (op_get (Nat.le_of_lt hj) hg') hg
        omega
theorem op_sub {P : List Txt} (hT : Tree P) {i : Nat} {x : Txt} (h : x ∈ op P i) : x ∈ P := by
  rcases op_mem h with e | ⟨_, _, _, _, _, _, hm⟩
  · rw [e]; exact hT.nil_mem
  · exact hm
theorem op_len {P : List Txt} (hT : Tree P) (i : Nat) : (op P i).length ≤ P.length := nodup_len (op_nodup P i) fun _ h => op_sub hT h
theorem op_root (P : List Txt) : ∀ i, (op P i)[0]? = some []
  | i => op_get (Nat.zero_le i) (by simp [op])
/-- All that is shorter stands ahead of one that is at its turn. -/
theorem op_before {P : List Txt} (hT : Tree P) : ∀ (i : Nat) {p : Txt}, (op P i)[i]? = some p → ∀ x, x ∈ P → x.length < p.length → ∃ j, j < i ∧ (op P i)[j]? = some x := by
  intro i
  induction i using Nat.strongRecOn with
  | _ i ih =>
    intro p hp x hx hlt
    have hi : i ≠ 0 := fun e => by
      subst e
      rw [op_root] at hp
      injection hp with hp
      subst hp
      simp at hlt
    by_cases hx0 : x = []
    · subst hx0
      exact ⟨0, by omega, op_root P i⟩
    · rcases op_mem (List.mem_of_getElem? hp) with e | ⟨j, s, c, hj, hg, e, hm⟩
      · rw [e] at hlt; simp at hlt
      · have hxl : 0 < x.length := List.length_pos_iff.2 hx0
        have hup := hT.up x hx hx0
        obtain ⟨j', hj', hg'⟩ := ih j hj hg x.dropLast hup (by rw [e] at hlt; simp at hlt ⊢; omega)
        have hg'' : (op P j')[j']? = some x.dropLast := op_back (Nat.le_of_lt hj') hg' (op_long (Nat.le_of_lt hj') (List.getElem?_eq_some_iff.1 hg').1)
        have hxk : x ∈ op P (j' + 1) := by
          rw [op_next hg'']
          refine List.mem_append_right _ (mem_kidsT.2 ?_)
          have hs := List.dropLast_concat_getLast hx0
          exact ⟨x.getLast hx0, hs.symm, by rw [hs]; exact hx⟩
        have hxj : x ∈ op P j := by
          obtain ⟨m, hm⟩ := op_mono P (j' + 1) (j - (j' + 1))
          rw [show j' + 1 + (j - (j' + 1)) = j by omega] at hm
          rw [hm]
          exact List.mem_append_left _ hxk
        obtain ⟨k, hk⟩ := List.mem_iff_getElem?.1 hxj
        have hkl := (List.getElem?_eq_some_iff.1 hk).1
        refine ⟨k, ?_, op_get (Nat.le_of_lt hj) hk⟩
        have hge : ¬ i < (op P j).length := fun hlt2 => by
          have hpj := op_back (Nat.le_of_lt hj) hp hlt2
          rcases op_mem (List.mem_of_getElem? hpj) with e2 | ⟨j2, s2, c2, hj2, hg2, e2, _⟩
          · rw [e2] at e; simp at e
          · rw [e2] at e
            have hs : s2 = s := (List.append_inj' e rfl).1
            subst hs
            have := nodup_get (op_nodup P j) (op_get (Nat.le_of_lt hj2) hg2) hg
            omega
        omega
theorem op_all {P : List Txt} (hT : Tree P) : ∀ (n : Nat) (x : Txt), x.length = n → x ∈ P → x ∈ op P P.length := by
  intro n
  induction n with
  | zero => intro x hx _; rw [List.eq_nil_of_length_eq_zero hx]; exact List.mem_of_getElem? (op_root P _)
  | succ n ih =>
    intro x hx hm
    have hx0 : x ≠ [] := fun e => by rw [e] at hx; simp at hx
    have hup := ih x.dropLast (by simp; omega) (hT.up x hm hx0)
    obtain ⟨j, hj⟩ := List.mem_iff_getElem?.1 hup
    have hjl := (List.getElem?_eq_some_iff.1 hj).1
    have hle := op_len hT P.length
    have hjj : (op P j)[j]? = some x.dropLast := op_back (i := j) (j := P.length) (by omega) hj (op_long (i := P.length) (by omega) hjl)
    obtain ⟨m, hm2⟩ := op_mono P (j + 1) (P.length - (j + 1))
    rw [show j + 1 + (P.length - (j + 1)) = P.length by omega] at hm2
    rw [hm2]
    refine List.mem_append_left _ ?_
    rw [op_next hjj]
    refine List.mem_append_right _ (mem_kidsT.2 ?_)
    have hs := List.dropLast_concat_getLast hx0
    exact ⟨x.getLast hx0, hs.symm, by rw [hs]; exact hm⟩
theorem op_full {P : List Txt} (hT : Tree P) {i : Nat} (h : (op P i).length ≤ i) : op P i = op P P.length := by
  by_cases hi : i ≤ P.length
  · have := op_stop h (P.length - i)
    rw [show i + (P.length - i) = P.length by omega] at this
    exact this.symm
  · have := op_stop (P := P) (i := P.length) (op_len hT _) (i - P.length)
    rw [show P.length + (i - P.length) = i by omega] at this
    exact this
end Seine.Links
end
section
/- The walks of package links: the words, the search for a fall. -/
set_option linter.unusedVariables false
set_option linter.unusedSimpArgs false
namespace Go.Proofs.Ytglalojbdlepfaa
open Go.RowKit Go.Maps Seine.Trie Seine.Links

def intCells (P : List Txt) (F : Txt → Int) : List Value := P.map fun p => .int .i64 (F p)
theorem intCells_length (P : List Txt) (F : Txt → Int) : (intCells P F).length = P.length := by simp [intCells]
theorem intCells_at {P : List Txt} {F : Txt → Int} {i : Nat} {p : Txt} (h : P[i]? = some p) : (intCells P F)[i]? = some (.int .i64 (F p)) := by simp [intCells, h]
theorem intCells_set : ∀ {P : List Txt} {F F' : Txt → Int} {i : Nat} {p : Txt}, P.Nodup → P[i]? = some p → (∀ x, x ≠ p → F' x = F x) → intCells P F' = (intCells P F).set i (.int .i64 (F' p))
  | [], F, F', i, p, _, h, _ => by simp at h
  | y :: P, F, F', 0, p, hn, h, ho => by
    simp at h; subst h
    unfold intCells
    rw [List.map_cons, List.map_cons, List.set_cons_zero]
    congr 1
    exact List.map_congr_left fun x hx => by rw [ho x (fun e => (List.nodup_cons.1 hn).1 (e ▸ hx))]
  | y :: P, F, F', i + 1, p, hn, h, ho => by
    have hm : p ∈ P := List.mem_of_getElem? (by simpa using h)
    have ih := intCells_set (List.nodup_cons.1 hn).2 (by simpa using h : P[i]? = some p) ho
    unfold intCells at ih ⊢
    rw [List.map_cons, List.map_cons, List.set_cons_succ, ← ih, ho y (fun e => (List.nodup_cons.1 hn).1 (e ▸ hm))]
theorem intCells_congr {P : List Txt} {F F' : Txt → Int} (h : ∀ x, x ∈ P → F x = F' x) : intCells P F = intCells P F' := List.map_congr_left fun x hx => by rw [h x hx]

/-- A row of as many numbers as there are nodes, at block b, in memory from base on. -/
def IntRow (w : World) (base b c : Nat) (P : List Txt) (F : Txt → Int) : Prop := w.ownsRow base 3 1 (.slice (some ⟨b, 0, none⟩) P.length c) P.length (intCells P F)
/-- Where the falls' rows lie. -/
structure LB where
  bf : Nat
  cf : Nat
  bo : Nat
  co : Nat
  bu : Nat
  cu : Nat
  vr : Value
/-- The falls F, outs O, own lengths U, of a tree's nodes, and the order o (of paths), at block g. -/
def LinksIn (w : World) (base g : Nat) (P : List Txt) (F O U : Txt → Int) (o : List Txt) (B : LB) : Prop :=
  w.heap[g]? = some (.cells #[.slice (some ⟨B.bf, 0, none⟩) P.length B.cf, .slice (some ⟨B.bo, 0, none⟩) P.length B.co, .slice (some ⟨B.bu, 0, none⟩) P.length B.cu, B.vr] 106 (0, 0)) ∧ base ≤ g ∧
    IntRow w base B.bf B.cf P F ∧ IntRow w base B.bo B.co P O ∧ IntRow w base B.bu B.cu P U ∧ B.bf ≠ B.bo ∧ B.bf ≠ B.bu ∧ B.bo ≠ B.bu ∧ w.ownsRow base 3 1 B.vr o.length (intCells o (place P)) ∧ B.vr.ownBlock ≠ some B.bf ∧ B.vr.ownBlock ≠ some B.bo ∧ B.vr.ownBlock ≠ some B.bu
def LinksAt (w : World) (base g : Nat) (P : List Txt) (F O U : Txt → Int) (o : List Txt) : Prop := ∃ B, LinksIn w base g P F O U o B
theorem IntRow.at_ {w : World} {base b c : Nat} {P : List Txt} {F : Txt → Int} (h : IntRow w base b c P F) {i : Nat} {p : Txt} (hi : P[i]? = some p) : w.cell? ⟨b, i, none⟩ = some (.int .i64 (F p)) := by
  have hil := (List.getElem?_eq_some_iff.1 hi).1
  rw [World.ownsRow.cellAt h i (by omega)]
  exact intCells_at hi
theorem IntRow.cap {w : World} {base b c : Nat} {P : List Txt} {F : Txt → Int} (h : IntRow w base b c P F) : P.length ≤ c := by
  obtain ⟨A, c', e, hc⟩ := own_slice h
  injection e with e1 e2 e3
  omega
theorem IntRow.base {w : World} {base b c : Nat} {P : List Txt} {F : Txt → Int} (h : IntRow w base b c P F) : base ≤ b ∧ b < w.heap.size := own_blk h rfl
theorem IntRow.keep {S : Nat → Prop} {w w' : World} {base b c : Nat} {P : List Txt} {F : Txt → Int} (h : IntRow w base b c P F) (hk : Keeps S w w') (hS : ¬ S b) : IntRow w' base b c P F :=
  own_keep h hk (fun b' _ _ _ e => by injection e with e; subst e; exact hS)
theorem IntRow.set {w : World} {base b c : Nat} {P : List Txt} {F F' : Txt → Int} (h : IntRow w base b c P F) (hT : Tree P) {i : Nat} {p : Txt} (hi : P[i]? = some p) {x : Int} (hx : F' p = x) (ho : ∀ y, y ≠ p → F' y = F y) : IntRow (w.setCell ⟨b, i, none⟩ (.int .i64 x)) base b c P F' := by
  have s1 := World.ownsRow.stored h i (.int .i64 x)
  unfold IntRow
  rw [intCells_set hT.nodup hi ho, hx]
  exact s1.1
theorem IntRow.nfree {w : World} {base b c : Nat} {P : List Txt} {F : Txt → Int} (h : IntRow w base b c P F) (i : Nat) : w.frozen? ⟨b, i, none⟩ = false := World.ownsRow.frozenAt h _
/-- A block of another type is none of the row. -/
theorem IntRow.other {w : World} {base b c g t : Nat} {P : List Txt} {F : Txt → Int} {cs : Array Value} {fr : Nat × Nat} (h : IntRow w base b c P F) (hg : w.heap[g]? = some (.cells cs t fr)) (ht : 3 ≠ t) : g ≠ b := fun e => own_not_type h hg ht (by rw [e]; rfl)

theorem LinksIn.below {w w' : World} {base g : Nat} {P : List Txt} {F O U : Txt → Int} {o : List Txt} {B : LB} (h : LinksIn w base g P F O U o B) (hb : Below w.heap.size w w') : LinksIn w' base g P F O U o B := by
  obtain ⟨hg, h0, h1, h2, h3, h4, h5, h6, h7, h8⟩ := h
  exact ⟨(hb.block g (block_lt hg)).trans hg, h0, own_below h1 hb, own_below h2 hb, own_below h3 hb, h4, h5, h6, own_below h7 hb, h8⟩
theorem LinksAt.below {w w' : World} {base g : Nat} {P : List Txt} {F O U : Txt → Int} {o : List Txt} (h : LinksAt w base g P F O U o) (hb : Below w.heap.size w w') : LinksAt w' base g P F O U o := by
  obtain ⟨B, h⟩ := h
  exact ⟨B, h.below hb⟩

section
variable {w : World} {base g : Nat} {P : List Txt} {F O U : Txt → Int} {o : List Txt} {B : LB} (h : LinksIn w base g P F O U o B)
include h
theorem LinksIn.caps : P.length ≤ B.cf ∧ P.length ≤ B.co ∧ P.length ≤ B.cu := by
  obtain ⟨hg, h0, h1, h2, h3, _⟩ := h
  exact ⟨h1.cap, h2.cap, h3.cap⟩
theorem LinksIn.heads : w.cell? ⟨g, 0, none⟩ = some (.slice (some ⟨B.bf, 0, none⟩) P.length B.cf) ∧ w.cell? ⟨g, 1, none⟩ = some (.slice (some ⟨B.bo, 0, none⟩) P.length B.co) ∧ w.cell? ⟨g, 2, none⟩ = some (.slice (some ⟨B.bu, 0, none⟩) P.length B.cu) ∧ w.cell? ⟨g, 3, none⟩ = some B.vr ∧ w.frozen? ⟨g, 3, none⟩ = false := by
  obtain ⟨hg, _⟩ := h
  exact ⟨cell_of_blk hg 0, cell_of_blk hg 1, cell_of_blk hg 2, cell_of_blk hg 3, free_of_blk hg 3⟩
theorem LinksIn.rows {i : Nat} {p : Txt} (hi : P[i]? = some p) : w.cell? ⟨B.bf, i, none⟩ = some (.int .i64 (F p)) ∧ w.cell? ⟨B.bo, i, none⟩ = some (.int .i64 (O p)) ∧ w.cell? ⟨B.bu, i, none⟩ = some (.int .i64 (U p)) ∧ w.frozen? ⟨B.bf, i, none⟩ = false ∧ w.frozen? ⟨B.bo, i, none⟩ = false ∧ w.frozen? ⟨B.bu, i, none⟩ = false := by
  obtain ⟨hg, h0, h1, h2, h3, _⟩ := h
  exact ⟨h1.at_ hi, h2.at_ hi, h3.at_ hi, h1.nfree i, h2.nfree i, h3.nfree i⟩
theorem LinksIn.bases : base ≤ B.bf ∧ base ≤ B.bo ∧ base ≤ B.bu := by
  obtain ⟨hg, h0, h1, h2, h3, _⟩ := h
  exact ⟨h1.base.1, h2.base.1, h3.base.1⟩
theorem LinksIn.other {b t : Nat} {cs : Array Value} {fr : Nat × Nat} (hb : w.heap[b]? = some (.cells cs t fr)) (ht : 3 ≠ t) : b ≠ B.bf ∧ b ≠ B.bo ∧ b ≠ B.bu := by
  obtain ⟨hg, h0, h1, h2, h3, _⟩ := h
  exact ⟨h1.other hb ht, h2.other hb ht, h3.other hb ht⟩
theorem LinksIn.setF (hT : Tree P) {i : Nat} {p : Txt} (hi : P[i]? = some p) {x : Int} (F' : Txt → Int) (hx : F' p = x) (ho : ∀ y, y ≠ p → F' y = F y) : LinksIn (w.setCell ⟨B.bf, i, none⟩ (.int .i64 x)) base g P F' O U o B := by
  obtain ⟨hg, h0, h1, h2, h3, h4, h5, h6, h7, h8, h9, h10⟩ := h
  have hk := keeps_set w ⟨B.bf, i, none⟩ (.int .i64 x)
  exact ⟨(Below.heap_setCell _ _ _ _ (h1.other hg (by decide))).trans hg, h0, h1.set hT hi hx ho, h2.keep hk (fun e => h4 e.symm), h3.keep hk (fun e => h5 e.symm), h4, h5, h6, own_keep h7 hk (fun b c' _ _ e he => h8 (by rw [← e]; exact congrArg some he)), h8, h9, h10⟩
theorem LinksIn.setO (hT : Tree P) {i : Nat} {p : Txt} (hi : P[i]? = some p) {x : Int} (O' : Txt → Int) (hx : O' p = x) (ho : ∀ y, y ≠ p → O' y = O y) : LinksIn (w.setCell ⟨B.bo, i, none⟩ (.int .i64 x)) base g P F O' U o B := by
  obtain ⟨hg, h0, h1, h2, h3, h4, h5, h6, h7, h8, h9, h10⟩ := h
  have hk := keeps_set w ⟨B.bo, i, none⟩ (.int .i64 x)
  exact ⟨(Below.heap_setCell _ _ _ _ (h2.other hg (by decide))).trans hg, h0, h1.keep hk (fun e => h4 e), h2.set hT hi hx ho, h3.keep hk (fun e => h6 e.symm), h4, h5, h6, own_keep h7 hk (fun b c' _ _ e he => h9 (by rw [← e]; exact congrArg some he)), h8, h9, h10⟩
theorem LinksIn.setU (hT : Tree P) {i : Nat} {p : Txt} (hi : P[i]? = some p) {x : Int} (U' : Txt → Int) (hx : U' p = x) (ho : ∀ y, y ≠ p → U' y = U y) : LinksIn (w.setCell ⟨B.bu, i, none⟩ (.int .i64 x)) base g P F O U' o B := by
  obtain ⟨hg, h0, h1, h2, h3, h4, h5, h6, h7, h8, h9, h10⟩ := h
  have hk := keeps_set w ⟨B.bu, i, none⟩ (.int .i64 x)
  exact ⟨(Below.heap_setCell _ _ _ _ (h3.other hg (by decide))).trans hg, h0, h1.keep hk (fun e => h5 e), h2.keep hk (fun e => h6 e), h3.set hT hi hx ho, h4, h5, h6, own_keep h7 hk (fun b c' _ _ e he => h10 (by rw [← e]; exact congrArg some he)), h8, h9, h10⟩
theorem LinksIn.congr {F' O' U' : Txt → Int} (hF : ∀ x, x ∈ P → F x = F' x) (hO : ∀ x, x ∈ P → O x = O' x) (hU : ∀ x, x ∈ P → U x = U' x) : LinksIn w base g P F' O' U' o B := by
  obtain ⟨hg, h0, h1, h2, h3, h4⟩ := h
  refine ⟨hg, h0, ?_, ?_, ?_, h4⟩
  · unfold IntRow; rw [← intCells_congr hF]; exact h1
  · unfold IntRow; rw [← intCells_congr hO]; exact h2
  · unfold IntRow; rw [← intCells_congr hU]; exact h3
end

theorem stepF_at {P : List Txt} {a : Nat} {p : Txt} (h : P[a]? = some p) (c : UInt8) : stepF P (a : Int) c = place P (p ++ [c]) := by
  have hl := (List.getElem?_eq_some_iff.1 h).1
  unfold stepF
  rw [if_pos (by omega), Int.toNat_natCast, List.getD_eq_getElem?_getD, h]; rfl

def backM (P : List Txt) (v : Value) : Nat := if 0 ≤ intOf v then (P.getD (intOf v).toNat []).length + 1 else 0
theorem backM_nat (P : List Txt) (m : Nat) : backM P (.int .i64 (m : Int)) = (P.getD m []).length + 1 := by
  unfold backM intOf
  simp
set_option maxHeartbeats 1600000 in
theorem back_calls (w : World) (base g base2 tg : Nat) (P : List Txt) (W F O U : Txt → Int) (o : List Txt) (ht : TrieAt w base2 tg P W) (B : LB) (hk : LinksIn w base g P F O U o B) (hl : P.length ≤ 1000000) (b1 b2 b3 : Nat) (c : UInt8)
    (h1 : w.cell? ⟨b1, 0, none⟩ = some (.pointer (some ⟨g, 0, none⟩))) (h2 : w.cell? ⟨b2, 0, none⟩ = some (.pointer (some ⟨tg, 0, none⟩))) (h3 : w.cell? ⟨b3, 0, none⟩ = some (.int .u8 (c.toNat : Int)))
    (a : Nat) (q : Txt) (hq : P[a]? = some q) (hF : ∀ x, x ∈ P → x.length ≤ q.length → F x = failF P x) :
    Calls Try.prog 78 #[.int .i64 (a : Int), .pointer (some ⟨b1, 0, none⟩), .pointer (some ⟨b2, 0, none⟩), .pointer (some ⟨b3, 0, none⟩)] w fun e w' => e = .returned (.int .i64 (failF P (q ++ [c]))) ∧ w = w' := by
  have hT := As.mk ht.tree
  have hcs := As.mk (fun n x c h => step_calls w base2 tg P W ht hl n x c h)
  obtain ⟨c0, c1, c2, _⟩ := hk.heads
  obtain ⟨l1, l2, l3⟩ := hk.caps
  have hcell : As (∀ i p, P[i]? = some p → w.cell? ⟨B.bf, i, none⟩ = some (.int .i64 (F p))) := ⟨fun i p h => (hk.rows h).1⟩
  have hal := (List.getElem?_eq_some_iff.1 hq).1
  have d0 := hcell.out a q hq
  have hF := As.mk hF
  have hst := As.mk (back_start hT.out q c)
  have hstep := As.mk (fun n => back_step hT.out (q := q) (c := c) (n := n))
  have hend := As.mk (fun n => back_end hT.out (q := q) (c := c) (n := n))
  rw [← hF.out q (List.mem_of_getElem? hq) (Nat.le_refl _)] at hst
  obtain ⟨R, hR⟩ : ∃ R, failF P (q ++ [c]) = R := ⟨_, rfl⟩
  rw [hR] at hstep hend
  rw [hR]
  replace hst := As.mk hst.out
  clear hR hq c1 c2 l2 l3
  generalize F q = f0 at *
  go_enter Try.func78, Try.ntmps78
  go_wp2
  go_loop [0] (fun v => ∃ n : Int, v = .int .i64 n ∧ As (Back P q c n)) (fun v => backM P v)
  case atStart => exact ⟨f0, rfl, hst⟩
  case round =>
    obtain ⟨n, rfl, hb⟩ := hrel
    by_cases hn : 0 ≤ n
    · obtain ⟨r, hr1, hr2, hr3, hr4⟩ := hstep.out n hb.out hn
      obtain ⟨m, hm1, hm2⟩ := place_nat hr1
      have hnm : n = (m : Int) := hr2.trans hm1
      have hml := (List.getElem?_eq_some_iff.1 hm2).1
      have e0 := hcell.out m r hm2
      have hFr := hF.out r hr1 (by omega)
      have hsa := stepF_at hm2 c
      have hc2 := As.mk (hcs.out n (c.toNat : Int) c rfl)
      rw [hnm, hsa] at hc2
      have hgd : P.getD m [] = r := by rw [List.getD_eq_getElem?_getD, hm2]; rfl
      subst hnm
      rw [hFr] at e0
      have hfs : As (0 ≤ failF P r → (P.getD (failF P r).toNat []).length < r.length) := ⟨fun h => by
        obtain ⟨r', k1, k2, k3⟩ := fail_short h
        obtain ⟨m', j1, j2⟩ := place_nat k1
        rw [k2, j1, Int.toNat_natCast, List.getD_eq_getElem?_getD, j2]
        exact k3⟩
      have hgd := As.mk hgd
      replace hr4 := As.mk hr4
      clear hr2 hm1 hm2 hFr hsa hr1
      generalize hfr : failF P r = fr at *
      generalize hst2 : place P (r ++ [c]) = tv at *
      have hfr := As.mk hfr
      have hst2 := As.mk hst2
      by_cases hto : 0 ≤ tv
      · have hfin : As (tv = R) := ⟨by
          rcases hr4.out with ⟨_, h⟩ | ⟨h, _⟩
          · exact h.symm
          · omega⟩
        go_wp2_with (go_at_call 59; refine hc2.out.mono ?_; rintro e w' ⟨rfl, rfl⟩)
        go_ret
        exact ⟨ret_int hfin.out, rfl⟩
      · have hnext : As (Back P q c fr) := ⟨by
          rcases hr4.out with ⟨h, _⟩ | ⟨_, h⟩
          · exact absurd h hto
          · exact h⟩
        go_wp2_with (go_at_call 59; refine hc2.out.mono ?_; rintro e w' ⟨rfl, rfl⟩)
        go_round
        case rel => exact ⟨fr, rfl, hnext⟩
        case measure =>
          have h1 := hgd.out
          have h2 := hfs.out
          rw [backM_nat, h1]
          unfold backM
          split
          · rename_i h0
            have := h2 h0
            simp only [intOf] at *
            omega
          · omega
    · have hfin : As (0 = R) := ⟨(hend.out n hb.out (by omega)).symm⟩
      go_wp2
      go_ret
      exact ⟨ret_int hfin.out, rfl⟩
end Go.Proofs.Ytglalojbdlepfaa
end
section
/- The walks of package links: one node's links. -/
set_option linter.unusedVariables false
set_option linter.unusedSimpArgs false
namespace Go.Proofs.Ytglalojbdlepfaa
open Go.RowKit Go.Maps Seine.Trie Seine.Links

theorem blk_drew {w : World} {b : Nat} {o : Obj} (h : w.heap[b]? = some o) : w.drew.heap[b]? = some o := h
set_option maxRecDepth 100000 in
set_option maxHeartbeats 1600000 in
theorem link_calls (w0 w : World) (base g base2 tg : Nat) (P l : List Txt) (F O U F' O' U' : Txt → Int) (o : List Txt) (hw0 : w0.heap.size = base) (ht : TrieAt w0 base2 tg P (place l)) (hb : Below base w0 w) (B : LB) (hk : LinksIn w base g P F O U o B)
    (hl : P.length ≤ 1000000) (hd : ∀ p ∈ P, p.length ≤ 100000) (hlP : ∀ x, x ∈ l → x ∈ P) (a : Nat) (p : Txt) (hp : P[a]? = some p) (hne : p ≠ [])
    (hF : ∀ x, x ∈ P → x.length < p.length → F x = failF P x ∧ O x = outF P l x ∧ U x = ownF l x) (hU0 : U p = 0)
    (hF' : F' p = failF P p ∧ ∀ y, y ≠ p → F' y = F y) (hO' : O' p = outF P l p ∧ ∀ y, y ≠ p → O' y = O y) (hU' : U' p = ownF l p ∧ ∀ y, y ≠ p → U' y = U y) :
    Calls Try.prog 60 #[.pointer (some ⟨g, 0, none⟩), .pointer (some ⟨tg, 0, none⟩), .int .i64 (a : Int)] w fun e w' => e = .returned (.tuple #[]) ∧ LinksIn w' base g P F' O' U' o B ∧ Below base w w' := by
  have hT := As.mk ht.tree
  have hal := (List.getElem?_eq_some_iff.1 hp).1
  have htw : ∀ {v}, Below base w0 v → TrieAt v base2 tg P (place l) := fun h => ht.below (by rw [hw0]; exact h)
  have htw := As.mk @htw
  have hbs : base ≤ w.heap.size := by have := hb.size; omega
  obtain ⟨q, c, hqc⟩ : ∃ q c, p = q ++ [c] := ⟨_, _, (last_split hne).symm⟩
  have hpa : pathF P (a : Int) = p := by
    unfold pathF
    rw [if_pos (by omega), Int.toNat_natCast, List.getD_eq_getElem?_getD, hp]; rfl
  have hup : q ∈ P := by
    have := hT.out.up p (List.mem_of_getElem? hp) hne
    rwa [hqc, List.dropLast_concat] at this
  obtain ⟨b, hb1, hb2⟩ := place_nat hup
  have hpar : askF P (parent P) (-1) (a : Int) = (b : Int) := by
    unfold askF parent
    rw [if_pos (by omega), Int.toNat_natCast, List.getD_eq_getElem?_getD, hp]
    simp only [Option.getD_some]
    rw [if_neg hne, hqc, List.dropLast_concat, hb1]
  have hw : askF P (place l) (-1) (a : Int) = place l p := by
    unfold askF
    rw [if_pos (by omega), Int.toNat_natCast, List.getD_eq_getElem?_getD, hp]; rfl
  have hpl : p.length = q.length + 1 := by rw [hqc]; simp
  have hpd := hd p (List.mem_of_getElem? hp)
  have hpaths := As.mk (fun v hv => path_calls v base2 tg P (place l) (htw.out hv) (a : Int) hd)
  have hpars := As.mk (fun v hv => parent_calls v base2 tg P (place l) (htw.out hv) (a : Int))
  have hwords := As.mk (fun v hv => word_calls v base2 tg P (place l) (htw.out hv) (a : Int))
  rw [hpa] at hpaths
  rw [hpar] at hpars
  rw [hw] at hwords
  have hb := As.mk hb
  have hk := As.mk hk
  have hmf : ∀ (fn : Fn) (first cap : Array Value) (w : World), (Instr.makeFunc fn first cap).run Try.prog w = .ok (.func fn first cap) w := fun _ _ _ _ => rfl
  clear hpa hpar hw ht
  go_enter Try.func60, Try.ntmps60
  go_wp2_with fail
  have x1 := blk_old (o' := .cells #[.pointer (some ⟨tg, 0, none⟩)] 57) (heap_alloc_new w (.cells #[.pointer (some ⟨g, 0, none⟩)] 68))
  have x2 := blk_new1 w (.cells #[.pointer (some ⟨g, 0, none⟩)] 68) (.cells #[.pointer (some ⟨tg, 0, none⟩)] 57)
  have hbel2 : Below w.heap.size w ((w.alloc (.cells #[.pointer (some ⟨g, 0, none⟩)] 68)).alloc (.cells #[.pointer (some ⟨tg, 0, none⟩)] 57)) := (((Below.refl _ _).alloc (Nat.le_refl _) _).alloc (by simp) _)
  replace x1 := As.mk x1
  replace x2 := As.mk x2
  replace hbel2 := As.mk hbel2
  generalize (w.alloc (.cells #[.pointer (some ⟨g, 0, none⟩)] 68)).alloc (.cells #[.pointer (some ⟨tg, 0, none⟩)] 57) = w2 at *
  have hb02 := As.mk (hb.out.trans (hbel2.out.mono hbs))
  refine (hpaths.out w2 hb02.out).mono ?_
  intro e w3 hr
  obtain ⟨A, cp, rfl, hby, hbel3⟩ := hr.row
  rw [hpl]
  obtain ⟨ad, rfl, y0⟩ := Byt.at_ hby (i := q.length) (by omega)
  have hlast : p.getD q.length 0 = c := by rw [hqc]; simp [List.getD_eq_getElem?_getD]
  rw [hlast] at y0
  clear hlast hby hr hpaths
  have hbel3' := As.mk (hbel2.out.trans (hbel3.mono hbel2.out.size))
  replace x1 := As.mk ((hbel3.block _ (block_lt x1.out)).trans x1.out)
  replace x2 := As.mk ((hbel3.block _ (block_lt x2.out)).trans x2.out)
  have hw2 := block_lt x2.out
  clear hbel3 hbel2 hb02
  generalize hqn : q.length = n at *
  have z1 := blk_old (o' := .cells #[.int .u8 (c.toNat : Int)] 5) x1.out
  have z2 := blk_old (o' := .cells #[.int .u8 (c.toNat : Int)] 5) x2.out
  have z3 := heap_alloc_new w3 (.cells #[.int .u8 (c.toNat : Int)] 5)
  have hbel4 : Below w.heap.size w (w3.alloc (.cells #[.int .u8 (c.toNat : Int)] 5)) := hbel3'.out.alloc hbel3'.out.size _
  have v1 := cell_of_blk z1 0
  have v2 := cell_of_blk z2 0
  have v3 := cell_of_blk z3 0
  go_wp2_with fail
  replace z1 := As.mk z1
  replace z2 := As.mk z2
  replace z3 := As.mk z3
  replace hbel4 := As.mk hbel4
  clear x1 x2 hbel3' y0
  generalize w3.alloc (.cells #[.int .u8 (c.toNat : Int)] 5) = w4 at *
  generalize w3.heap.size = b3 at *
  have hb04 := As.mk (hb.out.trans (hbel4.out.mono hbs))
  have hb3 := block_lt z3.out
  have hk4 := As.mk (hk.out.below hbel4.out)
  refine (hpars.out w4 hb04.out).mono ?_
  rintro e w4' ⟨rfl, rfl⟩
  go_wp2_with fail
  have hcc := back_calls w4 base g base2 tg P (place l) F O U o (htw.out hb04.out) B hk4.out hl w.heap.size (w.heap.size + 1) b3 c v1 v2 v3 b q hb2 (fun x hx hle => (hF x hx (by omega)).1)
  rw [← hqc] at hcc
  refine hcc.mono ?_
  rintro e w4' ⟨rfl, rfl⟩
  obtain ⟨nn, hnn⟩ := fail_some hT.out hne
  obtain ⟨j1, j2, j3, _⟩ := failN_some hnn
  have hor := out_rec hlP hnn
  have hfp : failF P p = place P (p.drop nn) := by unfold failF; rw [hnn]
  have hrl : (p.drop nn).length < p.length := by rw [List.length_drop]; omega
  generalize p.drop nn = r at *
  obtain ⟨fi, hf1, hf2⟩ := place_nat j3
  obtain ⟨_, g2, g3⟩ := hF r j3 hrl
  have hrp : r ≠ p := fun e => by rw [e] at hrl; omega
  rw [hfp, hf1] at hF'
  rw [hfp, hf1]
  rw [hf1] at hor
  have k5 := hk4.out.setF hT.out hp F' hF'.1 hF'.2
  have k6 := k5.setO hT.out hp (x := (fi : Int)) (fun y => if y = p then (fi : Int) else O y) (if_pos rfl) (fun y h => if_neg h)
  have n1 := hk4.out.other z1.out (by decide)
  have n2 := hk4.out.other z2.out (by decide)
  have q1 := blk_far z1.out (p := ⟨B.bf, a, none⟩) n1.1 (.int .i64 (fi : Int))
  have q2 := blk_far z2.out (p := ⟨B.bf, a, none⟩) n2.1 (.int .i64 (fi : Int))
  have r1 := blk_far q1 (p := ⟨B.bo, a, none⟩) n1.2.1 (.int .i64 (fi : Int))
  have r2 := blk_far q2 (p := ⟨B.bo, a, none⟩) n2.2.1 (.int .i64 (fi : Int))
  have bb5 := (Below.refl base w4).setCell (p := ⟨B.bf, a, none⟩) hk4.out.bases.1 (.int .i64 (fi : Int))
  have bb6 := bb5.setCell (p := ⟨B.bo, a, none⟩) hk4.out.bases.2.1 (.int .i64 (fi : Int))
  obtain ⟨t0, t1, t2, t3, _⟩ := hk4.out.heads
  obtain ⟨u0, u1, u2, u3, _⟩ := k5.heads
  obtain ⟨s0, s1, s2, s3, _⟩ := k6.heads
  obtain ⟨_, _, _, f4, _, _⟩ := hk4.out.rows hp
  obtain ⟨_, _, _, _, f5, _⟩ := k5.rows hp
  obtain ⟨_, _, _, _, f6, _⟩ := k6.rows hp
  obtain ⟨_, m2, m3, _⟩ := k6.rows hf2
  rw [g3] at m3
  simp only [if_neg hrp] at m2
  rw [g2] at m2
  have e1 := cell_of_blk q1 0
  have e2 := cell_of_blk r1 0
  have l1 := hk4.out.caps
  have hfil := (List.getElem?_eq_some_iff.1 hf2).1
  clear hcc u0 u2 s0 n1 n2 q1 q2
  have k5 := As.mk k5
  have k6 := As.mk k6
  have bb6 := As.mk bb6
  have e3 := cell_of_blk r2 0
  by_cases ho : ownF l r = 0
  · rw [if_pos ho] at hor
    rw [ho] at m3
    have k7 := k6.out.setO hT.out hp (x := outF P l r) O' (hO'.1.trans hor) (fun y h => (hO'.2 y h).trans (if_neg h).symm)
    have y1 := blk_far r1 (p := ⟨B.bo, a, none⟩) (k6.out.other r1 (by decide)).2.1 (.int .i64 (outF P l r))
    have y2 := blk_far r2 (p := ⟨B.bo, a, none⟩) (k6.out.other r2 (by decide)).2.1 (.int .i64 (outF P l r))
    have bb7 := As.mk (bb6.out.setCell (p := ⟨B.bo, a, none⟩) k6.out.bases.2.1 (.int .i64 (outF P l r)))
    have e4 := cell_of_blk y2 0
    replace k7 := As.mk k7
    generalize outF P l r = ov at *
    go_wp2_with fail
    go_region
    all_goals
      go_wp2_with fail
      replace k7 := k7.out.below (Below.drew (Below.refl _ _))
      replace bb7 := As.mk (Below.drew bb7.out)
      have hb07 := hb04.out.trans bb7.out
      have y1' := blk_drew y1
      replace hb07 := As.mk hb07
      replace k7 := As.mk k7
      refine (hwords.out _ hb07.out).mono ?_
      rintro e w8 ⟨rfl, rfl⟩
      have p1 := cell_of_blk y1 0
      obtain ⟨_, _, i2, _⟩ := k7.out.heads
      obtain ⟨_, _, _, _, _, f8⟩ := k7.out.rows hp
      by_cases hin : p ∈ l
      · have hge := place_mem.2 hin
        have hown : ownF l p = ((n : Int) + 1) := by unfold ownF; rw [if_pos hin, hpl]; push_cast; rfl
        have k8 := k7.out.setU hT.out hp U' (x := (n : Int) + 1) (hU'.1.trans hown) hU'.2
        have bb8 := bb7.out.setCell (p := ⟨B.bu, a, none⟩) k7.out.bases.2.2 (.int .i64 ((n : Int) + 1))
        replace k8 := As.mk k8
        replace bb8 := As.mk bb8
        clear hown hin
        generalize place l p = wd at *
        go_wp2
        go_end0
        exact ⟨rfl, k8.out, (hbel4.out.mono hbs).trans bb8.out⟩
      · have hno := place_none hin
        have k8 := k7.out.congr (F' := F') (O' := O') (U' := U') (fun _ _ => rfl) (fun _ _ => rfl) (fun x _ => by
          by_cases hx : x = p
          · rw [hx, hU0, hU'.1]; unfold ownF; rw [if_neg hin]
          · exact (hU'.2 x hx).symm)
        replace k8 := As.mk k8
        rw [hno]
        clear hno hin
        go_wp2
        go_end0
        exact ⟨rfl, k8.out, (hbel4.out.mono hbs).trans bb7.out⟩
  · rw [if_neg ho] at hor
    have hO1 : ∀ x, x ∈ P → (if x = p then (fi : Int) else O x) = O' x := fun x _ => by
      by_cases hx : x = p
      · rw [if_pos hx, hx, hO'.1, hor]
      · rw [if_neg hx, hO'.2 x hx]
    have k7 := k6.out.congr (F' := F') (O' := O') (U' := U) (fun _ _ => rfl) hO1 (fun _ _ => rfl)
    have y1 := r1
    have bb7 := bb6
    clear hO1 hor
    replace k7 := As.mk k7
    go_wp2_with fail
    replace k7 := k7.out
    have hb07 := hb04.out.trans bb7.out
    replace hb07 := As.mk hb07
    replace k7 := As.mk k7
    refine (hwords.out _ hb07.out).mono ?_
    rintro e w8 ⟨rfl, rfl⟩
    have p1 := cell_of_blk y1 0
    obtain ⟨_, _, i2, _⟩ := k7.out.heads
    obtain ⟨_, _, _, _, _, f8⟩ := k7.out.rows hp
    by_cases hin : p ∈ l
    · have hge := place_mem.2 hin
      have hown : ownF l p = ((n : Int) + 1) := by unfold ownF; rw [if_pos hin, hpl]; push_cast; rfl
      have k8 := k7.out.setU hT.out hp U' (x := (n : Int) + 1) (hU'.1.trans hown) hU'.2
      have bb8 := bb7.out.setCell (p := ⟨B.bu, a, none⟩) k7.out.bases.2.2 (.int .i64 ((n : Int) + 1))
      replace k8 := As.mk k8
      replace bb8 := As.mk bb8
      clear hown hin
      generalize place l p = wd at *
      go_wp2
      go_end0
      exact ⟨rfl, k8.out, (hbel4.out.mono hbs).trans bb8.out⟩
    · have hno := place_none hin
      have k8 := k7.out.congr (F' := F') (O' := O') (U' := U') (fun _ _ => rfl) (fun _ _ => rfl) (fun x _ => by
        by_cases hx : x = p
        · rw [hx, hU0, hU'.1]; unfold ownF; rw [if_neg hin]
        · exact (hU'.2 x hx).symm)
      replace k8 := As.mk k8
      rw [hno]
      clear hno hin
      go_wp2
      go_end0
      exact ⟨rfl, k8.out, (hbel4.out.mono hbs).trans bb7.out⟩
end Go.Proofs.Ytglalojbdlepfaa
end
