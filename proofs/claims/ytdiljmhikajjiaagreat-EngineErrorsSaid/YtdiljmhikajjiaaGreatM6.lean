/- Joined texts: Fold, Fold2, Classes, Dfa, LinksWalk5, Dfa2, Dfa3. -/
import Derived.Test.YtdiljmhikajjiaaGreatM2
import Derived.Test.YtdiljmhikajjiaaGreatM5
import Derived.Deep.LoopGhost
import Derived.Deep.MidRow
import Derived.Laws.Bits64b
import Derived.ChangeKeysEq
import Derived.StillTailTactics
import Derived.Deep.WholeRow
import Derived.Test.YtdiljmhikajjiaaGreatM4
import Derived.WalkSpells
import Derived.Deep.RegionHeld
import Derived.Laws.CopyOwn
section
set_option linter.unusedVariables false
set_option linter.unusedSimpArgs false
namespace Go.Proofs.YtdiljmhikajjiaaGreat
open Go.RowKit Seine.Trie Seine.Dfa
/-- A set as the program keeps it. -/
def setV (ws : Nat → Nat) : Array Value := #[.int .u64 (ws 0 : Int), .int .u64 (ws 1 : Int), .int .u64 (ws 2 : Int), .int .u64 (ws 3 : Int)]
def Small (ws : Nat → Nat) : Prop := ∀ i, ws i < 18446744073709551616
/-- ws is the set q. -/
def IsSet (ws : Nat → Nat) (q : UInt8 → Bool) : Prop := Small ws ∧ ∀ c, memS ws c = q c
theorem IsSet.none : IsSet (fun _ => 0) (fun _ => false) := ⟨fun _ => Nat.zero_lt_succ _, memS_none⟩
def withF (ws : Nat → Nat) (c : UInt8) : Nat → Nat := fun i => if i = c.toNat / 64 then ws i ||| 1 <<< (c.toNat % 64) else ws i
theorem small_with {ws : Nat → Nat} (h : Small ws) (c : UInt8) : Small (withF ws c) := fun i => by
  unfold withF
  split
  · exact Nat.or_lt_two_pow (n := 64) (h i) (by
      rw [Nat.one_shiftLeft]; exact Nat.pow_lt_pow_right (by omega) (Nat.mod_lt _ (by decide)))
  · exact h i
theorem IsSet.with_ {ws : Nat → Nat} {q : UInt8 → Bool} (h : IsSet ws q) (c : UInt8) : IsSet (withF ws c) (fun d => q d || decide (d = c)) := ⟨small_with h.1 c, fun d => by
  have := memS_with ws c d
  unfold withF
  rw [this, h.2 d]⟩
theorem IsSet.union {ws vs : Nat → Nat} {q r : UInt8 → Bool} (h : IsSet ws q) (k : IsSet vs r) : IsSet (fun i => ws i ||| vs i) (fun d => q d || r d) :=
  ⟨fun i => Nat.or_lt_two_pow (n := 64) (h.1 i) (k.1 i), fun d => by rw [memS_union, h.2 d, k.2 d]⟩
theorem alloc2cell (w : World) (A B : Array Value) (t u j : Nat) : ((w.alloc (.cells A t)).alloc (.cells B u)).cell? ⟨w.heap.size + 1, j, none⟩ = B[j]? := cell_of_blk (blk_new1 w _ _) j
theorem alloc3cell (w : World) (A B C : Array Value) (t u v j : Nat) : (((w.alloc (.cells A t)).alloc (.cells B u)).alloc (.cells C v)).cell? ⟨w.heap.size + 1 + 1, j, none⟩ = C[j]? := by
  have h : ((w.alloc (.cells A t)).alloc (.cells B u)).heap.size = w.heap.size + 1 + 1 := by simp
  rw [← h]
  exact cell_of_blk (heap_alloc_new _ _) j
theorem shl_one (k : Nat) (hk : k < 64) : IntKind.u64.wrap (2 ^ k) = ((1 <<< k : Nat) : Int) := by
  rw [IntKind.wrap_u64, Nat.one_shiftLeft]
  have : (2 : Nat) ^ k < 2 ^ 64 := Nat.pow_lt_pow_right (by omega) hk
  have h2 : ((2 : Int) ^ k) = (((2 : Nat) ^ k : Nat) : Int) := by push_cast; rfl
  rw [h2, Int.emod_eq_of_lt (Int.natCast_nonneg _) (by omega)]
set_option maxRecDepth 100000 in
theorem with_calls (w : World) (ws : Nat → Nat) (hs : Small ws) (c : UInt8) :
    Calls Tryz.prog 89 #[.agg (setV ws), .int .u8 (c.toNat : Int)] w fun e w' => e = .returned (.agg (setV (withF ws c))) ∧ Below w.heap.size w w' := by
  have hc := c.toNat_lt
  have hset : ∀ (i : Nat), c.toNat / 64 = i → withF ws c = fun j => if j = i then ws i ||| 1 <<< (c.toNat % 64) else ws j := fun i hi => by
    funext j
    unfold withF
    rw [hi]
    split
    · rename_i h; rw [h]
    · rfl
  obtain ⟨k, hk⟩ : ∃ k, c.toNat % 64 = k := ⟨_, rfl⟩
  have hk64 : k < 64 := by omega
  have hsh := shl_one k hk64
  obtain ⟨b, hb⟩ : ∃ b, 1 <<< k = b := ⟨_, rfl⟩
  have hb64 : b < 18446744073709551616 := by rw [← hb, Nat.one_shiftLeft]; exact Nat.pow_lt_pow_right (m := k) (n := 64) (by omega) hk64
  have hor := fun i => bits_or_u64_nat (ws i) b (hs i) hb64
  rw [hk, hb] at hset
  rw [hb] at hsh
  have hsV : setV ws = #[.int .u64 (ws 0 : Int), .int .u64 (ws 1 : Int), .int .u64 (ws 2 : Int), .int .u64 (ws 3 : Int)] := rfl
  rw [hsV]
  clear hsV
  have e2 : (c.toNat : Int) % 64 = (k : Int) := by omega
  rcases (show c.toNat / 64 = 0 ∨ c.toNat / 64 = 1 ∨ c.toNat / 64 = 2 ∨ c.toNat / 64 = 3 by omega) with h | h | h | h
  · --
    have h2 := As.mk (hset _ h)
    have e1 : (c.toNat : Int) / 64 = 0 := by omega
    have hor0 := hor 0
    clear hset hor hb
    have hB : ∀ A B, Below w.heap.size w ((w.alloc (.cells A 142)).alloc (.cells B 142)) := fun A B => ((Below.refl _ _).alloc (Nat.le_refl _) _).alloc (by simp) _
    go_enter Tryz.func89, Tryz.ntmps89
    go_wp2
    refine bodyPost_ret (v := .agg (setV (withF ws c))) ?_ rfl ⟨rfl, hB _ _⟩
    rw [h2.out]
    simp [results, Tryz.results89, go_sem, alloc2cell, setV, hsh, hor0]
  · --
    have h2 := As.mk (hset _ h)
    have e1 : (c.toNat : Int) / 64 = 1 := by omega
    have hor0 := hor 1
    clear hset hor hb
    have hB : ∀ A B, Below w.heap.size w ((w.alloc (.cells A 142)).alloc (.cells B 142)) := fun A B => ((Below.refl _ _).alloc (Nat.le_refl _) _).alloc (by simp) _
    go_enter Tryz.func89, Tryz.ntmps89
    go_wp2
    refine bodyPost_ret (v := .agg (setV (withF ws c))) ?_ rfl ⟨rfl, hB _ _⟩
    rw [h2.out]
    simp [results, Tryz.results89, go_sem, alloc2cell, setV, hsh, hor0]
  · --
    have h2 := As.mk (hset _ h)
    have e1 : (c.toNat : Int) / 64 = 2 := by omega
    have hor0 := hor 2
    clear hset hor hb
    have hB : ∀ A B, Below w.heap.size w ((w.alloc (.cells A 142)).alloc (.cells B 142)) := fun A B => ((Below.refl _ _).alloc (Nat.le_refl _) _).alloc (by simp) _
    go_enter Tryz.func89, Tryz.ntmps89
    go_wp2
    refine bodyPost_ret (v := .agg (setV (withF ws c))) ?_ rfl ⟨rfl, hB _ _⟩
    rw [h2.out]
    simp [results, Tryz.results89, go_sem, alloc2cell, setV, hsh, hor0]
  · --
    have h2 := As.mk (hset _ h)
    have e1 : (c.toNat : Int) / 64 = 3 := by omega
    have hor0 := hor 3
    clear hset hor hb
    have hB : ∀ A B, Below w.heap.size w ((w.alloc (.cells A 142)).alloc (.cells B 142)) := fun A B => ((Below.refl _ _).alloc (Nat.le_refl _) _).alloc (by simp) _
    go_enter Tryz.func89, Tryz.ntmps89
    go_wp2
    refine bodyPost_ret (v := .agg (setV (withF ws c))) ?_ rfl ⟨rfl, hB _ _⟩
    rw [h2.out]
    simp [results, Tryz.results89, go_sem, alloc2cell, setV, hsh, hor0]
theorem has_bit (x k : Nat) (hx : x < 18446744073709551616) : (bits .and .u64 ((x : Int) / 2 ^ k) 1 == 1) = x.testBit k := by
  have h2 : ((2 : Int) ^ k) = (((2 : Nat) ^ k : Nat) : Int) := by push_cast; rfl
  have h3 : ((x : Int) / 2 ^ k) = ((x >>> k : Nat) : Int) := by rw [h2, Nat.shiftRight_eq_div_pow]; rfl
  have h4 : x >>> k < 18446744073709551616 := Nat.lt_of_le_of_lt (by rw [Nat.shiftRight_eq_div_pow]; exact Nat.div_le_self _ _) hx
  have h5 := bits_and_u64_nat (x >>> k) 1 h4 (by decide)
  rw [h3, show (1 : Int) = ((1 : Nat) : Int) from rfl, h5, Nat.testBit_eq_decide_div_mod_eq, Nat.and_one_is_mod, Nat.shiftRight_eq_div_pow]
  rw [Bool.eq_iff_iff, beq_iff_eq, decide_eq_true_eq]
  omega
set_option maxRecDepth 100000 in
theorem has_calls (w : World) (ws : Nat → Nat) (hs : Small ws) (c : UInt8) (x : Int) (hx : x = (c.toNat : Int)) :
    Calls Tryz.prog 90 #[.agg (setV ws), .int .u8 x] w fun e w' => e = .returned (.bool (memS ws c)) ∧ Below w.heap.size w w' := by
  subst hx
  have hc := c.toNat_lt
  obtain ⟨k, hk⟩ : ∃ k, c.toNat % 64 = k := ⟨_, rfl⟩
  have hk64 : k < 64 := by omega
  have e2 : (c.toNat : Int) % 64 = (k : Int) := by omega
  have hsV : setV ws = #[.int .u64 (ws 0 : Int), .int .u64 (ws 1 : Int), .int .u64 (ws 2 : Int), .int .u64 (ws 3 : Int)] := rfl
  rw [hsV]
  clear hsV
  rcases (show c.toNat / 64 = 0 ∨ c.toNat / 64 = 1 ∨ c.toNat / 64 = 2 ∨ c.toNat / 64 = 3 by omega) with h | h | h | h
  · --
    have e1 : (c.toNat : Int) / 64 = 0 := by omega
    have hr : memS ws c = (ws 0).testBit k := by unfold memS; rw [h, hk]
    have hbt := As.mk (has_bit (ws 0) k (hs 0))
    rw [hr]
    clear hr
    have hB : ∀ A, Below w.heap.size w (w.alloc (.cells A 142)) := fun A => (Below.refl _ _).alloc (Nat.le_refl _) _
    go_enter Tryz.func90, Tryz.ntmps90
    go_wp2
    go_ret
    exact ⟨ret_bool hbt.out, hB _⟩
  · --
    have e1 : (c.toNat : Int) / 64 = 1 := by omega
    have hr : memS ws c = (ws 1).testBit k := by unfold memS; rw [h, hk]
    have hbt := As.mk (has_bit (ws 1) k (hs 1))
    rw [hr]
    clear hr
    have hB : ∀ A, Below w.heap.size w (w.alloc (.cells A 142)) := fun A => (Below.refl _ _).alloc (Nat.le_refl _) _
    go_enter Tryz.func90, Tryz.ntmps90
    go_wp2
    go_ret
    exact ⟨ret_bool hbt.out, hB _⟩
  · --
    have e1 : (c.toNat : Int) / 64 = 2 := by omega
    have hr : memS ws c = (ws 2).testBit k := by unfold memS; rw [h, hk]
    have hbt := As.mk (has_bit (ws 2) k (hs 2))
    rw [hr]
    clear hr
    have hB : ∀ A, Below w.heap.size w (w.alloc (.cells A 142)) := fun A => (Below.refl _ _).alloc (Nat.le_refl _) _
    go_enter Tryz.func90, Tryz.ntmps90
    go_wp2
    go_ret
    exact ⟨ret_bool hbt.out, hB _⟩
  · --
    have e1 : (c.toNat : Int) / 64 = 3 := by omega
    have hr : memS ws c = (ws 3).testBit k := by unfold memS; rw [h, hk]
    have hbt := As.mk (has_bit (ws 3) k (hs 3))
    rw [hr]
    clear hr
    have hB : ∀ A, Below w.heap.size w (w.alloc (.cells A 142)) := fun A => (Below.refl _ _).alloc (Nat.le_refl _) _
    go_enter Tryz.func90, Tryz.ntmps90
    go_wp2
    go_ret
    exact ⟨ret_bool hbt.out, hB _⟩
set_option maxRecDepth 100000 in
theorem union_calls (w : World) (ws vs : Nat → Nat) (hs : Small ws) (hv : Small vs) :
    Calls Tryz.prog 68 #[.agg (setV ws), .agg (setV vs)] w fun e w' => e = .returned (.agg (setV fun i => ws i ||| vs i)) ∧ Below w.heap.size w w' := by
  have hor0 := bits_or_u64_nat (ws 0) (vs 0) (hs 0) (hv 0)
  have hor1 := bits_or_u64_nat (ws 1) (vs 1) (hs 1) (hv 1)
  have hor2 := bits_or_u64_nat (ws 2) (vs 2) (hs 2) (hv 2)
  have hor3 := bits_or_u64_nat (ws 3) (vs 3) (hs 3) (hv 3)
  have i0 : ∀ (a b c d : Int) (w : World), (Instr.index 142 (.agg #[.int .u64 a, .int .u64 b, .int .u64 c, .int .u64 d]) (.int .i64 0)).run Tryz.prog w = .ok (.int .u64 a) w := fun a b c d w => by kernel_rfl
  have i1 : ∀ (a b c d : Int) (w : World), (Instr.index 142 (.agg #[.int .u64 a, .int .u64 b, .int .u64 c, .int .u64 d]) (.int .i64 1)).run Tryz.prog w = .ok (.int .u64 b) w := fun a b c d w => by kernel_rfl
  have i2 : ∀ (a b c d : Int) (w : World), (Instr.index 142 (.agg #[.int .u64 a, .int .u64 b, .int .u64 c, .int .u64 d]) (.int .i64 2)).run Tryz.prog w = .ok (.int .u64 c) w := fun a b c d w => by kernel_rfl
  have i3 : ∀ (a b c d : Int) (w : World), (Instr.index 142 (.agg #[.int .u64 a, .int .u64 b, .int .u64 c, .int .u64 d]) (.int .i64 3)).run Tryz.prog w = .ok (.int .u64 d) w := fun a b c d w => by kernel_rfl
  have hsV : ∀ ws, setV ws = #[.int .u64 (ws 0 : Int), .int .u64 (ws 1 : Int), .int .u64 (ws 2 : Int), .int .u64 (ws 3 : Int)] := fun _ => rfl
  rw [hsV ws, hsV vs]
  clear hsV
  go_enter Tryz.func68, Tryz.ntmps68
  go_wp2
  refine wp_loop_rounds 5 ?_
  rw [rounds_succ]
  go_wp2
  rw [rounds_succ]
  go_wp2
  rw [rounds_succ]
  go_wp2
  rw [rounds_succ]
  go_wp2
  rw [rounds_succ]
  go_wp2
  refine bodyPost_ret (v := .agg (setV fun i => ws i ||| vs i)) ?_ rfl ⟨rfl, (((Below.refl _ _).alloc (Nat.le_refl _) _).alloc (by simp) _).alloc (by simp; omega) _⟩
  simp [results, Tryz.results68, go_sem, alloc3cell, setV]
theorem blk_sets {b t : Nat} : ∀ (vs : List Value) (o : Nat) (w : World) (c : Array Value), w.heap[b]? = some (.cells c t (0, 0)) → o + vs.length ≤ c.size →
    (w.setCells b o vs).heap[b]? = some (.cells (c.toList.take o ++ vs ++ c.toList.drop (o + vs.length)).toArray t (0, 0))
  | [], o, w, c, h, hl => by
    rw [World.setCells, h]; simp
  | v :: r, o, w, c, h, hl => by
    have hl' : o + 1 + r.length ≤ c.size := by simp at hl; omega
    rw [World.setCells, blk_sets r (o + 1) _ (c.setIfInBounds o v) (blk_set h o v) (by simp; omega)]
    have h1 : (c.setIfInBounds o v).toList.take (o + 1) = c.toList.take o ++ [v] := by
      rw [Array.toList_setIfInBounds, List.take_add_one, List.getElem?_set_self (by simp; omega), List.take_set_of_le (Nat.le_refl _)]; rfl
    have h2 : (c.setIfInBounds o v).toList.drop (o + 1 + r.length) = c.toList.drop (o + (v :: r).length) := by
      rw [Array.toList_setIfInBounds, List.drop_set_of_lt (by omega)]
      congr 1; simp; omega
    rw [h1, h2]; simp
theorem blk_all {b t : Nat} {w : World} {c d : Array Value} (h : w.heap[b]? = some (.cells c t (0, 0))) (hs : d.size = c.size) : (w.setCells b 0 d.toList).heap[b]? = some (.cells d t (0, 0)) := by
  rw [blk_sets d.toList 0 w c h (by simp [hs])]
  rw [List.drop_eq_nil_of_le (by simp [hs])]
  simp
theorem below_sets {base b : Nat} (hb : base ≤ b) : ∀ (vs : List Value) (o : Nat) {w0 w : World}, Below base w0 w → Below base w0 (w.setCells b o vs)
  | [], _, _, _, h => h
  | v :: r, o, _, _, h => below_sets hb r (o + 1) (h.setCell (p := ⟨b, o, none⟩) hb v)
theorem far_sets {b b' : Nat} {x : Obj} (hb : b' ≠ b) : ∀ (vs : List Value) (o : Nat) {w : World}, w.heap[b']? = some x → (w.setCells b o vs).heap[b']? = some x
  | [], _, _, h => h
  | v :: r, o, _, h => far_sets hb r (o + 1) (blk_far (p := ⟨b, o, none⟩) h hb v)
theorem setV_one (ws : Nat → Nat) : (setV ws).all (·.oneCell') = true := by simp [setV, Value.oneCell']
theorem there_blk {w : World} {b t : Nat} {c : Array Value} (h : w.heap[b]? = some (.cells c t (0, 0))) {o n : Nat} (hn : o + n ≤ c.size) : w.there b o n := fun j hj =>
  ⟨by rw [cell_of_blk h]; simp; omega, free_of_blk h _⟩
/-- Bytes of a set. -/
theorem of_set_step {b : Txt} {i : Nat} (hi : i < b.length) {ws : Nat → Nat} (h : IsSet ws fun d => decide (d ∈ b.take i)) : IsSet (withF ws (b.getD i 0)) fun d => decide (d ∈ b.take (i + 1)) := by
  have h1 := h.with_ (b.getD i 0)
  refine ⟨h1.1, fun d => ?_⟩
  rw [h1.2 d, take_snoc_b b i hi, Bool.eq_iff_iff]
  simp
set_option maxRecDepth 100000 in
set_option maxHeartbeats 800000 in
theorem fof_calls (w : World) (A : Option Addr) (c : Nat) (b : Txt) (hb : Byt w A b) (hl : b.length ≤ 1000000) :
    Calls Tryz.prog 69 #[.slice A b.length c] w fun e w' => ∃ ws, e = .returned (.agg (setV ws)) ∧ IsSet ws (fun d => decide (d ∈ b)) ∧ Below w.heap.size w w' := by
  have HB := As.mk hb
  have hst := As.mk (fun i (hi : i < b.length) ws (h : IsSet ws fun d => decide (d ∈ b.take i)) => of_set_step hi h)
  have hs0 : As (IsSet (fun _ => 0) fun d => decide (d ∈ b.take 0)) := ⟨by simpa using IsSet.none⟩
  have hfin : As (∀ ws, IsSet ws (fun d => decide (d ∈ b.take b.length)) → IsSet ws fun d => decide (d ∈ b)) := ⟨fun ws h => by rw [List.take_length] at h; exact h⟩
  obtain ⟨n, hn⟩ : ∃ n, b.length = n := ⟨_, rfl⟩
  rw [hn] at hl hfin hst ⊢
  replace hn := As.mk hn
  clear hb
  go_enter Tryz.func69, Tryz.ntmps69
  go_wp2
  obtain ⟨gb, hgb⟩ : ∃ g, w.heap.size = g := ⟨_, rfl⟩
  have hz0 : As ((((w.alloc (.cells (setV fun _ => 0) 142)).alloc (.cells (setV fun _ => 0) 142)).heap[gb]? = some (.cells (setV fun _ => 0) 142 (0, 0)))) := ⟨by rw [← hgb]; exact blk_old (heap_alloc_new w _)⟩
  have hz1 : As ((((w.alloc (.cells (setV fun _ => 0) 142)).alloc (.cells (setV fun _ => 0) 142)).heap[gb + 1]? = some (.cells (setV fun _ => 0) 142 (0, 0)))) := ⟨by rw [← hgb]; exact blk_new1 w _ _⟩
  have hzB : As (Below gb w ((w.alloc (.cells (setV fun _ => 0) 142)).alloc (.cells (setV fun _ => 0) 142))) := ⟨by rw [← hgb]; exact ((Below.refl _ _).alloc (Nat.le_refl _) _).alloc (by simp) _⟩
  obtain ⟨W0, hW0⟩ : ∃ W, (w.alloc (.cells (setV fun _ => 0) 142)).alloc (.cells (setV fun _ => 0) 142) = W := ⟨_, rfl⟩
  rw [hW0] at hz0 hz1 hzB
  rw [show (w.alloc (.cells #[.int .u64 0, .int .u64 0, .int .u64 0, .int .u64 0] 142)).alloc (.cells #[.int .u64 0, .int .u64 0, .int .u64 0, .int .u64 0] 142) = W0 from hW0]
  rw [hgb]
  replace hgb := As.mk hgb
  clear hW0
  go_loopg [8] (n + 1) (fun gk i wr => ∃ (k : Nat) (ws : Nat → Nat), As (n + 1 ≤ gk + k) ∧ k ≤ n ∧ i = .int .i64 k ∧ As (wr.heap[gb]? = some (.cells (setV fun _ => 0) 142 (0, 0))) ∧ As (wr.heap[gb + 1]? = some (.cells (setV ws) 142 (0, 0))) ∧ As (IsSet ws fun d => decide (d ∈ b.take k)) ∧ As (Below gb w wr))
  case atStart => exact ⟨0, _, ⟨by omega⟩, Nat.zero_le _, rfl, hz0, hz1, hs0, hzB⟩
  case round =>
    obtain ⟨k, ws, hgk, hk, rfl, h0, h1, his, hbel⟩ := hrel
    have c0 : wr.cell? ⟨gb + 1, 0, none⟩ = some (.int .u64 (ws 0 : Int)) := cell_of_blk h1.out 0
    have c1 : wr.cell? ⟨gb + 1, 1, none⟩ = some (.int .u64 (ws 1 : Int)) := cell_of_blk h1.out 1
    have c2 : wr.cell? ⟨gb + 1, 2, none⟩ = some (.int .u64 (ws 2 : Int)) := cell_of_blk h1.out 2
    have c3 : wr.cell? ⟨gb + 1, 3, none⟩ = some (.int .u64 (ws 3 : Int)) := cell_of_blk h1.out 3
    by_cases hlt : k < n
    · obtain ⟨gp, rfl⟩ : ∃ gp, gk = gp + 1 := ⟨gk - 1, by have := hgk.out; omega⟩
      have hHB := Row.below HB.out (show Below w.heap.size w wr by rw [hgb.out]; exact hbel.out)
      obtain ⟨ad, rfl, ca⟩ := Byt.at_ hHB (i := k) (by rw [hn.out]; exact hlt)
      have hnx := As.mk (hst.out k hlt ws his.out)
      obtain ⟨x, hx⟩ : ∃ x, b.getD k 0 = x := ⟨_, rfl⟩
      rw [hx] at ca hnx
      have cw := As.mk (with_calls wr ws his.out.1 x)
      unfold setV at cw
      have hgs : gb ≤ wr.heap.size := by have := hbel.out.size; have := hgb.out; omega
      clear hHB hx
      have inf : (Tryz.prog.info? 142).map (·.size) = some 4 := by kernel_rfl
      go_wp2_with (first | (go_at_call 89; refine Calls.mono cw.out ?_; rintro e w1 ⟨rfl, hb1⟩; have q1 := As.mk (blkBelow hb1 h1.out); have q0 := As.mk (blkBelow hb1 h0.out); have hb2 := As.mk (hbel.out.trans (hb1.mono hgs)); clear hb1) | (refine wpList_store_mid (w := w1) rfl 142 (.tmp 3) (.tmp 14) rfl (gb + 1) 0 (setV (withF ws x)) rfl rfl (there_blk q1.out (by simp [setV])) inf (setV_one _) ?_))
      go_roundg gp
      case measure => exact Nat.lt_succ_self _
      case rel => exact ⟨k + 1, withF ws x, ⟨by have := hgk.out; omega⟩, hlt, (by first | rfl | go_num | (congr 1; omega)), ⟨far_sets (by omega) _ _ q0.out⟩, ⟨blk_all q1.out (by simp [setV])⟩, hnx, ⟨below_sets (by omega) _ _ hb2.out⟩⟩
    · obtain rfl : k = n := by omega
      have inf : (Tryz.prog.info? 142).map (·.size) = some 4 := by kernel_rfl
      have hq0 := blk_all (d := setV ws) h0.out (by simp [setV])
      have hl0 := below_sets (base := gb) (Nat.le_refl gb) (setV ws).toList 0 hbel.out
      go_wp2_with (refine wpList_store_mid (w := wr) rfl 142 (.tmp 2) (.tmp 16) rfl gb 0 (setV ws) rfl rfl (there_blk h0.out (by simp [setV])) inf (setV_one _) ?_; generalize wr.setCells gb 0 (setV ws).toList = W9 at hq0 hl0 ⊢; have e0 : W9.cell? ⟨gb, 0, none⟩ = some (.int .u64 (ws 0 : Int)) := cell_of_blk hq0 0; have e1 : W9.cell? ⟨gb, 1, none⟩ = some (.int .u64 (ws 1 : Int)) := cell_of_blk hq0 1; have e2 : W9.cell? ⟨gb, 2, none⟩ = some (.int .u64 (ws 2 : Int)) := cell_of_blk hq0 2; have e3 : W9.cell? ⟨gb, 3, none⟩ = some (.int .u64 (ws 3 : Int)) := cell_of_blk hq0 3; replace hq0 := As.mk hq0; replace hl0 := As.mk hl0)
      refine bodyPost_ret (v := .agg (setV ws)) ?_ rfl ⟨ws, rfl, hfin.out ws his.out, by rw [hgb.out]; exact hl0.out⟩
      simp [results, Tryz.results69, go_sem, e0, e1, e2, e3, setV]
end Go.Proofs.YtdiljmhikajjiaaGreat
end
section
set_option linter.unusedVariables false
set_option linter.unusedSimpArgs false
namespace Go.Proofs.YtdiljmhikajjiaaGreat
open Go.RowKit Seine.Trie Seine.Dfa
theorem info_u64 : (Tryz.prog.info? 140).map (fun i => (i.zero, i.size, i.bytes)) = some (some (.int .u64 0), 1, 8) := by kernel_rfl
theorem eqSet (d : Nat) (w : World) (x0 x1 x2 x3 y0 y1 y2 y3 : Int) :
    (Op.equalIn (d + 2) 142 (.agg #[.int .u64 x0, .int .u64 x1, .int .u64 x2, .int .u64 x3]) (.agg #[.int .u64 y0, .int .u64 y1, .int .u64 y2, .int .u64 y3])).run Tryz.prog w = .ok (x0 == y0 && (x1 == y1 && (x2 == y2 && (x3 == y3)))) w := by
  obtain ⟨i0, hi, _⟩ := info_parts info_u64
  have h1 : Tryz.prog.cellsOf 140 = 1 := by kernel_rfl
  rw [run_equalIn_array (P := Tryz.prog) w (d + 1) _ _ Tryz.underlying142 hi, h1]
  have hr : List.range 4 = [0, 1, 2, 3] := rfl
  have p0 : ∀ a b c e : Int, (part 140 #[.int .u64 a, .int .u64 b, .int .u64 c, .int .u64 e] (0 * 1)).run Tryz.prog w = .ok (.int .u64 a) w := fun a b c e => by go_simp
  have p1 : ∀ a b c e : Int, (part 140 #[.int .u64 a, .int .u64 b, .int .u64 c, .int .u64 e] (1 * 1)).run Tryz.prog w = .ok (.int .u64 b) w := fun a b c e => by go_simp
  have p2 : ∀ a b c e : Int, (part 140 #[.int .u64 a, .int .u64 b, .int .u64 c, .int .u64 e] (2 * 1)).run Tryz.prog w = .ok (.int .u64 c) w := fun a b c e => by go_simp
  have p3 : ∀ a b c e : Int, (part 140 #[.int .u64 a, .int .u64 b, .int .u64 c, .int .u64 e] (3 * 1)).run Tryz.prog w = .ok (.int .u64 e) w := fun a b c e => by go_simp
  have e0 : ∀ a b : Int, (Op.equalIn (d + 1) 140 (.int .u64 a) (.int .u64 b)).run Tryz.prog w = .ok (a == b) w := fun a b => by go_simp
  rw [hr]
  simp only [Op.eqItems, Sem.run_bind, p0, p1, p2, p3, e0, Result.andThen_ok]
  have q1 : ∀ a b c e : Int, (part 140 #[.int .u64 a, .int .u64 b, .int .u64 c, .int .u64 e] 1).run Tryz.prog w = .ok (.int .u64 b) w := p1
  have q2 : ∀ a b c e : Int, (part 140 #[.int .u64 a, .int .u64 b, .int .u64 c, .int .u64 e] 2).run Tryz.prog w = .ok (.int .u64 c) w := p2
  have q3 : ∀ a b c e : Int, (part 140 #[.int .u64 a, .int .u64 b, .int .u64 c, .int .u64 e] 3).run Tryz.prog w = .ok (.int .u64 e) w := p3
  cases h : (x0 == y0)
  · simp
  · cases h2 : (x1 == y1)
    · simp [q1, e0, h2]
    · cases h3 : (x2 == y2)
      · simp [q1, q2, e0, h2, h3]
      · cases h4 : (x3 == y3) <;> simp [q1, q2, q3, e0, h2, h3, h4]
attribute [local go_sem high] eqSet
theorem listTo_nil {q : UInt8 → Bool} (h : ∀ c, q c = false) (k : Nat) : listTo q k = [] := by
  unfold listTo
  rw [List.filter_eq_nil_iff]
  intro c _; rw [h c]; simp
theorem listTo_congr {q r : UInt8 → Bool} (h : ∀ c, q c = r c) (k : Nat) : listTo q k = listTo r k := by
  rw [show q = r from funext h]
set_option maxRecDepth 100000 in
set_option maxHeartbeats 800000 in
theorem list_calls (w : World) (ws : Nat → Nat) (hs : Small ws) :
    Calls Tryz.prog 70 #[.agg (setV ws)] w (RetByt w (listTo (memS ws) 256)) := by
  obtain ⟨R, hR⟩ : ∃ R, listTo (memS ws) 256 = R := ⟨_, rfl⟩
  rw [hR]
  have hzero : As ((ws 0 : Int) = 0 → (ws 1 : Int) = 0 → (ws 2 : Int) = 0 → (ws 3 : Int) = 0 → R = []) := ⟨fun a b c d => by
    rw [← hR]
    refine listTo_nil (fun x => ?_) _
    have hx := x.toNat_lt
    unfold memS
    have : ws (x.toNat / 64) = 0 := by
      rcases (show x.toNat / 64 = 0 ∨ x.toNat / 64 = 1 ∨ x.toNat / 64 = 2 ∨ x.toNat / 64 = 3 by omega) with h | h | h | h <;> rw [h] <;> omega
    rw [this]; simp⟩
  replace hR := As.mk hR
  have hs := As.mk hs
  obtain ⟨gb, hgb⟩ : ∃ g, w.heap.size = g := ⟨_, rfl⟩
  have hz0 : As ((w.alloc (.cells (setV ws) 142)).heap[gb]? = some (.cells (setV ws) 142 (0, 0))) := ⟨by rw [← hgb]; exact heap_alloc_new w _⟩
  have hzB : As (Below gb w (w.alloc (.cells (setV ws) 142))) := ⟨by rw [← hgb]; exact (Below.refl _ _).alloc (Nat.le_refl _) _⟩
  have hzs : (w.alloc (.cells (setV ws) 142)).heap.size = gb + 1 := by rw [← hgb]; simp
  obtain ⟨W0, hW0⟩ : ∃ W, w.alloc (.cells (setV ws) 142) = W := ⟨_, rfl⟩
  rw [hW0] at hz0 hzB hzs
  have hW0' := show w.alloc (.cells #[.int .u64 (ws 0 : Int), .int .u64 (ws 1 : Int), .int .u64 (ws 2 : Int), .int .u64 (ws 3 : Int)] 142) = W0 from hW0
  clear hW0
  have c0 : W0.cell? ⟨gb, 0, none⟩ = some (.int .u64 (ws 0 : Int)) := cell_of_blk hz0.out 0
  have c1 : W0.cell? ⟨gb, 1, none⟩ = some (.int .u64 (ws 1 : Int)) := cell_of_blk hz0.out 1
  have c2 : W0.cell? ⟨gb, 2, none⟩ = some (.int .u64 (ws 2 : Int)) := cell_of_blk hz0.out 2
  have c3 : W0.cell? ⟨gb, 3, none⟩ = some (.int .u64 (ws 3 : Int)) := cell_of_blk hz0.out 3
  have hsV : setV ws = #[.int .u64 (ws 0 : Int), .int .u64 (ws 1 : Int), .int .u64 (ws 2 : Int), .int .u64 (ws 3 : Int)] := rfl
  rw [hsV]
  clear hsV
  generalize hx0 : (ws 0 : Int) = x0 at *
  generalize hx1 : (ws 1 : Int) = x1 at *
  generalize hx2 : (ws 2 : Int) = x2 at *
  generalize hx3 : (ws 3 : Int) = x3 at *
  replace hx0 := As.mk hx0
  replace hx1 := As.mk hx1
  replace hx2 := As.mk hx2
  replace hx3 := As.mk hx3
  cases hz : (x0 == 0 && (x1 == 0 && (x2 == 0 && x3 == 0)))
  · go_enter Tryz.func70, Tryz.ntmps70
    go_wp2_with (rw [hW0'])
    clear hW0' hz
    go_loopw [3, 8] (fun v i wr => ∃ k : Nat, k ≤ 256 ∧ i = .int .i64 k ∧ As (OwnByt wr (gb + 1) v (listTo (memS ws) k)) ∧ As (Below (gb + 1) W0 wr)) (fun _ i _ => 256 - (intOf i).toNat)
    case atStart => exact ⟨0, by omega, rfl, ⟨World.ownsRow_nil _ _ _ _⟩, ⟨Below.refl _ _⟩⟩
    case round =>
      obtain ⟨k, hk, rfl, hown, hbel⟩ := hrel
      have hsz := hbel.out.size
      rw [hzs] at hsz
      have hbl : As (wr.heap[gb]? = some (.cells (setV ws) 142 (0, 0))) := ⟨by rw [hbel.out.block gb (by omega)]; exact hz0.out⟩
      have d0 : wr.cell? ⟨gb, 0, none⟩ = some (.int .u64 x0) := by rw [← hx0.out]; exact cell_of_blk hbl.out 0
      have d1 : wr.cell? ⟨gb, 1, none⟩ = some (.int .u64 x1) := by rw [← hx1.out]; exact cell_of_blk hbl.out 1
      have d2 : wr.cell? ⟨gb, 2, none⟩ = some (.int .u64 x2) := by rw [← hx2.out]; exact cell_of_blk hbl.out 2
      have d3 : wr.cell? ⟨gb, 3, none⟩ = some (.int .u64 x3) := by rw [← hx3.out]; exact cell_of_blk hbl.out 3
      by_cases hlt : k < 256
      · have hcb : ((UInt8.ofNat k).toNat : Int) = (k : Int) := by simp; omega
        have hc := As.mk (has_calls wr ws hs.out (UInt8.ofNat k) (k : Int) hcb.symm)
        have hsV : setV ws = #[.int .u64 x0, .int .u64 x1, .int .u64 x2, .int .u64 x3] := by rw [← hx0.out, ← hx1.out, ← hx2.out, ← hx3.out]; rfl
        rw [hsV] at hc
        clear hsV
        have hst := As.mk (listTo_succ (memS ws) k)
        have hlen := listTo_len (memS ws) k
        generalize listTo (memS ws) k = acc at *
        cases hm : memS ws (UInt8.ofNat k)
        · rw [hm] at hst hc
          have hst : As (listTo (memS ws) (k + 1) = acc) := ⟨by have := hst.out; simpa using this⟩
          clear hcb hm
          go_wp2_with (go_at_call 90; refine Calls.mono hc.out ?_; rintro e w1 ⟨rfl, hb1⟩; have hb1 := As.mk hb1)
          go_roundw
          case rel => exact ⟨k + 1, by omega, by go_num, ⟨by rw [hst.out]; exact own_below hown.out hb1.out⟩, ⟨below_lift hbel.out hb1.out hsz⟩⟩
          case measure => simp [intOf]; omega
        · rw [hm] at hst hc
          have hst : As (listTo (memS ws) (k + 1) = acc ++ [UInt8.ofNat k]) := ⟨by have := hst.out; simpa using this⟩
          have hcb := As.mk hcb
          clear hm
          go_wp2_with (first
            | (go_at_call 90; refine Calls.mono hc.out ?_; rintro e w1 ⟨rfl, hb1⟩; have hown1 := As.mk (own_below hown.out hb1); have hb1 := As.mk (below_lift hbel.out hb1 hsz))
            | (at_builtin
               refine wpList_app1 _ rfl (.tmp 15) (.tmp 18) 23 rfl (gb + 1) 5 _ 1 1 Tryz.underlying23 info_u8 rfl (by decide) _ acc.length (byCells acc) rfl hown1.out [.int .u8 (k : Int)] rfl (by simp [Value.oneCell']) _ rfl (by simp) (by omega) (by decide) (by have := hb1.out.size; omega) ?_
               intro v' w2 ho2 hk2 hat2 hb2))
          go_roundw
          case rel => exact ⟨k + 1, by omega, by go_num, ⟨by rw [hst.out]; refine ownByt_snoc ?_; rw [hcb.out]; exact ho2⟩, ⟨hb1.out.trans hb2⟩⟩
          case measure => simp [intOf]; omega
      · have hk2 : k = 256 := by omega
        rw [hk2, hR.out] at hown
        clear hk2
        go_wp2
        go_ret
        exact ⟨_, rfl, by rw [hgb]; exact own_base hown.out (Nat.le_succ _), by rw [hgb]; exact hzB.out.trans (hbel.out.mono (Nat.le_succ _))⟩
  · have hRn : R = [] := by
      simp only [Bool.and_eq_true, beq_iff_eq] at hz
      exact hzero.out hz.1 hz.2.1 hz.2.2.1 hz.2.2.2
    have hRn := As.mk hRn
    go_enter Tryz.func70, Tryz.ntmps70
    go_wp2_with (rw [hW0'])
    go_ret
    refine ⟨_, rfl, ?_, by rw [hgb]; exact hzB.out⟩
    rw [hRn.out]
    exact World.ownsRow_nil _ _ _ _
end Go.Proofs.YtdiljmhikajjiaaGreat
end
section
set_option linter.unusedVariables false
set_option linter.unusedSimpArgs false
namespace Go.Proofs.YtdiljmhikajjiaaGreat
open Go.RowKit Seine.Trie Seine.Dfa
/-- Classes as the program keeps them: F says each byte's, n how many. -/
def clsCells (F : UInt8 → Nat) (n : Nat) : List Value := (List.range 256).map (fun i => Value.int .i64 (F (UInt8.ofNat i) : Int)) ++ [.int .i64 (n : Int)]
theorem clsCells_length (F : UInt8 → Nat) (n : Nat) : (clsCells F n).length = 257 := by simp [clsCells]
theorem clsCells_at (F : UInt8 → Nat) (n : Nat) (c : UInt8) : (clsCells F n)[c.toNat]? = some (.int .i64 (F c : Int)) := by
  unfold clsCells
  rw [List.getElem?_append_left (by simpa using c.toNat_lt), List.getElem?_map, List.getElem?_range c.toNat_lt]; simp
theorem clsCells_n (F : UInt8 → Nat) (n : Nat) : (clsCells F n)[256]? = some (.int .i64 (n : Int)) := by
  unfold clsCells
  rw [List.getElem?_append_right (by simp)]; simp
def clsV (F : UInt8 → Nat) (n : Nat) : Array Value := (clsCells F n).toArray
set_option maxRecDepth 100000 in
theorem class_calls (w : World) (F : UInt8 → Nat) (n : Nat) (c : UInt8) (x : Int) (hx : x = (c.toNat : Int)) :
    Calls Tryz.prog 75 #[.agg (clsV F n), .int .u8 x] w fun e w' => e = .returned (.int .i64 (F c : Int)) ∧ Below w.heap.size w w' := by
  subst hx
  have hc := c.toNat_lt
  obtain ⟨C, hC⟩ : ∃ C, clsV F n = C := ⟨_, rfl⟩
  have hs : C.size = 257 := by rw [← hC]; simp [clsV, clsCells_length]
  have hat : C[c.toNat]? = some (.int .i64 (F c : Int)) := by rw [← hC]; simp [clsV, clsCells_at]
  rw [hC]
  obtain ⟨gb, hgb⟩ : ∃ g, w.heap.size = g := ⟨_, rfl⟩
  have hz0 : (w.alloc (.cells C 103)).heap[gb]? = some (.cells C 103 (0, 0)) := by rw [← hgb]; exact heap_alloc_new w _
  have hcell : (w.alloc (.cells C 103)).cell? ⟨gb, c.toNat, none⟩ = some (.int .i64 (F c : Int)) := by rw [cell_of_blk hz0]; exact hat
  have hB : Below w.heap.size w (w.alloc (.cells C 103)) := (Below.refl _ _).alloc (Nat.le_refl _) _
  clear hC hz0
  go_enter Tryz.func75, Tryz.ntmps75
  go_wp2
  go_ret
  exact ⟨rfl, hB⟩
set_option maxRecDepth 100000 in
theorem clen_calls (w : World) (F : UInt8 → Nat) (n : Nat) (hn : n ≤ 256) :
    Calls Tryz.prog 71 #[.agg (clsV F n)] w fun e w' => e = .returned (.int .i64 ((n + 1 : Nat) : Int)) ∧ Below w.heap.size w w' := by
  obtain ⟨C, hC⟩ : ∃ C, clsV F n = C := ⟨_, rfl⟩
  have hs : C.size = 257 := by rw [← hC]; simp [clsV, clsCells_length]
  have hat : C[256]? = some (.int .i64 (n : Int)) := by rw [← hC]; simp [clsV, clsCells_n]
  rw [hC]
  obtain ⟨gb, hgb⟩ : ∃ g, w.heap.size = g := ⟨_, rfl⟩
  have hz0 : (w.alloc (.cells C 103)).heap[gb]? = some (.cells C 103 (0, 0)) := by rw [← hgb]; exact heap_alloc_new w _
  have hcell : (w.alloc (.cells C 103)).cell? ⟨gb, 256, none⟩ = some (.int .i64 (n : Int)) := by rw [cell_of_blk hz0]; exact hat
  have hB : Below w.heap.size w (w.alloc (.cells C 103)) := (Below.refl _ _).alloc (Nat.le_refl _) _
  clear hC hz0
  go_enter Tryz.func71, Tryz.ntmps71
  go_wp2
  go_ret
  exact ⟨by push_cast; rfl, hB⟩
theorem zero_cls : (∀ w, (zeroValue 103).run Tryz.prog w = .ok (.agg (clsV (fun _ => 0) 0)) w) ∧ (Tryz.prog.info? 103).map (·.size) = some 257 :=
  zero_of_info (by kernel_rfl)
theorem clsV_size (F : UInt8 → Nat) (n : Nat) : (clsV F n).size = 257 := by simp [clsV, clsCells_length]
theorem clsV_one (F : UInt8 → Nat) (n : Nat) : (clsV F n).all (·.oneCell') = true := by
  refine all_oneCell_toArray ?_
  intro v hv
  unfold clsCells at hv
  rcases List.mem_append.1 hv with h | h
  · obtain ⟨i, _, rfl⟩ := List.mem_map.1 h; rfl
  · rw [List.mem_singleton.1 h]; rfl
theorem store_set {w : World} {b t : Nat} {C : Array Value} (h : w.heap[b]? = some (.cells C t (0, 0))) (hs : C.size = 4) (us : Nat → Nat) :
    (storeCells ⟨b, 0, none⟩ (setV us).toList 0).run Tryz.prog w = .ok () (w.setCells b 0 (setV us).toList) := by
  have ht : w.there b 0 4 := there_blk h (by omega)
  have h4 : (setV us).toList.length = 4 := rfl
  have := run_storeCells_cells (P := Tryz.prog) b 0 (setV us).toList 0 w (fun j hj => by simpa using (ht j (by omega)).1) (fun j hj => by simpa using (ht j (by omega)).2)
    (fun v hv => (Array.all_eq_true_iff_forall_mem.1 (setV_one us)) v (by simpa using hv))
  simpa using this
theorem clsCells_get (F : UInt8 → Nat) (n : Nat) {i : Nat} (hi : i < 256) : (clsCells F n)[i]? = some (.int .i64 (F (UInt8.ofNat i) : Int)) := by
  unfold clsCells
  rw [List.getElem?_append_left (by simpa using hi), List.getElem?_map, List.getElem?_range hi]; rfl
theorem clsV_setN (F : UInt8 → Nat) (n m : Nat) : (clsV F n).setIfInBounds 256 (.int .i64 (m : Int)) = clsV F m := by
  apply Array.toList_inj.1
  rw [Array.toList_setIfInBounds]
  unfold clsV
  apply List.ext_getElem?
  intro i
  rw [List.getElem?_set]
  by_cases h : 256 = i
  · subst h
    show _ = (clsCells F m)[256]?
    rw [clsCells_n F m]; simp [clsCells_length]
  · rw [if_neg h]
    by_cases hi : i < 256
    · show (clsCells F n)[i]? = (clsCells F m)[i]?
      rw [clsCells_get _ _ hi, clsCells_get _ _ hi]
    · rw [List.getElem?_eq_none (by simp [clsCells_length]; omega), List.getElem?_eq_none (by simp [clsCells_length]; omega)]
theorem clsV_setF (F G : UInt8 → Nat) (n m : Nat) (b : UInt8) (h : ∀ c, G c = if c = b then m else F c) : (clsV F n).setIfInBounds b.toNat (.int .i64 (m : Int)) = clsV G n := by
  have hb := b.toNat_lt
  apply Array.toList_inj.1
  rw [Array.toList_setIfInBounds]
  unfold clsV
  apply List.ext_getElem?
  intro i
  rw [List.getElem?_set]
  by_cases hi : i < 256
  · show _ = (clsCells G n)[i]?
    rw [clsCells_get G n hi, h]
    by_cases hbi : b.toNat = i
    · have : UInt8.ofNat i = b := by rw [← hbi]; simp
      rw [if_pos hbi, if_pos this, if_pos (by simp [clsCells_length]; omega)]
    · rw [if_neg hbi, if_neg (fun e => hbi (by rw [← e]; simp; omega))]
      exact clsCells_get _ _ hi
  · rw [if_neg (by omega)]
    by_cases h2 : i = 256
    · subst h2
      show (clsCells F n)[256]? = (clsCells G n)[256]?
      rw [clsCells_n, clsCells_n]
    · rw [List.getElem?_eq_none (by simp [clsCells_length]; omega), List.getElem?_eq_none (by simp [clsCells_length]; omega)]
theorem stands_take {l : List Txt} {k : Nat} (hk : k < l.length) (d : UInt8) : stands (l.take (k + 1)) d = (stands (l.take k) d || decide (d ∈ l.getD k [])) := by
  rw [List.take_succ_eq_append_getElem hk, stands_snoc]; simp [hk]
set_option maxRecDepth 100000 in
set_option maxHeartbeats 1600000 in
theorem cof_calls (w : World) (A : Option Addr) (c : Nat) (l : List Txt) (htx : Txts w A l) (hl : ∀ t ∈ l, t.length ≤ 1000000) (hll : l.length ≤ 1000000) :
    Calls Tryz.prog 46 #[.slice A l.length c] w fun e w' => e = .returned (.agg (clsV (clsF l) (listTo (stands l) 256).length)) ∧ Below w.heap.size w w' := by
  have HX := As.mk htx
  have hl := As.mk hl
  have hstep := As.mk (fun k (hk : k < l.length) d => stands_take hk d)
  obtain ⟨n, hn⟩ : ∃ n, l.length = n := ⟨_, rfl⟩
  rw [hn] at hll ⊢
  replace hn := As.mk hn
  have hzv := zero_cls.1
  obtain ⟨Z, hZ⟩ : ∃ Z, clsV (fun _ => 0) 0 = Z := ⟨_, rfl⟩
  rw [hZ] at hzv
  replace hZ := As.mk hZ
  clear htx
  go_enter Tryz.func46, Tryz.ntmps46
  go_wp2
  obtain ⟨gb, hgb⟩ : ∃ g, w.heap.size = g := ⟨_, rfl⟩
  have hz0 : As ((((w.alloc (.cells Z 103)).alloc (.cells (setV fun _ => 0) 142)).heap[gb]? = some (.cells Z 103 (0, 0)))) := ⟨by rw [← hgb]; exact blk_old (heap_alloc_new w _)⟩
  have hz1 : As ((((w.alloc (.cells Z 103)).alloc (.cells (setV fun _ => 0) 142)).heap[gb + 1]? = some (.cells (setV fun _ => 0) 142 (0, 0)))) := ⟨by rw [← hgb]; exact blk_new1 w _ _⟩
  have hzB : As (Below gb w ((w.alloc (.cells Z 103)).alloc (.cells (setV fun _ => 0) 142))) := ⟨by rw [← hgb]; exact ((Below.refl _ _).alloc (Nat.le_refl _) _).alloc (by simp) _⟩
  obtain ⟨W0, hW0⟩ : ∃ W, (w.alloc (.cells Z 103)).alloc (.cells (setV fun _ => 0) 142) = W := ⟨_, rfl⟩
  rw [hW0] at hz0 hz1 hzB
  rw [show (w.alloc (.cells Z 103)).alloc (.cells #[.int .u64 0, .int .u64 0, .int .u64 0, .int .u64 0] 142) = W0 from hW0]
  rw [hgb]
  replace hgb := As.mk hgb
  clear hW0
  go_loopg [11] (n + 1) (fun gk i wr => ∃ (k : Nat) (ws : Nat → Nat), As (n + 1 ≤ gk + k) ∧ k ≤ n ∧ i = .int .i64 k ∧ As (wr.heap[gb]? = some (.cells Z 103 (0, 0))) ∧ As (wr.heap[gb + 1]? = some (.cells (setV ws) 142 (0, 0))) ∧ As (IsSet ws fun d => stands (l.take k) d) ∧ As (Below gb w wr))
  case atStart => exact ⟨0, _, ⟨by omega⟩, Nat.zero_le _, rfl, hz0, hz1, ⟨by simpa [stands] using IsSet.none⟩, hzB⟩
  case round =>
    obtain ⟨k, ws, hgk, hk, rfl, h0, h1, his, hbel⟩ := hrel
    by_cases hlt : k < n
    · obtain ⟨gp, rfl⟩ : ∃ gp, gk = gp + 1 := ⟨gk - 1, by have := hgk.out; omega⟩
      have hHB := HX.out.below (show Below w.heap.size w wr by rw [hgb.out]; exact hbel.out)
      have hkl : k < l.length := by rw [hn.out]; exact hlt
      obtain ⟨ad, A', c', rfl, ca, hc', hrw⟩ := hHB.at_ hkl
      have hnx := As.mk (hstep.out k hkl)
      have hlt2 : As ((l.getD k []).length ≤ 1000000) := ⟨hl.out _ (by rw [List.getD_eq_getElem?_getD, List.getElem?_eq_getElem hkl]; exact List.getElem_mem hkl)⟩
      obtain ⟨t, ht⟩ : ∃ t, l.getD k [] = t := ⟨_, rfl⟩
      rw [ht] at ca hc' hrw hnx hlt2
      replace hrw := As.mk hrw
      replace hc' := As.mk hc'
      have hgs : gb ≤ wr.heap.size := by have := hbel.out.size; have := hgb.out; omega
      clear hHB ht hkl
      have cof := As.mk (fun v (hv : Below wr.heap.size wr v) => fof_calls v A' c' t (Row.below hrw.out hv) hlt2.out)
      have cun := As.mk (fun v (vs : Nat → Nat) (hv : Small vs) => union_calls v ws vs his.out.1 hv)
      have hsV : setV ws = #[.int .u64 (ws 0 : Int), .int .u64 (ws 1 : Int), .int .u64 (ws 2 : Int), .int .u64 (ws 3 : Int)] := rfl
      rw [hsV] at cun
      have c0 : wr.cell? ⟨gb + 1, 0, none⟩ = some (.int .u64 (ws 0 : Int)) := cell_of_blk h1.out 0
      have c1 : wr.cell? ⟨gb + 1, 1, none⟩ = some (.int .u64 (ws 1 : Int)) := cell_of_blk h1.out 1
      have c2 : wr.cell? ⟨gb + 1, 2, none⟩ = some (.int .u64 (ws 2 : Int)) := cell_of_blk h1.out 2
      have c3 : wr.cell? ⟨gb + 1, 3, none⟩ = some (.int .u64 (ws 3 : Int)) := cell_of_blk h1.out 3
      have inf : (Tryz.prog.info? 142).map (·.size) = some 4 := by kernel_rfl
      go_wp2_with fail
      go_region_with (first
        | (go_at_call 69; (with_reducible refine Calls.mono (cof.out _ ?hb) ?_); (case hb => (repeat (first | (with_reducible assumption) | (with_reducible exact Below.refl _ _) | (with_reducible refine Below.drew ?_) | (with_reducible refine below_drewN ?_ _) | (with_reducible refine Below.alloc ?_ (by (first | omega | (simp only [World.size_alloc, World.size_drew]; done) | (simp only [World.size_alloc, World.size_drew]; omega))) _) | (refine Below.trans ?_ (Below.mono (by with_reducible assumption) (by (first | omega | (simp only [World.size_alloc, World.size_drew]; done) | (simp only [World.size_alloc, World.size_drew]; omega)))))))); intro e w1 hh; obtain ⟨vs, he, hvs, hb1⟩ := hh; subst he; have hb1' : Below wr.heap.size wr w1 := (by (repeat (first | (with_reducible assumption) | (with_reducible exact Below.refl _ _) | (with_reducible refine Below.drew ?_) | (with_reducible refine below_drewN ?_ _) | (with_reducible refine Below.alloc ?_ (by (first | omega | (simp only [World.size_alloc, World.size_drew]; done) | (simp only [World.size_alloc, World.size_drew]; omega))) _) | (refine Below.trans ?_ (Below.mono (by with_reducible assumption) (by (first | omega | (simp only [World.size_alloc, World.size_drew]; done) | (simp only [World.size_alloc, World.size_drew]; omega)))))))); clear hb1; have q1 := As.mk (blkBelow hb1' h1.out); have e0 : w1.cell? ⟨gb + 1, 0, none⟩ = some (.int .u64 (ws 0 : Int)) := cell_of_blk q1.out 0; have e1 : w1.cell? ⟨gb + 1, 1, none⟩ = some (.int .u64 (ws 1 : Int)) := cell_of_blk q1.out 1; have e2 : w1.cell? ⟨gb + 1, 2, none⟩ = some (.int .u64 (ws 2 : Int)) := cell_of_blk q1.out 2; have e3 : w1.cell? ⟨gb + 1, 3, none⟩ = some (.int .u64 (ws 3 : Int)) := cell_of_blk q1.out 3; have hvs' := As.mk hvs; clear hvs; have hb1 := As.mk hb1'; clear hb1')
        | (go_at_call 68; refine Calls.mono (cun.out _ vs hvs'.out.1) ?_; rintro e w2 ⟨rfl, hb2⟩; have q2 := blkBelow hb2 q1.out; have hsc := store_set q2 (by rfl) (fun i => ws i ||| vs i); have hb2' : Below wr.heap.size wr w2 := hb1.out.trans (hb2.mono hb1.out.size); replace q2 := As.mk q2; clear hb2; have hb2 := As.mk hb2'; clear hb2'))
      all_goals
        go_wp2_with fail
        go_roundg gp
        case measure => exact Nat.lt_succ_self _
        case rel =>
          have hun := his.out.union hvs'.out
          exact ⟨k + 1, fun i => ws i ||| vs i, ⟨by have := hgk.out; omega⟩, hlt, (by first | rfl | go_num | (congr 1; omega)), ⟨far_sets (by omega) _ _ (blkBelow hb2.out h0.out)⟩, ⟨blk_all q2.out (by simp [setV])⟩, ⟨⟨hun.1, fun d => (hun.2 d).trans (hnx.out d).symm⟩⟩, ⟨below_sets (by omega) _ _ (hbel.out.trans (hb2.out.mono hgs))⟩⟩
    · obtain rfl : k = n := by omega
      clear hlt hk hgk
      have hst : As (IsSet ws (stands l)) := ⟨by have := his.out; rw [← hn.out, List.take_length] at this; exact this⟩
      have hR : As (listTo (memS ws) 256 = listTo (stands l) 256) := ⟨by rw [listTo_congr hst.out.2]⟩
      obtain ⟨R, hRR⟩ : ∃ R, listTo (stands l) 256 = R := ⟨_, rfl⟩
      obtain ⟨g6, hg6⟩ : ∃ g, wr.heap.size = g := ⟨_, rfl⟩
      have hg6b : gb + 1 < g6 := by rw [← hg6]; exact block_lt h1.out
      have v0 : As ((wr.alloc (.cells Z 103)).heap[gb]? = some (.cells Z 103 (0, 0))) := ⟨blk_old h0.out⟩
      have v1 : As ((wr.alloc (.cells Z 103)).heap[gb + 1]? = some (.cells (setV ws) 142 (0, 0))) := ⟨blk_old h1.out⟩
      have v6 : As ((wr.alloc (.cells Z 103)).heap[g6]? = some (.cells Z 103 (0, 0))) := ⟨by rw [← hg6]; exact heap_alloc_new wr _⟩
      have vB : As (Below gb w (wr.alloc (.cells Z 103))) := ⟨hbel.out.alloc (by omega) _⟩
      have vs6 : (wr.alloc (.cells Z 103)).heap.size = g6 + 1 := by simp; exact hg6
      obtain ⟨W1, hW1⟩ : ∃ W, wr.alloc (.cells Z 103) = W := ⟨_, rfl⟩
      rw [hW1] at v0 v1 v6 vB vs6
      have c0 : W1.cell? ⟨gb + 1, 0, none⟩ = some (.int .u64 (ws 0 : Int)) := cell_of_blk v1.out 0
      have c1 : W1.cell? ⟨gb + 1, 1, none⟩ = some (.int .u64 (ws 1 : Int)) := cell_of_blk v1.out 1
      have c2 : W1.cell? ⟨gb + 1, 2, none⟩ = some (.int .u64 (ws 2 : Int)) := cell_of_blk v1.out 2
      have c3 : W1.cell? ⟨gb + 1, 3, none⟩ = some (.int .u64 (ws 3 : Int)) := cell_of_blk v1.out 3
      have cli := list_calls W1 ws hst.out.1
      rw [hR.out, hRR] at cli
      replace cli := As.mk cli
      replace hRR := As.mk hRR
      clear hR
      go_wp2_with (first | (rw [hW1]) | (rw [hg6]) | (go_at_call 70; refine Calls.mono cli.out ?_; rintro e w2 ⟨vl, rfl, hvl, hb2⟩; obtain ⟨A2, c2', rfl, hc2'⟩ := own_slice hvl; have hvl := As.mk hvl; have hb2 := As.mk hb2))
      obtain ⟨m, hm⟩ : ∃ m, R.length = m := ⟨_, rfl⟩
      have hm256 : m ≤ 256 := by rw [← hm, ← hRR.out]; exact listTo_len _ _
      rw [hm]
      replace hm := As.mk hm
      have u6 : As (w2.heap[g6]? = some (.cells (clsV (clsTo l 0) 0) 103 (0, 0))) := ⟨by
        rw [show clsTo l 0 = fun _ => 0 from funext fun c => clsTo_zero l c, hZ.out]
        exact blkBelow hb2.out v6.out⟩
      go_loopw [23] (fun i wr => ∃ j : Nat, j ≤ m ∧ i = .int .i64 j ∧ As (wr.heap[g6]? = some (.cells (clsV (clsTo l j) j) 103 (0, 0))) ∧ As (Keeps (fun k => k = g6) w2 wr)) (fun i _ => m - (intOf i).toNat)
      case atStart => exact ⟨0, by omega, rfl, u6, ⟨Keeps.refl _ _⟩⟩
      case round =>
        obtain ⟨j, hj, rfl, h6, hkp⟩ := hrel
        have hvq : As (OwnByt wr (g6 + 1) (.slice A2 R.length c2') R) := ⟨own_keep (vs6 ▸ hvl.out) hkp.out (fun b _ hb _ _ e => by omega)⟩
        by_cases hlt : j < m
        · obtain ⟨ad, rfl, cx⟩ := Byt.at_ (Row.of_own hvq.out) (i := j) (by rw [hm.out]; exact hlt)
          have hst := As.mk (fun b (h : R[j]? = some b) => clsTo_step l j b (by rw [hRR.out]; exact h))
          have hRj : As (R[j]? = some (R.getD j 0)) := ⟨by rw [List.getD_eq_getElem?_getD, List.getElem?_eq_getElem (by rw [hm.out]; exact hlt)]; rfl⟩
          obtain ⟨x, hx⟩ : ∃ x, R.getD j 0 = x := ⟨_, rfl⟩
          rw [hx] at cx hRj
          have hx256 := x.toNat_lt
          clear hx
          have d256 : wr.cell? ⟨g6, 256, none⟩ = some (.int .i64 (j : Int)) := by rw [cell_of_blk h6.out]; show (clsCells _ _).toArray[256]? = _; simp [clsCells_n]
          have f256 : wr.frozen? ⟨g6, 256, none⟩ = false := free_of_blk h6.out _
          have h6' : (wr.setCell ⟨g6, 256, none⟩ (.int .i64 ((j : Int) + 1))).heap[g6]? = some (.cells (clsV (clsTo l j) (j + 1)) 103 (0, 0)) := by
            have := blk_set h6.out 256 (.int .i64 ((j + 1 : Nat) : Int))
            rw [clsV_setN] at this
            exact this
          have dn : (wr.setCell ⟨g6, 256, none⟩ (.int .i64 ((j : Int) + 1))).cell? ⟨g6, 256, none⟩ = some (.int .i64 ((j : Int) + 1)) := by
            rw [cell_of_blk h6']; show (clsCells _ _).toArray[256]? = _; simp [clsCells_n]
          have dx : (wr.setCell ⟨g6, 256, none⟩ (.int .i64 ((j : Int) + 1))).cell? ⟨g6, x.toNat, none⟩ = some (.int .i64 (clsTo l j x : Int)) := by
            rw [cell_of_blk h6']; show (clsCells _ _).toArray[x.toNat]? = _; simp [clsCells_at]
          have fx : (wr.setCell ⟨g6, 256, none⟩ (.int .i64 ((j : Int) + 1))).frozen? ⟨g6, x.toNat, none⟩ = false := free_of_blk h6' _
          have h7 : As (((wr.setCell ⟨g6, 256, none⟩ (.int .i64 ((j : Int) + 1))).setCell ⟨g6, x.toNat, none⟩ (.int .i64 ((j : Int) + 1))).heap[g6]? = some (.cells (clsV (clsTo l (j + 1)) (j + 1)) 103 (0, 0))) := ⟨by
            have := blk_set h6' x.toNat (.int .i64 ((j + 1 : Nat) : Int))
            rw [clsV_setF (clsTo l j) (clsTo l (j + 1)) (j + 1) (j + 1) x (fun c => hst.out x hRj.out c)] at this
            exact this⟩
          have hk7 : As (Keeps (fun k => k = g6) w2 ((wr.setCell ⟨g6, 256, none⟩ (.int .i64 ((j : Int) + 1))).setCell ⟨g6, x.toNat, none⟩ (.int .i64 ((j : Int) + 1)))) := ⟨(hkp.out.trans ((keepsSt _ ⟨g6, 256, none⟩ _).mono fun _ _ h => h)).trans ((keepsSt _ ⟨g6, x.toNat, none⟩ _).mono fun _ _ h => h)⟩
          replace h6' := As.mk h6'
          go_wp2_with fail
          go_roundw
          case rel => exact ⟨j + 1, by omega, by go_num, h7, hk7⟩
          case measure => simp [intOf]; omega
        · obtain rfl : j = m := by omega
          have hall : clsTo l j = clsF l := by
            funext c
            have := clsTo_all l c
            rw [hRR.out, hm.out] at this
            exact this
          rw [hall] at h6
          have q0 : As (wr.heap[gb]? = some (.cells Z 103 (0, 0))) := ⟨(hkp.out.block gb (block_lt (blkBelow hb2.out v0.out)) (by omega)).trans (blkBelow hb2.out v0.out)⟩
          have hZs : Z.size = 257 := by rw [← hZ.out]; exact clsV_size _ _
          have hsz := zero_cls.2
          have hF : As (Below gb w wr) := ⟨(vB.out.trans (hb2.out.mono (by omega))).trans (hkp.out.below (fun k _ hS => by omega) (Nat.le_trans (by omega) hb2.out.size))⟩
          obtain ⟨C, hC⟩ : ∃ C, clsV (clsF l) j = C := ⟨_, rfl⟩
          have hCs : C.size = 257 := by rw [← hC]; exact clsV_size _ _
          have hC1 : C.all (·.oneCell') = true := by rw [← hC]; exact clsV_one _ _
          rw [hC] at h6
          have hq0 := blk_all (d := C) q0.out (by rw [hCs, hZs])
          have hl0 := below_sets (base := gb) (Nat.le_refl gb) C.toList 0 hF.out
          go_wp2_with (first
            | (refine wpList_load_row (w := wr) rfl 103 (.tmp 6) rfl g6 rfl _ _ _ _ h6.out Tryz.underlying103 rfl (by rw [hCs]; exact hsz) ?_)
            | (refine wpList_store_mid (w := wr) rfl 103 (.tmp 2) (.tmp 37) rfl gb 0 C rfl rfl (there_blk q0.out (by omega)) (by rw [hCs]; exact hsz) hC1 ?_; generalize wr.setCells gb 0 C.toList = W9 at hq0 hl0 ⊢; replace hq0 := As.mk hq0; replace hl0 := As.mk hl0))
          refine bodyPost_ret (v := .agg C) (results_cell_row (p := 2) (ty := 103) rfl _ _ gb _ C _ _ rfl hq0.out Tryz.underlying103 rfl (by rw [hCs]; exact hsz)) rfl ⟨?_, by rw [hgb.out]; exact hl0.out⟩
          rw [hRR.out, hm.out, hC]
end Go.Proofs.YtdiljmhikajjiaaGreat
end
section
set_option linter.unusedVariables false
set_option linter.unusedSimpArgs false
namespace Go.Proofs.YtdiljmhikajjiaaGreat
open Go.RowKit Seine.Trie Seine.Dfa
set_option maxRecDepth 100000 in
set_option maxHeartbeats 1600000 in
theorem row_calls (w : World) (g nb cp N m W a b : Nat) (F : UInt8 → Nat) (n : Int) (hm : m ≤ 256) (hW : m + 1 = W) (hC : w.rangeAt g 2 (clsCells F m)) (hg : g < w.heap.size)
    (h259 : w.cell? ⟨g, 259, none⟩ = some (.slice (some ⟨nb, 0, none⟩) N cp)) (hn : n = (a : Int)) (ha : a ≤ 1000000) (hb : a * W = b) (hbN : b + W ≤ N) (hNc : N ≤ cp) (hcp : cp ≤ 1000000000000) :
    Calls Tryz.prog 73 #[.pointer (some ⟨g, 0, none⟩), .int .i64 n] w fun e w' => e = .returned (.slice (some ⟨nb, b, none⟩) W (cp - b)) ∧ Below w.heap.size w w' := by
  subst hn
  have hlen := As.mk (clen_calls w F m hm)
  rw [hW] at hlen
  have hsz := zero_cls.2
  have hmul : (a : Int) * (W : Int) = (b : Int) := by rw [← hb]; push_cast; rfl
  have hW1 : 1 ≤ W := by omega
  have hW2 : W ≤ 257 := by omega
  obtain ⟨C, hCC⟩ : ∃ C, clsCells F m = C := ⟨_, rfl⟩
  have hCs : C.length = 257 := by rw [← hCC]; exact clsCells_length _ _
  have hV : clsV F m = C.toArray := by rw [← hCC]; rfl
  rw [hCC] at hC
  rw [hV] at hlen
  replace hC := As.mk hC
  replace hb := As.mk hb
  replace hW := As.mk hW
  clear hV hCC
  go_enter Tryz.func73, Tryz.ntmps73
  go_wp2_with (first
    | (refine wpList_load_mid (w := w) rfl 103 (.tmp 8) rfl g 2 rfl C _ hC.out Tryz.underlying103 rfl (by rw [hCs]; exact hsz) ?_)
    | (go_at_call 71; refine Calls.mono hlen.out ?_; rintro e w1 ⟨rfl, hb1⟩; have q259 := (hb1.cell (p := ⟨g, 259, none⟩) hg).trans h259; replace hb1 := As.mk hb1))
  rw [show b + W - b = W by omega]
  go_ret
  exact ⟨rfl, hb1.out⟩
end Go.Proofs.YtdiljmhikajjiaaGreat
end
section
set_option linter.unusedVariables false
set_option linter.unusedSimpArgs false
namespace Go.Proofs.YtdiljmhikajjiaaGreat
open Go.RowKit Go.Maps Seine.Trie Seine.Links
set_option maxRecDepth 100000 in
set_option maxHeartbeats 400000 in
theorem cloneInts_calls (w : World) (ad : Addr) (c : Nat) (xs : List Int) (h : Ints w (some ad) xs) (hl : xs.length ≤ 1000000) :
    Calls Tryz.prog 91 #[.slice (some ad) xs.length c] w (RetInts w xs) := by
  obtain ⟨n, hn⟩ : ∃ n, xs.length = n := ⟨_, rfl⟩
  rw [hn] at hl ⊢
  have hn := As.mk hn
  have H := As.mk h
  clear h
  obtain ⟨i0, hi, hz0, hz1, hz2⟩ := info_parts info_int
  have hown : As ((w.alloc (.cells #[] 3)).ownsRow w.heap.size 3 1 (.slice (some ⟨w.heap.size, 0, none⟩) 0 0) 0 []) := ⟨ownsRow_of_block (cs := []) (heap_alloc_new w _) rfl (Nat.le_refl _) (Nat.zero_le _)⟩
  have hcells : As (∀ j u, (intVals xs)[j]? = some u → (w.alloc (.cells #[] 3)).cell? (ad.add j) = some u) := ⟨fun j u hj => by
    have hjl : j < (intVals xs).length := (List.getElem?_eq_some_iff.1 hj).1
    obtain ⟨ad2, e2, hc2⟩ := Row.at_ (H.out.alloc (.cells #[] 3)) hjl
    injection e2 with e2
    subst e2
    rw [hc2, ← hj]; exact (List.getElem?_eq_getElem hjl).symm⟩
  have hone : As (∀ u ∈ intVals xs, u.oneCell' = true) := ⟨fun u hu => by obtain ⟨x, _, rfl⟩ := List.mem_map.1 hu; rfl⟩
  have hnl : As ((intVals xs).length = n * 1) := ⟨by rw [intVals_length, hn.out, Nat.mul_one]⟩
  have hnil : ∀ (w : World) (a : Addr) (n c : Nat), (binOp .eql 105 (.slice (some a) n c) (.slice none 0 0)).run Tryz.prog w = .ok (.bool false) w := fun w a n c => Lib.run_eql_slice_nil w _ _ (some a) n c 0 0 Tryz.underlying105
  go_enter Tryz.func91, Tryz.ntmps91
  go_wp2_with (at_builtin
               refine wpList_append_own_at _ rfl (.tmp 5) (.tmp 6) 105 rfl w.heap.size 3 i0 _ 1 8 Tryz.underlying105 hi hz0 hz1 hz2 rfl (by decide) (.slice (some ⟨w.heap.size, 0, none⟩) 0 0) 0 [] rfl hown.out ad n c (intVals xs) rfl hnl.out hcells.out hone.out (by unfold maxLen; omega) (by omega) (by simp) ?_
               intro v' w' h2 h3 h4 h5)
  go_ret
  refine ⟨v', rfl, ?_, ?_⟩
  · unfold OwnInts; rw [hn.out]; simpa using h2
  · exact ((Below.refl _ _).alloc (Nat.le_refl _) _).grown h3 (by simp) (fun k hk => Nat.le_of_eq (Option.some.inj hk))
/-- The nodes' order, by numbers. -/
def orderF (P : List Txt) : List Int := (op P P.length).map (place P)
theorem orderF_length {P : List Txt} (hT : Tree P) : (orderF P).length = P.length := by
  unfold orderF
  rw [List.length_map]
  have h1 := op_len hT P.length
  have h2 := nodup_len hT.nodup (fun x hx => op_all hT _ x rfl hx)
  omega
theorem lorder_calls (w : World) (base g : Nat) (P l : List Txt) (hT : Tree P) (hl : P.length ≤ 1000000) (h : LinksOf w base g P l) :
    Calls Tryz.prog 72 #[.pointer (some ⟨g, 0, none⟩)] w (RetInts w (orderF P)) := by
  obtain ⟨v, q3, q4, hgl, hgb, ho, hne, _⟩ := LinksAt.order h
  have hlen := op_len hT P.length
  have hpos : 0 < (op P P.length).length := (List.getElem?_eq_some_iff.1 (op_root P P.length)).1
  have hoi : OwnInts w base v (orderF P) := by unfold OwnInts orderF; rw [List.length_map]; simpa [intVals, intCells, Function.comp_def] using ho
  have hol : (orderF P).length = (op P P.length).length := by unfold orderF; rw [List.length_map]
  obtain ⟨b, cp, rfl, _, _⟩ := hoi.form (by omega)
  have hcl := As.mk (cloneInts_calls w ⟨b, 0, none⟩ cp (orderF P) (Row.of_own hoi) (by omega))
  clear hoi ho hne hol hpos hlen
  go_enter Tryz.func72, Tryz.ntmps72
  go_wp2_with (go_at_call 91; refine hcl.out.mono ?_; rintro e w' ⟨v, rfl, ho2, hb2⟩)
  go_ret
  exact ⟨v, rfl, ho2, hb2⟩
end Go.Proofs.YtdiljmhikajjiaaGreat
end
section
set_option linter.unusedVariables false
set_option linter.unusedSimpArgs false
namespace Go.Proofs.YtdiljmhikajjiaaGreat
open Go.RowKit Seine.Trie Seine.Dfa
/-- What `build` writes: an array's values from a place on. -/
theorem fold_get (o : Nat) : ∀ (L : List Value) (k : Nat) (Z : Array Value) (i : Nat), o + k + L.length ≤ Z.size →
    ((L.zipIdx k).foldl (fun cs x => cs.setIfInBounds (o + x.2) x.1) Z)[i]? = if o + k ≤ i ∧ i < o + k + L.length then L[i - (o + k)]? else Z[i]?
  | [], k, Z, i, h => by
    rw [if_neg (by simp)]; rfl
  | v :: r, k, Z, i, h => by
    rw [List.zipIdx_cons, List.foldl_cons, fold_get o r (k + 1) _ i (by simp at h ⊢; omega)]
    simp only [List.length_cons] at h ⊢
    by_cases h1 : o + (k + 1) ≤ i ∧ i < o + (k + 1) + r.length
    · rw [if_pos h1, if_pos (by omega), show i - (o + k) = (i - (o + (k + 1))) + 1 by omega, List.getElem?_cons_succ]
    · rw [if_neg h1]
      by_cases h2 : i = o + k
      · subst h2
        rw [if_pos (by omega), Array.getElem?_setIfInBounds_self_of_lt (by omega)]; simp
      · rw [if_neg (by omega), Array.getElem?_setIfInBounds_ne (by omega)]
theorem fold_arr (o n : Nat) (C Z : Array Value) (hn : C.size = n) (i : Nat) (h : o + n ≤ Z.size) :
    (Array.foldl (fun cs x => cs.setIfInBounds (o + x.2) x.1) Z C.zipIdx 0 n)[i]? = if o ≤ i ∧ i < o + n then C[i - o]? else Z[i]? := by
  subst hn
  have := fold_get o C.toList 0 Z i (by simpa using h)
  simp only [Nat.add_zero, Array.length_toList, Array.getElem?_toList] at this
  rw [← this, ← Array.toList_zipIdx, Array.foldl_toList]
  simp
/-- A table of n rows of W numbers. -/
def tabL (G : Nat → Nat → Int) (n W : Nat) : List Value := (List.range (n * W)).map fun i => .int .i64 (G (i / W) (i % W))
theorem tabL_length (G : Nat → Nat → Int) (n W : Nat) : (tabL G n W).length = n * W := by simp [tabL]
theorem tabL_lt {n W a k : Nat} (ha : a < n) (hk : k < W) : a * W + k < n * W := by
  have h1 : (a + 1) * W ≤ n * W := Nat.mul_le_mul_right _ ha
  rw [Nat.succ_mul] at h1; omega
theorem tabL_at (G : Nat → Nat → Int) {n W a k : Nat} (ha : a < n) (hk : k < W) : (tabL G n W)[a * W + k]? = some (.int .i64 (G a k)) := by
  unfold tabL
  rw [List.getElem?_map, List.getElem?_range (tabL_lt ha hk)]
  have h1 : (a * W + k) / W = a := by rw [Nat.mul_comm, Nat.mul_add_div (by omega), Nat.div_eq_of_lt hk]; rfl
  have h2 : (a * W + k) % W = k := by rw [Nat.mul_comm, Nat.mul_add_mod, Nat.mod_eq_of_lt hk]
  simp [h1, h2]
/-- The block of a table machine: its trie, its links, its classes, its rows. -/
def DfaBlk (w : World) (g tg lg : Nat) (F : UInt8 → Nat) (m : Nat) (v : Value) : Prop :=
  ∃ D : Array Value, w.heap[g]? = some (.cells D 107 (0, 0)) ∧ D.size = 260 ∧ D[0]? = some (.pointer (some ⟨tg, 0, none⟩)) ∧ D[1]? = some (.pointer (some ⟨lg, 0, none⟩)) ∧ (∀ i u, (clsCells F m)[i]? = some u → D[2 + i]? = some u) ∧ D[259]? = some v
theorem DfaBlk.range {w : World} {g tg lg : Nat} {F : UInt8 → Nat} {m : Nat} {v : Value} (h : DfaBlk w g tg lg F m v) : w.rangeAt g 2 (clsCells F m) := fun i u hu => by
  obtain ⟨D, h1, _, _, _, h5, _⟩ := h
  rw [cell_of_blk h1]; exact h5 i u hu
theorem DfaBlk.cells {w : World} {g tg lg : Nat} {F : UInt8 → Nat} {m : Nat} {v : Value} (h : DfaBlk w g tg lg F m v) :
    w.cell? ⟨g, 0, none⟩ = some (.pointer (some ⟨tg, 0, none⟩)) ∧ w.cell? ⟨g, 1, none⟩ = some (.pointer (some ⟨lg, 0, none⟩)) ∧ w.cell? ⟨g, 259, none⟩ = some v := by
  obtain ⟨D, h1, _, h3, h4, _, h6⟩ := h
  exact ⟨by rw [cell_of_blk h1]; exact h3, by rw [cell_of_blk h1]; exact h4, by rw [cell_of_blk h1]; exact h6⟩
theorem DfaBlk.below {w w' : World} {g tg lg : Nat} {F : UInt8 → Nat} {m : Nat} {v : Value} (h : DfaBlk w g tg lg F m v) (hb : Below w.heap.size w w') : DfaBlk w' g tg lg F m v := by
  obtain ⟨D, h1, h2⟩ := h
  exact ⟨D, blkBelow hb h1, h2⟩
end Go.Proofs.YtdiljmhikajjiaaGreat
end
section
set_option linter.unusedVariables false
set_option linter.unusedSimpArgs false
namespace Go.Proofs.YtdiljmhikajjiaaGreat
open Go.RowKit Seine.Trie Seine.Dfa Seine.Links
/-- What a state's row holds where the rows of `done` are made. -/
def gridF (P l : List Txt) (done : List Txt) (a k : Nat) : Int := match P[a]? with | some s => if s ∈ done then rowF P l s k else 0 | none => 0
theorem gridF_nil (P l : List Txt) : gridF P l [] = fun _ _ => 0 := by
  funext a k; unfold gridF; split <;> simp
theorem gridF_same (P l : List Txt) (done done' : List Txt) (h : ∀ x, x ∈ done ↔ x ∈ done') : gridF P l done = gridF P l done' := by
  funext a k; unfold gridF; split
  · simp only [h]
  · rfl
theorem gridF_snoc (P l : List Txt) (done : List Txt) {a : Nat} {s : Txt} (ha : P[a]? = some s) (hn : P.Nodup) (b k : Nat) :
    gridF P l (done ++ [s]) b k = if b = a then rowF P l s k else gridF P l done b k := by
  unfold gridF
  by_cases h : b = a
  · subst h; rw [if_pos rfl, ha]; simp
  · rw [if_neg h]
    cases hb : P[b]? with
    | none => rfl
    | some t =>
      have hts : t ≠ s := fun e => h (by
        subst e
        obtain ⟨ha1, ha2⟩ := List.getElem?_eq_some_iff.1 ha
        obtain ⟨hb1, hb2⟩ := List.getElem?_eq_some_iff.1 hb
        exact (List.getElem_inj hn).1 (hb2.trans ha2.symm))
      simp [hts]
/-- A grid with one row changed. -/
def updF (G : Nat → Nat → Int) (a : Nat) (R : Nat → Int) (b k : Nat) : Int := if b = a then R k else G b k
theorem updF_same (G : Nat → Nat → Int) (a : Nat) : updF G a (G a) = G := by
  funext b k; unfold updF; by_cases h : b = a
  · subst h; rw [if_pos rfl]
  · rw [if_neg h]
theorem tab_get (G : Nat → Nat → Int) {n W i : Nat} (hW : 0 < W) (h : i < n * W) : (tabL G n W)[i]? = some (.int .i64 (G (i / W) (i % W))) := by
  have h1 : i % W < W := Nat.mod_lt _ hW
  have h2 : i / W < n := by rw [Nat.div_lt_iff_lt_mul hW]; exact h
  have := tabL_at G h2 h1
  rwa [Nat.div_add_mod'] at this
theorem tab_none (G : Nat → Nat → Int) {n W i : Nat} (h : n * W ≤ i) : (tabL G n W)[i]? = none := List.getElem?_eq_none (by rw [tabL_length]; exact h)
theorem row_of {n W i a : Nat} (hW : 0 < W) (h1 : a * W ≤ i) (h2 : i < a * W + W) : i / W = a ∧ i % W = i - a * W := by
  obtain ⟨k, rfl⟩ : ∃ k, i = a * W + k := ⟨i - a * W, by omega⟩
  have hk : k < W := by omega
  refine ⟨?_, ?_⟩
  · rw [Nat.mul_comm, Nat.mul_add_div (by omega), Nat.div_eq_of_lt hk]; rfl
  · rw [Nat.mul_comm a W, Nat.mul_add_mod, Nat.mod_eq_of_lt hk]; omega
theorem tab_set (G : Nat → Nat → Int) {n W a k : Nat} (ha : a < n) (hk : k < W) (R R' : Nat → Int) (x : Int) (h : ∀ j, R' j = if j = k then x else R j) :
    (tabL (updF G a R) n W).toArray.setIfInBounds (a * W + k) (.int .i64 x) = (tabL (updF G a R') n W).toArray := by
  apply Array.toList_inj.1
  rw [Array.toList_setIfInBounds]
  apply List.ext_getElem?
  intro i
  have hW : 0 < W := by omega
  have hlt := tabL_lt ha hk
  show ((tabL (updF G a R) n W).set (a * W + k) (.int .i64 x))[i]? = (tabL (updF G a R') n W)[i]?
  rw [List.getElem?_set]
  by_cases hi : i < n * W
  · rw [tab_get _ hW hi, tab_get _ hW hi]
    by_cases e : a * W + k = i
    · subst e
      obtain ⟨e1, e2⟩ := row_of (n := n) (i := a * W + k) (a := a) hW (by omega) (by omega)
      rw [if_pos rfl, if_pos (by rw [tabL_length]; exact hlt), e1, e2]
      unfold updF
      rw [if_pos rfl, h, if_pos (by omega)]
    · rw [if_neg e]
      unfold updF
      by_cases hia : i / W = a
      · rw [if_pos hia, if_pos hia, h, if_neg (fun c => e (by rw [← c, ← hia, Nat.div_add_mod']))]
      · rw [if_neg hia, if_neg hia]
  · rw [tab_none _ (by omega), tab_none _ (by omega), if_neg (by omega)]
def rowVals (R : Nat → Int) (W : Nat) : List Value := (List.range W).map fun k => .int .i64 (R k)
theorem rowVals_length (R : Nat → Int) (W : Nat) : (rowVals R W).length = W := by simp [rowVals]
theorem rowVals_get (R : Nat → Int) {W k : Nat} (h : k < W) : (rowVals R W)[k]? = some (.int .i64 (R k)) := by
  unfold rowVals; rw [List.getElem?_map, List.getElem?_range h]; rfl
theorem tab_splice (G : Nat → Nat → Int) {n W a : Nat} (ha : a < n) (hW : 0 < W) (R : Nat → Int) : splice (tabL G n W) (a * W) (rowVals R W) = tabL (updF G a R) n W := by
  have hlt : a * W + W ≤ n * W := by rw [← Nat.succ_mul]; exact Nat.mul_le_mul_right _ ha
  unfold splice
  rw [rowVals_length]
  apply List.ext_getElem?
  intro i
  have hl1 : ((tabL G n W).take (a * W)).length = a * W := by rw [List.length_take, tabL_length]; omega
  by_cases h1 : i < a * W
  · rw [List.getElem?_append_left (by omega), List.getElem?_take_of_lt h1, tab_get _ hW (by omega), tab_get _ hW (by omega)]
    unfold updF
    rw [if_neg]
    intro e
    have := Nat.div_lt_iff_lt_mul hW |>.2 h1
    omega
  · rw [List.getElem?_append_right (by omega), hl1]
    by_cases h2 : i < a * W + W
    · obtain ⟨e1, e2⟩ := row_of (n := n) (i := i) (a := a) hW (by omega) h2
      rw [List.getElem?_append_left (by rw [rowVals_length]; omega), rowVals_get _ (by omega), tab_get _ hW (by omega), e1, e2]
      unfold updF
      rw [if_pos rfl]
    · rw [List.getElem?_append_right (by rw [rowVals_length]; omega), rowVals_length, List.getElem?_drop, show a * W + W + (i - a * W - W) = i by omega]
      by_cases h3 : i < n * W
      · rw [tab_get _ hW h3, tab_get _ hW h3]
        unfold updF
        rw [if_neg]
        intro e
        have h4 : (a + 1) * W ≤ i := by rw [Nat.succ_mul]; omega
        have := (Nat.le_div_iff_mul_le hW).2 h4
        omega
      · rw [tab_none _ (by omega), tab_none _ (by omega)]
theorem gridF_done (P l done : List Txt) {a : Nat} {s : Txt} (ha : P[a]? = some s) (hn : P.Nodup) : gridF P l (done ++ [s]) = updF (gridF P l done) a (rowF P l s) := by
  funext b k; rw [gridF_snoc P l done ha hn]; rfl
theorem gridF_in (P l done : List Txt) {a : Nat} {s : Txt} (ha : P[a]? = some s) (hs : s ∈ done) : gridF P l done a = rowF P l s := by
  funext k; unfold gridF; rw [ha]; simp [hs]
theorem gridF_out (P l done : List Txt) {a : Nat} {s : Txt} (ha : P[a]? = some s) (hs : s ∉ done) : gridF P l done a = fun _ => 0 := by
  funext k; unfold gridF; rw [ha]; simp [hs]
theorem order_before {P : List Txt} (hT : Tree P) {i : Nat} {s x : Txt} (h : (op P P.length)[i]? = some s) (hx : x ∈ P) (hl : x.length < s.length) : x ∈ (op P P.length).take i := by
  have hi := (List.getElem?_eq_some_iff.1 h).1
  have hil : i < P.length := Nat.lt_of_lt_of_le hi (op_len hT _)
  have h2 := op_back (Nat.le_of_lt hil) h (op_long (Nat.le_of_lt hil) hi)
  obtain ⟨j, hj, e⟩ := op_before hT i h2 x hx hl
  have e2 := op_get (Nat.le_of_lt hil) e
  exact List.mem_of_getElem? (by rw [List.getElem?_take_of_lt hj]; exact e2)
theorem order_new {P : List Txt} {i n : Nat} {s : Txt} (h : (op P n)[i]? = some s) : s ∉ (op P n).take i := fun hm => by
  obtain ⟨j, hj, e⟩ := List.mem_iff_getElem.1 hm
  rw [List.length_take] at hj
  rw [List.getElem_take] at e
  have := nodup_get (op_nodup P n) (i := j) (j := i) (x := s) (by rw [List.getElem?_eq_getElem (by omega), e]) h
  omega
theorem gridF_zero (P l : List Txt) : gridF P l ((op P P.length).take 0) = fun _ _ => 0 := by rw [List.take_zero]; exact gridF_nil P l
theorem tab_zero (n W : Nat) : tabL (fun _ _ => 0) n W = List.replicate (n * W) (.int .i64 0) := by
  unfold tabL
  apply List.ext_getElem?
  intro i
  by_cases h : i < n * W
  · rw [List.getElem?_map, List.getElem?_range h, List.getElem?_replicate, if_pos h]; rfl
  · rw [List.getElem?_eq_none (by simp; omega), List.getElem?_eq_none (by simp; omega)]
theorem DfaBlk.set {w : World} {g tg lg : Nat} {F : UInt8 → Nat} {m : Nat} {v : Value} (h : DfaBlk w g tg lg F m v) (u : Value) : DfaBlk (w.setCell ⟨g, 259, none⟩ u) g tg lg F m u := by
  obtain ⟨D, h1, h2, h3, h4, h5, h6⟩ := h
  refine ⟨_, blk_set h1 259 u, by simpa using h2, ?_, ?_, fun i x hx => ?_, ?_⟩
  · rw [Array.getElem?_setIfInBounds_ne (by omega)]; exact h3
  · rw [Array.getElem?_setIfInBounds_ne (by omega)]; exact h4
  · have := (List.getElem?_eq_some_iff.1 hx).1
    rw [clsCells_length] at this
    rw [Array.getElem?_setIfInBounds_ne (by omega)]; exact h5 i x hx
  · rw [Array.getElem?_setIfInBounds_self_of_lt (by omega)]
theorem DfaBlk.keep {S : Nat → Prop} {w w' : World} {g tg lg : Nat} {F : UInt8 → Nat} {m : Nat} {v : Value} (h : DfaBlk w g tg lg F m v) (hk : Keeps S w w') (hS : ¬ S g) : DfaBlk w' g tg lg F m v := by
  obtain ⟨D, h1, h2⟩ := h
  exact ⟨D, blk_keep h1 hk hS, h2⟩
theorem DfaBlk.size {w : World} {g tg lg : Nat} {F : UInt8 → Nat} {m : Nat} {v : Value} (h : DfaBlk w g tg lg F m v) : w.heap.size > g := by
  obtain ⟨D, h1, h2⟩ := h
  exact block_lt h1
theorem keepsRow (w : World) (g : Nat) (cs : Array Value) : Keeps (fun k => k = g) w (w.setRow g cs) := ⟨rfl, rfl, rfl, by simp [World.setRow], fun i hi hn => setRow_other w g i cs hn⟩
end Go.Proofs.YtdiljmhikajjiaaGreat
end
