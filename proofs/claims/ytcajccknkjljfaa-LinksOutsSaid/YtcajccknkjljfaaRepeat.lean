/- slices.Repeat at one number, and slices.Clone. -/
import Derived.Test.YtcajccknkjljfaaLinksWalk
import Derived.Laws.CopyOwn
import Derived.Laws.Bits64b
import Derived.Laws.MakeOwn
set_option linter.unusedVariables false
set_option linter.unusedSimpArgs false
namespace Go.Proofs.Ytcajccknkjljfaa
open Go.RowKit Go.Maps

section
variable (w : World) (n : Nat) (hn : n ≤ 1000000)
include hn
theorem mul64_calls : Calls Try.prog 42 #[.int .u64 1, .int .u64 (n : Int)] w fun e w' => e = .returned (.tuple #[.int .u64 0, .int .u64 (n : Int)]) ∧ w = w' := by
  have h1 : bits BinOp.and IntKind.u64 1 4294967295 = 1 := by decide
  have h0 : bits BinOp.and IntKind.u64 0 4294967295 = 0 := by decide
  have h2 : bits BinOp.and IntKind.u64 (n : Int) 4294967295 = (n : Int) := by
    have h := bits_and_u64_nat n 4294967295 (by omega) (by omega)
    have e : n &&& 4294967295 = n % 4294967296 := Nat.and_two_pow_sub_one_eq_mod n 32
    rw [e, Nat.mod_eq_of_lt (by omega)] at h
    exact h
  have h3 : (n : Int) / 4294967296 = 0 := by omega
  have h4 : IntKind.u64.wrap (n : Int) = n := by rw [IntKind.wrap_u64]; omega
  have h5 : IntKind.u64.wrap 0 = 0 := by decide
  go_enter Try.func42, Try.ntmps42
  go_wp2
  go_ret2
  simp [h1, h2, h3, h4, h5, h0]
theorem mul_calls : Calls Try.prog 38 #[.int .u64 1, .int .u64 (n : Int)] w fun e w' => e = .returned (.tuple #[.int .u64 0, .int .u64 (n : Int)]) ∧ w = w' := by
  have hc := As.mk (mul64_calls w n hn)
  go_enter Try.func38, Try.ntmps38
  go_wp2_with (go_at_call 42; refine hc.out.mono ?_; rintro e w' ⟨rfl, rfl⟩)
  go_ret2
  exact ⟨rfl, rfl⟩
end
theorem make_ints (n : Nat) (hn : n ≤ 1000000) : ∃ Z : List Value, Z = List.replicate n (.int .i64 0) ∧ ∀ w : World, (Instr.makeSlice 32 (.int .i64 (n : Int)) (.int .i64 (n : Int))).run Try.prog w = .ok (.slice (some ⟨w.heap.size, 0, none⟩) n n) (w.alloc (.cells Z.toArray 3)) := by
  refine ⟨_, rfl, fun w => ?_⟩
  have hi : (Try.prog.info? 3).map (fun i => (i.zero, i.size, i.bytes)) = some (some (.int .i64 0), 1, 8) := by kernel_rfl
  obtain ⟨i, hi0, hz0, hz1, hz2⟩ := info_parts hi
  have h := run_make (P := Try.prog) w 32 3 i _ Try.underlying32 hi0 hz0 .i64 .i64 (n : Int) (n : Int) (by omega) (Int.le_refl _) (by rw [hz2]; omega) (by omega)
  rw [h, hz1]
  congr 3
  simp only [Int.toNat_natCast, Nat.mul_one]
  apply Array.ext
  · simp [madeCells]
  · intro j h1 h2
    simp [madeCells, Value.cells, Nat.mod_one]

def repRow (u : Value) (n k : Nat) : List Value := List.replicate k u ++ List.replicate (n - k) (.int .i64 0)
theorem repRow_splice (u : Value) (n k m : Nat) (h : k + m ≤ n) : splice (repRow u n k) k (List.replicate m u) = repRow u n (k + m) := by
  unfold splice repRow
  rw [List.take_left' (by simp), List.length_replicate, List.drop_append, List.drop_of_length_le (by simp), List.nil_append, List.length_replicate, ← List.append_assoc, List.replicate_append_replicate, List.drop_replicate]
  congr 2
  omega
theorem repRow_start (u : Value) (n : Nat) (h : 1 ≤ n) : splice (List.replicate n (.int .i64 0)) 0 [u] = repRow u n 1 := by
  have := repRow_splice u n 0 1 (by omega)
  unfold repRow at this
  simpa [repRow] using this

set_option maxRecDepth 100000 in
set_option maxHeartbeats 1600000 in
theorem repeat_calls (w : World) (ad : Addr) (c : Nat) (u : Int) (hx : w.cell? (ad.add 0) = some (.int .i64 u)) (n : Nat) (hn : 1 ≤ n) (hn2 : n ≤ 1000000) :
    Calls Try.prog 27 #[.slice (some ad) 1 c, .int .i64 (n : Int)] w fun e w' => ∃ b, e = .returned (.slice (some ⟨b, 0, none⟩) n n) ∧ w.heap.size ≤ b ∧ w'.heap[b]? = some (.cells (repRow (.int .i64 u) n n).toArray 3 (0, 0)) ∧ Below w.heap.size w w' := by
  have hmu := As.mk (fun w => mul_calls w n hn2)
  obtain ⟨Z, hZ, hmk⟩ := make_ints n hn2
  have hst := repRow_start (.int .i64 u) n hn
  rw [← hZ] at hst
  have hZl : Z.length = n := by rw [hZ]; simp
  have hst := As.mk hst
  have hZl := As.mk hZl
  clear hZ
  have hx := As.mk hx
  go_enter Try.func27, Try.ntmps27
  have hsz : (Try.prog.info? 3).map (·.size) = some 1 := by kernel_rfl
  go_wp2_with (first
    | (go_at_call 38; refine (hmu.out _).mono ?_; rintro e w' ⟨rfl, rfl⟩)
    | (refine wpList_copy_splice rfl (.tmp 31) (.tmp 32) 32 32 rfl 3 Try.underlying32 hsz (some ⟨w.heap.size, 0, none⟩) (some ad) n n 1 c rfl rfl w.heap.size 0 Z 3 (heap_alloc_new w _) [.int .i64 u] (by show 1 = min 1 n; omega)
         (fun _ => ⟨rfl, ad, rfl, fun j v hj => by
           have hj0 : j = 0 := by
             have := (List.getElem?_eq_some_iff.1 hj).1
             simpa using this
           subst hj0
           simp at hj
           subst hj
           exact (Below.cell ((Below.refl w.heap.size w).alloc (Nat.le_refl _) _) (World.block_lt_of_cell? w _ hx.out)).trans hx.out⟩)
         (by show 0 + 1 ≤ Z.length; have := hZl.out; omega) (by simp [Value.oneCell']) w.heap.size w ((Below.refl _ _).alloc (Nat.le_refl _) _) (Nat.le_refl _) ?_
       intro w2 hg2 hb2))
  have hg2 := As.mk (show w2.heap[w.heap.size]? = some (.cells (repRow (.int .i64 u) n 1).toArray 3 (0, 0)) by rw [← hst.out]; exact hg2.out)
  go_loopw [8] (fun i wr => ∃ k : Nat, 1 ≤ k ∧ k ≤ n ∧ i = .int .i64 k ∧ As (wr.heap[w.heap.size]? = some (.cells (repRow (.int .i64 u) n k).toArray 3 (0, 0))) ∧ As (Below w.heap.size w wr)) (fun i _ => n - (intOf i).toNat)
  case atStart => exact ⟨1, Nat.le_refl _, hn, rfl, hg2, ⟨hb2⟩⟩
  case round =>
    obtain ⟨k, hk1, hk, rfl, hrow, hbel⟩ := hrel
    by_cases hlt : k < n
    · have hnk : ¬ n = k := by omega
      obtain ⟨m, hm⟩ : ∃ m, min k (n - k) = m := ⟨_, rfl⟩
      have hm1 : m ≤ k := by omega
      have hm2 : k + m ≤ n := by omega
      have hm3 : 0 < m := by omega
      have hms : m = Nat.min k (n - k) := hm.symm
      replace hms := As.mk hms
      have hwr : IntKind.i64.wrap ((k : Int) + (m : Int)) = (k : Int) + (m : Int) := IntWalk.i64_in _ (by omega)
      have hspl := As.mk (repRow_splice (.int .i64 u) n k m hm2)
      have hkw := As.mk hk
      clear hm
      have hcs : As (∀ j v, (List.replicate m (Value.int .i64 u))[j]? = some v → wr.cell? ((⟨w.heap.size, 0, none⟩ : Addr).add j) = some v) := ⟨fun j v hj => by
        have hjm : j < m := by
          have := (List.getElem?_eq_some_iff.1 hj).1
          simpa using this
        rw [List.getElem?_replicate, if_pos hjm] at hj
        rw [← hj]
        refine World.news_of_block hrow.out j _ ?_
        unfold repRow
        rw [List.getElem?_append_left (by simp; omega), List.getElem?_replicate, if_pos (by omega)]⟩
      have hlen : As (k + m ≤ (repRow (.int .i64 u) n k).length) := ⟨by unfold repRow; simp; omega⟩
      go_wp2
      go_region_law (refine step_copy_splice rfl (.tmp 41) (.tmp 44) 32 32 rfl 3 Try.underlying32 hsz (some ⟨w.heap.size, k, none⟩) (some ⟨w.heap.size, 0, none⟩) (n - k) (n - k) k n (by simp [Act.eval, Act.put, hnk]) (by simp [Act.eval, Act.put, hnk]) w.heap.size k (repRow (.int .i64 u) n k) 3 hrow.out (List.replicate m (.int .i64 u)) (by rw [List.length_replicate]; exact hms.out) (fun _ => ⟨rfl, _, rfl, hcs.out⟩) (by rw [List.length_replicate]; exact hlen.out) (by intro v hv; rw [List.eq_of_mem_replicate hv]; rfl) w.heap.size w (Below.drew hbel.out) (Nat.le_refl _) ?_
                     intro w4 hg4 hb4)
      all_goals
        go_wp2
        refine ⟨?_, ?measure⟩
        · (repeat apply Exists.intro)
          refine ⟨?rel, ?eq⟩
          case eq => (simp only [Act.put]; rfl)
          case rel => exact ⟨k + m, by omega, hm2, by go_num, ⟨by rw [← hspl.out]; exact hg4.out⟩, ⟨hb4⟩⟩
        case measure => simp [intOf, Act.put, hwr]; omega
    · obtain rfl : k = n := by omega
      go_wp2
      go_ret
      exact ⟨w.heap.size, rfl, Nat.le_refl _, hrow.out, hbel.out⟩
end Go.Proofs.Ytcajccknkjljfaa
