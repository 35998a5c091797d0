/- The walks of package print: a line, pieces. -/
import Derived.Test.YtcapmihfhioafaaDoorPrintWalk
import Derived.Test.YtcapmihfhioafaaDoorPairs
import Derived.Deep.RegionHeld3
import Derived.Deep.DrawnRows
set_option linter.unusedVariables false
set_option linter.unusedSimpArgs false
namespace Go.Proofs.YtcapmihfhioafaaDoor
open Go.RowKit Seine.Trie Go.Shelf Go.Proofs.YtcapmihfhioafaaDoorW.PrintWords

/-- A line. -/
def lineF (off : Int) (x : Txt) (b : Bool) : Txt := aheadF off b ++ (x ++ [10])
theorem ahead_length {off : Int} (h : (Lit.int .i64 off).wf = true) (b : Bool) : (aheadF off b).length ≤ 22 := by
  unfold aheadF
  split
  · rw [List.length_append]; have := dig_length h; simp; omega
  · simp
set_option maxRecDepth 100000 in
set_option maxHeartbeats 1600000 in
theorem line_calls (off : Int) (h : (Lit.int .i64 off).wf = true) (A : Option Addr) (c : Nat) (x : Txt) (b : Bool) (w : World) (hx : Byt w A x) (hl : x.length ≤ 900000) (ht : Tab w) :
    Calls Tryd.prog 12 #[.int .i64 off, .slice A x.length c, .bool b] w (RetByt w (lineF off x b)) := by
  have hal := ahead_length h b
  have ca := As.mk (fun (v : World) (hv : Tab v) p q hp hq => ahead_calls off b h v hv p q hp hq)
  have HT := As.mk ht
  have HX := As.mk hx
  have hln : (lineF off x b).length ≤ 1000000 := by unfold lineF; rw [List.length_append, List.length_append]; simp; omega
  obtain ⟨a, ha⟩ : ∃ a, aheadF off b = a := ⟨_, rfl⟩
  have hlf : lineF off x b = [a, x, [10]].flatten := by unfold lineF; rw [ha]; simp
  rw [hlf] at hln ⊢
  rw [ha] at ca hal
  have cj := As.mk (fun (v : World) (A : Option Addr) (hr : Row v A (sCells [a, x, [10]])) => pjoined_calls v A 3 [a, x, [10]] hr (by simp) hln)
  have hc1 : ∀ v, Below w.heap.size w v → (convert 24 9 (.slice A x.length c)).run Tryd.prog v = .ok (.string (bb x)) v := fun v hv => conv_byt Tryd.underlying24 (Row.below HX.out hv) (by omega)
  clear hx ht hlf hln ha
  go_enter Tryd.func12, Tryd.ntmps12
  go_wp2_with fail
  have z1 : ((w.alloc (.cells #[.int .i64 off] 3)).alloc (.cells #[.bool b] 4)).cell? ⟨w.heap.size, 0, none⟩ = some (.int .i64 off) := cell_of_blk (blk_old (heap_alloc_new w _)) 0
  have z2 : ((w.alloc (.cells #[.int .i64 off] 3)).alloc (.cells #[.bool b] 4)).cell? ⟨w.heap.size + 1, 0, none⟩ = some (.bool b) := cell_of_blk (heapNewAt (w := w.alloc (.cells #[.int .i64 off] 3)) (by simp)) 0
  have hB : Below w.heap.size w ((w.alloc (.cells #[.int .i64 off] 3)).alloc (.cells #[.bool b] 4)) := ((Below.refl _ _).alloc (Nat.le_refl _) _).alloc (by simp) _
  have hS := hB.size
  have hBd : Below w.heap.size w ((w.alloc (.cells #[.int .i64 off] 3)).alloc (.cells #[.bool b] 4)).drew := hB.drew
  generalize ((w.alloc (.cells #[.int .i64 off] 3)).alloc (.cells #[.bool b] 4)) = W at *
  go_region_with (first
    | (go_at_call 18; refine Calls.mono (ca.out _ (HT.out.below (Below.drew hB)) _ _ z2 z1) ?_; rintro e w' ⟨rfl, hb⟩; have hbw : Below w.heap.size w w' := belowNext (Below.drew hB) hb)
    | (go_at_call 16; refine Calls.mono (cj.out _ _ ?r) ?_; (case r => exact Row.new _ _ _); rintro e w' ⟨v, rfl, ho, hb2⟩))
  all_goals
    have s1 := hbw.size
    go_wp2
    go_ret
    refine ⟨_, rfl, own_base ho (by simp only [World.size_alloc]; omega), ?_⟩
    exact (hbw.alloc s1 _).trans (Below.mono hb2 (by simp only [World.size_alloc]; omega))
end Go.Proofs.YtcapmihfhioafaaDoor
