/- The listed tables: what the condition on them gives the walks, and a start that meets it. -/
import Derived.Test.YtcapmihfhioafaaDoorRows
import Derived.Test.YtcapmihfhioafaaDoorTie
import Derived.Test.YtcapmihfhioafaaDoorCards
import Derived.Test.YtcapmihfhioafaaDoorPrintWalk
import Derived.LaidMore
import Derived.LaidHandle
import Derived.MakeChecks
import Derived.Lib.LaidTab
import Derived.Stop.LaidErr
import Derived.Stop.Joined
import Derived.SevenTiedAt
import Derived.ProofKit
set_option linter.unusedVariables false
namespace Go.Proofs.YtcapmihfhioafaaDoor
abbrev laidL : List (String × DataW Unit) := [("math/bits.deBruijn32tab", Rows.laid_math_bits_deBruijn32tab), ("math/bits.deBruijn64tab", Rows.laid_math_bits_deBruijn64tab), ("internal/strconv.uint64pow10", Rows.laid_internal_strconv_uint64pow10)]
theorem door_met (os : Os) (args : Array Value) : laidMetH Tryd.prog laidL ((World.doorLaid Tryd.prog 24 os).forCall (fun _ _ => 0) ⟨#[], args, []⟩).memory :=
  laidMetH_of_parts3 (fuel := 8) (laidMet_of_run' 8 (by kernel_rfl) (by kernel_rfl)) (by kernel_rfl) (by kernel_rfl)
theorem tab_of_laid {W : World} (h : laidMetH Tryd.prog laidL W) : Tab W := by
  rw [MakeChecks.laidMetH_plain _ _ _ (by kernel_rfl)] at h
  have hg := Classical.choose_spec gPow
  exact Lib.tabIs_of_head (rest := []) (k := .u64) (zs := Lib.pow10Tab) hg (t := 51) (n := 20) (e := 33) (by
    have : (Tryd.prog.globalNamed "internal/strconv.uint64pow10").bind (fun g => (Tryd.prog.globals[g]?).map (·.type)) = some 51 := by kernel_rfl
    rw [hg] at this; exact this) (by kernel_rfl) Tryd.underlying33 (by kernel_rfl) (by kernel_rfl) h.tail.tail
end Go.Proofs.YtcapmihfhioafaaDoor
