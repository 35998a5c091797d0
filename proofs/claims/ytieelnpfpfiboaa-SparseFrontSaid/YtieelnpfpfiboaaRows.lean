/-
  No cell of these rows narrows 'for every input' (looked for: loops, veiled, ifaces, maps, wideKeys, modest, calm, conditions, laid).
  DERIVED. THE GIVEN ROWS OF THIS SEAT. 6 by the template 'for every input the law returns true; each argument reads behind the call as it read before'; 0 by the template 'total and deterministic' (their statements: YtieelnpfpfiboaaTotals.lean).
  GIVEN WITH THE SEED: the statements are not yours to turn. If you find one false, say at which input.
  Laid BY PROGRAM, IN A SANDBOX (cutbox-rows.mjs): the forced cells as the released guide's own fill.sh prints them over the translation 576d9d121c8c50a9… (all of the seat's roots in one cut). By AI agents, Wed Nov 11 2026. No macro, syntax, notation, axiom, sorry.
-/
import Derived.Test.YtieelnpfpfiboaaChecked
import GoSem.Claim
import GoSem.ClaimJoined
import GoSem.ClaimMapViews
import Derived.JoinedTies
import Derived.KernelRfl
namespace Go.Proofs.Ytieelnpfpfiboaa
/- THE CELL 'sum', in the pinned program and in every row, IS THE sha256 OF THE DUMP (.gsa) THAT YtieelnpfpfiboaaProg.lean LOADS. Nothing in Lean hashes anything: it is a label: what it is worth is what the hold of that sum in a sandbox is worth. -/
noncomputable def Try.pinned : Pinned := { name := "ytieelnpfpfiboaa", sum := "576d9d121c8c50a9ffdabb2c3d12969983962cac371ba47f41f270734cc29f10", checked := Try.checked }
namespace Rows
def none {H : Type} : Left H := { results := [], args := [] }

/-- 'seinelaw08.SparseScans': WHATEVER THE INPUT: true; the input reads as it did. -/
def sparseScansSpec : ChangeSpec := { name := "sparseScans", fn := fun _ => fun
  | [d1, d2] => { results := [.lit (.bool true)], args := [d1, d2] }
  | _ => none }
def sparseScansRow : OpenClaim := { program := "ytieelnpfpfiboaa", sum := "576d9d121c8c50a9ffdabb2c3d12969983962cac371ba47f41f270734cc29f10", func := "seine/seinelaw08.SparseScans", spec := "sparseScans", unfollowed := true, recurses := true, plainKeys := false, apart := false }
def SparseScansSaid : Prop := sparseScansRow.holds Try.pinned (OpenSpec.ofChange sparseScansSpec)

/-- ITS FALSE NEIGHBOUR: 'it returns false'. Refute it at one input. -/
def sparseScansWrong : ChangeSpec := { name := "sparseScans", fn := fun _ => fun
  | [d1, d2] => { results := [.lit (.bool false)], args := [d1, d2] }
  | _ => none }
def SparseScansWrongFalsely : Prop := sparseScansRow.holds Try.pinned (OpenSpec.ofChange sparseScansWrong)

/-- 'seinelaw08.SparseLinear': WHATEVER THE INPUT: true; the input reads as it did. -/
def sparseLinearSpec : ChangeSpec := { name := "sparseLinear", fn := fun _ => fun
  | [d1, d2, d3] => { results := [.lit (.bool true)], args := [d1, d2, d3] }
  | _ => none }
def sparseLinearRow : OpenClaim := { program := "ytieelnpfpfiboaa", sum := "576d9d121c8c50a9ffdabb2c3d12969983962cac371ba47f41f270734cc29f10", func := "seine/seinelaw08.SparseLinear", spec := "sparseLinear", unfollowed := true, recurses := true, plainKeys := false, apart := false }
def SparseLinearSaid : Prop := sparseLinearRow.holds Try.pinned (OpenSpec.ofChange sparseLinearSpec)

/-- ITS FALSE NEIGHBOUR: 'it returns false'. Refute it at one input. -/
def sparseLinearWrong : ChangeSpec := { name := "sparseLinear", fn := fun _ => fun
  | [d1, d2, d3] => { results := [.lit (.bool false)], args := [d1, d2, d3] }
  | _ => none }
def SparseLinearWrongFalsely : Prop := sparseLinearRow.holds Try.pinned (OpenSpec.ofChange sparseLinearWrong)

/-- 'seinelaw08.SparseFront': WHATEVER THE INPUT: true; the input reads as it did. -/
def sparseFrontSpec : ChangeSpec := { name := "sparseFront", fn := fun _ => fun
  | [d1, d2, d3, d4] => { results := [.lit (.bool true)], args := [d1, d2, d3, d4] }
  | _ => none }
def sparseFrontRow : OpenClaim := { program := "ytieelnpfpfiboaa", sum := "576d9d121c8c50a9ffdabb2c3d12969983962cac371ba47f41f270734cc29f10", func := "seine/seinelaw08.SparseFront", spec := "sparseFront", unfollowed := true, recurses := true, plainKeys := false, apart := false }
def SparseFrontSaid : Prop := sparseFrontRow.holds Try.pinned (OpenSpec.ofChange sparseFrontSpec)

/-- ITS FALSE NEIGHBOUR: 'it returns false'. Refute it at one input. -/
def sparseFrontWrong : ChangeSpec := { name := "sparseFront", fn := fun _ => fun
  | [d1, d2, d3, d4] => { results := [.lit (.bool false)], args := [d1, d2, d3, d4] }
  | _ => none }
def SparseFrontWrongFalsely : Prop := sparseFrontRow.holds Try.pinned (OpenSpec.ofChange sparseFrontWrong)

/-- 'seinelaw08.SparseSteps': WHATEVER THE INPUT: true; the input reads as it did. -/
def sparseStepsSpec : ChangeSpec := { name := "sparseSteps", fn := fun _ => fun
  | [d1, d2, d3] => { results := [.lit (.bool true)], args := [d1, d2, d3] }
  | _ => none }
def sparseStepsRow : OpenClaim := { program := "ytieelnpfpfiboaa", sum := "576d9d121c8c50a9ffdabb2c3d12969983962cac371ba47f41f270734cc29f10", func := "seine/seinelaw08.SparseSteps", spec := "sparseSteps", unfollowed := true, recurses := true, plainKeys := false, apart := false }
def SparseStepsSaid : Prop := sparseStepsRow.holds Try.pinned (OpenSpec.ofChange sparseStepsSpec)

/-- ITS FALSE NEIGHBOUR: 'it returns false'. Refute it at one input. -/
def sparseStepsWrong : ChangeSpec := { name := "sparseSteps", fn := fun _ => fun
  | [d1, d2, d3] => { results := [.lit (.bool false)], args := [d1, d2, d3] }
  | _ => none }
def SparseStepsWrongFalsely : Prop := sparseStepsRow.holds Try.pinned (OpenSpec.ofChange sparseStepsWrong)

/-- 'seinelaw08.SparseStates': WHATEVER THE INPUT: true; the input reads as it did. -/
def sparseStatesSpec : ChangeSpec := { name := "sparseStates", fn := fun _ => fun
  | [d1, d2] => { results := [.lit (.bool true)], args := [d1, d2] }
  | _ => none }
def sparseStatesRow : OpenClaim := { program := "ytieelnpfpfiboaa", sum := "576d9d121c8c50a9ffdabb2c3d12969983962cac371ba47f41f270734cc29f10", func := "seine/seinelaw08.SparseStates", spec := "sparseStates", unfollowed := true, recurses := true, plainKeys := false, apart := false }
def SparseStatesSaid : Prop := sparseStatesRow.holds Try.pinned (OpenSpec.ofChange sparseStatesSpec)

/-- ITS FALSE NEIGHBOUR: 'it returns false'. Refute it at one input. -/
def sparseStatesWrong : ChangeSpec := { name := "sparseStates", fn := fun _ => fun
  | [d1, d2] => { results := [.lit (.bool false)], args := [d1, d2] }
  | _ => none }
def SparseStatesWrongFalsely : Prop := sparseStatesRow.holds Try.pinned (OpenSpec.ofChange sparseStatesWrong)

/-- 'seinelaw08.SparseNone': WHATEVER THE INPUT: true; the input reads as it did. -/
def sparseNoneSpec : ChangeSpec := { name := "sparseNone", fn := fun _ => fun
  | [d1, d2, d3] => { results := [.lit (.bool true)], args := [d1, d2, d3] }
  | _ => none }
def sparseNoneRow : OpenClaim := { program := "ytieelnpfpfiboaa", sum := "576d9d121c8c50a9ffdabb2c3d12969983962cac371ba47f41f270734cc29f10", func := "seine/seinelaw08.SparseNone", spec := "sparseNone", unfollowed := true, recurses := true, plainKeys := false, apart := false }
def SparseNoneSaid : Prop := sparseNoneRow.holds Try.pinned (OpenSpec.ofChange sparseNoneSpec)

/-- ITS FALSE NEIGHBOUR: 'it returns false'. Refute it at one input. -/
def sparseNoneWrong : ChangeSpec := { name := "sparseNone", fn := fun _ => fun
  | [d1, d2, d3] => { results := [.lit (.bool false)], args := [d1, d2, d3] }
  | _ => none }
def SparseNoneWrongFalsely : Prop := sparseNoneRow.holds Try.pinned (OpenSpec.ofChange sparseNoneWrong)

/- THE SECOND FORM. 'bulk': how many values and letters a reading holds, each counted each time it is reached (what is shared counts as often as it is met; a slice's spare places count too). A statement '..UptoSaid' is the law's where the arguments, and the package variables that the reading takes, are together of bulk at most 1048576: NARROWER than '..Said'. Prove '..Said' where nothing that the law and all that it calls make is longer than what came in: it says more and counts as full. Else prove '..UptoSaid'. A law counts once. -/
mutual
def uptoBulk {H : Type} : DataW H → Nat
  | .lit (.string bytes) => bytes.length + 1
  | .lit _ => 1
  | .nil => 1
  | .ptr d => uptoBulk d + 1
  | .slice elems spare => uptoBulkAll elems + uptoBulkAll spare + 1
  | .agg parts => uptoBulkAll parts + 1
  | .iface _ d => uptoBulk d + 1
  | .map entries => uptoBulkEntries entries + 1
  | .held _ => 1
def uptoBulkAll {H : Type} : List (DataW H) → Nat
  | [] => 0
  | d :: r => uptoBulk d + uptoBulkAll r
def uptoBulkEntries {H : Type} : List (Lit × DataW H) → Nat
  | [] => 0
  | x :: r => uptoBulkEntry x + uptoBulkEntries r
def uptoBulkEntry {H : Type} : Lit × DataW H → Nat
  | (.string bytes, d) => bytes.length + uptoBulk d + 1
  | (_, d) => uptoBulk d + 1
 end
def uptoSmall : (H : Type) → List (DataW H) → Bool := fun _ ds => decide (uptoBulkAll ds ≤ 1048576)
def OpenSpec.upto (s : _root_.Go.ChangeSpec) : _root_.Go.OpenSpec := { _root_.Go.OpenSpec.ofChange s with cond := some uptoSmall }

/-- 'seinelaw08.SparseScans', WHERE WHAT IT READS IS OF BULK AT MOST 1048576: true; the input reads as it did. -/
def sparseScansUptoRow : OpenClaim := { program := "ytieelnpfpfiboaa", sum := "576d9d121c8c50a9ffdabb2c3d12969983962cac371ba47f41f270734cc29f10", func := "seine/seinelaw08.SparseScans", spec := "sparseScans", unfollowed := true, recurses := true, plainKeys := false, apart := false, narrowed := true }
def SparseScansUptoSaid : Prop := sparseScansUptoRow.holds Try.pinned (OpenSpec.upto sparseScansSpec)

/-- 'seinelaw08.SparseLinear', WHERE WHAT IT READS IS OF BULK AT MOST 1048576: true; the input reads as it did. -/
def sparseLinearUptoRow : OpenClaim := { program := "ytieelnpfpfiboaa", sum := "576d9d121c8c50a9ffdabb2c3d12969983962cac371ba47f41f270734cc29f10", func := "seine/seinelaw08.SparseLinear", spec := "sparseLinear", unfollowed := true, recurses := true, plainKeys := false, apart := false, narrowed := true }
def SparseLinearUptoSaid : Prop := sparseLinearUptoRow.holds Try.pinned (OpenSpec.upto sparseLinearSpec)

/-- 'seinelaw08.SparseFront', WHERE WHAT IT READS IS OF BULK AT MOST 1048576: true; the input reads as it did. -/
def sparseFrontUptoRow : OpenClaim := { program := "ytieelnpfpfiboaa", sum := "576d9d121c8c50a9ffdabb2c3d12969983962cac371ba47f41f270734cc29f10", func := "seine/seinelaw08.SparseFront", spec := "sparseFront", unfollowed := true, recurses := true, plainKeys := false, apart := false, narrowed := true }
def SparseFrontUptoSaid : Prop := sparseFrontUptoRow.holds Try.pinned (OpenSpec.upto sparseFrontSpec)

/-- 'seinelaw08.SparseSteps', WHERE WHAT IT READS IS OF BULK AT MOST 1048576: true; the input reads as it did. -/
def sparseStepsUptoRow : OpenClaim := { program := "ytieelnpfpfiboaa", sum := "576d9d121c8c50a9ffdabb2c3d12969983962cac371ba47f41f270734cc29f10", func := "seine/seinelaw08.SparseSteps", spec := "sparseSteps", unfollowed := true, recurses := true, plainKeys := false, apart := false, narrowed := true }
def SparseStepsUptoSaid : Prop := sparseStepsUptoRow.holds Try.pinned (OpenSpec.upto sparseStepsSpec)

/-- 'seinelaw08.SparseStates', WHERE WHAT IT READS IS OF BULK AT MOST 1048576: true; the input reads as it did. -/
def sparseStatesUptoRow : OpenClaim := { program := "ytieelnpfpfiboaa", sum := "576d9d121c8c50a9ffdabb2c3d12969983962cac371ba47f41f270734cc29f10", func := "seine/seinelaw08.SparseStates", spec := "sparseStates", unfollowed := true, recurses := true, plainKeys := false, apart := false, narrowed := true }
def SparseStatesUptoSaid : Prop := sparseStatesUptoRow.holds Try.pinned (OpenSpec.upto sparseStatesSpec)

/-- 'seinelaw08.SparseNone', WHERE WHAT IT READS IS OF BULK AT MOST 1048576: true; the input reads as it did. -/
def sparseNoneUptoRow : OpenClaim := { program := "ytieelnpfpfiboaa", sum := "576d9d121c8c50a9ffdabb2c3d12969983962cac371ba47f41f270734cc29f10", func := "seine/seinelaw08.SparseNone", spec := "sparseNone", unfollowed := true, recurses := true, plainKeys := false, apart := false, narrowed := true }
def SparseNoneUptoSaid : Prop := sparseNoneUptoRow.holds Try.pinned (OpenSpec.upto sparseNoneSpec)

end Rows
end Go.Proofs.Ytieelnpfpfiboaa
