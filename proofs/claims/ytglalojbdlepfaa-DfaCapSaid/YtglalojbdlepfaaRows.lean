/-
  No cell of these rows narrows 'for every input' (looked for: loops, veiled, ifaces, maps, wideKeys, modest, calm, conditions, laid).
  DERIVED. THE GIVEN ROWS OF THIS SEAT. 6 by the template 'for every input the law returns true; each argument reads behind the call as it read before'; 0 by the template 'total and deterministic' (their statements: YtglalojbdlepfaaTotals.lean).
  GIVEN WITH THE SEED: the statements are not yours to turn. If you find one false, say at which input.
  Laid BY PROGRAM, IN A SANDBOX (cutbox-rows.mjs): the forced cells as the released guide's own fill.sh prints them over the translation 5b9d1e001e09271d… (all of the seat's roots in one cut). By AI agents, Wed Nov 11 2026. No macro, syntax, notation, axiom, sorry.
-/
import Derived.Test.YtglalojbdlepfaaChecked
import GoSem.Claim
import GoSem.ClaimJoined
import GoSem.ClaimMapViews
import Derived.JoinedTies
import Derived.KernelRfl
namespace Go.Proofs.Ytglalojbdlepfaa
/- THE CELL 'sum', in the pinned program and in every row, IS THE sha256 OF THE DUMP (.gsa) THAT YtglalojbdlepfaaProg.lean LOADS. Nothing in Lean hashes anything: it is a label: what it is worth is what the hold of that sum in a sandbox is worth. -/
noncomputable def Try.pinned : Pinned := { name := "ytglalojbdlepfaa", sum := "5b9d1e001e09271d6a6c2b10460ec03e1ecd7c5a941bea010cf48c2d5e491faf", checked := Try.checked }
namespace Rows
def none {H : Type} : Left H := { results := [], args := [] }

/-- 'seinelaw10.DfaScans': WHATEVER THE INPUT: true; the input reads as it did. -/
def dfaScansSpec : ChangeSpec := { name := "dfaScans", fn := fun _ => fun
  | [d1, d2] => { results := [.lit (.bool true)], args := [d1, d2] }
  | _ => none }
def dfaScansRow : OpenClaim := { program := "ytglalojbdlepfaa", sum := "5b9d1e001e09271d6a6c2b10460ec03e1ecd7c5a941bea010cf48c2d5e491faf", func := "seine/seinelaw10.DfaScans", spec := "dfaScans", unfollowed := true, recurses := true, plainKeys := false, apart := false }
def DfaScansSaid : Prop := dfaScansRow.holds Try.pinned (OpenSpec.ofChange dfaScansSpec)

/-- ITS FALSE NEIGHBOUR: 'it returns false'. Refute it at one input. -/
def dfaScansWrong : ChangeSpec := { name := "dfaScans", fn := fun _ => fun
  | [d1, d2] => { results := [.lit (.bool false)], args := [d1, d2] }
  | _ => none }
def DfaScansWrongFalsely : Prop := dfaScansRow.holds Try.pinned (OpenSpec.ofChange dfaScansWrong)

/-- 'seinelaw10.DfaLinear': WHATEVER THE INPUT: true; the input reads as it did. -/
def dfaLinearSpec : ChangeSpec := { name := "dfaLinear", fn := fun _ => fun
  | [d1, d2, d3] => { results := [.lit (.bool true)], args := [d1, d2, d3] }
  | _ => none }
def dfaLinearRow : OpenClaim := { program := "ytglalojbdlepfaa", sum := "5b9d1e001e09271d6a6c2b10460ec03e1ecd7c5a941bea010cf48c2d5e491faf", func := "seine/seinelaw10.DfaLinear", spec := "dfaLinear", unfollowed := true, recurses := true, plainKeys := false, apart := false }
def DfaLinearSaid : Prop := dfaLinearRow.holds Try.pinned (OpenSpec.ofChange dfaLinearSpec)

/-- ITS FALSE NEIGHBOUR: 'it returns false'. Refute it at one input. -/
def dfaLinearWrong : ChangeSpec := { name := "dfaLinear", fn := fun _ => fun
  | [d1, d2, d3] => { results := [.lit (.bool false)], args := [d1, d2, d3] }
  | _ => none }
def DfaLinearWrongFalsely : Prop := dfaLinearRow.holds Try.pinned (OpenSpec.ofChange dfaLinearWrong)

/-- 'seinelaw10.DfaClasses': WHATEVER THE INPUT: true; the input reads as it did. -/
def dfaClassesSpec : ChangeSpec := { name := "dfaClasses", fn := fun _ => fun
  | [d1, d2, d3, d4] => { results := [.lit (.bool true)], args := [d1, d2, d3, d4] }
  | _ => none }
def dfaClassesRow : OpenClaim := { program := "ytglalojbdlepfaa", sum := "5b9d1e001e09271d6a6c2b10460ec03e1ecd7c5a941bea010cf48c2d5e491faf", func := "seine/seinelaw10.DfaClasses", spec := "dfaClasses", unfollowed := true, recurses := true, plainKeys := false, apart := false }
def DfaClassesSaid : Prop := dfaClassesRow.holds Try.pinned (OpenSpec.ofChange dfaClassesSpec)

/-- ITS FALSE NEIGHBOUR: 'it returns false'. Refute it at one input. -/
def dfaClassesWrong : ChangeSpec := { name := "dfaClasses", fn := fun _ => fun
  | [d1, d2, d3, d4] => { results := [.lit (.bool false)], args := [d1, d2, d3, d4] }
  | _ => none }
def DfaClassesWrongFalsely : Prop := dfaClassesRow.holds Try.pinned (OpenSpec.ofChange dfaClassesWrong)

/-- 'seinelaw10.DfaNext': WHATEVER THE INPUT: true; the input reads as it did. -/
def dfaNextSpec : ChangeSpec := { name := "dfaNext", fn := fun _ => fun
  | [d1, d2, d3] => { results := [.lit (.bool true)], args := [d1, d2, d3] }
  | _ => none }
def dfaNextRow : OpenClaim := { program := "ytglalojbdlepfaa", sum := "5b9d1e001e09271d6a6c2b10460ec03e1ecd7c5a941bea010cf48c2d5e491faf", func := "seine/seinelaw10.DfaNext", spec := "dfaNext", unfollowed := true, recurses := true, plainKeys := false, apart := false }
def DfaNextSaid : Prop := dfaNextRow.holds Try.pinned (OpenSpec.ofChange dfaNextSpec)

/-- ITS FALSE NEIGHBOUR: 'it returns false'. Refute it at one input. -/
def dfaNextWrong : ChangeSpec := { name := "dfaNext", fn := fun _ => fun
  | [d1, d2, d3] => { results := [.lit (.bool false)], args := [d1, d2, d3] }
  | _ => none }
def DfaNextWrongFalsely : Prop := dfaNextRow.holds Try.pinned (OpenSpec.ofChange dfaNextWrong)

/-- 'seinelaw10.DfaCap': WHATEVER THE INPUT: true; the input reads as it did. -/
def dfaCapSpec : ChangeSpec := { name := "dfaCap", fn := fun _ => fun
  | [d1, d2] => { results := [.lit (.bool true)], args := [d1, d2] }
  | _ => none }
def dfaCapRow : OpenClaim := { program := "ytglalojbdlepfaa", sum := "5b9d1e001e09271d6a6c2b10460ec03e1ecd7c5a941bea010cf48c2d5e491faf", func := "seine/seinelaw10.DfaCap", spec := "dfaCap", unfollowed := true, recurses := true, plainKeys := false, apart := false }
def DfaCapSaid : Prop := dfaCapRow.holds Try.pinned (OpenSpec.ofChange dfaCapSpec)

/-- ITS FALSE NEIGHBOUR: 'it returns false'. Refute it at one input. -/
def dfaCapWrong : ChangeSpec := { name := "dfaCap", fn := fun _ => fun
  | [d1, d2] => { results := [.lit (.bool false)], args := [d1, d2] }
  | _ => none }
def DfaCapWrongFalsely : Prop := dfaCapRow.holds Try.pinned (OpenSpec.ofChange dfaCapWrong)

/-- 'seinelaw10.DfaSparse': WHATEVER THE INPUT: true; the input reads as it did. -/
def dfaSparseSpec : ChangeSpec := { name := "dfaSparse", fn := fun _ => fun
  | [d1, d2, d3, d4] => { results := [.lit (.bool true)], args := [d1, d2, d3, d4] }
  | _ => none }
def dfaSparseRow : OpenClaim := { program := "ytglalojbdlepfaa", sum := "5b9d1e001e09271d6a6c2b10460ec03e1ecd7c5a941bea010cf48c2d5e491faf", func := "seine/seinelaw10.DfaSparse", spec := "dfaSparse", unfollowed := true, recurses := true, plainKeys := false, apart := false }
def DfaSparseSaid : Prop := dfaSparseRow.holds Try.pinned (OpenSpec.ofChange dfaSparseSpec)

/-- ITS FALSE NEIGHBOUR: 'it returns false'. Refute it at one input. -/
def dfaSparseWrong : ChangeSpec := { name := "dfaSparse", fn := fun _ => fun
  | [d1, d2, d3, d4] => { results := [.lit (.bool false)], args := [d1, d2, d3, d4] }
  | _ => none }
def DfaSparseWrongFalsely : Prop := dfaSparseRow.holds Try.pinned (OpenSpec.ofChange dfaSparseWrong)

/- THE SECOND FORM. 'bulk': how many values and letters a reading holds, each counted each time it is reached (what is shared counts as often as it is met; a slice's spare places count too). A statement '..UptoSaid' is the law's where the arguments, and the package variables that the reading takes, are together of bulk at most 1048576: NARROWER than '..Said'. Prove '..Said' where nothing that the law and all that it calls make is longer than what came in: it says more and counts as full. Else prove '..UptoSaid'. A law counts once. -/
mutual
def uptoBulk {H : Type} : DataW H → Nat
  | .lit (.string bytes) => bytes.length + 1
  | .lit _ => 1
  | .nil => 1
  | .ptr d => uptoBulk d + 1
  | .slice elems spare => uptoBulkAll elems + uptoBulkAll spare + 1
  | .agg parts => uptoBulkAll parts + 1
  | .iface _ d => uptoBulk d + 1
  | .map entries => uptoBulkEntries entries + 1
  | .held _ => 1
def uptoBulkAll {H : Type} : List (DataW H) → Nat
  | [] => 0
  | d :: r => uptoBulk d + uptoBulkAll r
def uptoBulkEntries {H : Type} : List (Lit × DataW H) → Nat
  | [] => 0
  | x :: r => uptoBulkEntry x + uptoBulkEntries r
def uptoBulkEntry {H : Type} : Lit × DataW H → Nat
  | (.string bytes, d) => bytes.length + uptoBulk d + 1
  | (_, d) => uptoBulk d + 1
 end
def uptoSmall : (H : Type) → List (DataW H) → Bool := fun _ ds => decide (uptoBulkAll ds ≤ 1048576)
def OpenSpec.upto (s : _root_.Go.ChangeSpec) : _root_.Go.OpenSpec := { _root_.Go.OpenSpec.ofChange s with cond := some uptoSmall }

/-- 'seinelaw10.DfaScans', WHERE WHAT IT READS IS OF BULK AT MOST 1048576: true; the input reads as it did. -/
def dfaScansUptoRow : OpenClaim := { program := "ytglalojbdlepfaa", sum := "5b9d1e001e09271d6a6c2b10460ec03e1ecd7c5a941bea010cf48c2d5e491faf", func := "seine/seinelaw10.DfaScans", spec := "dfaScans", unfollowed := true, recurses := true, plainKeys := false, apart := false, narrowed := true }
def DfaScansUptoSaid : Prop := dfaScansUptoRow.holds Try.pinned (OpenSpec.upto dfaScansSpec)

/-- 'seinelaw10.DfaLinear', WHERE WHAT IT READS IS OF BULK AT MOST 1048576: true; the input reads as it did. -/
def dfaLinearUptoRow : OpenClaim := { program := "ytglalojbdlepfaa", sum := "5b9d1e001e09271d6a6c2b10460ec03e1ecd7c5a941bea010cf48c2d5e491faf", func := "seine/seinelaw10.DfaLinear", spec := "dfaLinear", unfollowed := true, recurses := true, plainKeys := false, apart := false, narrowed := true }
def DfaLinearUptoSaid : Prop := dfaLinearUptoRow.holds Try.pinned (OpenSpec.upto dfaLinearSpec)

/-- 'seinelaw10.DfaClasses', WHERE WHAT IT READS IS OF BULK AT MOST 1048576: true; the input reads as it did. -/
def dfaClassesUptoRow : OpenClaim := { program := "ytglalojbdlepfaa", sum := "5b9d1e001e09271d6a6c2b10460ec03e1ecd7c5a941bea010cf48c2d5e491faf", func := "seine/seinelaw10.DfaClasses", spec := "dfaClasses", unfollowed := true, recurses := true, plainKeys := false, apart := false, narrowed := true }
def DfaClassesUptoSaid : Prop := dfaClassesUptoRow.holds Try.pinned (OpenSpec.upto dfaClassesSpec)

/-- 'seinelaw10.DfaNext', WHERE WHAT IT READS IS OF BULK AT MOST 1048576: true; the input reads as it did. -/
def dfaNextUptoRow : OpenClaim := { program := "ytglalojbdlepfaa", sum := "5b9d1e001e09271d6a6c2b10460ec03e1ecd7c5a941bea010cf48c2d5e491faf", func := "seine/seinelaw10.DfaNext", spec := "dfaNext", unfollowed := true, recurses := true, plainKeys := false, apart := false, narrowed := true }
def DfaNextUptoSaid : Prop := dfaNextUptoRow.holds Try.pinned (OpenSpec.upto dfaNextSpec)

/-- 'seinelaw10.DfaCap', WHERE WHAT IT READS IS OF BULK AT MOST 1048576: true; the input reads as it did. -/
def dfaCapUptoRow : OpenClaim := { program := "ytglalojbdlepfaa", sum := "5b9d1e001e09271d6a6c2b10460ec03e1ecd7c5a941bea010cf48c2d5e491faf", func := "seine/seinelaw10.DfaCap", spec := "dfaCap", unfollowed := true, recurses := true, plainKeys := false, apart := false, narrowed := true }
def DfaCapUptoSaid : Prop := dfaCapUptoRow.holds Try.pinned (OpenSpec.upto dfaCapSpec)

/-- 'seinelaw10.DfaSparse', WHERE WHAT IT READS IS OF BULK AT MOST 1048576: true; the input reads as it did. -/
def dfaSparseUptoRow : OpenClaim := { program := "ytglalojbdlepfaa", sum := "5b9d1e001e09271d6a6c2b10460ec03e1ecd7c5a941bea010cf48c2d5e491faf", func := "seine/seinelaw10.DfaSparse", spec := "dfaSparse", unfollowed := true, recurses := true, plainKeys := false, apart := false, narrowed := true }
def DfaSparseUptoSaid : Prop := dfaSparseUptoRow.holds Try.pinned (OpenSpec.upto dfaSparseSpec)

end Rows
end Go.Proofs.Ytglalojbdlepfaa
