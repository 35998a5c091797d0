/-
  No cell of these rows narrows 'for every input' (looked for: loops, veiled, ifaces, maps, wideKeys, modest, calm, conditions, laid).
  DERIVED. THE GIVEN ROWS OF THIS SEAT. 5 by the template 'for every input the law returns true; each argument reads behind the call as it read before'; 0 by the template 'total and deterministic' (their statements: YtdiljmhikajjiaaGreatTotals.lean).
  GIVEN WITH THE SEED: the statements are not yours to turn. If you find one false, say at which input.
  Laid BY PROGRAM, IN A SANDBOX (cutbox-rows.mjs): the forced cells as the released guide's own fill.sh prints them over the translation db6a6c9e5000a800… (all of the seat's roots in one cut). By AI agents, Wed Nov 11 2026. No macro, syntax, notation, axiom, sorry.
-/
import Derived.Test.YtdiljmhikajjiaaGreatChecked
import GoSem.Claim
import GoSem.ClaimJoined
import GoSem.ClaimMapViews
import Derived.JoinedTies
import Derived.KernelRfl
namespace Go.Proofs.YtdiljmhikajjiaaGreat
/- THE CELL 'sum', in the pinned program and in every row, IS THE sha256 OF THE DUMP (.gsa) THAT YtdiljmhikajjiaaGreatProg.lean LOADS. Nothing in Lean hashes anything: it is a label: what it is worth is what the hold of that sum in a sandbox is worth. -/
noncomputable def Tryz.pinned : Pinned := { name := "ytdiljmhikajjiaagreat", sum := "db6a6c9e5000a80083bf92865a12053d3e0d9fc8bbd4eabee74c2d08a2f512ec", checked := Tryz.checked }
namespace Rows
def none {H : Type} : Left H := { results := [], args := [] }

/-- 'seinelaw17.EngineSame': WHATEVER THE INPUT: true; the input reads as it did. -/
def engineSameSpec : ChangeSpec := { name := "engineSame", fn := fun _ => fun
  | [d1, d2, d3, d4] => { results := [.lit (.bool true)], args := [d1, d2, d3, d4] }
  | _ => none }
def engineSameRow : OpenClaim := { program := "ytdiljmhikajjiaagreat", sum := "db6a6c9e5000a80083bf92865a12053d3e0d9fc8bbd4eabee74c2d08a2f512ec", func := "seine/seinelaw17.EngineSame", spec := "engineSame", unfollowed := true, recurses := true, plainKeys := false, apart := false }
def EngineSameSaid : Prop := engineSameRow.holds Tryz.pinned (OpenSpec.ofChange engineSameSpec)

/-- ITS FALSE NEIGHBOUR: 'it returns false'. Refute it at one input. -/
def engineSameWrong : ChangeSpec := { name := "engineSame", fn := fun _ => fun
  | [d1, d2, d3, d4] => { results := [.lit (.bool false)], args := [d1, d2, d3, d4] }
  | _ => none }
def EngineSameWrongFalsely : Prop := engineSameRow.holds Tryz.pinned (OpenSpec.ofChange engineSameWrong)

/-- 'seinelaw17.EngineFinds': WHATEVER THE INPUT: true; the input reads as it did. -/
def engineFindsSpec : ChangeSpec := { name := "engineFinds", fn := fun _ => fun
  | [d1, d2, d3] => { results := [.lit (.bool true)], args := [d1, d2, d3] }
  | _ => none }
def engineFindsRow : OpenClaim := { program := "ytdiljmhikajjiaagreat", sum := "db6a6c9e5000a80083bf92865a12053d3e0d9fc8bbd4eabee74c2d08a2f512ec", func := "seine/seinelaw17.EngineFinds", spec := "engineFinds", unfollowed := true, recurses := true, plainKeys := false, apart := false }
def EngineFindsSaid : Prop := engineFindsRow.holds Tryz.pinned (OpenSpec.ofChange engineFindsSpec)

/-- ITS FALSE NEIGHBOUR: 'it returns false'. Refute it at one input. -/
def engineFindsWrong : ChangeSpec := { name := "engineFinds", fn := fun _ => fun
  | [d1, d2, d3] => { results := [.lit (.bool false)], args := [d1, d2, d3] }
  | _ => none }
def EngineFindsWrongFalsely : Prop := engineFindsRow.holds Tryz.pinned (OpenSpec.ofChange engineFindsWrong)

/-- 'seinelaw17.EngineEmpty': WHATEVER THE INPUT: true; the input reads as it did. -/
def engineEmptySpec : ChangeSpec := { name := "engineEmpty", fn := fun _ => fun
  | [d1, d2, d3] => { results := [.lit (.bool true)], args := [d1, d2, d3] }
  | _ => none }
def engineEmptyRow : OpenClaim := { program := "ytdiljmhikajjiaagreat", sum := "db6a6c9e5000a80083bf92865a12053d3e0d9fc8bbd4eabee74c2d08a2f512ec", func := "seine/seinelaw17.EngineEmpty", spec := "engineEmpty", unfollowed := true, recurses := true, plainKeys := false, apart := false }
def EngineEmptySaid : Prop := engineEmptyRow.holds Tryz.pinned (OpenSpec.ofChange engineEmptySpec)

/-- ITS FALSE NEIGHBOUR: 'it returns false'. Refute it at one input. -/
def engineEmptyWrong : ChangeSpec := { name := "engineEmpty", fn := fun _ => fun
  | [d1, d2, d3] => { results := [.lit (.bool false)], args := [d1, d2, d3] }
  | _ => none }
def EngineEmptyWrongFalsely : Prop := engineEmptyRow.holds Tryz.pinned (OpenSpec.ofChange engineEmptyWrong)

/-- 'seinelaw17.EngineErrors': WHATEVER THE INPUT: true; the input reads as it did. -/
def engineErrorsSpec : ChangeSpec := { name := "engineErrors", fn := fun _ => fun
  | [d1, d2] => { results := [.lit (.bool true)], args := [d1, d2] }
  | _ => none }
def engineErrorsRow : OpenClaim := { program := "ytdiljmhikajjiaagreat", sum := "db6a6c9e5000a80083bf92865a12053d3e0d9fc8bbd4eabee74c2d08a2f512ec", func := "seine/seinelaw17.EngineErrors", spec := "engineErrors", unfollowed := true, recurses := true, plainKeys := false, apart := false }
def EngineErrorsSaid : Prop := engineErrorsRow.holds Tryz.pinned (OpenSpec.ofChange engineErrorsSpec)

/-- ITS FALSE NEIGHBOUR: 'it returns false'. Refute it at one input. -/
def engineErrorsWrong : ChangeSpec := { name := "engineErrors", fn := fun _ => fun
  | [d1, d2] => { results := [.lit (.bool false)], args := [d1, d2] }
  | _ => none }
def EngineErrorsWrongFalsely : Prop := engineErrorsRow.holds Tryz.pinned (OpenSpec.ofChange engineErrorsWrong)

/-- 'seinelaw17.EngineCounts': WHATEVER THE INPUT: true; the input reads as it did. -/
def engineCountsSpec : ChangeSpec := { name := "engineCounts", fn := fun _ => fun
  | [d1, d2, d3, d4] => { results := [.lit (.bool true)], args := [d1, d2, d3, d4] }
  | _ => none }
def engineCountsRow : OpenClaim := { program := "ytdiljmhikajjiaagreat", sum := "db6a6c9e5000a80083bf92865a12053d3e0d9fc8bbd4eabee74c2d08a2f512ec", func := "seine/seinelaw17.EngineCounts", spec := "engineCounts", unfollowed := true, recurses := true, plainKeys := false, apart := false }
def EngineCountsSaid : Prop := engineCountsRow.holds Tryz.pinned (OpenSpec.ofChange engineCountsSpec)

/-- ITS FALSE NEIGHBOUR: 'it returns false'. Refute it at one input. -/
def engineCountsWrong : ChangeSpec := { name := "engineCounts", fn := fun _ => fun
  | [d1, d2, d3, d4] => { results := [.lit (.bool false)], args := [d1, d2, d3, d4] }
  | _ => none }
def EngineCountsWrongFalsely : Prop := engineCountsRow.holds Tryz.pinned (OpenSpec.ofChange engineCountsWrong)

/- THE SECOND FORM. 'bulk': how many values and letters a reading holds, each counted each time it is reached (what is shared counts as often as it is met; a slice's spare places count too). A statement '..UptoSaid' is the law's where the arguments, and the package variables that the reading takes, are together of bulk at most 1048576: NARROWER than '..Said'. Prove '..Said' where nothing that the law and all that it calls make is longer than what came in: it says more and counts as full. Else prove '..UptoSaid'. A law counts once. -/
mutual
def uptoBulk {H : Type} : DataW H → Nat
  | .lit (.string bytes) => bytes.length + 1
  | .lit _ => 1
  | .nil => 1
  | .ptr d => uptoBulk d + 1
  | .slice elems spare => uptoBulkAll elems + uptoBulkAll spare + 1
  | .agg parts => uptoBulkAll parts + 1
  | .iface _ d => uptoBulk d + 1
  | .map entries => uptoBulkEntries entries + 1
  | .held _ => 1
def uptoBulkAll {H : Type} : List (DataW H) → Nat
  | [] => 0
  | d :: r => uptoBulk d + uptoBulkAll r
def uptoBulkEntries {H : Type} : List (Lit × DataW H) → Nat
  | [] => 0
  | x :: r => uptoBulkEntry x + uptoBulkEntries r
def uptoBulkEntry {H : Type} : Lit × DataW H → Nat
  | (.string bytes, d) => bytes.length + uptoBulk d + 1
  | (_, d) => uptoBulk d + 1
 end
def uptoSmall : (H : Type) → List (DataW H) → Bool := fun _ ds => decide (uptoBulkAll ds ≤ 1048576)
def OpenSpec.upto (s : _root_.Go.ChangeSpec) : _root_.Go.OpenSpec := { _root_.Go.OpenSpec.ofChange s with cond := some uptoSmall }

/-- 'seinelaw17.EngineSame', WHERE WHAT IT READS IS OF BULK AT MOST 1048576: true; the input reads as it did. -/
def engineSameUptoRow : OpenClaim := { program := "ytdiljmhikajjiaagreat", sum := "db6a6c9e5000a80083bf92865a12053d3e0d9fc8bbd4eabee74c2d08a2f512ec", func := "seine/seinelaw17.EngineSame", spec := "engineSame", unfollowed := true, recurses := true, plainKeys := false, apart := false, narrowed := true }
def EngineSameUptoSaid : Prop := engineSameUptoRow.holds Tryz.pinned (OpenSpec.upto engineSameSpec)

/-- 'seinelaw17.EngineFinds', WHERE WHAT IT READS IS OF BULK AT MOST 1048576: true; the input reads as it did. -/
def engineFindsUptoRow : OpenClaim := { program := "ytdiljmhikajjiaagreat", sum := "db6a6c9e5000a80083bf92865a12053d3e0d9fc8bbd4eabee74c2d08a2f512ec", func := "seine/seinelaw17.EngineFinds", spec := "engineFinds", unfollowed := true, recurses := true, plainKeys := false, apart := false, narrowed := true }
def EngineFindsUptoSaid : Prop := engineFindsUptoRow.holds Tryz.pinned (OpenSpec.upto engineFindsSpec)

/-- 'seinelaw17.EngineEmpty', WHERE WHAT IT READS IS OF BULK AT MOST 1048576: true; the input reads as it did. -/
def engineEmptyUptoRow : OpenClaim := { program := "ytdiljmhikajjiaagreat", sum := "db6a6c9e5000a80083bf92865a12053d3e0d9fc8bbd4eabee74c2d08a2f512ec", func := "seine/seinelaw17.EngineEmpty", spec := "engineEmpty", unfollowed := true, recurses := true, plainKeys := false, apart := false, narrowed := true }
def EngineEmptyUptoSaid : Prop := engineEmptyUptoRow.holds Tryz.pinned (OpenSpec.upto engineEmptySpec)

/-- 'seinelaw17.EngineErrors', WHERE WHAT IT READS IS OF BULK AT MOST 1048576: true; the input reads as it did. -/
def engineErrorsUptoRow : OpenClaim := { program := "ytdiljmhikajjiaagreat", sum := "db6a6c9e5000a80083bf92865a12053d3e0d9fc8bbd4eabee74c2d08a2f512ec", func := "seine/seinelaw17.EngineErrors", spec := "engineErrors", unfollowed := true, recurses := true, plainKeys := false, apart := false, narrowed := true }
def EngineErrorsUptoSaid : Prop := engineErrorsUptoRow.holds Tryz.pinned (OpenSpec.upto engineErrorsSpec)

/-- 'seinelaw17.EngineCounts', WHERE WHAT IT READS IS OF BULK AT MOST 1048576: true; the input reads as it did. -/
def engineCountsUptoRow : OpenClaim := { program := "ytdiljmhikajjiaagreat", sum := "db6a6c9e5000a80083bf92865a12053d3e0d9fc8bbd4eabee74c2d08a2f512ec", func := "seine/seinelaw17.EngineCounts", spec := "engineCounts", unfollowed := true, recurses := true, plainKeys := false, apart := false, narrowed := true }
def EngineCountsUptoSaid : Prop := engineCountsUptoRow.holds Tryz.pinned (OpenSpec.upto engineCountsSpec)

end Rows
end Go.Proofs.YtdiljmhikajjiaaGreat
