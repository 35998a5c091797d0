/-
  NARROWER THAN 'FOR EVERY INPUT', by the rows' own cells (each row's printed sentence says how): TopMore: laid · TopJoins: laid · TopCounted: laid · FgrepRuns: laid · FgrepCounts: laid · FgrepCuts: laid · FgrepOnly: laid · FgrepErrors: laid · FgrepPieces: laid · FgrepLinear: laid · FgrepOthers: laid · ScriptTakes: laid · ScriptPuts: laid · ScriptBack: laid · ScriptOnly: laid · ScriptPlays: laid · ScriptNumbers: laid.
  DERIVED. THE GIVEN ROWS OF THIS SEAT. 17 by the template 'for every input the law returns true; each argument reads behind the call as it read before'; 0 by the template 'total and deterministic' (their statements: YtfdlaomnecjfeaaGreatDoorTotals.lean).
  GIVEN WITH THE SEED: the statements are not yours to turn. If you find one false, say at which input.
  Laid BY PROGRAM, IN A SANDBOX (cutbox-rows.mjs): the forced cells as the released guide's own fill.sh prints them over the translation e4768f17768ff617… (all of the seat's roots in one cut). By AI agents, Wed Nov 11 2026. No macro, syntax, notation, axiom, sorry.
-/
import Derived.Test.YtfdlaomnecjfeaaGreatDoorChecked
import GoSem.Claim
import GoSem.ClaimJoined
import GoSem.ClaimMapViews
import Derived.JoinedTies
import Derived.KernelRfl
namespace Go.Proofs.YtfdlaomnecjfeaaGreatDoor
/- THE CELL 'sum', in the pinned program and in every row, IS THE sha256 OF THE DUMP (.gsa) THAT YtfdlaomnecjfeaaGreatDoorProg.lean LOADS. Nothing in Lean hashes anything: it is a label: what it is worth is what the hold of that sum in a sandbox is worth. -/
noncomputable def Tryz.pinned : Pinned := { name := "ytfdlaomnecjfeaagreatdoor", sum := "e4768f17768ff617b8bdfda4ea67e4480ca0e3b9a6d3c62493d34bc9457571f2", checked := Tryz.checked }
namespace Rows
def none {H : Type} : Left H := { results := [], args := [] }

/- WHAT THE LISTED PACKAGE-LEVEL VARIABLES READ AS WHEN THE CALL BEGINS. Each datum BY PROGRAM (the guide's laid-datum.mjs) off the statement by which the dump's own 'gosem.cut.vars' lays the variable. In a bare row this is a premise. The card (YtfdlaomnecjfeaaGreatDoorCards.lean) ties it to the program's text. -/
def laid_math_bits_deBruijn32tab {H : Type} : DataW H := .agg [.lit (.int .u8 0), .lit (.int .u8 1), .lit (.int .u8 28), .lit (.int .u8 2), .lit (.int .u8 29), .lit (.int .u8 14), .lit (.int .u8 24), .lit (.int .u8 3), .lit (.int .u8 30), .lit (.int .u8 22), .lit (.int .u8 20), .lit (.int .u8 15), .lit (.int .u8 25), .lit (.int .u8 17), .lit (.int .u8 4), .lit (.int .u8 8), .lit (.int .u8 31), .lit (.int .u8 27), .lit (.int .u8 13), .lit (.int .u8 23), .lit (.int .u8 21), .lit (.int .u8 19), .lit (.int .u8 16), .lit (.int .u8 7), .lit (.int .u8 26), .lit (.int .u8 12), .lit (.int .u8 18), .lit (.int .u8 6), .lit (.int .u8 11), .lit (.int .u8 5), .lit (.int .u8 10), .lit (.int .u8 9)]
def laid_math_bits_deBruijn64tab {H : Type} : DataW H := .agg [.lit (.int .u8 0), .lit (.int .u8 1), .lit (.int .u8 56), .lit (.int .u8 2), .lit (.int .u8 57), .lit (.int .u8 49), .lit (.int .u8 28), .lit (.int .u8 3), .lit (.int .u8 61), .lit (.int .u8 58), .lit (.int .u8 42), .lit (.int .u8 50), .lit (.int .u8 38), .lit (.int .u8 29), .lit (.int .u8 17), .lit (.int .u8 4), .lit (.int .u8 62), .lit (.int .u8 47), .lit (.int .u8 59), .lit (.int .u8 36), .lit (.int .u8 45), .lit (.int .u8 43), .lit (.int .u8 51), .lit (.int .u8 22), .lit (.int .u8 53), .lit (.int .u8 39), .lit (.int .u8 33), .lit (.int .u8 30), .lit (.int .u8 24), .lit (.int .u8 18), .lit (.int .u8 12), .lit (.int .u8 5), .lit (.int .u8 63), .lit (.int .u8 55), .lit (.int .u8 48), .lit (.int .u8 27), .lit (.int .u8 60), .lit (.int .u8 41), .lit (.int .u8 37), .lit (.int .u8 16), .lit (.int .u8 46), .lit (.int .u8 35), .lit (.int .u8 44), .lit (.int .u8 21), .lit (.int .u8 52), .lit (.int .u8 32), .lit (.int .u8 23), .lit (.int .u8 11), .lit (.int .u8 54), .lit (.int .u8 26), .lit (.int .u8 40), .lit (.int .u8 15), .lit (.int .u8 34), .lit (.int .u8 20), .lit (.int .u8 31), .lit (.int .u8 10), .lit (.int .u8 25), .lit (.int .u8 14), .lit (.int .u8 19), .lit (.int .u8 9), .lit (.int .u8 13), .lit (.int .u8 8), .lit (.int .u8 7), .lit (.int .u8 6)]
def laid_internal_strconv_uint64pow10 {H : Type} : DataW H := .agg [.lit (.int .u64 1), .lit (.int .u64 10), .lit (.int .u64 100), .lit (.int .u64 1000), .lit (.int .u64 10000), .lit (.int .u64 100000), .lit (.int .u64 1000000), .lit (.int .u64 10000000), .lit (.int .u64 100000000), .lit (.int .u64 1000000000), .lit (.int .u64 10000000000), .lit (.int .u64 100000000000), .lit (.int .u64 1000000000000), .lit (.int .u64 10000000000000), .lit (.int .u64 100000000000000), .lit (.int .u64 1000000000000000), .lit (.int .u64 10000000000000000), .lit (.int .u64 100000000000000000), .lit (.int .u64 1000000000000000000), .lit (.int .u64 10000000000000000000)]

/-- 'seinetop.TopMore': WHATEVER THE INPUT: true; the input reads as it did. -/
def topMoreSpec : ChangeSpec := { name := "topMore", fn := fun _ => fun
  | [d1, d2, d3, d4] => { results := [.lit (.bool true)], args := [d1, d2, d3, d4] }
  | _ => none }
def topMoreRow : OpenClaim := { program := "ytfdlaomnecjfeaagreatdoor", sum := "e4768f17768ff617b8bdfda4ea67e4480ca0e3b9a6d3c62493d34bc9457571f2", func := "seine/seinetop.TopMore", spec := "topMore", unfollowed := true, recurses := true, named := ["internal/strconv.uint64pow10", "math/bits.deBruijn32tab", "math/bits.deBruijn64tab"], plainKeys := false, apart := false, laid := [("math/bits.deBruijn32tab", laid_math_bits_deBruijn32tab), ("math/bits.deBruijn64tab", laid_math_bits_deBruijn64tab), ("internal/strconv.uint64pow10", laid_internal_strconv_uint64pow10)] }
def TopMoreSaid : Prop := topMoreRow.holds Tryz.pinned (OpenSpec.ofChange topMoreSpec)

/-- ITS FALSE NEIGHBOUR: 'it returns false'. Refute it at one input. -/
def topMoreWrong : ChangeSpec := { name := "topMore", fn := fun _ => fun
  | [d1, d2, d3, d4] => { results := [.lit (.bool false)], args := [d1, d2, d3, d4] }
  | _ => none }
def TopMoreWrongFalsely : Prop := topMoreRow.holds Tryz.pinned (OpenSpec.ofChange topMoreWrong)

/-- 'seinetop.TopJoins': WHATEVER THE INPUT: true; the input reads as it did. -/
def topJoinsSpec : ChangeSpec := { name := "topJoins", fn := fun _ => fun
  | [d1, d2, d3, d4, d5] => { results := [.lit (.bool true)], args := [d1, d2, d3, d4, d5] }
  | _ => none }
def topJoinsRow : OpenClaim := { program := "ytfdlaomnecjfeaagreatdoor", sum := "e4768f17768ff617b8bdfda4ea67e4480ca0e3b9a6d3c62493d34bc9457571f2", func := "seine/seinetop.TopJoins", spec := "topJoins", unfollowed := true, recurses := true, named := ["internal/strconv.uint64pow10", "math/bits.deBruijn32tab", "math/bits.deBruijn64tab"], plainKeys := false, apart := false, laid := [("math/bits.deBruijn32tab", laid_math_bits_deBruijn32tab), ("math/bits.deBruijn64tab", laid_math_bits_deBruijn64tab), ("internal/strconv.uint64pow10", laid_internal_strconv_uint64pow10)] }
def TopJoinsSaid : Prop := topJoinsRow.holds Tryz.pinned (OpenSpec.ofChange topJoinsSpec)

/-- ITS FALSE NEIGHBOUR: 'it returns false'. Refute it at one input. -/
def topJoinsWrong : ChangeSpec := { name := "topJoins", fn := fun _ => fun
  | [d1, d2, d3, d4, d5] => { results := [.lit (.bool false)], args := [d1, d2, d3, d4, d5] }
  | _ => none }
def TopJoinsWrongFalsely : Prop := topJoinsRow.holds Tryz.pinned (OpenSpec.ofChange topJoinsWrong)

/-- 'seinetop.TopCounted': WHATEVER THE INPUT: true; the input reads as it did. -/
def topCountedSpec : ChangeSpec := { name := "topCounted", fn := fun _ => fun
  | [d1, d2, d3, d4] => { results := [.lit (.bool true)], args := [d1, d2, d3, d4] }
  | _ => none }
def topCountedRow : OpenClaim := { program := "ytfdlaomnecjfeaagreatdoor", sum := "e4768f17768ff617b8bdfda4ea67e4480ca0e3b9a6d3c62493d34bc9457571f2", func := "seine/seinetop.TopCounted", spec := "topCounted", unfollowed := true, recurses := true, named := ["internal/strconv.uint64pow10", "math/bits.deBruijn32tab", "math/bits.deBruijn64tab"], plainKeys := false, apart := false, laid := [("math/bits.deBruijn32tab", laid_math_bits_deBruijn32tab), ("math/bits.deBruijn64tab", laid_math_bits_deBruijn64tab), ("internal/strconv.uint64pow10", laid_internal_strconv_uint64pow10)] }
def TopCountedSaid : Prop := topCountedRow.holds Tryz.pinned (OpenSpec.ofChange topCountedSpec)

/-- ITS FALSE NEIGHBOUR: 'it returns false'. Refute it at one input. -/
def topCountedWrong : ChangeSpec := { name := "topCounted", fn := fun _ => fun
  | [d1, d2, d3, d4] => { results := [.lit (.bool false)], args := [d1, d2, d3, d4] }
  | _ => none }
def TopCountedWrongFalsely : Prop := topCountedRow.holds Tryz.pinned (OpenSpec.ofChange topCountedWrong)

/-- 'seinelaw25.FgrepRuns': WHATEVER THE INPUT: true; the input reads as it did. -/
def fgrepRunsSpec : ChangeSpec := { name := "fgrepRuns", fn := fun _ => fun
  | [d1, d2, d3, d4, d5] => { results := [.lit (.bool true)], args := [d1, d2, d3, d4, d5] }
  | _ => none }
def fgrepRunsRow : OpenClaim := { program := "ytfdlaomnecjfeaagreatdoor", sum := "e4768f17768ff617b8bdfda4ea67e4480ca0e3b9a6d3c62493d34bc9457571f2", func := "seine/seinelaw25.FgrepRuns", spec := "fgrepRuns", unfollowed := true, recurses := true, named := ["internal/strconv.uint64pow10", "math/bits.deBruijn32tab", "math/bits.deBruijn64tab"], plainKeys := false, apart := false, laid := [("math/bits.deBruijn32tab", laid_math_bits_deBruijn32tab), ("math/bits.deBruijn64tab", laid_math_bits_deBruijn64tab), ("internal/strconv.uint64pow10", laid_internal_strconv_uint64pow10)] }
def FgrepRunsSaid : Prop := fgrepRunsRow.holds Tryz.pinned (OpenSpec.ofChange fgrepRunsSpec)

/-- ITS FALSE NEIGHBOUR: 'it returns false'. Refute it at one input. -/
def fgrepRunsWrong : ChangeSpec := { name := "fgrepRuns", fn := fun _ => fun
  | [d1, d2, d3, d4, d5] => { results := [.lit (.bool false)], args := [d1, d2, d3, d4, d5] }
  | _ => none }
def FgrepRunsWrongFalsely : Prop := fgrepRunsRow.holds Tryz.pinned (OpenSpec.ofChange fgrepRunsWrong)

/-- 'seinelaw25.FgrepCounts': WHATEVER THE INPUT: true; the input reads as it did. -/
def fgrepCountsSpec : ChangeSpec := { name := "fgrepCounts", fn := fun _ => fun
  | [d1, d2, d3, d4, d5] => { results := [.lit (.bool true)], args := [d1, d2, d3, d4, d5] }
  | _ => none }
def fgrepCountsRow : OpenClaim := { program := "ytfdlaomnecjfeaagreatdoor", sum := "e4768f17768ff617b8bdfda4ea67e4480ca0e3b9a6d3c62493d34bc9457571f2", func := "seine/seinelaw25.FgrepCounts", spec := "fgrepCounts", unfollowed := true, recurses := true, named := ["internal/strconv.uint64pow10", "math/bits.deBruijn32tab", "math/bits.deBruijn64tab"], plainKeys := false, apart := false, laid := [("math/bits.deBruijn32tab", laid_math_bits_deBruijn32tab), ("math/bits.deBruijn64tab", laid_math_bits_deBruijn64tab), ("internal/strconv.uint64pow10", laid_internal_strconv_uint64pow10)] }
def FgrepCountsSaid : Prop := fgrepCountsRow.holds Tryz.pinned (OpenSpec.ofChange fgrepCountsSpec)

/-- ITS FALSE NEIGHBOUR: 'it returns false'. Refute it at one input. -/
def fgrepCountsWrong : ChangeSpec := { name := "fgrepCounts", fn := fun _ => fun
  | [d1, d2, d3, d4, d5] => { results := [.lit (.bool false)], args := [d1, d2, d3, d4, d5] }
  | _ => none }
def FgrepCountsWrongFalsely : Prop := fgrepCountsRow.holds Tryz.pinned (OpenSpec.ofChange fgrepCountsWrong)

/-- 'seinelaw25.FgrepCuts': WHATEVER THE INPUT: true; the input reads as it did. -/
def fgrepCutsSpec : ChangeSpec := { name := "fgrepCuts", fn := fun _ => fun
  | [d1, d2, d3, d4, d5, d6, d7] => { results := [.lit (.bool true)], args := [d1, d2, d3, d4, d5, d6, d7] }
  | _ => none }
def fgrepCutsRow : OpenClaim := { program := "ytfdlaomnecjfeaagreatdoor", sum := "e4768f17768ff617b8bdfda4ea67e4480ca0e3b9a6d3c62493d34bc9457571f2", func := "seine/seinelaw25.FgrepCuts", spec := "fgrepCuts", unfollowed := true, recurses := true, named := ["internal/strconv.uint64pow10", "math/bits.deBruijn32tab", "math/bits.deBruijn64tab"], plainKeys := false, apart := false, laid := [("math/bits.deBruijn32tab", laid_math_bits_deBruijn32tab), ("math/bits.deBruijn64tab", laid_math_bits_deBruijn64tab), ("internal/strconv.uint64pow10", laid_internal_strconv_uint64pow10)] }
def FgrepCutsSaid : Prop := fgrepCutsRow.holds Tryz.pinned (OpenSpec.ofChange fgrepCutsSpec)

/-- ITS FALSE NEIGHBOUR: 'it returns false'. Refute it at one input. -/
def fgrepCutsWrong : ChangeSpec := { name := "fgrepCuts", fn := fun _ => fun
  | [d1, d2, d3, d4, d5, d6, d7] => { results := [.lit (.bool false)], args := [d1, d2, d3, d4, d5, d6, d7] }
  | _ => none }
def FgrepCutsWrongFalsely : Prop := fgrepCutsRow.holds Tryz.pinned (OpenSpec.ofChange fgrepCutsWrong)

/-- 'seinelaw25.FgrepOnly': WHATEVER THE INPUT: true; the input reads as it did. -/
def fgrepOnlySpec : ChangeSpec := { name := "fgrepOnly", fn := fun _ => fun
  | [d1, d2, d3, d4, d5, d6, d7] => { results := [.lit (.bool true)], args := [d1, d2, d3, d4, d5, d6, d7] }
  | _ => none }
def fgrepOnlyRow : OpenClaim := { program := "ytfdlaomnecjfeaagreatdoor", sum := "e4768f17768ff617b8bdfda4ea67e4480ca0e3b9a6d3c62493d34bc9457571f2", func := "seine/seinelaw25.FgrepOnly", spec := "fgrepOnly", unfollowed := true, recurses := true, named := ["internal/strconv.uint64pow10", "math/bits.deBruijn32tab", "math/bits.deBruijn64tab"], plainKeys := false, apart := false, laid := [("math/bits.deBruijn32tab", laid_math_bits_deBruijn32tab), ("math/bits.deBruijn64tab", laid_math_bits_deBruijn64tab), ("internal/strconv.uint64pow10", laid_internal_strconv_uint64pow10)] }
def FgrepOnlySaid : Prop := fgrepOnlyRow.holds Tryz.pinned (OpenSpec.ofChange fgrepOnlySpec)

/-- ITS FALSE NEIGHBOUR: 'it returns false'. Refute it at one input. -/
def fgrepOnlyWrong : ChangeSpec := { name := "fgrepOnly", fn := fun _ => fun
  | [d1, d2, d3, d4, d5, d6, d7] => { results := [.lit (.bool false)], args := [d1, d2, d3, d4, d5, d6, d7] }
  | _ => none }
def FgrepOnlyWrongFalsely : Prop := fgrepOnlyRow.holds Tryz.pinned (OpenSpec.ofChange fgrepOnlyWrong)

/-- 'seinelaw25.FgrepErrors': WHATEVER THE INPUT: true; the input reads as it did. -/
def fgrepErrorsSpec : ChangeSpec := { name := "fgrepErrors", fn := fun _ => fun
  | [d1, d2, d3, d4, d5] => { results := [.lit (.bool true)], args := [d1, d2, d3, d4, d5] }
  | _ => none }
def fgrepErrorsRow : OpenClaim := { program := "ytfdlaomnecjfeaagreatdoor", sum := "e4768f17768ff617b8bdfda4ea67e4480ca0e3b9a6d3c62493d34bc9457571f2", func := "seine/seinelaw25.FgrepErrors", spec := "fgrepErrors", unfollowed := true, recurses := true, named := ["internal/strconv.uint64pow10", "math/bits.deBruijn32tab", "math/bits.deBruijn64tab"], plainKeys := false, apart := false, laid := [("math/bits.deBruijn32tab", laid_math_bits_deBruijn32tab), ("math/bits.deBruijn64tab", laid_math_bits_deBruijn64tab), ("internal/strconv.uint64pow10", laid_internal_strconv_uint64pow10)] }
def FgrepErrorsSaid : Prop := fgrepErrorsRow.holds Tryz.pinned (OpenSpec.ofChange fgrepErrorsSpec)

/-- ITS FALSE NEIGHBOUR: 'it returns false'. Refute it at one input. -/
def fgrepErrorsWrong : ChangeSpec := { name := "fgrepErrors", fn := fun _ => fun
  | [d1, d2, d3, d4, d5] => { results := [.lit (.bool false)], args := [d1, d2, d3, d4, d5] }
  | _ => none }
def FgrepErrorsWrongFalsely : Prop := fgrepErrorsRow.holds Tryz.pinned (OpenSpec.ofChange fgrepErrorsWrong)

/-- 'seinelaw25.FgrepPieces': WHATEVER THE INPUT: true; the input reads as it did. -/
def fgrepPiecesSpec : ChangeSpec := { name := "fgrepPieces", fn := fun _ => fun
  | [d1, d2, d3, d4, d5, d6] => { results := [.lit (.bool true)], args := [d1, d2, d3, d4, d5, d6] }
  | _ => none }
def fgrepPiecesRow : OpenClaim := { program := "ytfdlaomnecjfeaagreatdoor", sum := "e4768f17768ff617b8bdfda4ea67e4480ca0e3b9a6d3c62493d34bc9457571f2", func := "seine/seinelaw25.FgrepPieces", spec := "fgrepPieces", unfollowed := true, recurses := true, named := ["internal/strconv.uint64pow10", "math/bits.deBruijn32tab", "math/bits.deBruijn64tab"], plainKeys := false, apart := false, laid := [("math/bits.deBruijn32tab", laid_math_bits_deBruijn32tab), ("math/bits.deBruijn64tab", laid_math_bits_deBruijn64tab), ("internal/strconv.uint64pow10", laid_internal_strconv_uint64pow10)] }
def FgrepPiecesSaid : Prop := fgrepPiecesRow.holds Tryz.pinned (OpenSpec.ofChange fgrepPiecesSpec)

/-- ITS FALSE NEIGHBOUR: 'it returns false'. Refute it at one input. -/
def fgrepPiecesWrong : ChangeSpec := { name := "fgrepPieces", fn := fun _ => fun
  | [d1, d2, d3, d4, d5, d6] => { results := [.lit (.bool false)], args := [d1, d2, d3, d4, d5, d6] }
  | _ => none }
def FgrepPiecesWrongFalsely : Prop := fgrepPiecesRow.holds Tryz.pinned (OpenSpec.ofChange fgrepPiecesWrong)

/-- 'seinelaw25.FgrepLinear': WHATEVER THE INPUT: true; the input reads as it did. -/
def fgrepLinearSpec : ChangeSpec := { name := "fgrepLinear", fn := fun _ => fun
  | [d1, d2, d3, d4, d5] => { results := [.lit (.bool true)], args := [d1, d2, d3, d4, d5] }
  | _ => none }
def fgrepLinearRow : OpenClaim := { program := "ytfdlaomnecjfeaagreatdoor", sum := "e4768f17768ff617b8bdfda4ea67e4480ca0e3b9a6d3c62493d34bc9457571f2", func := "seine/seinelaw25.FgrepLinear", spec := "fgrepLinear", unfollowed := true, recurses := true, named := ["internal/strconv.uint64pow10", "math/bits.deBruijn32tab", "math/bits.deBruijn64tab"], plainKeys := false, apart := false, laid := [("math/bits.deBruijn32tab", laid_math_bits_deBruijn32tab), ("math/bits.deBruijn64tab", laid_math_bits_deBruijn64tab), ("internal/strconv.uint64pow10", laid_internal_strconv_uint64pow10)] }
def FgrepLinearSaid : Prop := fgrepLinearRow.holds Tryz.pinned (OpenSpec.ofChange fgrepLinearSpec)

/-- ITS FALSE NEIGHBOUR: 'it returns false'. Refute it at one input. -/
def fgrepLinearWrong : ChangeSpec := { name := "fgrepLinear", fn := fun _ => fun
  | [d1, d2, d3, d4, d5] => { results := [.lit (.bool false)], args := [d1, d2, d3, d4, d5] }
  | _ => none }
def FgrepLinearWrongFalsely : Prop := fgrepLinearRow.holds Tryz.pinned (OpenSpec.ofChange fgrepLinearWrong)

/-- 'seinelaw25.FgrepOthers': WHATEVER THE INPUT: true; the input reads as it did. -/
def fgrepOthersSpec : ChangeSpec := { name := "fgrepOthers", fn := fun _ => fun
  | [d1, d2, d3, d4] => { results := [.lit (.bool true)], args := [d1, d2, d3, d4] }
  | _ => none }
def fgrepOthersRow : OpenClaim := { program := "ytfdlaomnecjfeaagreatdoor", sum := "e4768f17768ff617b8bdfda4ea67e4480ca0e3b9a6d3c62493d34bc9457571f2", func := "seine/seinelaw25.FgrepOthers", spec := "fgrepOthers", unfollowed := true, recurses := true, named := ["internal/strconv.uint64pow10", "math/bits.deBruijn32tab", "math/bits.deBruijn64tab"], plainKeys := false, apart := false, laid := [("math/bits.deBruijn32tab", laid_math_bits_deBruijn32tab), ("math/bits.deBruijn64tab", laid_math_bits_deBruijn64tab), ("internal/strconv.uint64pow10", laid_internal_strconv_uint64pow10)] }
def FgrepOthersSaid : Prop := fgrepOthersRow.holds Tryz.pinned (OpenSpec.ofChange fgrepOthersSpec)

/-- ITS FALSE NEIGHBOUR: 'it returns false'. Refute it at one input. -/
def fgrepOthersWrong : ChangeSpec := { name := "fgrepOthers", fn := fun _ => fun
  | [d1, d2, d3, d4] => { results := [.lit (.bool false)], args := [d1, d2, d3, d4] }
  | _ => none }
def FgrepOthersWrongFalsely : Prop := fgrepOthersRow.holds Tryz.pinned (OpenSpec.ofChange fgrepOthersWrong)

/-- 'seinelaw26.ScriptTakes': WHATEVER THE INPUT: true; the input reads as it did. -/
def scriptTakesSpec : ChangeSpec := { name := "scriptTakes", fn := fun _ => fun
  | [d] => { results := [.lit (.bool true)], args := [d] }
  | _ => none }
def scriptTakesRow : OpenClaim := { program := "ytfdlaomnecjfeaagreatdoor", sum := "e4768f17768ff617b8bdfda4ea67e4480ca0e3b9a6d3c62493d34bc9457571f2", func := "seine/seinelaw26.ScriptTakes", spec := "scriptTakes", unfollowed := true, recurses := true, named := ["internal/strconv.uint64pow10", "math/bits.deBruijn32tab", "math/bits.deBruijn64tab"], plainKeys := false, apart := false, laid := [("math/bits.deBruijn32tab", laid_math_bits_deBruijn32tab), ("math/bits.deBruijn64tab", laid_math_bits_deBruijn64tab), ("internal/strconv.uint64pow10", laid_internal_strconv_uint64pow10)] }
def ScriptTakesSaid : Prop := scriptTakesRow.holds Tryz.pinned (OpenSpec.ofChange scriptTakesSpec)

/-- ITS FALSE NEIGHBOUR: 'it returns false'. Refute it at one input. -/
def scriptTakesWrong : ChangeSpec := { name := "scriptTakes", fn := fun _ => fun
  | [d] => { results := [.lit (.bool false)], args := [d] }
  | _ => none }
def ScriptTakesWrongFalsely : Prop := scriptTakesRow.holds Tryz.pinned (OpenSpec.ofChange scriptTakesWrong)

/-- 'seinelaw26.ScriptPuts': WHATEVER THE INPUT: true; the input reads as it did. -/
def scriptPutsSpec : ChangeSpec := { name := "scriptPuts", fn := fun _ => fun
  | [d1, d2, d3] => { results := [.lit (.bool true)], args := [d1, d2, d3] }
  | _ => none }
def scriptPutsRow : OpenClaim := { program := "ytfdlaomnecjfeaagreatdoor", sum := "e4768f17768ff617b8bdfda4ea67e4480ca0e3b9a6d3c62493d34bc9457571f2", func := "seine/seinelaw26.ScriptPuts", spec := "scriptPuts", unfollowed := true, recurses := true, named := ["internal/strconv.uint64pow10", "math/bits.deBruijn32tab", "math/bits.deBruijn64tab"], plainKeys := false, apart := false, laid := [("math/bits.deBruijn32tab", laid_math_bits_deBruijn32tab), ("math/bits.deBruijn64tab", laid_math_bits_deBruijn64tab), ("internal/strconv.uint64pow10", laid_internal_strconv_uint64pow10)] }
def ScriptPutsSaid : Prop := scriptPutsRow.holds Tryz.pinned (OpenSpec.ofChange scriptPutsSpec)

/-- ITS FALSE NEIGHBOUR: 'it returns false'. Refute it at one input. -/
def scriptPutsWrong : ChangeSpec := { name := "scriptPuts", fn := fun _ => fun
  | [d1, d2, d3] => { results := [.lit (.bool false)], args := [d1, d2, d3] }
  | _ => none }
def ScriptPutsWrongFalsely : Prop := scriptPutsRow.holds Tryz.pinned (OpenSpec.ofChange scriptPutsWrong)

/-- 'seinelaw26.ScriptBack': WHATEVER THE INPUT: true; the input reads as it did. -/
def scriptBackSpec : ChangeSpec := { name := "scriptBack", fn := fun _ => fun
  | [d] => { results := [.lit (.bool true)], args := [d] }
  | _ => none }
def scriptBackRow : OpenClaim := { program := "ytfdlaomnecjfeaagreatdoor", sum := "e4768f17768ff617b8bdfda4ea67e4480ca0e3b9a6d3c62493d34bc9457571f2", func := "seine/seinelaw26.ScriptBack", spec := "scriptBack", unfollowed := true, recurses := true, named := ["internal/strconv.uint64pow10", "math/bits.deBruijn32tab", "math/bits.deBruijn64tab"], plainKeys := false, apart := false, laid := [("math/bits.deBruijn32tab", laid_math_bits_deBruijn32tab), ("math/bits.deBruijn64tab", laid_math_bits_deBruijn64tab), ("internal/strconv.uint64pow10", laid_internal_strconv_uint64pow10)] }
def ScriptBackSaid : Prop := scriptBackRow.holds Tryz.pinned (OpenSpec.ofChange scriptBackSpec)

/-- ITS FALSE NEIGHBOUR: 'it returns false'. Refute it at one input. -/
def scriptBackWrong : ChangeSpec := { name := "scriptBack", fn := fun _ => fun
  | [d] => { results := [.lit (.bool false)], args := [d] }
  | _ => none }
def ScriptBackWrongFalsely : Prop := scriptBackRow.holds Tryz.pinned (OpenSpec.ofChange scriptBackWrong)

/-- 'seinelaw26.ScriptOnly': WHATEVER THE INPUT: true; the input reads as it did. -/
def scriptOnlySpec : ChangeSpec := { name := "scriptOnly", fn := fun _ => fun
  | [d1, d2, d3] => { results := [.lit (.bool true)], args := [d1, d2, d3] }
  | _ => none }
def scriptOnlyRow : OpenClaim := { program := "ytfdlaomnecjfeaagreatdoor", sum := "e4768f17768ff617b8bdfda4ea67e4480ca0e3b9a6d3c62493d34bc9457571f2", func := "seine/seinelaw26.ScriptOnly", spec := "scriptOnly", unfollowed := true, recurses := true, named := ["internal/strconv.uint64pow10", "math/bits.deBruijn32tab", "math/bits.deBruijn64tab"], plainKeys := false, apart := false, laid := [("math/bits.deBruijn32tab", laid_math_bits_deBruijn32tab), ("math/bits.deBruijn64tab", laid_math_bits_deBruijn64tab), ("internal/strconv.uint64pow10", laid_internal_strconv_uint64pow10)] }
def ScriptOnlySaid : Prop := scriptOnlyRow.holds Tryz.pinned (OpenSpec.ofChange scriptOnlySpec)

/-- ITS FALSE NEIGHBOUR: 'it returns false'. Refute it at one input. -/
def scriptOnlyWrong : ChangeSpec := { name := "scriptOnly", fn := fun _ => fun
  | [d1, d2, d3] => { results := [.lit (.bool false)], args := [d1, d2, d3] }
  | _ => none }
def ScriptOnlyWrongFalsely : Prop := scriptOnlyRow.holds Tryz.pinned (OpenSpec.ofChange scriptOnlyWrong)

/-- 'seinelaw26.ScriptPlays': WHATEVER THE INPUT: true; the input reads as it did. -/
def scriptPlaysSpec : ChangeSpec := { name := "scriptPlays", fn := fun _ => fun
  | [d] => { results := [.lit (.bool true)], args := [d] }
  | _ => none }
def scriptPlaysRow : OpenClaim := { program := "ytfdlaomnecjfeaagreatdoor", sum := "e4768f17768ff617b8bdfda4ea67e4480ca0e3b9a6d3c62493d34bc9457571f2", func := "seine/seinelaw26.ScriptPlays", spec := "scriptPlays", unfollowed := true, recurses := true, named := ["internal/strconv.uint64pow10", "math/bits.deBruijn32tab", "math/bits.deBruijn64tab"], plainKeys := false, apart := false, laid := [("math/bits.deBruijn32tab", laid_math_bits_deBruijn32tab), ("math/bits.deBruijn64tab", laid_math_bits_deBruijn64tab), ("internal/strconv.uint64pow10", laid_internal_strconv_uint64pow10)] }
def ScriptPlaysSaid : Prop := scriptPlaysRow.holds Tryz.pinned (OpenSpec.ofChange scriptPlaysSpec)

/-- ITS FALSE NEIGHBOUR: 'it returns false'. Refute it at one input. -/
def scriptPlaysWrong : ChangeSpec := { name := "scriptPlays", fn := fun _ => fun
  | [d] => { results := [.lit (.bool false)], args := [d] }
  | _ => none }
def ScriptPlaysWrongFalsely : Prop := scriptPlaysRow.holds Tryz.pinned (OpenSpec.ofChange scriptPlaysWrong)

/-- 'seinelaw26.ScriptNumbers': WHATEVER THE INPUT: true; the input reads as it did. -/
def scriptNumbersSpec : ChangeSpec := { name := "scriptNumbers", fn := fun _ => fun
  | [d1, d2, d3] => { results := [.lit (.bool true)], args := [d1, d2, d3] }
  | _ => none }
def scriptNumbersRow : OpenClaim := { program := "ytfdlaomnecjfeaagreatdoor", sum := "e4768f17768ff617b8bdfda4ea67e4480ca0e3b9a6d3c62493d34bc9457571f2", func := "seine/seinelaw26.ScriptNumbers", spec := "scriptNumbers", unfollowed := true, recurses := true, named := ["internal/strconv.uint64pow10", "math/bits.deBruijn32tab", "math/bits.deBruijn64tab"], plainKeys := false, apart := false, laid := [("math/bits.deBruijn32tab", laid_math_bits_deBruijn32tab), ("math/bits.deBruijn64tab", laid_math_bits_deBruijn64tab), ("internal/strconv.uint64pow10", laid_internal_strconv_uint64pow10)] }
def ScriptNumbersSaid : Prop := scriptNumbersRow.holds Tryz.pinned (OpenSpec.ofChange scriptNumbersSpec)

/-- ITS FALSE NEIGHBOUR: 'it returns false'. Refute it at one input. -/
def scriptNumbersWrong : ChangeSpec := { name := "scriptNumbers", fn := fun _ => fun
  | [d1, d2, d3] => { results := [.lit (.bool false)], args := [d1, d2, d3] }
  | _ => none }
def ScriptNumbersWrongFalsely : Prop := scriptNumbersRow.holds Tryz.pinned (OpenSpec.ofChange scriptNumbersWrong)

/- THE SECOND FORM. 'bulk': how many values and letters a reading holds, each counted each time it is reached (what is shared counts as often as it is met; a slice's spare places count too). A statement '..UptoSaid' is the law's where the arguments, and the package variables that the reading takes, are together of bulk at most 1048576: NARROWER than '..Said'. Prove '..Said' where nothing that the law and all that it calls make is longer than what came in: it says more and counts as full. Else prove '..UptoSaid'. A law counts once. -/
mutual
def uptoBulk {H : Type} : DataW H → Nat
  | .lit (.string bytes) => bytes.length + 1
  | .lit _ => 1
  | .nil => 1
  | .ptr d => uptoBulk d + 1
  | .slice elems spare => uptoBulkAll elems + uptoBulkAll spare + 1
  | .agg parts => uptoBulkAll parts + 1
  | .iface _ d => uptoBulk d + 1
  | .map entries => uptoBulkEntries entries + 1
  | .held _ => 1
def uptoBulkAll {H : Type} : List (DataW H) → Nat
  | [] => 0
  | d :: r => uptoBulk d + uptoBulkAll r
def uptoBulkEntries {H : Type} : List (Lit × DataW H) → Nat
  | [] => 0
  | x :: r => uptoBulkEntry x + uptoBulkEntries r
def uptoBulkEntry {H : Type} : Lit × DataW H → Nat
  | (.string bytes, d) => bytes.length + uptoBulk d + 1
  | (_, d) => uptoBulk d + 1
 end
def uptoSmall : (H : Type) → List (DataW H) → Bool := fun _ ds => decide (uptoBulkAll ds ≤ 1048576)
def OpenSpec.upto (s : _root_.Go.ChangeSpec) : _root_.Go.OpenSpec := { _root_.Go.OpenSpec.ofChange s with cond := some uptoSmall }

/-- 'seinetop.TopMore', WHERE WHAT IT READS IS OF BULK AT MOST 1048576: true; the input reads as it did. -/
def topMoreUptoRow : OpenClaim := { program := "ytfdlaomnecjfeaagreatdoor", sum := "e4768f17768ff617b8bdfda4ea67e4480ca0e3b9a6d3c62493d34bc9457571f2", func := "seine/seinetop.TopMore", spec := "topMore", unfollowed := true, recurses := true, named := ["internal/strconv.uint64pow10", "math/bits.deBruijn32tab", "math/bits.deBruijn64tab"], plainKeys := false, apart := false, laid := [("math/bits.deBruijn32tab", laid_math_bits_deBruijn32tab), ("math/bits.deBruijn64tab", laid_math_bits_deBruijn64tab), ("internal/strconv.uint64pow10", laid_internal_strconv_uint64pow10)], narrowed := true }
def TopMoreUptoSaid : Prop := topMoreUptoRow.holds Tryz.pinned (OpenSpec.upto topMoreSpec)

/-- 'seinetop.TopJoins', WHERE WHAT IT READS IS OF BULK AT MOST 1048576: true; the input reads as it did. -/
def topJoinsUptoRow : OpenClaim := { program := "ytfdlaomnecjfeaagreatdoor", sum := "e4768f17768ff617b8bdfda4ea67e4480ca0e3b9a6d3c62493d34bc9457571f2", func := "seine/seinetop.TopJoins", spec := "topJoins", unfollowed := true, recurses := true, named := ["internal/strconv.uint64pow10", "math/bits.deBruijn32tab", "math/bits.deBruijn64tab"], plainKeys := false, apart := false, laid := [("math/bits.deBruijn32tab", laid_math_bits_deBruijn32tab), ("math/bits.deBruijn64tab", laid_math_bits_deBruijn64tab), ("internal/strconv.uint64pow10", laid_internal_strconv_uint64pow10)], narrowed := true }
def TopJoinsUptoSaid : Prop := topJoinsUptoRow.holds Tryz.pinned (OpenSpec.upto topJoinsSpec)

/-- 'seinetop.TopCounted', WHERE WHAT IT READS IS OF BULK AT MOST 1048576: true; the input reads as it did. -/
def topCountedUptoRow : OpenClaim := { program := "ytfdlaomnecjfeaagreatdoor", sum := "e4768f17768ff617b8bdfda4ea67e4480ca0e3b9a6d3c62493d34bc9457571f2", func := "seine/seinetop.TopCounted", spec := "topCounted", unfollowed := true, recurses := true, named := ["internal/strconv.uint64pow10", "math/bits.deBruijn32tab", "math/bits.deBruijn64tab"], plainKeys := false, apart := false, laid := [("math/bits.deBruijn32tab", laid_math_bits_deBruijn32tab), ("math/bits.deBruijn64tab", laid_math_bits_deBruijn64tab), ("internal/strconv.uint64pow10", laid_internal_strconv_uint64pow10)], narrowed := true }
def TopCountedUptoSaid : Prop := topCountedUptoRow.holds Tryz.pinned (OpenSpec.upto topCountedSpec)

/-- 'seinelaw25.FgrepRuns', WHERE WHAT IT READS IS OF BULK AT MOST 1048576: true; the input reads as it did. -/
def fgrepRunsUptoRow : OpenClaim := { program := "ytfdlaomnecjfeaagreatdoor", sum := "e4768f17768ff617b8bdfda4ea67e4480ca0e3b9a6d3c62493d34bc9457571f2", func := "seine/seinelaw25.FgrepRuns", spec := "fgrepRuns", unfollowed := true, recurses := true, named := ["internal/strconv.uint64pow10", "math/bits.deBruijn32tab", "math/bits.deBruijn64tab"], plainKeys := false, apart := false, laid := [("math/bits.deBruijn32tab", laid_math_bits_deBruijn32tab), ("math/bits.deBruijn64tab", laid_math_bits_deBruijn64tab), ("internal/strconv.uint64pow10", laid_internal_strconv_uint64pow10)], narrowed := true }
def FgrepRunsUptoSaid : Prop := fgrepRunsUptoRow.holds Tryz.pinned (OpenSpec.upto fgrepRunsSpec)

/-- 'seinelaw25.FgrepCounts', WHERE WHAT IT READS IS OF BULK AT MOST 1048576: true; the input reads as it did. -/
def fgrepCountsUptoRow : OpenClaim := { program := "ytfdlaomnecjfeaagreatdoor", sum := "e4768f17768ff617b8bdfda4ea67e4480ca0e3b9a6d3c62493d34bc9457571f2", func := "seine/seinelaw25.FgrepCounts", spec := "fgrepCounts", unfollowed := true, recurses := true, named := ["internal/strconv.uint64pow10", "math/bits.deBruijn32tab", "math/bits.deBruijn64tab"], plainKeys := false, apart := false, laid := [("math/bits.deBruijn32tab", laid_math_bits_deBruijn32tab), ("math/bits.deBruijn64tab", laid_math_bits_deBruijn64tab), ("internal/strconv.uint64pow10", laid_internal_strconv_uint64pow10)], narrowed := true }
def FgrepCountsUptoSaid : Prop := fgrepCountsUptoRow.holds Tryz.pinned (OpenSpec.upto fgrepCountsSpec)

/-- 'seinelaw25.FgrepCuts', WHERE WHAT IT READS IS OF BULK AT MOST 1048576: true; the input reads as it did. -/
def fgrepCutsUptoRow : OpenClaim := { program := "ytfdlaomnecjfeaagreatdoor", sum := "e4768f17768ff617b8bdfda4ea67e4480ca0e3b9a6d3c62493d34bc9457571f2", func := "seine/seinelaw25.FgrepCuts", spec := "fgrepCuts", unfollowed := true, recurses := true, named := ["internal/strconv.uint64pow10", "math/bits.deBruijn32tab", "math/bits.deBruijn64tab"], plainKeys := false, apart := false, laid := [("math/bits.deBruijn32tab", laid_math_bits_deBruijn32tab), ("math/bits.deBruijn64tab", laid_math_bits_deBruijn64tab), ("internal/strconv.uint64pow10", laid_internal_strconv_uint64pow10)], narrowed := true }
def FgrepCutsUptoSaid : Prop := fgrepCutsUptoRow.holds Tryz.pinned (OpenSpec.upto fgrepCutsSpec)

/-- 'seinelaw25.FgrepOnly', WHERE WHAT IT READS IS OF BULK AT MOST 1048576: true; the input reads as it did. -/
def fgrepOnlyUptoRow : OpenClaim := { program := "ytfdlaomnecjfeaagreatdoor", sum := "e4768f17768ff617b8bdfda4ea67e4480ca0e3b9a6d3c62493d34bc9457571f2", func := "seine/seinelaw25.FgrepOnly", spec := "fgrepOnly", unfollowed := true, recurses := true, named := ["internal/strconv.uint64pow10", "math/bits.deBruijn32tab", "math/bits.deBruijn64tab"], plainKeys := false, apart := false, laid := [("math/bits.deBruijn32tab", laid_math_bits_deBruijn32tab), ("math/bits.deBruijn64tab", laid_math_bits_deBruijn64tab), ("internal/strconv.uint64pow10", laid_internal_strconv_uint64pow10)], narrowed := true }
def FgrepOnlyUptoSaid : Prop := fgrepOnlyUptoRow.holds Tryz.pinned (OpenSpec.upto fgrepOnlySpec)

/-- 'seinelaw25.FgrepErrors', WHERE WHAT IT READS IS OF BULK AT MOST 1048576: true; the input reads as it did. -/
def fgrepErrorsUptoRow : OpenClaim := { program := "ytfdlaomnecjfeaagreatdoor", sum := "e4768f17768ff617b8bdfda4ea67e4480ca0e3b9a6d3c62493d34bc9457571f2", func := "seine/seinelaw25.FgrepErrors", spec := "fgrepErrors", unfollowed := true, recurses := true, named := ["internal/strconv.uint64pow10", "math/bits.deBruijn32tab", "math/bits.deBruijn64tab"], plainKeys := false, apart := false, laid := [("math/bits.deBruijn32tab", laid_math_bits_deBruijn32tab), ("math/bits.deBruijn64tab", laid_math_bits_deBruijn64tab), ("internal/strconv.uint64pow10", laid_internal_strconv_uint64pow10)], narrowed := true }
def FgrepErrorsUptoSaid : Prop := fgrepErrorsUptoRow.holds Tryz.pinned (OpenSpec.upto fgrepErrorsSpec)

/-- 'seinelaw25.FgrepPieces', WHERE WHAT IT READS IS OF BULK AT MOST 1048576: true; the input reads as it did. -/
def fgrepPiecesUptoRow : OpenClaim := { program := "ytfdlaomnecjfeaagreatdoor", sum := "e4768f17768ff617b8bdfda4ea67e4480ca0e3b9a6d3c62493d34bc9457571f2", func := "seine/seinelaw25.FgrepPieces", spec := "fgrepPieces", unfollowed := true, recurses := true, named := ["internal/strconv.uint64pow10", "math/bits.deBruijn32tab", "math/bits.deBruijn64tab"], plainKeys := false, apart := false, laid := [("math/bits.deBruijn32tab", laid_math_bits_deBruijn32tab), ("math/bits.deBruijn64tab", laid_math_bits_deBruijn64tab), ("internal/strconv.uint64pow10", laid_internal_strconv_uint64pow10)], narrowed := true }
def FgrepPiecesUptoSaid : Prop := fgrepPiecesUptoRow.holds Tryz.pinned (OpenSpec.upto fgrepPiecesSpec)

/-- 'seinelaw25.FgrepLinear', WHERE WHAT IT READS IS OF BULK AT MOST 1048576: true; the input reads as it did. -/
def fgrepLinearUptoRow : OpenClaim := { program := "ytfdlaomnecjfeaagreatdoor", sum := "e4768f17768ff617b8bdfda4ea67e4480ca0e3b9a6d3c62493d34bc9457571f2", func := "seine/seinelaw25.FgrepLinear", spec := "fgrepLinear", unfollowed := true, recurses := true, named := ["internal/strconv.uint64pow10", "math/bits.deBruijn32tab", "math/bits.deBruijn64tab"], plainKeys := false, apart := false, laid := [("math/bits.deBruijn32tab", laid_math_bits_deBruijn32tab), ("math/bits.deBruijn64tab", laid_math_bits_deBruijn64tab), ("internal/strconv.uint64pow10", laid_internal_strconv_uint64pow10)], narrowed := true }
def FgrepLinearUptoSaid : Prop := fgrepLinearUptoRow.holds Tryz.pinned (OpenSpec.upto fgrepLinearSpec)

/-- 'seinelaw25.FgrepOthers', WHERE WHAT IT READS IS OF BULK AT MOST 1048576: true; the input reads as it did. -/
def fgrepOthersUptoRow : OpenClaim := { program := "ytfdlaomnecjfeaagreatdoor", sum := "e4768f17768ff617b8bdfda4ea67e4480ca0e3b9a6d3c62493d34bc9457571f2", func := "seine/seinelaw25.FgrepOthers", spec := "fgrepOthers", unfollowed := true, recurses := true, named := ["internal/strconv.uint64pow10", "math/bits.deBruijn32tab", "math/bits.deBruijn64tab"], plainKeys := false, apart := false, laid := [("math/bits.deBruijn32tab", laid_math_bits_deBruijn32tab), ("math/bits.deBruijn64tab", laid_math_bits_deBruijn64tab), ("internal/strconv.uint64pow10", laid_internal_strconv_uint64pow10)], narrowed := true }
def FgrepOthersUptoSaid : Prop := fgrepOthersUptoRow.holds Tryz.pinned (OpenSpec.upto fgrepOthersSpec)

/-- 'seinelaw26.ScriptTakes', WHERE WHAT IT READS IS OF BULK AT MOST 1048576: true; the input reads as it did. -/
def scriptTakesUptoRow : OpenClaim := { program := "ytfdlaomnecjfeaagreatdoor", sum := "e4768f17768ff617b8bdfda4ea67e4480ca0e3b9a6d3c62493d34bc9457571f2", func := "seine/seinelaw26.ScriptTakes", spec := "scriptTakes", unfollowed := true, recurses := true, named := ["internal/strconv.uint64pow10", "math/bits.deBruijn32tab", "math/bits.deBruijn64tab"], plainKeys := false, apart := false, laid := [("math/bits.deBruijn32tab", laid_math_bits_deBruijn32tab), ("math/bits.deBruijn64tab", laid_math_bits_deBruijn64tab), ("internal/strconv.uint64pow10", laid_internal_strconv_uint64pow10)], narrowed := true }
def ScriptTakesUptoSaid : Prop := scriptTakesUptoRow.holds Tryz.pinned (OpenSpec.upto scriptTakesSpec)

/-- 'seinelaw26.ScriptPuts', WHERE WHAT IT READS IS OF BULK AT MOST 1048576: true; the input reads as it did. -/
def scriptPutsUptoRow : OpenClaim := { program := "ytfdlaomnecjfeaagreatdoor", sum := "e4768f17768ff617b8bdfda4ea67e4480ca0e3b9a6d3c62493d34bc9457571f2", func := "seine/seinelaw26.ScriptPuts", spec := "scriptPuts", unfollowed := true, recurses := true, named := ["internal/strconv.uint64pow10", "math/bits.deBruijn32tab", "math/bits.deBruijn64tab"], plainKeys := false, apart := false, laid := [("math/bits.deBruijn32tab", laid_math_bits_deBruijn32tab), ("math/bits.deBruijn64tab", laid_math_bits_deBruijn64tab), ("internal/strconv.uint64pow10", laid_internal_strconv_uint64pow10)], narrowed := true }
def ScriptPutsUptoSaid : Prop := scriptPutsUptoRow.holds Tryz.pinned (OpenSpec.upto scriptPutsSpec)

/-- 'seinelaw26.ScriptBack', WHERE WHAT IT READS IS OF BULK AT MOST 1048576: true; the input reads as it did. -/
def scriptBackUptoRow : OpenClaim := { program := "ytfdlaomnecjfeaagreatdoor", sum := "e4768f17768ff617b8bdfda4ea67e4480ca0e3b9a6d3c62493d34bc9457571f2", func := "seine/seinelaw26.ScriptBack", spec := "scriptBack", unfollowed := true, recurses := true, named := ["internal/strconv.uint64pow10", "math/bits.deBruijn32tab", "math/bits.deBruijn64tab"], plainKeys := false, apart := false, laid := [("math/bits.deBruijn32tab", laid_math_bits_deBruijn32tab), ("math/bits.deBruijn64tab", laid_math_bits_deBruijn64tab), ("internal/strconv.uint64pow10", laid_internal_strconv_uint64pow10)], narrowed := true }
def ScriptBackUptoSaid : Prop := scriptBackUptoRow.holds Tryz.pinned (OpenSpec.upto scriptBackSpec)

/-- 'seinelaw26.ScriptOnly', WHERE WHAT IT READS IS OF BULK AT MOST 1048576: true; the input reads as it did. -/
def scriptOnlyUptoRow : OpenClaim := { program := "ytfdlaomnecjfeaagreatdoor", sum := "e4768f17768ff617b8bdfda4ea67e4480ca0e3b9a6d3c62493d34bc9457571f2", func := "seine/seinelaw26.ScriptOnly", spec := "scriptOnly", unfollowed := true, recurses := true, named := ["internal/strconv.uint64pow10", "math/bits.deBruijn32tab", "math/bits.deBruijn64tab"], plainKeys := false, apart := false, laid := [("math/bits.deBruijn32tab", laid_math_bits_deBruijn32tab), ("math/bits.deBruijn64tab", laid_math_bits_deBruijn64tab), ("internal/strconv.uint64pow10", laid_internal_strconv_uint64pow10)], narrowed := true }
def ScriptOnlyUptoSaid : Prop := scriptOnlyUptoRow.holds Tryz.pinned (OpenSpec.upto scriptOnlySpec)

/-- 'seinelaw26.ScriptPlays', WHERE WHAT IT READS IS OF BULK AT MOST 1048576: true; the input reads as it did. -/
def scriptPlaysUptoRow : OpenClaim := { program := "ytfdlaomnecjfeaagreatdoor", sum := "e4768f17768ff617b8bdfda4ea67e4480ca0e3b9a6d3c62493d34bc9457571f2", func := "seine/seinelaw26.ScriptPlays", spec := "scriptPlays", unfollowed := true, recurses := true, named := ["internal/strconv.uint64pow10", "math/bits.deBruijn32tab", "math/bits.deBruijn64tab"], plainKeys := false, apart := false, laid := [("math/bits.deBruijn32tab", laid_math_bits_deBruijn32tab), ("math/bits.deBruijn64tab", laid_math_bits_deBruijn64tab), ("internal/strconv.uint64pow10", laid_internal_strconv_uint64pow10)], narrowed := true }
def ScriptPlaysUptoSaid : Prop := scriptPlaysUptoRow.holds Tryz.pinned (OpenSpec.upto scriptPlaysSpec)

/-- 'seinelaw26.ScriptNumbers', WHERE WHAT IT READS IS OF BULK AT MOST 1048576: true; the input reads as it did. -/
def scriptNumbersUptoRow : OpenClaim := { program := "ytfdlaomnecjfeaagreatdoor", sum := "e4768f17768ff617b8bdfda4ea67e4480ca0e3b9a6d3c62493d34bc9457571f2", func := "seine/seinelaw26.ScriptNumbers", spec := "scriptNumbers", unfollowed := true, recurses := true, named := ["internal/strconv.uint64pow10", "math/bits.deBruijn32tab", "math/bits.deBruijn64tab"], plainKeys := false, apart := false, laid := [("math/bits.deBruijn32tab", laid_math_bits_deBruijn32tab), ("math/bits.deBruijn64tab", laid_math_bits_deBruijn64tab), ("internal/strconv.uint64pow10", laid_internal_strconv_uint64pow10)], narrowed := true }
def ScriptNumbersUptoSaid : Prop := scriptNumbersUptoRow.holds Tryz.pinned (OpenSpec.upto scriptNumbersSpec)

end Rows
end Go.Proofs.YtfdlaomnecjfeaaGreatDoor
