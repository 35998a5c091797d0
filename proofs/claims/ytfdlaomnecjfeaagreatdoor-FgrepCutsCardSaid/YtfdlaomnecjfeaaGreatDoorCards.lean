/-
  DERIVED. GIVEN WITH THE SEED: THE CARDS: each row of YtfdlaomnecjfeaaGreatDoorRows.lean that lists a variable, with what it lists TIED to the program's text (the seventh form; the later family's looks); each row that meets fmt, with fmt's text TOLD by the authors' own Lean function (tested against real Go, not proved from fmt's source: count such statements apart). THE CARD IS WHAT COUNTS. Prove the row's statement (the work); the ties are given (YtfdlaomnecjfeaaGreatDoorTie.lean); close each card by the builder's one call (the guide's Derived/Test/ToyasCard.lean, 'card_holds'). Laid BY PROGRAM, IN A SANDBOX (cutbox-door.mjs). By AI agents, Wed Nov 11 2026. No macro, syntax, notation, axiom, sorry.
-/
import Derived.Test.YtfdlaomnecjfeaaGreatDoorRows
import GoSem.ClaimSeven
namespace Go.Proofs.YtfdlaomnecjfeaaGreatDoor
namespace Rows

/-- THE TIED CARD OF 'seinetop.TopMore'. -/
def topMoreCard : Claim7 := { stood := { row := topMoreRow, standIns := [], harness := (true, "3e084d154dba0cdf067f9aee6e9ed55257c39a4e5e8176ad7590c088acbee7a3"), looks := true }, kinds := [], alts := [], laidByText := true, laidKinds := [.data, .data, .data], laidTests := true, laidLooks := .later }
def TopMoreCardSaid : Prop := Claim7.holds Tryz.pinned (.plain (OpenSpec.ofChange topMoreSpec)) topMoreCard

/-- THE TIED CARD OF 'seinetop.TopJoins'. -/
def topJoinsCard : Claim7 := { stood := { row := topJoinsRow, standIns := [], harness := (true, "3e084d154dba0cdf067f9aee6e9ed55257c39a4e5e8176ad7590c088acbee7a3"), looks := true }, kinds := [], alts := [], laidByText := true, laidKinds := [.data, .data, .data], laidTests := true, laidLooks := .later }
def TopJoinsCardSaid : Prop := Claim7.holds Tryz.pinned (.plain (OpenSpec.ofChange topJoinsSpec)) topJoinsCard

/-- THE TIED CARD OF 'seinetop.TopCounted'. -/
def topCountedCard : Claim7 := { stood := { row := topCountedRow, standIns := [], harness := (true, "3e084d154dba0cdf067f9aee6e9ed55257c39a4e5e8176ad7590c088acbee7a3"), looks := true }, kinds := [], alts := [], laidByText := true, laidKinds := [.data, .data, .data], laidTests := true, laidLooks := .later }
def TopCountedCardSaid : Prop := Claim7.holds Tryz.pinned (.plain (OpenSpec.ofChange topCountedSpec)) topCountedCard

/-- THE TIED CARD OF 'seinelaw25.FgrepRuns'. -/
def fgrepRunsCard : Claim7 := { stood := { row := fgrepRunsRow, standIns := [], harness := (true, "3e084d154dba0cdf067f9aee6e9ed55257c39a4e5e8176ad7590c088acbee7a3"), looks := true }, kinds := [], alts := [], laidByText := true, laidKinds := [.data, .data, .data], laidTests := true, laidLooks := .later }
def FgrepRunsCardSaid : Prop := Claim7.holds Tryz.pinned (.plain (OpenSpec.ofChange fgrepRunsSpec)) fgrepRunsCard

/-- THE TIED CARD OF 'seinelaw25.FgrepCounts'. -/
def fgrepCountsCard : Claim7 := { stood := { row := fgrepCountsRow, standIns := [], harness := (true, "3e084d154dba0cdf067f9aee6e9ed55257c39a4e5e8176ad7590c088acbee7a3"), looks := true }, kinds := [], alts := [], laidByText := true, laidKinds := [.data, .data, .data], laidTests := true, laidLooks := .later }
def FgrepCountsCardSaid : Prop := Claim7.holds Tryz.pinned (.plain (OpenSpec.ofChange fgrepCountsSpec)) fgrepCountsCard

/-- THE TIED CARD OF 'seinelaw25.FgrepCuts'. -/
def fgrepCutsCard : Claim7 := { stood := { row := fgrepCutsRow, standIns := [], harness := (true, "3e084d154dba0cdf067f9aee6e9ed55257c39a4e5e8176ad7590c088acbee7a3"), looks := true }, kinds := [], alts := [], laidByText := true, laidKinds := [.data, .data, .data], laidTests := true, laidLooks := .later }
def FgrepCutsCardSaid : Prop := Claim7.holds Tryz.pinned (.plain (OpenSpec.ofChange fgrepCutsSpec)) fgrepCutsCard

/-- THE TIED CARD OF 'seinelaw25.FgrepOnly'. -/
def fgrepOnlyCard : Claim7 := { stood := { row := fgrepOnlyRow, standIns := [], harness := (true, "3e084d154dba0cdf067f9aee6e9ed55257c39a4e5e8176ad7590c088acbee7a3"), looks := true }, kinds := [], alts := [], laidByText := true, laidKinds := [.data, .data, .data], laidTests := true, laidLooks := .later }
def FgrepOnlyCardSaid : Prop := Claim7.holds Tryz.pinned (.plain (OpenSpec.ofChange fgrepOnlySpec)) fgrepOnlyCard

/-- THE TIED CARD OF 'seinelaw25.FgrepErrors'. -/
def fgrepErrorsCard : Claim7 := { stood := { row := fgrepErrorsRow, standIns := [], harness := (true, "3e084d154dba0cdf067f9aee6e9ed55257c39a4e5e8176ad7590c088acbee7a3"), looks := true }, kinds := [], alts := [], laidByText := true, laidKinds := [.data, .data, .data], laidTests := true, laidLooks := .later }
def FgrepErrorsCardSaid : Prop := Claim7.holds Tryz.pinned (.plain (OpenSpec.ofChange fgrepErrorsSpec)) fgrepErrorsCard

/-- THE TIED CARD OF 'seinelaw25.FgrepPieces'. -/
def fgrepPiecesCard : Claim7 := { stood := { row := fgrepPiecesRow, standIns := [], harness := (true, "3e084d154dba0cdf067f9aee6e9ed55257c39a4e5e8176ad7590c088acbee7a3"), looks := true }, kinds := [], alts := [], laidByText := true, laidKinds := [.data, .data, .data], laidTests := true, laidLooks := .later }
def FgrepPiecesCardSaid : Prop := Claim7.holds Tryz.pinned (.plain (OpenSpec.ofChange fgrepPiecesSpec)) fgrepPiecesCard

/-- THE TIED CARD OF 'seinelaw25.FgrepLinear'. -/
def fgrepLinearCard : Claim7 := { stood := { row := fgrepLinearRow, standIns := [], harness := (true, "3e084d154dba0cdf067f9aee6e9ed55257c39a4e5e8176ad7590c088acbee7a3"), looks := true }, kinds := [], alts := [], laidByText := true, laidKinds := [.data, .data, .data], laidTests := true, laidLooks := .later }
def FgrepLinearCardSaid : Prop := Claim7.holds Tryz.pinned (.plain (OpenSpec.ofChange fgrepLinearSpec)) fgrepLinearCard

/-- THE TIED CARD OF 'seinelaw25.FgrepOthers'. -/
def fgrepOthersCard : Claim7 := { stood := { row := fgrepOthersRow, standIns := [], harness := (true, "3e084d154dba0cdf067f9aee6e9ed55257c39a4e5e8176ad7590c088acbee7a3"), looks := true }, kinds := [], alts := [], laidByText := true, laidKinds := [.data, .data, .data], laidTests := true, laidLooks := .later }
def FgrepOthersCardSaid : Prop := Claim7.holds Tryz.pinned (.plain (OpenSpec.ofChange fgrepOthersSpec)) fgrepOthersCard

/-- THE TIED CARD OF 'seinelaw26.ScriptTakes'. -/
def scriptTakesCard : Claim7 := { stood := { row := scriptTakesRow, standIns := [], harness := (true, "3e084d154dba0cdf067f9aee6e9ed55257c39a4e5e8176ad7590c088acbee7a3"), looks := true }, kinds := [], alts := [], laidByText := true, laidKinds := [.data, .data, .data], laidTests := true, laidLooks := .later }
def ScriptTakesCardSaid : Prop := Claim7.holds Tryz.pinned (.plain (OpenSpec.ofChange scriptTakesSpec)) scriptTakesCard

/-- THE TIED CARD OF 'seinelaw26.ScriptPuts'. -/
def scriptPutsCard : Claim7 := { stood := { row := scriptPutsRow, standIns := [], harness := (true, "3e084d154dba0cdf067f9aee6e9ed55257c39a4e5e8176ad7590c088acbee7a3"), looks := true }, kinds := [], alts := [], laidByText := true, laidKinds := [.data, .data, .data], laidTests := true, laidLooks := .later }
def ScriptPutsCardSaid : Prop := Claim7.holds Tryz.pinned (.plain (OpenSpec.ofChange scriptPutsSpec)) scriptPutsCard

/-- THE TIED CARD OF 'seinelaw26.ScriptBack'. -/
def scriptBackCard : Claim7 := { stood := { row := scriptBackRow, standIns := [], harness := (true, "3e084d154dba0cdf067f9aee6e9ed55257c39a4e5e8176ad7590c088acbee7a3"), looks := true }, kinds := [], alts := [], laidByText := true, laidKinds := [.data, .data, .data], laidTests := true, laidLooks := .later }
def ScriptBackCardSaid : Prop := Claim7.holds Tryz.pinned (.plain (OpenSpec.ofChange scriptBackSpec)) scriptBackCard

/-- THE TIED CARD OF 'seinelaw26.ScriptOnly'. -/
def scriptOnlyCard : Claim7 := { stood := { row := scriptOnlyRow, standIns := [], harness := (true, "3e084d154dba0cdf067f9aee6e9ed55257c39a4e5e8176ad7590c088acbee7a3"), looks := true }, kinds := [], alts := [], laidByText := true, laidKinds := [.data, .data, .data], laidTests := true, laidLooks := .later }
def ScriptOnlyCardSaid : Prop := Claim7.holds Tryz.pinned (.plain (OpenSpec.ofChange scriptOnlySpec)) scriptOnlyCard

/-- THE TIED CARD OF 'seinelaw26.ScriptPlays'. -/
def scriptPlaysCard : Claim7 := { stood := { row := scriptPlaysRow, standIns := [], harness := (true, "3e084d154dba0cdf067f9aee6e9ed55257c39a4e5e8176ad7590c088acbee7a3"), looks := true }, kinds := [], alts := [], laidByText := true, laidKinds := [.data, .data, .data], laidTests := true, laidLooks := .later }
def ScriptPlaysCardSaid : Prop := Claim7.holds Tryz.pinned (.plain (OpenSpec.ofChange scriptPlaysSpec)) scriptPlaysCard

/-- THE TIED CARD OF 'seinelaw26.ScriptNumbers'. -/
def scriptNumbersCard : Claim7 := { stood := { row := scriptNumbersRow, standIns := [], harness := (true, "3e084d154dba0cdf067f9aee6e9ed55257c39a4e5e8176ad7590c088acbee7a3"), looks := true }, kinds := [], alts := [], laidByText := true, laidKinds := [.data, .data, .data], laidTests := true, laidLooks := .later }
def ScriptNumbersCardSaid : Prop := Claim7.holds Tryz.pinned (.plain (OpenSpec.ofChange scriptNumbersSpec)) scriptNumbersCard

/-- THE SECOND FORM's CARD OF 'seinetop.TopMore'. -/
def topMoreUptoCard : Claim7 := { stood := { row := topMoreUptoRow, standIns := [], harness := (true, "3e084d154dba0cdf067f9aee6e9ed55257c39a4e5e8176ad7590c088acbee7a3"), looks := true }, kinds := [], alts := [], laidByText := true, laidKinds := [.data, .data, .data], laidTests := true, laidLooks := .later }
def TopMoreUptoCardSaid : Prop := Claim7.holds Tryz.pinned (.plain (OpenSpec.upto topMoreSpec)) topMoreUptoCard

/-- THE SECOND FORM's CARD OF 'seinetop.TopJoins'. -/
def topJoinsUptoCard : Claim7 := { stood := { row := topJoinsUptoRow, standIns := [], harness := (true, "3e084d154dba0cdf067f9aee6e9ed55257c39a4e5e8176ad7590c088acbee7a3"), looks := true }, kinds := [], alts := [], laidByText := true, laidKinds := [.data, .data, .data], laidTests := true, laidLooks := .later }
def TopJoinsUptoCardSaid : Prop := Claim7.holds Tryz.pinned (.plain (OpenSpec.upto topJoinsSpec)) topJoinsUptoCard

/-- THE SECOND FORM's CARD OF 'seinetop.TopCounted'. -/
def topCountedUptoCard : Claim7 := { stood := { row := topCountedUptoRow, standIns := [], harness := (true, "3e084d154dba0cdf067f9aee6e9ed55257c39a4e5e8176ad7590c088acbee7a3"), looks := true }, kinds := [], alts := [], laidByText := true, laidKinds := [.data, .data, .data], laidTests := true, laidLooks := .later }
def TopCountedUptoCardSaid : Prop := Claim7.holds Tryz.pinned (.plain (OpenSpec.upto topCountedSpec)) topCountedUptoCard

/-- THE SECOND FORM's CARD OF 'seinelaw25.FgrepRuns'. -/
def fgrepRunsUptoCard : Claim7 := { stood := { row := fgrepRunsUptoRow, standIns := [], harness := (true, "3e084d154dba0cdf067f9aee6e9ed55257c39a4e5e8176ad7590c088acbee7a3"), looks := true }, kinds := [], alts := [], laidByText := true, laidKinds := [.data, .data, .data], laidTests := true, laidLooks := .later }
def FgrepRunsUptoCardSaid : Prop := Claim7.holds Tryz.pinned (.plain (OpenSpec.upto fgrepRunsSpec)) fgrepRunsUptoCard

/-- THE SECOND FORM's CARD OF 'seinelaw25.FgrepCounts'. -/
def fgrepCountsUptoCard : Claim7 := { stood := { row := fgrepCountsUptoRow, standIns := [], harness := (true, "3e084d154dba0cdf067f9aee6e9ed55257c39a4e5e8176ad7590c088acbee7a3"), looks := true }, kinds := [], alts := [], laidByText := true, laidKinds := [.data, .data, .data], laidTests := true, laidLooks := .later }
def FgrepCountsUptoCardSaid : Prop := Claim7.holds Tryz.pinned (.plain (OpenSpec.upto fgrepCountsSpec)) fgrepCountsUptoCard

/-- THE SECOND FORM's CARD OF 'seinelaw25.FgrepCuts'. -/
def fgrepCutsUptoCard : Claim7 := { stood := { row := fgrepCutsUptoRow, standIns := [], harness := (true, "3e084d154dba0cdf067f9aee6e9ed55257c39a4e5e8176ad7590c088acbee7a3"), looks := true }, kinds := [], alts := [], laidByText := true, laidKinds := [.data, .data, .data], laidTests := true, laidLooks := .later }
def FgrepCutsUptoCardSaid : Prop := Claim7.holds Tryz.pinned (.plain (OpenSpec.upto fgrepCutsSpec)) fgrepCutsUptoCard

/-- THE SECOND FORM's CARD OF 'seinelaw25.FgrepOnly'. -/
def fgrepOnlyUptoCard : Claim7 := { stood := { row := fgrepOnlyUptoRow, standIns := [], harness := (true, "3e084d154dba0cdf067f9aee6e9ed55257c39a4e5e8176ad7590c088acbee7a3"), looks := true }, kinds := [], alts := [], laidByText := true, laidKinds := [.data, .data, .data], laidTests := true, laidLooks := .later }
def FgrepOnlyUptoCardSaid : Prop := Claim7.holds Tryz.pinned (.plain (OpenSpec.upto fgrepOnlySpec)) fgrepOnlyUptoCard

/-- THE SECOND FORM's CARD OF 'seinelaw25.FgrepErrors'. -/
def fgrepErrorsUptoCard : Claim7 := { stood := { row := fgrepErrorsUptoRow, standIns := [], harness := (true, "3e084d154dba0cdf067f9aee6e9ed55257c39a4e5e8176ad7590c088acbee7a3"), looks := true }, kinds := [], alts := [], laidByText := true, laidKinds := [.data, .data, .data], laidTests := true, laidLooks := .later }
def FgrepErrorsUptoCardSaid : Prop := Claim7.holds Tryz.pinned (.plain (OpenSpec.upto fgrepErrorsSpec)) fgrepErrorsUptoCard

/-- THE SECOND FORM's CARD OF 'seinelaw25.FgrepPieces'. -/
def fgrepPiecesUptoCard : Claim7 := { stood := { row := fgrepPiecesUptoRow, standIns := [], harness := (true, "3e084d154dba0cdf067f9aee6e9ed55257c39a4e5e8176ad7590c088acbee7a3"), looks := true }, kinds := [], alts := [], laidByText := true, laidKinds := [.data, .data, .data], laidTests := true, laidLooks := .later }
def FgrepPiecesUptoCardSaid : Prop := Claim7.holds Tryz.pinned (.plain (OpenSpec.upto fgrepPiecesSpec)) fgrepPiecesUptoCard

/-- THE SECOND FORM's CARD OF 'seinelaw25.FgrepLinear'. -/
def fgrepLinearUptoCard : Claim7 := { stood := { row := fgrepLinearUptoRow, standIns := [], harness := (true, "3e084d154dba0cdf067f9aee6e9ed55257c39a4e5e8176ad7590c088acbee7a3"), looks := true }, kinds := [], alts := [], laidByText := true, laidKinds := [.data, .data, .data], laidTests := true, laidLooks := .later }
def FgrepLinearUptoCardSaid : Prop := Claim7.holds Tryz.pinned (.plain (OpenSpec.upto fgrepLinearSpec)) fgrepLinearUptoCard

/-- THE SECOND FORM's CARD OF 'seinelaw25.FgrepOthers'. -/
def fgrepOthersUptoCard : Claim7 := { stood := { row := fgrepOthersUptoRow, standIns := [], harness := (true, "3e084d154dba0cdf067f9aee6e9ed55257c39a4e5e8176ad7590c088acbee7a3"), looks := true }, kinds := [], alts := [], laidByText := true, laidKinds := [.data, .data, .data], laidTests := true, laidLooks := .later }
def FgrepOthersUptoCardSaid : Prop := Claim7.holds Tryz.pinned (.plain (OpenSpec.upto fgrepOthersSpec)) fgrepOthersUptoCard

/-- THE SECOND FORM's CARD OF 'seinelaw26.ScriptTakes'. -/
def scriptTakesUptoCard : Claim7 := { stood := { row := scriptTakesUptoRow, standIns := [], harness := (true, "3e084d154dba0cdf067f9aee6e9ed55257c39a4e5e8176ad7590c088acbee7a3"), looks := true }, kinds := [], alts := [], laidByText := true, laidKinds := [.data, .data, .data], laidTests := true, laidLooks := .later }
def ScriptTakesUptoCardSaid : Prop := Claim7.holds Tryz.pinned (.plain (OpenSpec.upto scriptTakesSpec)) scriptTakesUptoCard

/-- THE SECOND FORM's CARD OF 'seinelaw26.ScriptPuts'. -/
def scriptPutsUptoCard : Claim7 := { stood := { row := scriptPutsUptoRow, standIns := [], harness := (true, "3e084d154dba0cdf067f9aee6e9ed55257c39a4e5e8176ad7590c088acbee7a3"), looks := true }, kinds := [], alts := [], laidByText := true, laidKinds := [.data, .data, .data], laidTests := true, laidLooks := .later }
def ScriptPutsUptoCardSaid : Prop := Claim7.holds Tryz.pinned (.plain (OpenSpec.upto scriptPutsSpec)) scriptPutsUptoCard

/-- THE SECOND FORM's CARD OF 'seinelaw26.ScriptBack'. -/
def scriptBackUptoCard : Claim7 := { stood := { row := scriptBackUptoRow, standIns := [], harness := (true, "3e084d154dba0cdf067f9aee6e9ed55257c39a4e5e8176ad7590c088acbee7a3"), looks := true }, kinds := [], alts := [], laidByText := true, laidKinds := [.data, .data, .data], laidTests := true, laidLooks := .later }
def ScriptBackUptoCardSaid : Prop := Claim7.holds Tryz.pinned (.plain (OpenSpec.upto scriptBackSpec)) scriptBackUptoCard

/-- THE SECOND FORM's CARD OF 'seinelaw26.ScriptOnly'. -/
def scriptOnlyUptoCard : Claim7 := { stood := { row := scriptOnlyUptoRow, standIns := [], harness := (true, "3e084d154dba0cdf067f9aee6e9ed55257c39a4e5e8176ad7590c088acbee7a3"), looks := true }, kinds := [], alts := [], laidByText := true, laidKinds := [.data, .data, .data], laidTests := true, laidLooks := .later }
def ScriptOnlyUptoCardSaid : Prop := Claim7.holds Tryz.pinned (.plain (OpenSpec.upto scriptOnlySpec)) scriptOnlyUptoCard

/-- THE SECOND FORM's CARD OF 'seinelaw26.ScriptPlays'. -/
def scriptPlaysUptoCard : Claim7 := { stood := { row := scriptPlaysUptoRow, standIns := [], harness := (true, "3e084d154dba0cdf067f9aee6e9ed55257c39a4e5e8176ad7590c088acbee7a3"), looks := true }, kinds := [], alts := [], laidByText := true, laidKinds := [.data, .data, .data], laidTests := true, laidLooks := .later }
def ScriptPlaysUptoCardSaid : Prop := Claim7.holds Tryz.pinned (.plain (OpenSpec.upto scriptPlaysSpec)) scriptPlaysUptoCard

/-- THE SECOND FORM's CARD OF 'seinelaw26.ScriptNumbers'. -/
def scriptNumbersUptoCard : Claim7 := { stood := { row := scriptNumbersUptoRow, standIns := [], harness := (true, "3e084d154dba0cdf067f9aee6e9ed55257c39a4e5e8176ad7590c088acbee7a3"), looks := true }, kinds := [], alts := [], laidByText := true, laidKinds := [.data, .data, .data], laidTests := true, laidLooks := .later }
def ScriptNumbersUptoCardSaid : Prop := Claim7.holds Tryz.pinned (.plain (OpenSpec.upto scriptNumbersSpec)) scriptNumbersUptoCard
end Rows
end Go.Proofs.YtfdlaomnecjfeaaGreatDoor
