/-
  DERIVED. GIVEN WITH THE SEED: THE CARDS: each row of YtcapmihfhioafaaDoorRows.lean that lists a variable, with what it lists TIED to the program's text (the seventh form; the later family's looks); each row that meets fmt, with fmt's text TOLD by the authors' own Lean function (tested against real Go, not proved from fmt's source: count such statements apart). THE CARD IS WHAT COUNTS. Prove the row's statement (the work); the ties are given (YtcapmihfhioafaaDoorTie.lean); close each card by the builder's one call (the guide's Derived/Test/ToyasCard.lean, 'card_holds'). Laid BY PROGRAM, IN A SANDBOX (cutbox-door.mjs). By AI agents, Wed Nov 11 2026. No macro, syntax, notation, axiom, sorry.
-/
import Derived.Test.YtcapmihfhioafaaDoorRows
import GoSem.ClaimSeven
namespace Go.Proofs.YtcapmihfhioafaaDoor
namespace Rows

/-- THE TIED CARD OF 'seinelaw24.PrintNumbers'. -/
def printNumbersCard : Claim7 := { stood := { row := printNumbersRow, standIns := [], harness := (true, "447fa2d16fd356a207619c0afbf8dc9e47250ea95d19ef125ee4008ef1cdb4fa"), looks := false }, kinds := [], alts := [], laidByText := true, laidKinds := [.data, .data, .data], laidTests := true, laidLooks := .later }
def PrintNumbersCardSaid : Prop := Claim7.holds Tryd.pinned (.plain (OpenSpec.ofChange printNumbersSpec)) printNumbersCard

/-- THE TIED CARD OF 'seinelaw24.PrintLines'. -/
def printLinesCard : Claim7 := { stood := { row := printLinesRow, standIns := [], harness := (true, "447fa2d16fd356a207619c0afbf8dc9e47250ea95d19ef125ee4008ef1cdb4fa"), looks := false }, kinds := [], alts := [], laidByText := true, laidKinds := [.data, .data, .data], laidTests := true, laidLooks := .later }
def PrintLinesCardSaid : Prop := Claim7.holds Tryd.pinned (.plain (OpenSpec.ofChange printLinesSpec)) printLinesCard

/-- THE TIED CARD OF 'seinelaw24.PrintBack'. -/
def printBackCard : Claim7 := { stood := { row := printBackRow, standIns := [], harness := (true, "447fa2d16fd356a207619c0afbf8dc9e47250ea95d19ef125ee4008ef1cdb4fa"), looks := false }, kinds := [], alts := [], laidByText := true, laidKinds := [.data, .data, .data], laidTests := true, laidLooks := .later }
def PrintBackCardSaid : Prop := Claim7.holds Tryd.pinned (.plain (OpenSpec.ofChange printBackSpec)) printBackCard

/-- THE TIED CARD OF 'seinelaw24.PrintParts'. -/
def printPartsCard : Claim7 := { stood := { row := printPartsRow, standIns := [], harness := (true, "447fa2d16fd356a207619c0afbf8dc9e47250ea95d19ef125ee4008ef1cdb4fa"), looks := false }, kinds := [], alts := [], laidByText := true, laidKinds := [.data, .data, .data], laidTests := true, laidLooks := .later }
def PrintPartsCardSaid : Prop := Claim7.holds Tryd.pinned (.plain (OpenSpec.ofChange printPartsSpec)) printPartsCard

/-- THE TIED CARD OF 'seinelaw24.PrintWhere'. -/
def printWhereCard : Claim7 := { stood := { row := printWhereRow, standIns := [], harness := (true, "447fa2d16fd356a207619c0afbf8dc9e47250ea95d19ef125ee4008ef1cdb4fa"), looks := false }, kinds := [], alts := [], laidByText := true, laidKinds := [.data, .data, .data], laidTests := true, laidLooks := .later }
def PrintWhereCardSaid : Prop := Claim7.holds Tryd.pinned (.plain (OpenSpec.ofChange printWhereSpec)) printWhereCard

/-- THE SECOND FORM's CARD OF 'seinelaw24.PrintNumbers'. -/
def printNumbersUptoCard : Claim7 := { stood := { row := printNumbersUptoRow, standIns := [], harness := (true, "447fa2d16fd356a207619c0afbf8dc9e47250ea95d19ef125ee4008ef1cdb4fa"), looks := false }, kinds := [], alts := [], laidByText := true, laidKinds := [.data, .data, .data], laidTests := true, laidLooks := .later }
def PrintNumbersUptoCardSaid : Prop := Claim7.holds Tryd.pinned (.plain (OpenSpec.upto printNumbersSpec)) printNumbersUptoCard

/-- THE SECOND FORM's CARD OF 'seinelaw24.PrintLines'. -/
def printLinesUptoCard : Claim7 := { stood := { row := printLinesUptoRow, standIns := [], harness := (true, "447fa2d16fd356a207619c0afbf8dc9e47250ea95d19ef125ee4008ef1cdb4fa"), looks := false }, kinds := [], alts := [], laidByText := true, laidKinds := [.data, .data, .data], laidTests := true, laidLooks := .later }
def PrintLinesUptoCardSaid : Prop := Claim7.holds Tryd.pinned (.plain (OpenSpec.upto printLinesSpec)) printLinesUptoCard

/-- THE SECOND FORM's CARD OF 'seinelaw24.PrintBack'. -/
def printBackUptoCard : Claim7 := { stood := { row := printBackUptoRow, standIns := [], harness := (true, "447fa2d16fd356a207619c0afbf8dc9e47250ea95d19ef125ee4008ef1cdb4fa"), looks := false }, kinds := [], alts := [], laidByText := true, laidKinds := [.data, .data, .data], laidTests := true, laidLooks := .later }
def PrintBackUptoCardSaid : Prop := Claim7.holds Tryd.pinned (.plain (OpenSpec.upto printBackSpec)) printBackUptoCard

/-- THE SECOND FORM's CARD OF 'seinelaw24.PrintParts'. -/
def printPartsUptoCard : Claim7 := { stood := { row := printPartsUptoRow, standIns := [], harness := (true, "447fa2d16fd356a207619c0afbf8dc9e47250ea95d19ef125ee4008ef1cdb4fa"), looks := false }, kinds := [], alts := [], laidByText := true, laidKinds := [.data, .data, .data], laidTests := true, laidLooks := .later }
def PrintPartsUptoCardSaid : Prop := Claim7.holds Tryd.pinned (.plain (OpenSpec.upto printPartsSpec)) printPartsUptoCard

/-- THE SECOND FORM's CARD OF 'seinelaw24.PrintWhere'. -/
def printWhereUptoCard : Claim7 := { stood := { row := printWhereUptoRow, standIns := [], harness := (true, "447fa2d16fd356a207619c0afbf8dc9e47250ea95d19ef125ee4008ef1cdb4fa"), looks := false }, kinds := [], alts := [], laidByText := true, laidKinds := [.data, .data, .data], laidTests := true, laidLooks := .later }
def PrintWhereUptoCardSaid : Prop := Claim7.holds Tryd.pinned (.plain (OpenSpec.upto printWhereSpec)) printWhereUptoCard
end Rows
end Go.Proofs.YtcapmihfhioafaaDoor
