/-
  DERIVED. GIVEN WITH THE SEED: THE CARDS: each row of YtfnonogemgnlhaaDoorRows.lean that lists a variable, with what it lists TIED to the program's text (the seventh form; the later family's looks); each row that meets fmt, with fmt's text TOLD by the authors' own Lean function (tested against real Go, not proved from fmt's source: count such statements apart). THE CARD IS WHAT COUNTS. Prove the row's statement (the work); the ties are given (YtfnonogemgnlhaaDoorTie.lean); close each card by the builder's one call (the guide's Derived/Test/ToyasCard.lean, 'card_holds'). Laid BY PROGRAM, IN A SANDBOX (cutbox-door.mjs). By AI agents, Wed Nov 11 2026. No macro, syntax, notation, axiom, sorry.
-/
import Derived.Test.YtfnonogemgnlhaaDoorRows
import GoSem.ClaimSeven
namespace Go.Proofs.YtfnonogemgnlhaaDoor
namespace Rows

/-- THE TIED CARD OF 'robuststatslaw09.FormulaParses'. -/
def formulaParsesCard : Claim7 := { stood := { row := formulaParsesRow, standIns := [], harness := (true, "c53c7507258e81e2207e647764b684bdf4c14d04839fb69dbd179e60d3cb1e2c"), looks := true }, kinds := [], alts := [], laidByText := true, laidKinds := [.data, .data, .data], laidTests := true, laidLooks := .later }
def FormulaParsesCardSaid : Prop := Claim7.holds Tryd.pinned (.plain (OpenSpec.ofChange formulaParsesSpec)) formulaParsesCard

/-- THE TIED CARD OF 'robuststatslaw09.FormulaFormats'. -/
def formulaFormatsCard : Claim7 := { stood := { row := formulaFormatsRow, standIns := [], harness := (true, "c53c7507258e81e2207e647764b684bdf4c14d04839fb69dbd179e60d3cb1e2c"), looks := true }, kinds := [], alts := [], laidByText := true, laidKinds := [.data, .data, .data], laidTests := true, laidLooks := .later }
def FormulaFormatsCardSaid : Prop := Claim7.holds Tryd.pinned (.plain (OpenSpec.ofChange formulaFormatsSpec)) formulaFormatsCard

/-- THE TIED CARD OF 'robuststatslaw09.FormulaReadsBack'. -/
def formulaReadsBackCard : Claim7 := { stood := { row := formulaReadsBackRow, standIns := [], harness := (true, "c53c7507258e81e2207e647764b684bdf4c14d04839fb69dbd179e60d3cb1e2c"), looks := true }, kinds := [], alts := [], laidByText := true, laidKinds := [.data, .data, .data], laidTests := true, laidLooks := .later }
def FormulaReadsBackCardSaid : Prop := Claim7.holds Tryd.pinned (.plain (OpenSpec.ofChange formulaReadsBackSpec)) formulaReadsBackCard

/-- THE TIED CARD OF 'robuststatslaw09.FormulaIsStable'. -/
def formulaIsStableCard : Claim7 := { stood := { row := formulaIsStableRow, standIns := [], harness := (true, "c53c7507258e81e2207e647764b684bdf4c14d04839fb69dbd179e60d3cb1e2c"), looks := true }, kinds := [], alts := [], laidByText := true, laidKinds := [.data, .data, .data], laidTests := true, laidLooks := .later }
def FormulaIsStableCardSaid : Prop := Claim7.holds Tryd.pinned (.plain (OpenSpec.ofChange formulaIsStableSpec)) formulaIsStableCard

/-- THE TIED CARD OF 'robuststatslaw09.FormulaIgnoresBrackets'. -/
def formulaIgnoresBracketsCard : Claim7 := { stood := { row := formulaIgnoresBracketsRow, standIns := [], harness := (true, "c53c7507258e81e2207e647764b684bdf4c14d04839fb69dbd179e60d3cb1e2c"), looks := true }, kinds := [], alts := [], laidByText := true, laidKinds := [.data, .data, .data], laidTests := true, laidLooks := .later }
def FormulaIgnoresBracketsCardSaid : Prop := Claim7.holds Tryd.pinned (.plain (OpenSpec.ofChange formulaIgnoresBracketsSpec)) formulaIgnoresBracketsCard

/-- THE TIED CARD OF 'robuststatslaw09.FormulaStopsAtTheError'. -/
def formulaStopsAtTheErrorCard : Claim7 := { stood := { row := formulaStopsAtTheErrorRow, standIns := [], harness := (true, "c53c7507258e81e2207e647764b684bdf4c14d04839fb69dbd179e60d3cb1e2c"), looks := true }, kinds := [], alts := [], laidByText := true, laidKinds := [.data, .data, .data], laidTests := true, laidLooks := .later }
def FormulaStopsAtTheErrorCardSaid : Prop := Claim7.holds Tryd.pinned (.plain (OpenSpec.ofChange formulaStopsAtTheErrorSpec)) formulaStopsAtTheErrorCard

/-- THE TIED CARD OF 'robuststatslaw09.FormulaGrows'. -/
def formulaGrowsCard : Claim7 := { stood := { row := formulaGrowsRow, standIns := [], harness := (true, "c53c7507258e81e2207e647764b684bdf4c14d04839fb69dbd179e60d3cb1e2c"), looks := true }, kinds := [], alts := [], laidByText := true, laidKinds := [.data, .data, .data], laidTests := true, laidLooks := .later }
def FormulaGrowsCardSaid : Prop := Claim7.holds Tryd.pinned (.plain (OpenSpec.ofChange formulaGrowsSpec)) formulaGrowsCard

/-- THE SECOND FORM's CARD OF 'robuststatslaw09.FormulaParses'. -/
def formulaParsesUptoCard : Claim7 := { stood := { row := formulaParsesUptoRow, standIns := [], harness := (true, "c53c7507258e81e2207e647764b684bdf4c14d04839fb69dbd179e60d3cb1e2c"), looks := true }, kinds := [], alts := [], laidByText := true, laidKinds := [.data, .data, .data], laidTests := true, laidLooks := .later }
def FormulaParsesUptoCardSaid : Prop := Claim7.holds Tryd.pinned (.plain (OpenSpec.upto formulaParsesSpec)) formulaParsesUptoCard

/-- THE SECOND FORM's CARD OF 'robuststatslaw09.FormulaFormats'. -/
def formulaFormatsUptoCard : Claim7 := { stood := { row := formulaFormatsUptoRow, standIns := [], harness := (true, "c53c7507258e81e2207e647764b684bdf4c14d04839fb69dbd179e60d3cb1e2c"), looks := true }, kinds := [], alts := [], laidByText := true, laidKinds := [.data, .data, .data], laidTests := true, laidLooks := .later }
def FormulaFormatsUptoCardSaid : Prop := Claim7.holds Tryd.pinned (.plain (OpenSpec.upto formulaFormatsSpec)) formulaFormatsUptoCard

/-- THE SECOND FORM's CARD OF 'robuststatslaw09.FormulaReadsBack'. -/
def formulaReadsBackUptoCard : Claim7 := { stood := { row := formulaReadsBackUptoRow, standIns := [], harness := (true, "c53c7507258e81e2207e647764b684bdf4c14d04839fb69dbd179e60d3cb1e2c"), looks := true }, kinds := [], alts := [], laidByText := true, laidKinds := [.data, .data, .data], laidTests := true, laidLooks := .later }
def FormulaReadsBackUptoCardSaid : Prop := Claim7.holds Tryd.pinned (.plain (OpenSpec.upto formulaReadsBackSpec)) formulaReadsBackUptoCard

/-- THE SECOND FORM's CARD OF 'robuststatslaw09.FormulaIsStable'. -/
def formulaIsStableUptoCard : Claim7 := { stood := { row := formulaIsStableUptoRow, standIns := [], harness := (true, "c53c7507258e81e2207e647764b684bdf4c14d04839fb69dbd179e60d3cb1e2c"), looks := true }, kinds := [], alts := [], laidByText := true, laidKinds := [.data, .data, .data], laidTests := true, laidLooks := .later }
def FormulaIsStableUptoCardSaid : Prop := Claim7.holds Tryd.pinned (.plain (OpenSpec.upto formulaIsStableSpec)) formulaIsStableUptoCard

/-- THE SECOND FORM's CARD OF 'robuststatslaw09.FormulaIgnoresBrackets'. -/
def formulaIgnoresBracketsUptoCard : Claim7 := { stood := { row := formulaIgnoresBracketsUptoRow, standIns := [], harness := (true, "c53c7507258e81e2207e647764b684bdf4c14d04839fb69dbd179e60d3cb1e2c"), looks := true }, kinds := [], alts := [], laidByText := true, laidKinds := [.data, .data, .data], laidTests := true, laidLooks := .later }
def FormulaIgnoresBracketsUptoCardSaid : Prop := Claim7.holds Tryd.pinned (.plain (OpenSpec.upto formulaIgnoresBracketsSpec)) formulaIgnoresBracketsUptoCard

/-- THE SECOND FORM's CARD OF 'robuststatslaw09.FormulaStopsAtTheError'. -/
def formulaStopsAtTheErrorUptoCard : Claim7 := { stood := { row := formulaStopsAtTheErrorUptoRow, standIns := [], harness := (true, "c53c7507258e81e2207e647764b684bdf4c14d04839fb69dbd179e60d3cb1e2c"), looks := true }, kinds := [], alts := [], laidByText := true, laidKinds := [.data, .data, .data], laidTests := true, laidLooks := .later }
def FormulaStopsAtTheErrorUptoCardSaid : Prop := Claim7.holds Tryd.pinned (.plain (OpenSpec.upto formulaStopsAtTheErrorSpec)) formulaStopsAtTheErrorUptoCard

/-- THE SECOND FORM's CARD OF 'robuststatslaw09.FormulaGrows'. -/
def formulaGrowsUptoCard : Claim7 := { stood := { row := formulaGrowsUptoRow, standIns := [], harness := (true, "c53c7507258e81e2207e647764b684bdf4c14d04839fb69dbd179e60d3cb1e2c"), looks := true }, kinds := [], alts := [], laidByText := true, laidKinds := [.data, .data, .data], laidTests := true, laidLooks := .later }
def FormulaGrowsUptoCardSaid : Prop := Claim7.holds Tryd.pinned (.plain (OpenSpec.upto formulaGrowsSpec)) formulaGrowsUptoCard
end Rows
end Go.Proofs.YtfnonogemgnlhaaDoor
