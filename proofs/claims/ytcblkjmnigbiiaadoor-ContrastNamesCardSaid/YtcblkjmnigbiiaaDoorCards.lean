/-
  DERIVED. GIVEN WITH THE SEED: THE CARDS: each row of YtcblkjmnigbiiaaDoorRows.lean that lists a variable, with what it lists TIED to the program's text (the seventh form; the later family's looks); each row that meets fmt, with fmt's text TOLD by the authors' own Lean function (tested against real Go, not proved from fmt's source: count such statements apart). THE CARD IS WHAT COUNTS. Prove the row's statement (the work); the ties are given (YtcblkjmnigbiiaaDoorTie.lean); close each card by the builder's one call (the guide's Derived/Test/ToyasCard.lean, 'card_holds'). Laid BY PROGRAM, IN A SANDBOX (cutbox-door.mjs). By AI agents, Wed Nov 11 2026. No macro, syntax, notation, axiom, sorry.
-/
import Derived.Test.YtcblkjmnigbiiaaDoorRows
import GoSem.ClaimSeven
namespace Go.Proofs.YtcblkjmnigbiiaaDoor
namespace Rows

/-- THE TIED CARD OF 'robuststatslaw11.ContrastCodes'. -/
def contrastCodesCard : Claim7 := { stood := { row := contrastCodesRow, standIns := [], harness := (true, "87cc4412cefe70c351e15c8e2f7fa20001094de2565ed965152d12c7d792f2a1"), looks := false }, kinds := [], alts := [], laidByText := true, laidKinds := [.data, .data, .data], laidTests := true, laidLooks := .later }
def ContrastCodesCardSaid : Prop := Claim7.holds Tryd.pinned (.plain (OpenSpec.ofChange contrastCodesSpec)) contrastCodesCard

/-- THE TIED CARD OF 'robuststatslaw11.ContrastNames'. -/
def contrastNamesCard : Claim7 := { stood := { row := contrastNamesRow, standIns := [], harness := (true, "87cc4412cefe70c351e15c8e2f7fa20001094de2565ed965152d12c7d792f2a1"), looks := false }, kinds := [], alts := [], laidByText := true, laidKinds := [.data, .data, .data], laidTests := true, laidLooks := .later }
def ContrastNamesCardSaid : Prop := Claim7.holds Tryd.pinned (.plain (OpenSpec.ofChange contrastNamesSpec)) contrastNamesCard

/-- THE TIED CARD OF 'robuststatslaw11.ContrastHasFullRank'. -/
def contrastHasFullRankCard : Claim7 := { stood := { row := contrastHasFullRankRow, standIns := [], harness := (true, "87cc4412cefe70c351e15c8e2f7fa20001094de2565ed965152d12c7d792f2a1"), looks := false }, kinds := [], alts := [], laidByText := true, laidKinds := [.data, .data, .data], laidTests := true, laidLooks := .later }
def ContrastHasFullRankCardSaid : Prop := Claim7.holds Tryd.pinned (.plain (OpenSpec.ofChange contrastHasFullRankSpec)) contrastHasFullRankCard

/-- THE TIED CARD OF 'robuststatslaw11.ContrastHasSums'. -/
def contrastHasSumsCard : Claim7 := { stood := { row := contrastHasSumsRow, standIns := [], harness := (true, "87cc4412cefe70c351e15c8e2f7fa20001094de2565ed965152d12c7d792f2a1"), looks := false }, kinds := [], alts := [], laidByText := true, laidKinds := [.data, .data, .data], laidTests := true, laidLooks := .later }
def ContrastHasSumsCardSaid : Prop := Claim7.holds Tryd.pinned (.plain (OpenSpec.ofChange contrastHasSumsSpec)) contrastHasSumsCard

/-- THE SECOND FORM's CARD OF 'robuststatslaw11.ContrastCodes'. -/
def contrastCodesUptoCard : Claim7 := { stood := { row := contrastCodesUptoRow, standIns := [], harness := (true, "87cc4412cefe70c351e15c8e2f7fa20001094de2565ed965152d12c7d792f2a1"), looks := false }, kinds := [], alts := [], laidByText := true, laidKinds := [.data, .data, .data], laidTests := true, laidLooks := .later }
def ContrastCodesUptoCardSaid : Prop := Claim7.holds Tryd.pinned (.plain (OpenSpec.upto contrastCodesSpec)) contrastCodesUptoCard

/-- THE SECOND FORM's CARD OF 'robuststatslaw11.ContrastNames'. -/
def contrastNamesUptoCard : Claim7 := { stood := { row := contrastNamesUptoRow, standIns := [], harness := (true, "87cc4412cefe70c351e15c8e2f7fa20001094de2565ed965152d12c7d792f2a1"), looks := false }, kinds := [], alts := [], laidByText := true, laidKinds := [.data, .data, .data], laidTests := true, laidLooks := .later }
def ContrastNamesUptoCardSaid : Prop := Claim7.holds Tryd.pinned (.plain (OpenSpec.upto contrastNamesSpec)) contrastNamesUptoCard

/-- THE SECOND FORM's CARD OF 'robuststatslaw11.ContrastHasFullRank'. -/
def contrastHasFullRankUptoCard : Claim7 := { stood := { row := contrastHasFullRankUptoRow, standIns := [], harness := (true, "87cc4412cefe70c351e15c8e2f7fa20001094de2565ed965152d12c7d792f2a1"), looks := false }, kinds := [], alts := [], laidByText := true, laidKinds := [.data, .data, .data], laidTests := true, laidLooks := .later }
def ContrastHasFullRankUptoCardSaid : Prop := Claim7.holds Tryd.pinned (.plain (OpenSpec.upto contrastHasFullRankSpec)) contrastHasFullRankUptoCard

/-- THE SECOND FORM's CARD OF 'robuststatslaw11.ContrastHasSums'. -/
def contrastHasSumsUptoCard : Claim7 := { stood := { row := contrastHasSumsUptoRow, standIns := [], harness := (true, "87cc4412cefe70c351e15c8e2f7fa20001094de2565ed965152d12c7d792f2a1"), looks := false }, kinds := [], alts := [], laidByText := true, laidKinds := [.data, .data, .data], laidTests := true, laidLooks := .later }
def ContrastHasSumsUptoCardSaid : Prop := Claim7.holds Tryd.pinned (.plain (OpenSpec.upto contrastHasSumsSpec)) contrastHasSumsUptoCard
end Rows
end Go.Proofs.YtcblkjmnigbiiaaDoor
