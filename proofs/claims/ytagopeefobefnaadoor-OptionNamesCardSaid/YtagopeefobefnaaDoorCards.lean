/-
  DERIVED. GIVEN WITH THE SEED: THE CARDS: each row of YtagopeefobefnaaDoorRows.lean that lists a variable, with what it lists TIED to the program's text (the seventh form; the later family's looks); each row that meets fmt, with fmt's text TOLD by the authors' own Lean function (tested against real Go, not proved from fmt's source: count such statements apart). THE CARD IS WHAT COUNTS. Prove the row's statement (the work); the ties are given (YtagopeefobefnaaDoorTie.lean); close each card by the builder's one call (the guide's Derived/Test/ToyasCard.lean, 'card_holds'). Laid BY PROGRAM, IN A SANDBOX (cutbox-door.mjs). By AI agents, Wed Nov 11 2026. No macro, syntax, notation, axiom, sorry.
-/
import Derived.Test.YtagopeefobefnaaDoorRows
import GoSem.ClaimSeven
namespace Go.Proofs.YtagopeefobefnaaDoor
namespace Rows

/-- THE TIED CARD OF 'peeragelaw05.OptionNames'. -/
def optionNamesCard : Claim7 := { stood := { row := optionNamesRow, standIns := [], harness := (true, "a7807f02ee6275412bdce0c15818b874710fefbdee5fe8c4ef273e19dbb42afb"), looks := false }, kinds := [], alts := [], laidByText := true, laidKinds := [.listed, .data], laidTests := true, laidLooks := .later }
def OptionNamesCardSaid : Prop := Claim7.holds Tryd.pinned (.plain (OpenSpec.ofChange optionNamesSpec)) optionNamesCard

/-- THE TIED CARD OF 'peeragelaw05.OptionParses'. -/
def optionParsesCard : Claim7 := { stood := { row := optionParsesRow, standIns := [], harness := (true, "a7807f02ee6275412bdce0c15818b874710fefbdee5fe8c4ef273e19dbb42afb"), looks := false }, kinds := [], alts := [], laidByText := true, laidKinds := [.data, .pinned], laidTests := true, laidLooks := .later }
def OptionParsesCardSaid : Prop := Claim7.holds Tryd.pinned (.plain (OpenSpec.ofChange optionParsesSpec)) optionParsesCard

/-- THE TIED CARD OF 'peeragelaw05.OptionTexts'. -/
def optionTextsCard : Claim7 := { stood := { row := optionTextsRow, standIns := [], harness := (true, "a7807f02ee6275412bdce0c15818b874710fefbdee5fe8c4ef273e19dbb42afb"), looks := false }, kinds := [], alts := [], laidByText := true, laidKinds := [.data, .pinned], laidTests := true, laidLooks := .later }
def OptionTextsCardSaid : Prop := Claim7.holds Tryd.pinned (.plain (OpenSpec.ofChange optionTextsSpec)) optionTextsCard

/-- THE SECOND FORM's CARD OF 'peeragelaw05.OptionNames'. -/
def optionNamesUptoCard : Claim7 := { stood := { row := optionNamesUptoRow, standIns := [], harness := (true, "a7807f02ee6275412bdce0c15818b874710fefbdee5fe8c4ef273e19dbb42afb"), looks := false }, kinds := [], alts := [], laidByText := true, laidKinds := [.listed, .data], laidTests := true, laidLooks := .later }
def OptionNamesUptoCardSaid : Prop := Claim7.holds Tryd.pinned (.plain (OpenSpec.upto optionNamesSpec)) optionNamesUptoCard

/-- THE SECOND FORM's CARD OF 'peeragelaw05.OptionParses'. -/
def optionParsesUptoCard : Claim7 := { stood := { row := optionParsesUptoRow, standIns := [], harness := (true, "a7807f02ee6275412bdce0c15818b874710fefbdee5fe8c4ef273e19dbb42afb"), looks := false }, kinds := [], alts := [], laidByText := true, laidKinds := [.data, .pinned], laidTests := true, laidLooks := .later }
def OptionParsesUptoCardSaid : Prop := Claim7.holds Tryd.pinned (.plain (OpenSpec.upto optionParsesSpec)) optionParsesUptoCard

/-- THE SECOND FORM's CARD OF 'peeragelaw05.OptionTexts'. -/
def optionTextsUptoCard : Claim7 := { stood := { row := optionTextsUptoRow, standIns := [], harness := (true, "a7807f02ee6275412bdce0c15818b874710fefbdee5fe8c4ef273e19dbb42afb"), looks := false }, kinds := [], alts := [], laidByText := true, laidKinds := [.data, .pinned], laidTests := true, laidLooks := .later }
def OptionTextsUptoCardSaid : Prop := Claim7.holds Tryd.pinned (.plain (OpenSpec.upto optionTextsSpec)) optionTextsUptoCard
end Rows
end Go.Proofs.YtagopeefobefnaaDoor
