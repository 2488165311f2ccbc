/-
  DERIVED. GIVEN WITH THE SEED: THE CARDS: each row of YtaackmiajgapoaaDoorRows.lean that lists a variable, with what it lists TIED to the program's text (the seventh form; the later family's looks); each row that meets fmt, with fmt's text TOLD by the authors' own Lean function (tested against real Go, not proved from fmt's source: count such statements apart). THE CARD IS WHAT COUNTS. Prove the row's statement (the work); the ties are given (YtaackmiajgapoaaDoorTie.lean); close each card by the builder's one call (the guide's Derived/Test/ToyasCard.lean, 'card_holds'). Laid BY PROGRAM, IN A SANDBOX (cutbox-door.mjs). By AI agents, Wed Nov 11 2026. No macro, syntax, notation, axiom, sorry.
-/
import Derived.Test.YtaackmiajgapoaaDoorRows
import GoSem.ClaimSeven
namespace Go.Proofs.YtaackmiajgapoaaDoor
namespace Rows

/-- THE TIED CARD OF 'seedcornlaw17.TypingExpr'. -/
def typingExprCard : Claim7 := { stood := { row := typingExprRow, standIns := [], harness := (true, "bd894bd2d45ed630751e75cc58de293afb3b117eb318308fa227d26833b754ac"), looks := true }, kinds := [], alts := [], laidByText := true, laidKinds := [.widerDeep], laidTests := true, laidLooks := .later }
def TypingExprCardSaid : Prop := Claim7.holds Tryd.pinned (.plain (OpenSpec.ofChange typingExprSpec)) typingExprCard

/-- THE TIED CARD OF 'seedcornlaw17.TypingCheck'. -/
def typingCheckCard : Claim7 := { stood := { row := typingCheckRow, standIns := [], harness := (true, "bd894bd2d45ed630751e75cc58de293afb3b117eb318308fa227d26833b754ac"), looks := true }, kinds := [], alts := [], laidByText := true, laidKinds := [.widerDeep], laidTests := true, laidLooks := .later }
def TypingCheckCardSaid : Prop := Claim7.holds Tryd.pinned (.plain (OpenSpec.ofChange typingCheckSpec)) typingCheckCard

/-- THE TIED CARD OF 'seedcornlaw17.TypingKinds'. -/
def typingKindsCard : Claim7 := { stood := { row := typingKindsRow, standIns := [], harness := (true, "bd894bd2d45ed630751e75cc58de293afb3b117eb318308fa227d26833b754ac"), looks := true }, kinds := [], alts := [], laidByText := true, laidKinds := [.widerDeep], laidTests := true, laidLooks := .later }
def TypingKindsCardSaid : Prop := Claim7.holds Tryd.pinned (.plain (OpenSpec.ofChange typingKindsSpec)) typingKindsCard

/-- THE TIED CARD OF 'seedcornlaw17.TypingStmts'. -/
def typingStmtsCard : Claim7 := { stood := { row := typingStmtsRow, standIns := [], harness := (true, "bd894bd2d45ed630751e75cc58de293afb3b117eb318308fa227d26833b754ac"), looks := true }, kinds := [], alts := [], laidByText := true, laidKinds := [.widerDeep], laidTests := true, laidLooks := .later }
def TypingStmtsCardSaid : Prop := Claim7.holds Tryd.pinned (.plain (OpenSpec.ofChange typingStmtsSpec)) typingStmtsCard

/-- THE TIED CARD OF 'seedcornlaw17.TypingNames'. -/
def typingNamesCard : Claim7 := { stood := { row := typingNamesRow, standIns := [], harness := (true, "bd894bd2d45ed630751e75cc58de293afb3b117eb318308fa227d26833b754ac"), looks := true }, kinds := [], alts := [], laidByText := true, laidKinds := [.widerDeep], laidTests := true, laidLooks := .later }
def TypingNamesCardSaid : Prop := Claim7.holds Tryd.pinned (.plain (OpenSpec.ofChange typingNamesSpec)) typingNamesCard

/-- THE TIED CARD OF 'seedcornlaw17.TypingParts'. -/
def typingPartsCard : Claim7 := { stood := { row := typingPartsRow, standIns := [], harness := (true, "bd894bd2d45ed630751e75cc58de293afb3b117eb318308fa227d26833b754ac"), looks := true }, kinds := [], alts := [], laidByText := true, laidKinds := [.widerDeep], laidTests := true, laidLooks := .later }
def TypingPartsCardSaid : Prop := Claim7.holds Tryd.pinned (.plain (OpenSpec.ofChange typingPartsSpec)) typingPartsCard

/-- THE TIED CARD OF 'seedcorntop.SystemSource'. -/
def systemSourceCard : Claim7 := { stood := { row := systemSourceRow, standIns := [], harness := (true, "bd894bd2d45ed630751e75cc58de293afb3b117eb318308fa227d26833b754ac"), looks := true }, kinds := [], alts := [], laidByText := true, laidKinds := [.data, .data, .data, .widerDeep, .data, .data], laidTests := true, laidLooks := .later }
def SystemSourceCardSaid : Prop := Claim7.holds Tryd.pinned (.plain (OpenSpec.ofChange systemSourceSpec)) systemSourceCard

/-- THE SECOND FORM's CARD OF 'seedcornlaw17.TypingExpr'. -/
def typingExprUptoCard : Claim7 := { stood := { row := typingExprUptoRow, standIns := [], harness := (true, "bd894bd2d45ed630751e75cc58de293afb3b117eb318308fa227d26833b754ac"), looks := true }, kinds := [], alts := [], laidByText := true, laidKinds := [.widerDeep], laidTests := true, laidLooks := .later }
def TypingExprUptoCardSaid : Prop := Claim7.holds Tryd.pinned (.plain (OpenSpec.upto typingExprSpec)) typingExprUptoCard

/-- THE SECOND FORM's CARD OF 'seedcornlaw17.TypingCheck'. -/
def typingCheckUptoCard : Claim7 := { stood := { row := typingCheckUptoRow, standIns := [], harness := (true, "bd894bd2d45ed630751e75cc58de293afb3b117eb318308fa227d26833b754ac"), looks := true }, kinds := [], alts := [], laidByText := true, laidKinds := [.widerDeep], laidTests := true, laidLooks := .later }
def TypingCheckUptoCardSaid : Prop := Claim7.holds Tryd.pinned (.plain (OpenSpec.upto typingCheckSpec)) typingCheckUptoCard

/-- THE SECOND FORM's CARD OF 'seedcornlaw17.TypingKinds'. -/
def typingKindsUptoCard : Claim7 := { stood := { row := typingKindsUptoRow, standIns := [], harness := (true, "bd894bd2d45ed630751e75cc58de293afb3b117eb318308fa227d26833b754ac"), looks := true }, kinds := [], alts := [], laidByText := true, laidKinds := [.widerDeep], laidTests := true, laidLooks := .later }
def TypingKindsUptoCardSaid : Prop := Claim7.holds Tryd.pinned (.plain (OpenSpec.upto typingKindsSpec)) typingKindsUptoCard

/-- THE SECOND FORM's CARD OF 'seedcornlaw17.TypingStmts'. -/
def typingStmtsUptoCard : Claim7 := { stood := { row := typingStmtsUptoRow, standIns := [], harness := (true, "bd894bd2d45ed630751e75cc58de293afb3b117eb318308fa227d26833b754ac"), looks := true }, kinds := [], alts := [], laidByText := true, laidKinds := [.widerDeep], laidTests := true, laidLooks := .later }
def TypingStmtsUptoCardSaid : Prop := Claim7.holds Tryd.pinned (.plain (OpenSpec.upto typingStmtsSpec)) typingStmtsUptoCard

/-- THE SECOND FORM's CARD OF 'seedcornlaw17.TypingNames'. -/
def typingNamesUptoCard : Claim7 := { stood := { row := typingNamesUptoRow, standIns := [], harness := (true, "bd894bd2d45ed630751e75cc58de293afb3b117eb318308fa227d26833b754ac"), looks := true }, kinds := [], alts := [], laidByText := true, laidKinds := [.widerDeep], laidTests := true, laidLooks := .later }
def TypingNamesUptoCardSaid : Prop := Claim7.holds Tryd.pinned (.plain (OpenSpec.upto typingNamesSpec)) typingNamesUptoCard

/-- THE SECOND FORM's CARD OF 'seedcornlaw17.TypingParts'. -/
def typingPartsUptoCard : Claim7 := { stood := { row := typingPartsUptoRow, standIns := [], harness := (true, "bd894bd2d45ed630751e75cc58de293afb3b117eb318308fa227d26833b754ac"), looks := true }, kinds := [], alts := [], laidByText := true, laidKinds := [.widerDeep], laidTests := true, laidLooks := .later }
def TypingPartsUptoCardSaid : Prop := Claim7.holds Tryd.pinned (.plain (OpenSpec.upto typingPartsSpec)) typingPartsUptoCard

/-- THE SECOND FORM's CARD OF 'seedcorntop.SystemSource'. -/
def systemSourceUptoCard : Claim7 := { stood := { row := systemSourceUptoRow, standIns := [], harness := (true, "bd894bd2d45ed630751e75cc58de293afb3b117eb318308fa227d26833b754ac"), looks := true }, kinds := [], alts := [], laidByText := true, laidKinds := [.data, .data, .data, .widerDeep, .data, .data], laidTests := true, laidLooks := .later }
def SystemSourceUptoCardSaid : Prop := Claim7.holds Tryd.pinned (.plain (OpenSpec.upto systemSourceSpec)) systemSourceUptoCard
end Rows
end Go.Proofs.YtaackmiajgapoaaDoor
