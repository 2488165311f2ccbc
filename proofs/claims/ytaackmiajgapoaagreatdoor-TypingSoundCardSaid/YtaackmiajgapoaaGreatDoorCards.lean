/-
  DERIVED. GIVEN WITH THE SEED: THE CARDS: each row of YtaackmiajgapoaaGreatDoorRows.lean that lists a variable, with what it lists TIED to the program's text (the seventh form; the later family's looks); each row that meets fmt, with fmt's text TOLD by the authors' own Lean function (tested against real Go, not proved from fmt's source: count such statements apart). THE CARD IS WHAT COUNTS. Prove the row's statement (the work); the ties are given (YtaackmiajgapoaaGreatDoorTie.lean); close each card by the builder's one call (the guide's Derived/Test/ToyasCard.lean, 'card_holds'). Laid BY PROGRAM, IN A SANDBOX (cutbox-door.mjs). By AI agents, Wed Nov 11 2026. No macro, syntax, notation, axiom, sorry.
-/
import Derived.Test.YtaackmiajgapoaaGreatDoorRows
import GoSem.ClaimSeven
namespace Go.Proofs.YtaackmiajgapoaaGreatDoor
namespace Rows

/-- THE TIED CARD OF 'seedcornlaw17.TypingSound'. -/
def typingSoundCard : Claim7 := { stood := { row := typingSoundRow, standIns := [], harness := (true, "b3bca2ca6926a472cebd51b3a9172c2000bfcf82b3ead3325fdb435c2861a12b"), looks := true }, kinds := [], alts := [], laidByText := true, laidKinds := [.widerDeep], laidTests := true, laidLooks := .later }
def TypingSoundCardSaid : Prop := Claim7.holds Tryz.pinned (.plain (OpenSpec.ofChange typingSoundSpec)) typingSoundCard

/-- THE TIED CARD OF 'seedcornlaw19.CoreStays'. -/
def coreStaysCard : Claim7 := { stood := { row := coreStaysRow, standIns := [], harness := (true, "b3bca2ca6926a472cebd51b3a9172c2000bfcf82b3ead3325fdb435c2861a12b"), looks := true }, kinds := [], alts := [], laidByText := true, laidKinds := [.widerDeep], laidTests := true, laidLooks := .later }
def CoreStaysCardSaid : Prop := Claim7.holds Tryz.pinned (.plain (OpenSpec.ofChange coreStaysSpec)) coreStaysCard

/-- THE TIED CARD OF 'seedcornlaw19.CoreReads'. -/
def coreReadsCard : Claim7 := { stood := { row := coreReadsRow, standIns := [], harness := (true, "b3bca2ca6926a472cebd51b3a9172c2000bfcf82b3ead3325fdb435c2861a12b"), looks := true }, kinds := [], alts := [], laidByText := true, laidKinds := [.widerDeep], laidTests := true, laidLooks := .later }
def CoreReadsCardSaid : Prop := Claim7.holds Tryz.pinned (.plain (OpenSpec.ofChange coreReadsSpec)) coreReadsCard

/-- THE TIED CARD OF 'seedcornlaw19.CoreSound'. -/
def coreSoundCard : Claim7 := { stood := { row := coreSoundRow, standIns := [], harness := (true, "b3bca2ca6926a472cebd51b3a9172c2000bfcf82b3ead3325fdb435c2861a12b"), looks := true }, kinds := [], alts := [], laidByText := true, laidKinds := [.widerDeep], laidTests := true, laidLooks := .later }
def CoreSoundCardSaid : Prop := Claim7.holds Tryz.pinned (.plain (OpenSpec.ofChange coreSoundSpec)) coreSoundCard

/-- THE TIED CARD OF 'seedcornlaw19.CoreRights'. -/
def coreRightsCard : Claim7 := { stood := { row := coreRightsRow, standIns := [], harness := (true, "b3bca2ca6926a472cebd51b3a9172c2000bfcf82b3ead3325fdb435c2861a12b"), looks := true }, kinds := [], alts := [], laidByText := true, laidKinds := [.widerDeep], laidTests := true, laidLooks := .later }
def CoreRightsCardSaid : Prop := Claim7.holds Tryz.pinned (.plain (OpenSpec.ofChange coreRightsSpec)) coreRightsCard

/-- THE SECOND FORM's CARD OF 'seedcornlaw17.TypingSound'. -/
def typingSoundUptoCard : Claim7 := { stood := { row := typingSoundUptoRow, standIns := [], harness := (true, "b3bca2ca6926a472cebd51b3a9172c2000bfcf82b3ead3325fdb435c2861a12b"), looks := true }, kinds := [], alts := [], laidByText := true, laidKinds := [.widerDeep], laidTests := true, laidLooks := .later }
def TypingSoundUptoCardSaid : Prop := Claim7.holds Tryz.pinned (.plain (OpenSpec.upto typingSoundSpec)) typingSoundUptoCard

/-- THE SECOND FORM's CARD OF 'seedcornlaw19.CoreStays'. -/
def coreStaysUptoCard : Claim7 := { stood := { row := coreStaysUptoRow, standIns := [], harness := (true, "b3bca2ca6926a472cebd51b3a9172c2000bfcf82b3ead3325fdb435c2861a12b"), looks := true }, kinds := [], alts := [], laidByText := true, laidKinds := [.widerDeep], laidTests := true, laidLooks := .later }
def CoreStaysUptoCardSaid : Prop := Claim7.holds Tryz.pinned (.plain (OpenSpec.upto coreStaysSpec)) coreStaysUptoCard

/-- THE SECOND FORM's CARD OF 'seedcornlaw19.CoreReads'. -/
def coreReadsUptoCard : Claim7 := { stood := { row := coreReadsUptoRow, standIns := [], harness := (true, "b3bca2ca6926a472cebd51b3a9172c2000bfcf82b3ead3325fdb435c2861a12b"), looks := true }, kinds := [], alts := [], laidByText := true, laidKinds := [.widerDeep], laidTests := true, laidLooks := .later }
def CoreReadsUptoCardSaid : Prop := Claim7.holds Tryz.pinned (.plain (OpenSpec.upto coreReadsSpec)) coreReadsUptoCard

/-- THE SECOND FORM's CARD OF 'seedcornlaw19.CoreSound'. -/
def coreSoundUptoCard : Claim7 := { stood := { row := coreSoundUptoRow, standIns := [], harness := (true, "b3bca2ca6926a472cebd51b3a9172c2000bfcf82b3ead3325fdb435c2861a12b"), looks := true }, kinds := [], alts := [], laidByText := true, laidKinds := [.widerDeep], laidTests := true, laidLooks := .later }
def CoreSoundUptoCardSaid : Prop := Claim7.holds Tryz.pinned (.plain (OpenSpec.upto coreSoundSpec)) coreSoundUptoCard

/-- THE SECOND FORM's CARD OF 'seedcornlaw19.CoreRights'. -/
def coreRightsUptoCard : Claim7 := { stood := { row := coreRightsUptoRow, standIns := [], harness := (true, "b3bca2ca6926a472cebd51b3a9172c2000bfcf82b3ead3325fdb435c2861a12b"), looks := true }, kinds := [], alts := [], laidByText := true, laidKinds := [.widerDeep], laidTests := true, laidLooks := .later }
def CoreRightsUptoCardSaid : Prop := Claim7.holds Tryz.pinned (.plain (OpenSpec.upto coreRightsSpec)) coreRightsUptoCard
end Rows
end Go.Proofs.YtaackmiajgapoaaGreatDoor
