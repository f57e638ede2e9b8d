/-
  DERIVED. GIVEN WITH THE SEED: THE CARDS: each row of YtnbjneknicppcaaDoorRows.lean that lists a variable, with what it lists TIED to the program's text (the seventh form; the later family's looks); each row that meets fmt, with fmt's text TOLD by the authors' own Lean function (tested against real Go, not proved from fmt's source: count such statements apart). THE CARD IS WHAT COUNTS. Prove the row's statement (the work); the ties are given (YtnbjneknicppcaaDoorTie.lean); close each card by the builder's one call (the guide's Derived/Test/ToyasCard.lean, 'card_holds'). Laid BY PROGRAM, IN A SANDBOX (cutbox-door.mjs). By AI agents, Wed Nov 11 2026. No macro, syntax, notation, axiom, sorry.
-/
import Derived.Test.YtnbjneknicppcaaDoorRows
import GoSem.ClaimSeven
namespace Go.Proofs.YtnbjneknicppcaaDoor
namespace Rows

/-- THE TIED CARD OF 'longcaselaw08.PosixTells'. -/
def posixTellsCard : Claim7 := { stood := { row := posixTellsRow, standIns := [], harness := (true, "1423398b3a3e10d76ea93db2b2dad44f869f2a3a3f4e932edc5858f7f9f4ad16"), looks := true }, kinds := [], alts := [], laidByText := true, laidKinds := [.data, .data, .data, .sentinel, .sentinel], laidTests := true, laidLooks := .later }
def PosixTellsCardSaid : Prop := Claim7.holds Tryd.pinned (.plain (OpenSpec.ofChange posixTellsSpec)) posixTellsCard

/-- THE TIED CARD OF 'longcaselaw08.PosixReads'. -/
def posixReadsCard : Claim7 := { stood := { row := posixReadsRow, standIns := [], harness := (true, "1423398b3a3e10d76ea93db2b2dad44f869f2a3a3f4e932edc5858f7f9f4ad16"), looks := true }, kinds := [], alts := [], laidByText := true, laidKinds := [.data, .data, .data, .sentinel, .sentinel], laidTests := true, laidLooks := .later }
def PosixReadsCardSaid : Prop := Claim7.holds Tryd.pinned (.plain (OpenSpec.ofChange posixReadsSpec)) posixReadsCard

/-- THE TIED CARD OF 'longcaselaw08.PosixBack'. -/
def posixBackCard : Claim7 := { stood := { row := posixBackRow, standIns := [], harness := (true, "1423398b3a3e10d76ea93db2b2dad44f869f2a3a3f4e932edc5858f7f9f4ad16"), looks := true }, kinds := [], alts := [], laidByText := true, laidKinds := [.data, .data, .data, .sentinel, .sentinel], laidTests := true, laidLooks := .later }
def PosixBackCardSaid : Prop := Claim7.holds Tryd.pinned (.plain (OpenSpec.ofChange posixBackSpec)) posixBackCard

/-- THE TIED CARD OF 'longcaselaw08.PosixWide'. -/
def posixWideCard : Claim7 := { stood := { row := posixWideRow, standIns := [], harness := (true, "1423398b3a3e10d76ea93db2b2dad44f869f2a3a3f4e932edc5858f7f9f4ad16"), looks := true }, kinds := [], alts := [], laidByText := true, laidKinds := [.data, .data, .data, .sentinel, .sentinel], laidTests := true, laidLooks := .later }
def PosixWideCardSaid : Prop := Claim7.holds Tryd.pinned (.plain (OpenSpec.ofChange posixWideSpec)) posixWideCard

/-- THE TIED CARD OF 'longcaselaw08.PosixOffsets'. -/
def posixOffsetsCard : Claim7 := { stood := { row := posixOffsetsRow, standIns := [], harness := (true, "1423398b3a3e10d76ea93db2b2dad44f869f2a3a3f4e932edc5858f7f9f4ad16"), looks := true }, kinds := [], alts := [], laidByText := true, laidKinds := [.data, .data, .data, .sentinel, .sentinel], laidTests := true, laidLooks := .later }
def PosixOffsetsCardSaid : Prop := Claim7.holds Tryd.pinned (.plain (OpenSpec.ofChange posixOffsetsSpec)) posixOffsetsCard

/-- THE TIED CARD OF 'longcaselaw08.PosixBounds'. -/
def posixBoundsCard : Claim7 := { stood := { row := posixBoundsRow, standIns := [], harness := (true, "1423398b3a3e10d76ea93db2b2dad44f869f2a3a3f4e932edc5858f7f9f4ad16"), looks := true }, kinds := [], alts := [], laidByText := true, laidKinds := [.data, .data, .data, .sentinel, .sentinel], laidTests := true, laidLooks := .later }
def PosixBoundsCardSaid : Prop := Claim7.holds Tryd.pinned (.plain (OpenSpec.ofChange posixBoundsSpec)) posixBoundsCard

/-- THE TIED CARD OF 'longcaselaw08.PosixNames'. -/
def posixNamesCard : Claim7 := { stood := { row := posixNamesRow, standIns := [], harness := (true, "1423398b3a3e10d76ea93db2b2dad44f869f2a3a3f4e932edc5858f7f9f4ad16"), looks := true }, kinds := [], alts := [], laidByText := true, laidKinds := [.data, .data, .data, .sentinel, .sentinel], laidTests := true, laidLooks := .later }
def PosixNamesCardSaid : Prop := Claim7.holds Tryd.pinned (.plain (OpenSpec.ofChange posixNamesSpec)) posixNamesCard

/-- THE TIED CARD OF 'longcaselaw08.PosixTimes'. -/
def posixTimesCard : Claim7 := { stood := { row := posixTimesRow, standIns := [], harness := (true, "1423398b3a3e10d76ea93db2b2dad44f869f2a3a3f4e932edc5858f7f9f4ad16"), looks := true }, kinds := [], alts := [], laidByText := true, laidKinds := [.data, .data, .data, .sentinel, .sentinel], laidTests := true, laidLooks := .later }
def PosixTimesCardSaid : Prop := Claim7.holds Tryd.pinned (.plain (OpenSpec.ofChange posixTimesSpec)) posixTimesCard

/-- THE TIED CARD OF 'longcaselaw08.PosixEnds'. -/
def posixEndsCard : Claim7 := { stood := { row := posixEndsRow, standIns := [], harness := (true, "1423398b3a3e10d76ea93db2b2dad44f869f2a3a3f4e932edc5858f7f9f4ad16"), looks := true }, kinds := [], alts := [], laidByText := true, laidKinds := [.data, .data, .data, .sentinel, .sentinel], laidTests := true, laidLooks := .later }
def PosixEndsCardSaid : Prop := Claim7.holds Tryd.pinned (.plain (OpenSpec.ofChange posixEndsSpec)) posixEndsCard

/-- THE TIED CARD OF 'longcaselaw08.PosixSaved'. -/
def posixSavedCard : Claim7 := { stood := { row := posixSavedRow, standIns := [], harness := (true, "1423398b3a3e10d76ea93db2b2dad44f869f2a3a3f4e932edc5858f7f9f4ad16"), looks := true }, kinds := [], alts := [], laidByText := true, laidKinds := [.data, .data, .data, .sentinel, .sentinel], laidTests := true, laidLooks := .later }
def PosixSavedCardSaid : Prop := Claim7.holds Tryd.pinned (.plain (OpenSpec.ofChange posixSavedSpec)) posixSavedCard

/-- THE SECOND FORM's CARD OF 'longcaselaw08.PosixTells'. -/
def posixTellsUptoCard : Claim7 := { stood := { row := posixTellsUptoRow, standIns := [], harness := (true, "1423398b3a3e10d76ea93db2b2dad44f869f2a3a3f4e932edc5858f7f9f4ad16"), looks := true }, kinds := [], alts := [], laidByText := true, laidKinds := [.data, .data, .data, .sentinel, .sentinel], laidTests := true, laidLooks := .later }
def PosixTellsUptoCardSaid : Prop := Claim7.holds Tryd.pinned (.plain (OpenSpec.upto posixTellsSpec)) posixTellsUptoCard

/-- THE SECOND FORM's CARD OF 'longcaselaw08.PosixReads'. -/
def posixReadsUptoCard : Claim7 := { stood := { row := posixReadsUptoRow, standIns := [], harness := (true, "1423398b3a3e10d76ea93db2b2dad44f869f2a3a3f4e932edc5858f7f9f4ad16"), looks := true }, kinds := [], alts := [], laidByText := true, laidKinds := [.data, .data, .data, .sentinel, .sentinel], laidTests := true, laidLooks := .later }
def PosixReadsUptoCardSaid : Prop := Claim7.holds Tryd.pinned (.plain (OpenSpec.upto posixReadsSpec)) posixReadsUptoCard

/-- THE SECOND FORM's CARD OF 'longcaselaw08.PosixBack'. -/
def posixBackUptoCard : Claim7 := { stood := { row := posixBackUptoRow, standIns := [], harness := (true, "1423398b3a3e10d76ea93db2b2dad44f869f2a3a3f4e932edc5858f7f9f4ad16"), looks := true }, kinds := [], alts := [], laidByText := true, laidKinds := [.data, .data, .data, .sentinel, .sentinel], laidTests := true, laidLooks := .later }
def PosixBackUptoCardSaid : Prop := Claim7.holds Tryd.pinned (.plain (OpenSpec.upto posixBackSpec)) posixBackUptoCard

/-- THE SECOND FORM's CARD OF 'longcaselaw08.PosixWide'. -/
def posixWideUptoCard : Claim7 := { stood := { row := posixWideUptoRow, standIns := [], harness := (true, "1423398b3a3e10d76ea93db2b2dad44f869f2a3a3f4e932edc5858f7f9f4ad16"), looks := true }, kinds := [], alts := [], laidByText := true, laidKinds := [.data, .data, .data, .sentinel, .sentinel], laidTests := true, laidLooks := .later }
def PosixWideUptoCardSaid : Prop := Claim7.holds Tryd.pinned (.plain (OpenSpec.upto posixWideSpec)) posixWideUptoCard

/-- THE SECOND FORM's CARD OF 'longcaselaw08.PosixOffsets'. -/
def posixOffsetsUptoCard : Claim7 := { stood := { row := posixOffsetsUptoRow, standIns := [], harness := (true, "1423398b3a3e10d76ea93db2b2dad44f869f2a3a3f4e932edc5858f7f9f4ad16"), looks := true }, kinds := [], alts := [], laidByText := true, laidKinds := [.data, .data, .data, .sentinel, .sentinel], laidTests := true, laidLooks := .later }
def PosixOffsetsUptoCardSaid : Prop := Claim7.holds Tryd.pinned (.plain (OpenSpec.upto posixOffsetsSpec)) posixOffsetsUptoCard

/-- THE SECOND FORM's CARD OF 'longcaselaw08.PosixBounds'. -/
def posixBoundsUptoCard : Claim7 := { stood := { row := posixBoundsUptoRow, standIns := [], harness := (true, "1423398b3a3e10d76ea93db2b2dad44f869f2a3a3f4e932edc5858f7f9f4ad16"), looks := true }, kinds := [], alts := [], laidByText := true, laidKinds := [.data, .data, .data, .sentinel, .sentinel], laidTests := true, laidLooks := .later }
def PosixBoundsUptoCardSaid : Prop := Claim7.holds Tryd.pinned (.plain (OpenSpec.upto posixBoundsSpec)) posixBoundsUptoCard

/-- THE SECOND FORM's CARD OF 'longcaselaw08.PosixNames'. -/
def posixNamesUptoCard : Claim7 := { stood := { row := posixNamesUptoRow, standIns := [], harness := (true, "1423398b3a3e10d76ea93db2b2dad44f869f2a3a3f4e932edc5858f7f9f4ad16"), looks := true }, kinds := [], alts := [], laidByText := true, laidKinds := [.data, .data, .data, .sentinel, .sentinel], laidTests := true, laidLooks := .later }
def PosixNamesUptoCardSaid : Prop := Claim7.holds Tryd.pinned (.plain (OpenSpec.upto posixNamesSpec)) posixNamesUptoCard

/-- THE SECOND FORM's CARD OF 'longcaselaw08.PosixTimes'. -/
def posixTimesUptoCard : Claim7 := { stood := { row := posixTimesUptoRow, standIns := [], harness := (true, "1423398b3a3e10d76ea93db2b2dad44f869f2a3a3f4e932edc5858f7f9f4ad16"), looks := true }, kinds := [], alts := [], laidByText := true, laidKinds := [.data, .data, .data, .sentinel, .sentinel], laidTests := true, laidLooks := .later }
def PosixTimesUptoCardSaid : Prop := Claim7.holds Tryd.pinned (.plain (OpenSpec.upto posixTimesSpec)) posixTimesUptoCard

/-- THE SECOND FORM's CARD OF 'longcaselaw08.PosixEnds'. -/
def posixEndsUptoCard : Claim7 := { stood := { row := posixEndsUptoRow, standIns := [], harness := (true, "1423398b3a3e10d76ea93db2b2dad44f869f2a3a3f4e932edc5858f7f9f4ad16"), looks := true }, kinds := [], alts := [], laidByText := true, laidKinds := [.data, .data, .data, .sentinel, .sentinel], laidTests := true, laidLooks := .later }
def PosixEndsUptoCardSaid : Prop := Claim7.holds Tryd.pinned (.plain (OpenSpec.upto posixEndsSpec)) posixEndsUptoCard

/-- THE SECOND FORM's CARD OF 'longcaselaw08.PosixSaved'. -/
def posixSavedUptoCard : Claim7 := { stood := { row := posixSavedUptoRow, standIns := [], harness := (true, "1423398b3a3e10d76ea93db2b2dad44f869f2a3a3f4e932edc5858f7f9f4ad16"), looks := true }, kinds := [], alts := [], laidByText := true, laidKinds := [.data, .data, .data, .sentinel, .sentinel], laidTests := true, laidLooks := .later }
def PosixSavedUptoCardSaid : Prop := Claim7.holds Tryd.pinned (.plain (OpenSpec.upto posixSavedSpec)) posixSavedUptoCard
end Rows
end Go.Proofs.YtnbjneknicppcaaDoor
