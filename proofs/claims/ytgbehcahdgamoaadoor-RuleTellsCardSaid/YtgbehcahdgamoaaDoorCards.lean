/-
  DERIVED. GIVEN WITH THE SEED: THE CARDS: each row of YtgbehcahdgamoaaDoorRows.lean that lists a variable, with what it lists TIED to the program's text (the seventh form; the later family's looks); each row that meets fmt, with fmt's text TOLD by the authors' own Lean function (tested against real Go, not proved from fmt's source: count such statements apart). THE CARD IS WHAT COUNTS. Prove the row's statement (the work); the ties are given (YtgbehcahdgamoaaDoorTie.lean); close each card by the builder's one call (the guide's Derived/Test/ToyasCard.lean, 'card_holds'). Laid BY PROGRAM, IN A SANDBOX (cutbox-door.mjs). By AI agents, Wed Nov 11 2026. No macro, syntax, notation, axiom, sorry.
-/
import Derived.Test.YtgbehcahdgamoaaDoorRows
import GoSem.ClaimSeven
namespace Go.Proofs.YtgbehcahdgamoaaDoor
namespace Rows

/-- THE TIED CARD OF 'longcaselaw09.RuleTells'. -/
def ruleTellsCard : Claim7 := { stood := { row := ruleTellsRow, standIns := [], harness := (true, "09af0bb744781266e2cb2858042c10b71389c3115dc534a53e1e597318045c0b"), looks := false }, kinds := [], alts := [], laidByText := true, laidKinds := [.data], laidTests := true, laidLooks := .later }
def RuleTellsCardSaid : Prop := Claim7.holds Tryd.pinned (.plain (OpenSpec.ofChange ruleTellsSpec)) ruleTellsCard

/-- THE TIED CARD OF 'longcaselaw09.RuleTurns'. -/
def ruleTurnsCard : Claim7 := { stood := { row := ruleTurnsRow, standIns := [], harness := (true, "09af0bb744781266e2cb2858042c10b71389c3115dc534a53e1e597318045c0b"), looks := false }, kinds := [], alts := [], laidByText := true, laidKinds := [.data], laidTests := true, laidLooks := .later }
def RuleTurnsCardSaid : Prop := Claim7.holds Tryd.pinned (.plain (OpenSpec.ofChange ruleTurnsSpec)) ruleTurnsCard

/-- THE TIED CARD OF 'longcaselaw09.RuleDays'. -/
def ruleDaysCard : Claim7 := { stood := { row := ruleDaysRow, standIns := [], harness := (true, "09af0bb744781266e2cb2858042c10b71389c3115dc534a53e1e597318045c0b"), looks := false }, kinds := [], alts := [], laidByText := true, laidKinds := [.data], laidTests := true, laidLooks := .later }
def RuleDaysCardSaid : Prop := Claim7.holds Tryd.pinned (.plain (OpenSpec.ofChange ruleDaysSpec)) ruleDaysCard

/-- THE TIED CARD OF 'longcaselaw09.RuleAlways'. -/
def ruleAlwaysCard : Claim7 := { stood := { row := ruleAlwaysRow, standIns := [], harness := (true, "09af0bb744781266e2cb2858042c10b71389c3115dc534a53e1e597318045c0b"), looks := false }, kinds := [], alts := [], laidByText := true, laidKinds := [.data], laidTests := true, laidLooks := .later }
def RuleAlwaysCardSaid : Prop := Claim7.holds Tryd.pinned (.plain (OpenSpec.ofChange ruleAlwaysSpec)) ruleAlwaysCard

/-- THE TIED CARD OF 'longcaselaw09.RuleRange'. -/
def ruleRangeCard : Claim7 := { stood := { row := ruleRangeRow, standIns := [], harness := (true, "09af0bb744781266e2cb2858042c10b71389c3115dc534a53e1e597318045c0b"), looks := false }, kinds := [], alts := [], laidByText := true, laidKinds := [.data], laidTests := true, laidLooks := .later }
def RuleRangeCardSaid : Prop := Claim7.holds Tryd.pinned (.plain (OpenSpec.ofChange ruleRangeSpec)) ruleRangeCard

/-- THE TIED CARD OF 'longcaselaw09.RuleWhole'. -/
def ruleWholeCard : Claim7 := { stood := { row := ruleWholeRow, standIns := [], harness := (true, "09af0bb744781266e2cb2858042c10b71389c3115dc534a53e1e597318045c0b"), looks := false }, kinds := [], alts := [], laidByText := true, laidKinds := [.data], laidTests := true, laidLooks := .later }
def RuleWholeCardSaid : Prop := Claim7.holds Tryd.pinned (.plain (OpenSpec.ofChange ruleWholeSpec)) ruleWholeCard

/-- THE TIED CARD OF 'longcaselaw09.RuleShift'. -/
def ruleShiftCard : Claim7 := { stood := { row := ruleShiftRow, standIns := [], harness := (true, "09af0bb744781266e2cb2858042c10b71389c3115dc534a53e1e597318045c0b"), looks := false }, kinds := [], alts := [], laidByText := true, laidKinds := [.data], laidTests := true, laidLooks := .later }
def RuleShiftCardSaid : Prop := Claim7.holds Tryd.pinned (.plain (OpenSpec.ofChange ruleShiftSpec)) ruleShiftCard

/-- THE TIED CARD OF 'longcaselaw09.RuleYears'. -/
def ruleYearsCard : Claim7 := { stood := { row := ruleYearsRow, standIns := [], harness := (true, "09af0bb744781266e2cb2858042c10b71389c3115dc534a53e1e597318045c0b"), looks := false }, kinds := [], alts := [], laidByText := true, laidKinds := [.data], laidTests := true, laidLooks := .later }
def RuleYearsCardSaid : Prop := Claim7.holds Tryd.pinned (.plain (OpenSpec.ofChange ruleYearsSpec)) ruleYearsCard

/-- THE SECOND FORM's CARD OF 'longcaselaw09.RuleTells'. -/
def ruleTellsUptoCard : Claim7 := { stood := { row := ruleTellsUptoRow, standIns := [], harness := (true, "09af0bb744781266e2cb2858042c10b71389c3115dc534a53e1e597318045c0b"), looks := false }, kinds := [], alts := [], laidByText := true, laidKinds := [.data], laidTests := true, laidLooks := .later }
def RuleTellsUptoCardSaid : Prop := Claim7.holds Tryd.pinned (.plain (OpenSpec.upto ruleTellsSpec)) ruleTellsUptoCard

/-- THE SECOND FORM's CARD OF 'longcaselaw09.RuleTurns'. -/
def ruleTurnsUptoCard : Claim7 := { stood := { row := ruleTurnsUptoRow, standIns := [], harness := (true, "09af0bb744781266e2cb2858042c10b71389c3115dc534a53e1e597318045c0b"), looks := false }, kinds := [], alts := [], laidByText := true, laidKinds := [.data], laidTests := true, laidLooks := .later }
def RuleTurnsUptoCardSaid : Prop := Claim7.holds Tryd.pinned (.plain (OpenSpec.upto ruleTurnsSpec)) ruleTurnsUptoCard

/-- THE SECOND FORM's CARD OF 'longcaselaw09.RuleDays'. -/
def ruleDaysUptoCard : Claim7 := { stood := { row := ruleDaysUptoRow, standIns := [], harness := (true, "09af0bb744781266e2cb2858042c10b71389c3115dc534a53e1e597318045c0b"), looks := false }, kinds := [], alts := [], laidByText := true, laidKinds := [.data], laidTests := true, laidLooks := .later }
def RuleDaysUptoCardSaid : Prop := Claim7.holds Tryd.pinned (.plain (OpenSpec.upto ruleDaysSpec)) ruleDaysUptoCard

/-- THE SECOND FORM's CARD OF 'longcaselaw09.RuleAlways'. -/
def ruleAlwaysUptoCard : Claim7 := { stood := { row := ruleAlwaysUptoRow, standIns := [], harness := (true, "09af0bb744781266e2cb2858042c10b71389c3115dc534a53e1e597318045c0b"), looks := false }, kinds := [], alts := [], laidByText := true, laidKinds := [.data], laidTests := true, laidLooks := .later }
def RuleAlwaysUptoCardSaid : Prop := Claim7.holds Tryd.pinned (.plain (OpenSpec.upto ruleAlwaysSpec)) ruleAlwaysUptoCard

/-- THE SECOND FORM's CARD OF 'longcaselaw09.RuleRange'. -/
def ruleRangeUptoCard : Claim7 := { stood := { row := ruleRangeUptoRow, standIns := [], harness := (true, "09af0bb744781266e2cb2858042c10b71389c3115dc534a53e1e597318045c0b"), looks := false }, kinds := [], alts := [], laidByText := true, laidKinds := [.data], laidTests := true, laidLooks := .later }
def RuleRangeUptoCardSaid : Prop := Claim7.holds Tryd.pinned (.plain (OpenSpec.upto ruleRangeSpec)) ruleRangeUptoCard

/-- THE SECOND FORM's CARD OF 'longcaselaw09.RuleWhole'. -/
def ruleWholeUptoCard : Claim7 := { stood := { row := ruleWholeUptoRow, standIns := [], harness := (true, "09af0bb744781266e2cb2858042c10b71389c3115dc534a53e1e597318045c0b"), looks := false }, kinds := [], alts := [], laidByText := true, laidKinds := [.data], laidTests := true, laidLooks := .later }
def RuleWholeUptoCardSaid : Prop := Claim7.holds Tryd.pinned (.plain (OpenSpec.upto ruleWholeSpec)) ruleWholeUptoCard

/-- THE SECOND FORM's CARD OF 'longcaselaw09.RuleShift'. -/
def ruleShiftUptoCard : Claim7 := { stood := { row := ruleShiftUptoRow, standIns := [], harness := (true, "09af0bb744781266e2cb2858042c10b71389c3115dc534a53e1e597318045c0b"), looks := false }, kinds := [], alts := [], laidByText := true, laidKinds := [.data], laidTests := true, laidLooks := .later }
def RuleShiftUptoCardSaid : Prop := Claim7.holds Tryd.pinned (.plain (OpenSpec.upto ruleShiftSpec)) ruleShiftUptoCard

/-- THE SECOND FORM's CARD OF 'longcaselaw09.RuleYears'. -/
def ruleYearsUptoCard : Claim7 := { stood := { row := ruleYearsUptoRow, standIns := [], harness := (true, "09af0bb744781266e2cb2858042c10b71389c3115dc534a53e1e597318045c0b"), looks := false }, kinds := [], alts := [], laidByText := true, laidKinds := [.data], laidTests := true, laidLooks := .later }
def RuleYearsUptoCardSaid : Prop := Claim7.holds Tryd.pinned (.plain (OpenSpec.upto ruleYearsSpec)) ruleYearsUptoCard
end Rows
end Go.Proofs.YtgbehcahdgamoaaDoor
