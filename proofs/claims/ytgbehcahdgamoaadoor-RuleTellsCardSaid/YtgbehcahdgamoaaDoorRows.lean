/-
  NARROWER THAN 'FOR EVERY INPUT', by the rows' own cells (each row's printed sentence says how): RuleTells: laid · RuleTurns: laid · RuleDays: laid · RuleAlways: laid · RuleRange: laid · RuleWhole: laid · RuleShift: laid · RuleYears: laid.
  DERIVED. THE GIVEN ROWS OF THIS SEAT. 8 by the template 'for every input the law returns true; each argument reads behind the call as it read before'; 0 by the template 'total and deterministic' (their statements: YtgbehcahdgamoaaDoorTotals.lean).
  GIVEN WITH THE SEED: the statements are not yours to turn. If you find one false, say at which input.
  Laid BY PROGRAM, IN A SANDBOX (cutbox-rows.mjs): the forced cells as the released guide's own fill.sh prints them over the translation 3624299327a6be54… (all of the seat's roots in one cut). By AI agents, Wed Nov 11 2026. No macro, syntax, notation, axiom, sorry.
-/
import Derived.Test.YtgbehcahdgamoaaDoorChecked
import GoSem.Claim
import GoSem.ClaimJoined
import GoSem.ClaimMapViews
import Derived.JoinedTies
import Derived.KernelRfl
namespace Go.Proofs.YtgbehcahdgamoaaDoor
/- THE CELL 'sum', in the pinned program and in every row, IS THE sha256 OF THE DUMP (.gsa) THAT YtgbehcahdgamoaaDoorProg.lean LOADS. Nothing in Lean hashes anything: it is a label: what it is worth is what the hold of that sum in a sandbox is worth. -/
noncomputable def Tryd.pinned : Pinned := { name := "ytgbehcahdgamoaadoor", sum := "3624299327a6be540f1df54c53d2d854fdab382f06327fd392401c3944d7b649", checked := Tryd.checked }
namespace Rows
def none {H : Type} : Left H := { results := [], args := [] }

/- WHAT THE LISTED PACKAGE-LEVEL VARIABLES READ AS WHEN THE CALL BEGINS. Each datum BY PROGRAM (the guide's laid-datum.mjs) off the statement by which the dump's own 'gosem.cut.vars' lays the variable. In a bare row this is a premise. The card (YtgbehcahdgamoaaDoorCards.lean) ties it to the program's text. -/
def laid_longcase_civil_lengths {H : Type} : DataW H := .agg [.lit (.int .i64 31), .lit (.int .i64 28), .lit (.int .i64 31), .lit (.int .i64 30), .lit (.int .i64 31), .lit (.int .i64 30), .lit (.int .i64 31), .lit (.int .i64 31), .lit (.int .i64 30), .lit (.int .i64 31), .lit (.int .i64 30), .lit (.int .i64 31)]

/-- 'longcaselaw09.RuleTells': WHATEVER THE INPUT: true; the input reads as it did. -/
def ruleTellsSpec : ChangeSpec := { name := "ruleTells", fn := fun _ => fun
  | [d1, d2, d3, d4] => { results := [.lit (.bool true)], args := [d1, d2, d3, d4] }
  | _ => none }
def ruleTellsRow : OpenClaim := { program := "ytgbehcahdgamoaadoor", sum := "3624299327a6be540f1df54c53d2d854fdab382f06327fd392401c3944d7b649", func := "longcase/longcaselaw09.RuleTells", spec := "ruleTells", unfollowed := true, recurses := true, named := ["longcase/civil.lengths"], apart := false, laid := [("longcase/civil.lengths", laid_longcase_civil_lengths)] }
def RuleTellsSaid : Prop := ruleTellsRow.holds Tryd.pinned (OpenSpec.ofChange ruleTellsSpec)

/-- ITS FALSE NEIGHBOUR: 'it returns false'. Refute it at one input. -/
def ruleTellsWrong : ChangeSpec := { name := "ruleTells", fn := fun _ => fun
  | [d1, d2, d3, d4] => { results := [.lit (.bool false)], args := [d1, d2, d3, d4] }
  | _ => none }
def RuleTellsWrongFalsely : Prop := ruleTellsRow.holds Tryd.pinned (OpenSpec.ofChange ruleTellsWrong)

/-- 'longcaselaw09.RuleTurns': WHATEVER THE INPUT: true; the input reads as it did. -/
def ruleTurnsSpec : ChangeSpec := { name := "ruleTurns", fn := fun _ => fun
  | [d1, d2] => { results := [.lit (.bool true)], args := [d1, d2] }
  | _ => none }
def ruleTurnsRow : OpenClaim := { program := "ytgbehcahdgamoaadoor", sum := "3624299327a6be540f1df54c53d2d854fdab382f06327fd392401c3944d7b649", func := "longcase/longcaselaw09.RuleTurns", spec := "ruleTurns", unfollowed := true, recurses := true, named := ["longcase/civil.lengths"], apart := false, laid := [("longcase/civil.lengths", laid_longcase_civil_lengths)] }
def RuleTurnsSaid : Prop := ruleTurnsRow.holds Tryd.pinned (OpenSpec.ofChange ruleTurnsSpec)

/-- ITS FALSE NEIGHBOUR: 'it returns false'. Refute it at one input. -/
def ruleTurnsWrong : ChangeSpec := { name := "ruleTurns", fn := fun _ => fun
  | [d1, d2] => { results := [.lit (.bool false)], args := [d1, d2] }
  | _ => none }
def RuleTurnsWrongFalsely : Prop := ruleTurnsRow.holds Tryd.pinned (OpenSpec.ofChange ruleTurnsWrong)

/-- 'longcaselaw09.RuleDays': WHATEVER THE INPUT: true; the input reads as it did. -/
def ruleDaysSpec : ChangeSpec := { name := "ruleDays", fn := fun _ => fun
  | [d1, d2] => { results := [.lit (.bool true)], args := [d1, d2] }
  | _ => none }
def ruleDaysRow : OpenClaim := { program := "ytgbehcahdgamoaadoor", sum := "3624299327a6be540f1df54c53d2d854fdab382f06327fd392401c3944d7b649", func := "longcase/longcaselaw09.RuleDays", spec := "ruleDays", unfollowed := true, recurses := true, named := ["longcase/civil.lengths"], apart := false, laid := [("longcase/civil.lengths", laid_longcase_civil_lengths)] }
def RuleDaysSaid : Prop := ruleDaysRow.holds Tryd.pinned (OpenSpec.ofChange ruleDaysSpec)

/-- ITS FALSE NEIGHBOUR: 'it returns false'. Refute it at one input. -/
def ruleDaysWrong : ChangeSpec := { name := "ruleDays", fn := fun _ => fun
  | [d1, d2] => { results := [.lit (.bool false)], args := [d1, d2] }
  | _ => none }
def RuleDaysWrongFalsely : Prop := ruleDaysRow.holds Tryd.pinned (OpenSpec.ofChange ruleDaysWrong)

/-- 'longcaselaw09.RuleAlways': WHATEVER THE INPUT: true; the input reads as it did. -/
def ruleAlwaysSpec : ChangeSpec := { name := "ruleAlways", fn := fun _ => fun
  | [d1, d2] => { results := [.lit (.bool true)], args := [d1, d2] }
  | _ => none }
def ruleAlwaysRow : OpenClaim := { program := "ytgbehcahdgamoaadoor", sum := "3624299327a6be540f1df54c53d2d854fdab382f06327fd392401c3944d7b649", func := "longcase/longcaselaw09.RuleAlways", spec := "ruleAlways", unfollowed := true, recurses := true, named := ["longcase/civil.lengths"], apart := false, laid := [("longcase/civil.lengths", laid_longcase_civil_lengths)] }
def RuleAlwaysSaid : Prop := ruleAlwaysRow.holds Tryd.pinned (OpenSpec.ofChange ruleAlwaysSpec)

/-- ITS FALSE NEIGHBOUR: 'it returns false'. Refute it at one input. -/
def ruleAlwaysWrong : ChangeSpec := { name := "ruleAlways", fn := fun _ => fun
  | [d1, d2] => { results := [.lit (.bool false)], args := [d1, d2] }
  | _ => none }
def RuleAlwaysWrongFalsely : Prop := ruleAlwaysRow.holds Tryd.pinned (OpenSpec.ofChange ruleAlwaysWrong)

/-- 'longcaselaw09.RuleRange': WHATEVER THE INPUT: true; the input reads as it did. -/
def ruleRangeSpec : ChangeSpec := { name := "ruleRange", fn := fun _ => fun
  | [d1, d2] => { results := [.lit (.bool true)], args := [d1, d2] }
  | _ => none }
def ruleRangeRow : OpenClaim := { program := "ytgbehcahdgamoaadoor", sum := "3624299327a6be540f1df54c53d2d854fdab382f06327fd392401c3944d7b649", func := "longcase/longcaselaw09.RuleRange", spec := "ruleRange", unfollowed := true, recurses := true, named := ["longcase/civil.lengths"], apart := false, laid := [("longcase/civil.lengths", laid_longcase_civil_lengths)] }
def RuleRangeSaid : Prop := ruleRangeRow.holds Tryd.pinned (OpenSpec.ofChange ruleRangeSpec)

/-- ITS FALSE NEIGHBOUR: 'it returns false'. Refute it at one input. -/
def ruleRangeWrong : ChangeSpec := { name := "ruleRange", fn := fun _ => fun
  | [d1, d2] => { results := [.lit (.bool false)], args := [d1, d2] }
  | _ => none }
def RuleRangeWrongFalsely : Prop := ruleRangeRow.holds Tryd.pinned (OpenSpec.ofChange ruleRangeWrong)

/-- 'longcaselaw09.RuleWhole': WHATEVER THE INPUT: true; the input reads as it did. -/
def ruleWholeSpec : ChangeSpec := { name := "ruleWhole", fn := fun _ => fun
  | [d1, d2, d3] => { results := [.lit (.bool true)], args := [d1, d2, d3] }
  | _ => none }
def ruleWholeRow : OpenClaim := { program := "ytgbehcahdgamoaadoor", sum := "3624299327a6be540f1df54c53d2d854fdab382f06327fd392401c3944d7b649", func := "longcase/longcaselaw09.RuleWhole", spec := "ruleWhole", unfollowed := true, recurses := true, named := ["longcase/civil.lengths"], apart := false, laid := [("longcase/civil.lengths", laid_longcase_civil_lengths)] }
def RuleWholeSaid : Prop := ruleWholeRow.holds Tryd.pinned (OpenSpec.ofChange ruleWholeSpec)

/-- ITS FALSE NEIGHBOUR: 'it returns false'. Refute it at one input. -/
def ruleWholeWrong : ChangeSpec := { name := "ruleWhole", fn := fun _ => fun
  | [d1, d2, d3] => { results := [.lit (.bool false)], args := [d1, d2, d3] }
  | _ => none }
def RuleWholeWrongFalsely : Prop := ruleWholeRow.holds Tryd.pinned (OpenSpec.ofChange ruleWholeWrong)

/-- 'longcaselaw09.RuleShift': WHATEVER THE INPUT: true; the input reads as it did. -/
def ruleShiftSpec : ChangeSpec := { name := "ruleShift", fn := fun _ => fun
  | [d1, d2, d3] => { results := [.lit (.bool true)], args := [d1, d2, d3] }
  | _ => none }
def ruleShiftRow : OpenClaim := { program := "ytgbehcahdgamoaadoor", sum := "3624299327a6be540f1df54c53d2d854fdab382f06327fd392401c3944d7b649", func := "longcase/longcaselaw09.RuleShift", spec := "ruleShift", unfollowed := true, recurses := true, named := ["longcase/civil.lengths"], apart := false, laid := [("longcase/civil.lengths", laid_longcase_civil_lengths)] }
def RuleShiftSaid : Prop := ruleShiftRow.holds Tryd.pinned (OpenSpec.ofChange ruleShiftSpec)

/-- ITS FALSE NEIGHBOUR: 'it returns false'. Refute it at one input. -/
def ruleShiftWrong : ChangeSpec := { name := "ruleShift", fn := fun _ => fun
  | [d1, d2, d3] => { results := [.lit (.bool false)], args := [d1, d2, d3] }
  | _ => none }
def RuleShiftWrongFalsely : Prop := ruleShiftRow.holds Tryd.pinned (OpenSpec.ofChange ruleShiftWrong)

/-- 'longcaselaw09.RuleYears': WHATEVER THE INPUT: true; the input reads as it did. -/
def ruleYearsSpec : ChangeSpec := { name := "ruleYears", fn := fun _ => fun
  | [d1, d2] => { results := [.lit (.bool true)], args := [d1, d2] }
  | _ => none }
def ruleYearsRow : OpenClaim := { program := "ytgbehcahdgamoaadoor", sum := "3624299327a6be540f1df54c53d2d854fdab382f06327fd392401c3944d7b649", func := "longcase/longcaselaw09.RuleYears", spec := "ruleYears", unfollowed := true, recurses := true, named := ["longcase/civil.lengths"], apart := false, laid := [("longcase/civil.lengths", laid_longcase_civil_lengths)] }
def RuleYearsSaid : Prop := ruleYearsRow.holds Tryd.pinned (OpenSpec.ofChange ruleYearsSpec)

/-- ITS FALSE NEIGHBOUR: 'it returns false'. Refute it at one input. -/
def ruleYearsWrong : ChangeSpec := { name := "ruleYears", fn := fun _ => fun
  | [d1, d2] => { results := [.lit (.bool false)], args := [d1, d2] }
  | _ => none }
def RuleYearsWrongFalsely : Prop := ruleYearsRow.holds Tryd.pinned (OpenSpec.ofChange ruleYearsWrong)

/- THE SECOND FORM. 'bulk': how many values and letters a reading holds, each counted each time it is reached (what is shared counts as often as it is met; a slice's spare places count too). A statement '..UptoSaid' is the law's where the arguments, and the package variables that the reading takes, are together of bulk at most 1048576: NARROWER than '..Said'. Prove '..Said' where nothing that the law and all that it calls make is longer than what came in: it says more and counts as full. Else prove '..UptoSaid'. A law counts once. -/
mutual
def uptoBulk {H : Type} : DataW H → Nat
  | .lit (.string bytes) => bytes.length + 1
  | .lit _ => 1
  | .nil => 1
  | .ptr d => uptoBulk d + 1
  | .slice elems spare => uptoBulkAll elems + uptoBulkAll spare + 1
  | .agg parts => uptoBulkAll parts + 1
  | .iface _ d => uptoBulk d + 1
  | .map entries => uptoBulkEntries entries + 1
  | .held _ => 1
def uptoBulkAll {H : Type} : List (DataW H) → Nat
  | [] => 0
  | d :: r => uptoBulk d + uptoBulkAll r
def uptoBulkEntries {H : Type} : List (Lit × DataW H) → Nat
  | [] => 0
  | x :: r => uptoBulkEntry x + uptoBulkEntries r
def uptoBulkEntry {H : Type} : Lit × DataW H → Nat
  | (.string bytes, d) => bytes.length + uptoBulk d + 1
  | (_, d) => uptoBulk d + 1
 end
def uptoSmall : (H : Type) → List (DataW H) → Bool := fun _ ds => decide (uptoBulkAll ds ≤ 1048576)
def OpenSpec.upto (s : _root_.Go.ChangeSpec) : _root_.Go.OpenSpec := { _root_.Go.OpenSpec.ofChange s with cond := some uptoSmall }

/-- 'longcaselaw09.RuleTells', WHERE WHAT IT READS IS OF BULK AT MOST 1048576: true; the input reads as it did. -/
def ruleTellsUptoRow : OpenClaim := { program := "ytgbehcahdgamoaadoor", sum := "3624299327a6be540f1df54c53d2d854fdab382f06327fd392401c3944d7b649", func := "longcase/longcaselaw09.RuleTells", spec := "ruleTells", unfollowed := true, recurses := true, named := ["longcase/civil.lengths"], apart := false, laid := [("longcase/civil.lengths", laid_longcase_civil_lengths)], narrowed := true }
def RuleTellsUptoSaid : Prop := ruleTellsUptoRow.holds Tryd.pinned (OpenSpec.upto ruleTellsSpec)

/-- 'longcaselaw09.RuleTurns', WHERE WHAT IT READS IS OF BULK AT MOST 1048576: true; the input reads as it did. -/
def ruleTurnsUptoRow : OpenClaim := { program := "ytgbehcahdgamoaadoor", sum := "3624299327a6be540f1df54c53d2d854fdab382f06327fd392401c3944d7b649", func := "longcase/longcaselaw09.RuleTurns", spec := "ruleTurns", unfollowed := true, recurses := true, named := ["longcase/civil.lengths"], apart := false, laid := [("longcase/civil.lengths", laid_longcase_civil_lengths)], narrowed := true }
def RuleTurnsUptoSaid : Prop := ruleTurnsUptoRow.holds Tryd.pinned (OpenSpec.upto ruleTurnsSpec)

/-- 'longcaselaw09.RuleDays', WHERE WHAT IT READS IS OF BULK AT MOST 1048576: true; the input reads as it did. -/
def ruleDaysUptoRow : OpenClaim := { program := "ytgbehcahdgamoaadoor", sum := "3624299327a6be540f1df54c53d2d854fdab382f06327fd392401c3944d7b649", func := "longcase/longcaselaw09.RuleDays", spec := "ruleDays", unfollowed := true, recurses := true, named := ["longcase/civil.lengths"], apart := false, laid := [("longcase/civil.lengths", laid_longcase_civil_lengths)], narrowed := true }
def RuleDaysUptoSaid : Prop := ruleDaysUptoRow.holds Tryd.pinned (OpenSpec.upto ruleDaysSpec)

/-- 'longcaselaw09.RuleAlways', WHERE WHAT IT READS IS OF BULK AT MOST 1048576: true; the input reads as it did. -/
def ruleAlwaysUptoRow : OpenClaim := { program := "ytgbehcahdgamoaadoor", sum := "3624299327a6be540f1df54c53d2d854fdab382f06327fd392401c3944d7b649", func := "longcase/longcaselaw09.RuleAlways", spec := "ruleAlways", unfollowed := true, recurses := true, named := ["longcase/civil.lengths"], apart := false, laid := [("longcase/civil.lengths", laid_longcase_civil_lengths)], narrowed := true }
def RuleAlwaysUptoSaid : Prop := ruleAlwaysUptoRow.holds Tryd.pinned (OpenSpec.upto ruleAlwaysSpec)

/-- 'longcaselaw09.RuleRange', WHERE WHAT IT READS IS OF BULK AT MOST 1048576: true; the input reads as it did. -/
def ruleRangeUptoRow : OpenClaim := { program := "ytgbehcahdgamoaadoor", sum := "3624299327a6be540f1df54c53d2d854fdab382f06327fd392401c3944d7b649", func := "longcase/longcaselaw09.RuleRange", spec := "ruleRange", unfollowed := true, recurses := true, named := ["longcase/civil.lengths"], apart := false, laid := [("longcase/civil.lengths", laid_longcase_civil_lengths)], narrowed := true }
def RuleRangeUptoSaid : Prop := ruleRangeUptoRow.holds Tryd.pinned (OpenSpec.upto ruleRangeSpec)

/-- 'longcaselaw09.RuleWhole', WHERE WHAT IT READS IS OF BULK AT MOST 1048576: true; the input reads as it did. -/
def ruleWholeUptoRow : OpenClaim := { program := "ytgbehcahdgamoaadoor", sum := "3624299327a6be540f1df54c53d2d854fdab382f06327fd392401c3944d7b649", func := "longcase/longcaselaw09.RuleWhole", spec := "ruleWhole", unfollowed := true, recurses := true, named := ["longcase/civil.lengths"], apart := false, laid := [("longcase/civil.lengths", laid_longcase_civil_lengths)], narrowed := true }
def RuleWholeUptoSaid : Prop := ruleWholeUptoRow.holds Tryd.pinned (OpenSpec.upto ruleWholeSpec)

/-- 'longcaselaw09.RuleShift', WHERE WHAT IT READS IS OF BULK AT MOST 1048576: true; the input reads as it did. -/
def ruleShiftUptoRow : OpenClaim := { program := "ytgbehcahdgamoaadoor", sum := "3624299327a6be540f1df54c53d2d854fdab382f06327fd392401c3944d7b649", func := "longcase/longcaselaw09.RuleShift", spec := "ruleShift", unfollowed := true, recurses := true, named := ["longcase/civil.lengths"], apart := false, laid := [("longcase/civil.lengths", laid_longcase_civil_lengths)], narrowed := true }
def RuleShiftUptoSaid : Prop := ruleShiftUptoRow.holds Tryd.pinned (OpenSpec.upto ruleShiftSpec)

/-- 'longcaselaw09.RuleYears', WHERE WHAT IT READS IS OF BULK AT MOST 1048576: true; the input reads as it did. -/
def ruleYearsUptoRow : OpenClaim := { program := "ytgbehcahdgamoaadoor", sum := "3624299327a6be540f1df54c53d2d854fdab382f06327fd392401c3944d7b649", func := "longcase/longcaselaw09.RuleYears", spec := "ruleYears", unfollowed := true, recurses := true, named := ["longcase/civil.lengths"], apart := false, laid := [("longcase/civil.lengths", laid_longcase_civil_lengths)], narrowed := true }
def RuleYearsUptoSaid : Prop := ruleYearsUptoRow.holds Tryd.pinned (OpenSpec.upto ruleYearsSpec)

end Rows
end Go.Proofs.YtgbehcahdgamoaaDoor
