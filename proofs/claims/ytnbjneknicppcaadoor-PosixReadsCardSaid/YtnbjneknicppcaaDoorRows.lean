/-
  NARROWER THAN 'FOR EVERY INPUT', by the rows' own cells (each row's printed sentence says how): PosixTells: laid · PosixReads: laid · PosixBack: laid · PosixWide: laid · PosixOffsets: laid · PosixBounds: laid · PosixNames: laid · PosixTimes: laid · PosixEnds: laid · PosixSaved: laid.
  DERIVED. THE GIVEN ROWS OF THIS SEAT. 10 by the template 'for every input the law returns true; each argument reads behind the call as it read before'; 0 by the template 'total and deterministic' (their statements: YtnbjneknicppcaaDoorTotals.lean).
  GIVEN WITH THE SEED: the statements are not yours to turn. If you find one false, say at which input.
  Laid BY PROGRAM, IN A SANDBOX (cutbox-rows.mjs): the forced cells as the released guide's own fill.sh prints them over the translation 84b80106c4bbb9f8… (all of the seat's roots in one cut). By AI agents, Wed Nov 11 2026. No macro, syntax, notation, axiom, sorry.
-/
import Derived.Test.YtnbjneknicppcaaDoorChecked
import GoSem.Claim
import GoSem.ClaimJoined
import GoSem.ClaimMapViews
import Derived.JoinedTies
import Derived.KernelRfl
namespace Go.Proofs.YtnbjneknicppcaaDoor
/- THE CELL 'sum', in the pinned program and in every row, IS THE sha256 OF THE DUMP (.gsa) THAT YtnbjneknicppcaaDoorProg.lean LOADS. Nothing in Lean hashes anything: it is a label: what it is worth is what the hold of that sum in a sandbox is worth. -/
noncomputable def Tryd.pinned : Pinned := { name := "ytnbjneknicppcaadoor", sum := "84b80106c4bbb9f8216c9301e50eed69fa9fdf3edbfc8a5bf70f8f904ff533d4", checked := Tryd.checked }
namespace Rows
def none {H : Type} : Left H := { results := [], args := [] }

/- WHAT THE LISTED PACKAGE-LEVEL VARIABLES READ AS WHEN THE CALL BEGINS. Each datum BY PROGRAM (the guide's laid-datum.mjs) off the statement by which the dump's own 'gosem.cut.vars' lays the variable. In a bare row this is a premise. The card (YtnbjneknicppcaaDoorCards.lean) ties it to the program's text. -/
def laid_math_bits_deBruijn32tab {H : Type} : DataW H := .agg [.lit (.int .u8 0), .lit (.int .u8 1), .lit (.int .u8 28), .lit (.int .u8 2), .lit (.int .u8 29), .lit (.int .u8 14), .lit (.int .u8 24), .lit (.int .u8 3), .lit (.int .u8 30), .lit (.int .u8 22), .lit (.int .u8 20), .lit (.int .u8 15), .lit (.int .u8 25), .lit (.int .u8 17), .lit (.int .u8 4), .lit (.int .u8 8), .lit (.int .u8 31), .lit (.int .u8 27), .lit (.int .u8 13), .lit (.int .u8 23), .lit (.int .u8 21), .lit (.int .u8 19), .lit (.int .u8 16), .lit (.int .u8 7), .lit (.int .u8 26), .lit (.int .u8 12), .lit (.int .u8 18), .lit (.int .u8 6), .lit (.int .u8 11), .lit (.int .u8 5), .lit (.int .u8 10), .lit (.int .u8 9)]
def laid_math_bits_deBruijn64tab {H : Type} : DataW H := .agg [.lit (.int .u8 0), .lit (.int .u8 1), .lit (.int .u8 56), .lit (.int .u8 2), .lit (.int .u8 57), .lit (.int .u8 49), .lit (.int .u8 28), .lit (.int .u8 3), .lit (.int .u8 61), .lit (.int .u8 58), .lit (.int .u8 42), .lit (.int .u8 50), .lit (.int .u8 38), .lit (.int .u8 29), .lit (.int .u8 17), .lit (.int .u8 4), .lit (.int .u8 62), .lit (.int .u8 47), .lit (.int .u8 59), .lit (.int .u8 36), .lit (.int .u8 45), .lit (.int .u8 43), .lit (.int .u8 51), .lit (.int .u8 22), .lit (.int .u8 53), .lit (.int .u8 39), .lit (.int .u8 33), .lit (.int .u8 30), .lit (.int .u8 24), .lit (.int .u8 18), .lit (.int .u8 12), .lit (.int .u8 5), .lit (.int .u8 63), .lit (.int .u8 55), .lit (.int .u8 48), .lit (.int .u8 27), .lit (.int .u8 60), .lit (.int .u8 41), .lit (.int .u8 37), .lit (.int .u8 16), .lit (.int .u8 46), .lit (.int .u8 35), .lit (.int .u8 44), .lit (.int .u8 21), .lit (.int .u8 52), .lit (.int .u8 32), .lit (.int .u8 23), .lit (.int .u8 11), .lit (.int .u8 54), .lit (.int .u8 26), .lit (.int .u8 40), .lit (.int .u8 15), .lit (.int .u8 34), .lit (.int .u8 20), .lit (.int .u8 31), .lit (.int .u8 10), .lit (.int .u8 25), .lit (.int .u8 14), .lit (.int .u8 19), .lit (.int .u8 9), .lit (.int .u8 13), .lit (.int .u8 8), .lit (.int .u8 7), .lit (.int .u8 6)]
def laid_internal_strconv_uint64pow10 {H : Type} : DataW H := .agg [.lit (.int .u64 1), .lit (.int .u64 10), .lit (.int .u64 100), .lit (.int .u64 1000), .lit (.int .u64 10000), .lit (.int .u64 100000), .lit (.int .u64 1000000), .lit (.int .u64 10000000), .lit (.int .u64 100000000), .lit (.int .u64 1000000000), .lit (.int .u64 10000000000), .lit (.int .u64 100000000000), .lit (.int .u64 1000000000000), .lit (.int .u64 10000000000000), .lit (.int .u64 100000000000000), .lit (.int .u64 1000000000000000), .lit (.int .u64 10000000000000000), .lit (.int .u64 100000000000000000), .lit (.int .u64 1000000000000000000), .lit (.int .u64 10000000000000000000)]
def laid_strconv_ErrRange {H : Type} : DataW H := .iface "*errors.errorString" (.ptr (.agg [.lit (.string [118, 97, 108, 117, 101, 32, 111, 117, 116, 32, 111, 102, 32, 114, 97, 110, 103, 101])]))
def laid_strconv_ErrSyntax {H : Type} : DataW H := .iface "*errors.errorString" (.ptr (.agg [.lit (.string [105, 110, 118, 97, 108, 105, 100, 32, 115, 121, 110, 116, 97, 120])]))

/-- 'longcaselaw08.PosixTells': WHATEVER THE INPUT: true; the input reads as it did. -/
def posixTellsSpec : ChangeSpec := { name := "posixTells", fn := fun _ => fun
  | [d1, d2] => { results := [.lit (.bool true)], args := [d1, d2] }
  | _ => none }
def posixTellsRow : OpenClaim := { program := "ytnbjneknicppcaadoor", sum := "84b80106c4bbb9f8216c9301e50eed69fa9fdf3edbfc8a5bf70f8f904ff533d4", func := "longcase/longcaselaw08.PosixTells", spec := "posixTells", inPlace := ["internal/bytealg.IndexByteString", "internal/bytealg.IndexString", "internal/abi.NoEscape"], unfollowed := true, recurses := true, named := ["internal/bytealg.MaxLen", "strconv.ErrSyntax", "strconv.ErrRange", "internal/strconv.uint64pow10", "math/bits.deBruijn32tab", "math/bits.deBruijn64tab"], apart := false, laid := [("math/bits.deBruijn32tab", laid_math_bits_deBruijn32tab), ("math/bits.deBruijn64tab", laid_math_bits_deBruijn64tab), ("internal/strconv.uint64pow10", laid_internal_strconv_uint64pow10), ("strconv.ErrRange", laid_strconv_ErrRange), ("strconv.ErrSyntax", laid_strconv_ErrSyntax)] }
def PosixTellsSaid : Prop := posixTellsRow.holds Tryd.pinned (OpenSpec.ofChange posixTellsSpec)

/-- ITS FALSE NEIGHBOUR: 'it returns false'. Refute it at one input. -/
def posixTellsWrong : ChangeSpec := { name := "posixTells", fn := fun _ => fun
  | [d1, d2] => { results := [.lit (.bool false)], args := [d1, d2] }
  | _ => none }
def PosixTellsWrongFalsely : Prop := posixTellsRow.holds Tryd.pinned (OpenSpec.ofChange posixTellsWrong)

/-- 'longcaselaw08.PosixReads': WHATEVER THE INPUT: true; the input reads as it did. -/
def posixReadsSpec : ChangeSpec := { name := "posixReads", fn := fun _ => fun
  | [d1, d2] => { results := [.lit (.bool true)], args := [d1, d2] }
  | _ => none }
def posixReadsRow : OpenClaim := { program := "ytnbjneknicppcaadoor", sum := "84b80106c4bbb9f8216c9301e50eed69fa9fdf3edbfc8a5bf70f8f904ff533d4", func := "longcase/longcaselaw08.PosixReads", spec := "posixReads", inPlace := ["internal/bytealg.IndexByteString", "internal/bytealg.IndexString", "internal/abi.NoEscape"], unfollowed := true, recurses := true, named := ["internal/bytealg.MaxLen", "strconv.ErrSyntax", "strconv.ErrRange", "internal/strconv.uint64pow10", "math/bits.deBruijn32tab", "math/bits.deBruijn64tab"], apart := false, laid := [("math/bits.deBruijn32tab", laid_math_bits_deBruijn32tab), ("math/bits.deBruijn64tab", laid_math_bits_deBruijn64tab), ("internal/strconv.uint64pow10", laid_internal_strconv_uint64pow10), ("strconv.ErrRange", laid_strconv_ErrRange), ("strconv.ErrSyntax", laid_strconv_ErrSyntax)] }
def PosixReadsSaid : Prop := posixReadsRow.holds Tryd.pinned (OpenSpec.ofChange posixReadsSpec)

/-- ITS FALSE NEIGHBOUR: 'it returns false'. Refute it at one input. -/
def posixReadsWrong : ChangeSpec := { name := "posixReads", fn := fun _ => fun
  | [d1, d2] => { results := [.lit (.bool false)], args := [d1, d2] }
  | _ => none }
def PosixReadsWrongFalsely : Prop := posixReadsRow.holds Tryd.pinned (OpenSpec.ofChange posixReadsWrong)

/-- 'longcaselaw08.PosixBack': WHATEVER THE INPUT: true; the input reads as it did. -/
def posixBackSpec : ChangeSpec := { name := "posixBack", fn := fun _ => fun
  | [d1, d2, d3] => { results := [.lit (.bool true)], args := [d1, d2, d3] }
  | _ => none }
def posixBackRow : OpenClaim := { program := "ytnbjneknicppcaadoor", sum := "84b80106c4bbb9f8216c9301e50eed69fa9fdf3edbfc8a5bf70f8f904ff533d4", func := "longcase/longcaselaw08.PosixBack", spec := "posixBack", inPlace := ["internal/bytealg.IndexByteString", "internal/bytealg.IndexString", "internal/abi.NoEscape"], unfollowed := true, recurses := true, named := ["internal/bytealg.MaxLen", "strconv.ErrSyntax", "strconv.ErrRange", "internal/strconv.uint64pow10", "math/bits.deBruijn32tab", "math/bits.deBruijn64tab"], apart := false, laid := [("math/bits.deBruijn32tab", laid_math_bits_deBruijn32tab), ("math/bits.deBruijn64tab", laid_math_bits_deBruijn64tab), ("internal/strconv.uint64pow10", laid_internal_strconv_uint64pow10), ("strconv.ErrRange", laid_strconv_ErrRange), ("strconv.ErrSyntax", laid_strconv_ErrSyntax)] }
def PosixBackSaid : Prop := posixBackRow.holds Tryd.pinned (OpenSpec.ofChange posixBackSpec)

/-- ITS FALSE NEIGHBOUR: 'it returns false'. Refute it at one input. -/
def posixBackWrong : ChangeSpec := { name := "posixBack", fn := fun _ => fun
  | [d1, d2, d3] => { results := [.lit (.bool false)], args := [d1, d2, d3] }
  | _ => none }
def PosixBackWrongFalsely : Prop := posixBackRow.holds Tryd.pinned (OpenSpec.ofChange posixBackWrong)

/-- 'longcaselaw08.PosixWide': WHATEVER THE INPUT: true; the input reads as it did. -/
def posixWideSpec : ChangeSpec := { name := "posixWide", fn := fun _ => fun
  | [d1, d2] => { results := [.lit (.bool true)], args := [d1, d2] }
  | _ => none }
def posixWideRow : OpenClaim := { program := "ytnbjneknicppcaadoor", sum := "84b80106c4bbb9f8216c9301e50eed69fa9fdf3edbfc8a5bf70f8f904ff533d4", func := "longcase/longcaselaw08.PosixWide", spec := "posixWide", inPlace := ["internal/bytealg.IndexByteString", "internal/bytealg.IndexString", "internal/abi.NoEscape"], unfollowed := true, recurses := true, named := ["internal/bytealg.MaxLen", "strconv.ErrSyntax", "strconv.ErrRange", "internal/strconv.uint64pow10", "math/bits.deBruijn32tab", "math/bits.deBruijn64tab"], apart := false, laid := [("math/bits.deBruijn32tab", laid_math_bits_deBruijn32tab), ("math/bits.deBruijn64tab", laid_math_bits_deBruijn64tab), ("internal/strconv.uint64pow10", laid_internal_strconv_uint64pow10), ("strconv.ErrRange", laid_strconv_ErrRange), ("strconv.ErrSyntax", laid_strconv_ErrSyntax)] }
def PosixWideSaid : Prop := posixWideRow.holds Tryd.pinned (OpenSpec.ofChange posixWideSpec)

/-- ITS FALSE NEIGHBOUR: 'it returns false'. Refute it at one input. -/
def posixWideWrong : ChangeSpec := { name := "posixWide", fn := fun _ => fun
  | [d1, d2] => { results := [.lit (.bool false)], args := [d1, d2] }
  | _ => none }
def PosixWideWrongFalsely : Prop := posixWideRow.holds Tryd.pinned (OpenSpec.ofChange posixWideWrong)

/-- 'longcaselaw08.PosixOffsets': WHATEVER THE INPUT: true; the input reads as it did. -/
def posixOffsetsSpec : ChangeSpec := { name := "posixOffsets", fn := fun _ => fun
  | [d1, d2] => { results := [.lit (.bool true)], args := [d1, d2] }
  | _ => none }
def posixOffsetsRow : OpenClaim := { program := "ytnbjneknicppcaadoor", sum := "84b80106c4bbb9f8216c9301e50eed69fa9fdf3edbfc8a5bf70f8f904ff533d4", func := "longcase/longcaselaw08.PosixOffsets", spec := "posixOffsets", inPlace := ["internal/bytealg.IndexByteString", "internal/bytealg.IndexString", "internal/abi.NoEscape"], unfollowed := true, recurses := true, named := ["internal/bytealg.MaxLen", "strconv.ErrSyntax", "strconv.ErrRange", "internal/strconv.uint64pow10", "math/bits.deBruijn32tab", "math/bits.deBruijn64tab"], apart := false, laid := [("math/bits.deBruijn32tab", laid_math_bits_deBruijn32tab), ("math/bits.deBruijn64tab", laid_math_bits_deBruijn64tab), ("internal/strconv.uint64pow10", laid_internal_strconv_uint64pow10), ("strconv.ErrRange", laid_strconv_ErrRange), ("strconv.ErrSyntax", laid_strconv_ErrSyntax)] }
def PosixOffsetsSaid : Prop := posixOffsetsRow.holds Tryd.pinned (OpenSpec.ofChange posixOffsetsSpec)

/-- ITS FALSE NEIGHBOUR: 'it returns false'. Refute it at one input. -/
def posixOffsetsWrong : ChangeSpec := { name := "posixOffsets", fn := fun _ => fun
  | [d1, d2] => { results := [.lit (.bool false)], args := [d1, d2] }
  | _ => none }
def PosixOffsetsWrongFalsely : Prop := posixOffsetsRow.holds Tryd.pinned (OpenSpec.ofChange posixOffsetsWrong)

/-- 'longcaselaw08.PosixBounds': WHATEVER THE INPUT: true; the input reads as it did. -/
def posixBoundsSpec : ChangeSpec := { name := "posixBounds", fn := fun _ => fun
  | [d1, d2, d3] => { results := [.lit (.bool true)], args := [d1, d2, d3] }
  | _ => none }
def posixBoundsRow : OpenClaim := { program := "ytnbjneknicppcaadoor", sum := "84b80106c4bbb9f8216c9301e50eed69fa9fdf3edbfc8a5bf70f8f904ff533d4", func := "longcase/longcaselaw08.PosixBounds", spec := "posixBounds", inPlace := ["internal/bytealg.IndexByteString", "internal/bytealg.IndexString", "internal/abi.NoEscape"], unfollowed := true, recurses := true, named := ["internal/bytealg.MaxLen", "strconv.ErrSyntax", "strconv.ErrRange", "internal/strconv.uint64pow10", "math/bits.deBruijn32tab", "math/bits.deBruijn64tab"], apart := false, laid := [("math/bits.deBruijn32tab", laid_math_bits_deBruijn32tab), ("math/bits.deBruijn64tab", laid_math_bits_deBruijn64tab), ("internal/strconv.uint64pow10", laid_internal_strconv_uint64pow10), ("strconv.ErrRange", laid_strconv_ErrRange), ("strconv.ErrSyntax", laid_strconv_ErrSyntax)] }
def PosixBoundsSaid : Prop := posixBoundsRow.holds Tryd.pinned (OpenSpec.ofChange posixBoundsSpec)

/-- ITS FALSE NEIGHBOUR: 'it returns false'. Refute it at one input. -/
def posixBoundsWrong : ChangeSpec := { name := "posixBounds", fn := fun _ => fun
  | [d1, d2, d3] => { results := [.lit (.bool false)], args := [d1, d2, d3] }
  | _ => none }
def PosixBoundsWrongFalsely : Prop := posixBoundsRow.holds Tryd.pinned (OpenSpec.ofChange posixBoundsWrong)

/-- 'longcaselaw08.PosixNames': WHATEVER THE INPUT: true; the input reads as it did. -/
def posixNamesSpec : ChangeSpec := { name := "posixNames", fn := fun _ => fun
  | [d] => { results := [.lit (.bool true)], args := [d] }
  | _ => none }
def posixNamesRow : OpenClaim := { program := "ytnbjneknicppcaadoor", sum := "84b80106c4bbb9f8216c9301e50eed69fa9fdf3edbfc8a5bf70f8f904ff533d4", func := "longcase/longcaselaw08.PosixNames", spec := "posixNames", inPlace := ["internal/bytealg.IndexByteString", "internal/bytealg.IndexString", "internal/abi.NoEscape"], unfollowed := true, recurses := true, named := ["internal/bytealg.MaxLen", "strconv.ErrSyntax", "strconv.ErrRange", "internal/strconv.uint64pow10", "math/bits.deBruijn32tab", "math/bits.deBruijn64tab"], apart := false, laid := [("math/bits.deBruijn32tab", laid_math_bits_deBruijn32tab), ("math/bits.deBruijn64tab", laid_math_bits_deBruijn64tab), ("internal/strconv.uint64pow10", laid_internal_strconv_uint64pow10), ("strconv.ErrRange", laid_strconv_ErrRange), ("strconv.ErrSyntax", laid_strconv_ErrSyntax)] }
def PosixNamesSaid : Prop := posixNamesRow.holds Tryd.pinned (OpenSpec.ofChange posixNamesSpec)

/-- ITS FALSE NEIGHBOUR: 'it returns false'. Refute it at one input. -/
def posixNamesWrong : ChangeSpec := { name := "posixNames", fn := fun _ => fun
  | [d] => { results := [.lit (.bool false)], args := [d] }
  | _ => none }
def PosixNamesWrongFalsely : Prop := posixNamesRow.holds Tryd.pinned (OpenSpec.ofChange posixNamesWrong)

/-- 'longcaselaw08.PosixTimes': WHATEVER THE INPUT: true; the input reads as it did. -/
def posixTimesSpec : ChangeSpec := { name := "posixTimes", fn := fun _ => fun
  | [d] => { results := [.lit (.bool true)], args := [d] }
  | _ => none }
def posixTimesRow : OpenClaim := { program := "ytnbjneknicppcaadoor", sum := "84b80106c4bbb9f8216c9301e50eed69fa9fdf3edbfc8a5bf70f8f904ff533d4", func := "longcase/longcaselaw08.PosixTimes", spec := "posixTimes", inPlace := ["internal/bytealg.IndexByteString", "internal/bytealg.IndexString", "internal/abi.NoEscape"], unfollowed := true, recurses := true, named := ["internal/bytealg.MaxLen", "strconv.ErrSyntax", "strconv.ErrRange", "internal/strconv.uint64pow10", "math/bits.deBruijn32tab", "math/bits.deBruijn64tab"], apart := false, laid := [("math/bits.deBruijn32tab", laid_math_bits_deBruijn32tab), ("math/bits.deBruijn64tab", laid_math_bits_deBruijn64tab), ("internal/strconv.uint64pow10", laid_internal_strconv_uint64pow10), ("strconv.ErrRange", laid_strconv_ErrRange), ("strconv.ErrSyntax", laid_strconv_ErrSyntax)] }
def PosixTimesSaid : Prop := posixTimesRow.holds Tryd.pinned (OpenSpec.ofChange posixTimesSpec)

/-- ITS FALSE NEIGHBOUR: 'it returns false'. Refute it at one input. -/
def posixTimesWrong : ChangeSpec := { name := "posixTimes", fn := fun _ => fun
  | [d] => { results := [.lit (.bool false)], args := [d] }
  | _ => none }
def PosixTimesWrongFalsely : Prop := posixTimesRow.holds Tryd.pinned (OpenSpec.ofChange posixTimesWrong)

/-- 'longcaselaw08.PosixEnds': WHATEVER THE INPUT: true; the input reads as it did. -/
def posixEndsSpec : ChangeSpec := { name := "posixEnds", fn := fun _ => fun
  | [d1, d2, d3, d4] => { results := [.lit (.bool true)], args := [d1, d2, d3, d4] }
  | _ => none }
def posixEndsRow : OpenClaim := { program := "ytnbjneknicppcaadoor", sum := "84b80106c4bbb9f8216c9301e50eed69fa9fdf3edbfc8a5bf70f8f904ff533d4", func := "longcase/longcaselaw08.PosixEnds", spec := "posixEnds", inPlace := ["internal/bytealg.IndexByteString", "internal/bytealg.IndexString", "internal/abi.NoEscape"], unfollowed := true, recurses := true, named := ["internal/bytealg.MaxLen", "strconv.ErrSyntax", "strconv.ErrRange", "internal/strconv.uint64pow10", "math/bits.deBruijn32tab", "math/bits.deBruijn64tab"], apart := false, laid := [("math/bits.deBruijn32tab", laid_math_bits_deBruijn32tab), ("math/bits.deBruijn64tab", laid_math_bits_deBruijn64tab), ("internal/strconv.uint64pow10", laid_internal_strconv_uint64pow10), ("strconv.ErrRange", laid_strconv_ErrRange), ("strconv.ErrSyntax", laid_strconv_ErrSyntax)] }
def PosixEndsSaid : Prop := posixEndsRow.holds Tryd.pinned (OpenSpec.ofChange posixEndsSpec)

/-- ITS FALSE NEIGHBOUR: 'it returns false'. Refute it at one input. -/
def posixEndsWrong : ChangeSpec := { name := "posixEnds", fn := fun _ => fun
  | [d1, d2, d3, d4] => { results := [.lit (.bool false)], args := [d1, d2, d3, d4] }
  | _ => none }
def PosixEndsWrongFalsely : Prop := posixEndsRow.holds Tryd.pinned (OpenSpec.ofChange posixEndsWrong)

/-- 'longcaselaw08.PosixSaved': WHATEVER THE INPUT: true; the input reads as it did. -/
def posixSavedSpec : ChangeSpec := { name := "posixSaved", fn := fun _ => fun
  | [d1, d2] => { results := [.lit (.bool true)], args := [d1, d2] }
  | _ => none }
def posixSavedRow : OpenClaim := { program := "ytnbjneknicppcaadoor", sum := "84b80106c4bbb9f8216c9301e50eed69fa9fdf3edbfc8a5bf70f8f904ff533d4", func := "longcase/longcaselaw08.PosixSaved", spec := "posixSaved", inPlace := ["internal/bytealg.IndexByteString", "internal/bytealg.IndexString", "internal/abi.NoEscape"], unfollowed := true, recurses := true, named := ["internal/bytealg.MaxLen", "strconv.ErrSyntax", "strconv.ErrRange", "internal/strconv.uint64pow10", "math/bits.deBruijn32tab", "math/bits.deBruijn64tab"], apart := false, laid := [("math/bits.deBruijn32tab", laid_math_bits_deBruijn32tab), ("math/bits.deBruijn64tab", laid_math_bits_deBruijn64tab), ("internal/strconv.uint64pow10", laid_internal_strconv_uint64pow10), ("strconv.ErrRange", laid_strconv_ErrRange), ("strconv.ErrSyntax", laid_strconv_ErrSyntax)] }
def PosixSavedSaid : Prop := posixSavedRow.holds Tryd.pinned (OpenSpec.ofChange posixSavedSpec)

/-- ITS FALSE NEIGHBOUR: 'it returns false'. Refute it at one input. -/
def posixSavedWrong : ChangeSpec := { name := "posixSaved", fn := fun _ => fun
  | [d1, d2] => { results := [.lit (.bool false)], args := [d1, d2] }
  | _ => none }
def PosixSavedWrongFalsely : Prop := posixSavedRow.holds Tryd.pinned (OpenSpec.ofChange posixSavedWrong)

/- THE SECOND FORM. 'bulk': how many values and letters a reading holds, each counted each time it is reached (what is shared counts as often as it is met; a slice's spare places count too). A statement '..UptoSaid' is the law's where the arguments, and the package variables that the reading takes, are together of bulk at most 1048576: NARROWER than '..Said'. Prove '..Said' where nothing that the law and all that it calls make is longer than what came in: it says more and counts as full. Else prove '..UptoSaid'. A law counts once. -/
mutual
def uptoBulk {H : Type} : DataW H → Nat
  | .lit (.string bytes) => bytes.length + 1
  | .lit _ => 1
  | .nil => 1
  | .ptr d => uptoBulk d + 1
  | .slice elems spare => uptoBulkAll elems + uptoBulkAll spare + 1
  | .agg parts => uptoBulkAll parts + 1
  | .iface _ d => uptoBulk d + 1
  | .map entries => uptoBulkEntries entries + 1
  | .held _ => 1
def uptoBulkAll {H : Type} : List (DataW H) → Nat
  | [] => 0
  | d :: r => uptoBulk d + uptoBulkAll r
def uptoBulkEntries {H : Type} : List (Lit × DataW H) → Nat
  | [] => 0
  | x :: r => uptoBulkEntry x + uptoBulkEntries r
def uptoBulkEntry {H : Type} : Lit × DataW H → Nat
  | (.string bytes, d) => bytes.length + uptoBulk d + 1
  | (_, d) => uptoBulk d + 1
 end
def uptoSmall : (H : Type) → List (DataW H) → Bool := fun _ ds => decide (uptoBulkAll ds ≤ 1048576)
def OpenSpec.upto (s : _root_.Go.ChangeSpec) : _root_.Go.OpenSpec := { _root_.Go.OpenSpec.ofChange s with cond := some uptoSmall }

/-- 'longcaselaw08.PosixTells', WHERE WHAT IT READS IS OF BULK AT MOST 1048576: true; the input reads as it did. -/
def posixTellsUptoRow : OpenClaim := { program := "ytnbjneknicppcaadoor", sum := "84b80106c4bbb9f8216c9301e50eed69fa9fdf3edbfc8a5bf70f8f904ff533d4", func := "longcase/longcaselaw08.PosixTells", spec := "posixTells", inPlace := ["internal/bytealg.IndexByteString", "internal/bytealg.IndexString", "internal/abi.NoEscape"], unfollowed := true, recurses := true, named := ["internal/bytealg.MaxLen", "strconv.ErrSyntax", "strconv.ErrRange", "internal/strconv.uint64pow10", "math/bits.deBruijn32tab", "math/bits.deBruijn64tab"], apart := false, laid := [("math/bits.deBruijn32tab", laid_math_bits_deBruijn32tab), ("math/bits.deBruijn64tab", laid_math_bits_deBruijn64tab), ("internal/strconv.uint64pow10", laid_internal_strconv_uint64pow10), ("strconv.ErrRange", laid_strconv_ErrRange), ("strconv.ErrSyntax", laid_strconv_ErrSyntax)], narrowed := true }
def PosixTellsUptoSaid : Prop := posixTellsUptoRow.holds Tryd.pinned (OpenSpec.upto posixTellsSpec)

/-- 'longcaselaw08.PosixReads', WHERE WHAT IT READS IS OF BULK AT MOST 1048576: true; the input reads as it did. -/
def posixReadsUptoRow : OpenClaim := { program := "ytnbjneknicppcaadoor", sum := "84b80106c4bbb9f8216c9301e50eed69fa9fdf3edbfc8a5bf70f8f904ff533d4", func := "longcase/longcaselaw08.PosixReads", spec := "posixReads", inPlace := ["internal/bytealg.IndexByteString", "internal/bytealg.IndexString", "internal/abi.NoEscape"], unfollowed := true, recurses := true, named := ["internal/bytealg.MaxLen", "strconv.ErrSyntax", "strconv.ErrRange", "internal/strconv.uint64pow10", "math/bits.deBruijn32tab", "math/bits.deBruijn64tab"], apart := false, laid := [("math/bits.deBruijn32tab", laid_math_bits_deBruijn32tab), ("math/bits.deBruijn64tab", laid_math_bits_deBruijn64tab), ("internal/strconv.uint64pow10", laid_internal_strconv_uint64pow10), ("strconv.ErrRange", laid_strconv_ErrRange), ("strconv.ErrSyntax", laid_strconv_ErrSyntax)], narrowed := true }
def PosixReadsUptoSaid : Prop := posixReadsUptoRow.holds Tryd.pinned (OpenSpec.upto posixReadsSpec)

/-- 'longcaselaw08.PosixBack', WHERE WHAT IT READS IS OF BULK AT MOST 1048576: true; the input reads as it did. -/
def posixBackUptoRow : OpenClaim := { program := "ytnbjneknicppcaadoor", sum := "84b80106c4bbb9f8216c9301e50eed69fa9fdf3edbfc8a5bf70f8f904ff533d4", func := "longcase/longcaselaw08.PosixBack", spec := "posixBack", inPlace := ["internal/bytealg.IndexByteString", "internal/bytealg.IndexString", "internal/abi.NoEscape"], unfollowed := true, recurses := true, named := ["internal/bytealg.MaxLen", "strconv.ErrSyntax", "strconv.ErrRange", "internal/strconv.uint64pow10", "math/bits.deBruijn32tab", "math/bits.deBruijn64tab"], apart := false, laid := [("math/bits.deBruijn32tab", laid_math_bits_deBruijn32tab), ("math/bits.deBruijn64tab", laid_math_bits_deBruijn64tab), ("internal/strconv.uint64pow10", laid_internal_strconv_uint64pow10), ("strconv.ErrRange", laid_strconv_ErrRange), ("strconv.ErrSyntax", laid_strconv_ErrSyntax)], narrowed := true }
def PosixBackUptoSaid : Prop := posixBackUptoRow.holds Tryd.pinned (OpenSpec.upto posixBackSpec)

/-- 'longcaselaw08.PosixWide', WHERE WHAT IT READS IS OF BULK AT MOST 1048576: true; the input reads as it did. -/
def posixWideUptoRow : OpenClaim := { program := "ytnbjneknicppcaadoor", sum := "84b80106c4bbb9f8216c9301e50eed69fa9fdf3edbfc8a5bf70f8f904ff533d4", func := "longcase/longcaselaw08.PosixWide", spec := "posixWide", inPlace := ["internal/bytealg.IndexByteString", "internal/bytealg.IndexString", "internal/abi.NoEscape"], unfollowed := true, recurses := true, named := ["internal/bytealg.MaxLen", "strconv.ErrSyntax", "strconv.ErrRange", "internal/strconv.uint64pow10", "math/bits.deBruijn32tab", "math/bits.deBruijn64tab"], apart := false, laid := [("math/bits.deBruijn32tab", laid_math_bits_deBruijn32tab), ("math/bits.deBruijn64tab", laid_math_bits_deBruijn64tab), ("internal/strconv.uint64pow10", laid_internal_strconv_uint64pow10), ("strconv.ErrRange", laid_strconv_ErrRange), ("strconv.ErrSyntax", laid_strconv_ErrSyntax)], narrowed := true }
def PosixWideUptoSaid : Prop := posixWideUptoRow.holds Tryd.pinned (OpenSpec.upto posixWideSpec)

/-- 'longcaselaw08.PosixOffsets', WHERE WHAT IT READS IS OF BULK AT MOST 1048576: true; the input reads as it did. -/
def posixOffsetsUptoRow : OpenClaim := { program := "ytnbjneknicppcaadoor", sum := "84b80106c4bbb9f8216c9301e50eed69fa9fdf3edbfc8a5bf70f8f904ff533d4", func := "longcase/longcaselaw08.PosixOffsets", spec := "posixOffsets", inPlace := ["internal/bytealg.IndexByteString", "internal/bytealg.IndexString", "internal/abi.NoEscape"], unfollowed := true, recurses := true, named := ["internal/bytealg.MaxLen", "strconv.ErrSyntax", "strconv.ErrRange", "internal/strconv.uint64pow10", "math/bits.deBruijn32tab", "math/bits.deBruijn64tab"], apart := false, laid := [("math/bits.deBruijn32tab", laid_math_bits_deBruijn32tab), ("math/bits.deBruijn64tab", laid_math_bits_deBruijn64tab), ("internal/strconv.uint64pow10", laid_internal_strconv_uint64pow10), ("strconv.ErrRange", laid_strconv_ErrRange), ("strconv.ErrSyntax", laid_strconv_ErrSyntax)], narrowed := true }
def PosixOffsetsUptoSaid : Prop := posixOffsetsUptoRow.holds Tryd.pinned (OpenSpec.upto posixOffsetsSpec)

/-- 'longcaselaw08.PosixBounds', WHERE WHAT IT READS IS OF BULK AT MOST 1048576: true; the input reads as it did. -/
def posixBoundsUptoRow : OpenClaim := { program := "ytnbjneknicppcaadoor", sum := "84b80106c4bbb9f8216c9301e50eed69fa9fdf3edbfc8a5bf70f8f904ff533d4", func := "longcase/longcaselaw08.PosixBounds", spec := "posixBounds", inPlace := ["internal/bytealg.IndexByteString", "internal/bytealg.IndexString", "internal/abi.NoEscape"], unfollowed := true, recurses := true, named := ["internal/bytealg.MaxLen", "strconv.ErrSyntax", "strconv.ErrRange", "internal/strconv.uint64pow10", "math/bits.deBruijn32tab", "math/bits.deBruijn64tab"], apart := false, laid := [("math/bits.deBruijn32tab", laid_math_bits_deBruijn32tab), ("math/bits.deBruijn64tab", laid_math_bits_deBruijn64tab), ("internal/strconv.uint64pow10", laid_internal_strconv_uint64pow10), ("strconv.ErrRange", laid_strconv_ErrRange), ("strconv.ErrSyntax", laid_strconv_ErrSyntax)], narrowed := true }
def PosixBoundsUptoSaid : Prop := posixBoundsUptoRow.holds Tryd.pinned (OpenSpec.upto posixBoundsSpec)

/-- 'longcaselaw08.PosixNames', WHERE WHAT IT READS IS OF BULK AT MOST 1048576: true; the input reads as it did. -/
def posixNamesUptoRow : OpenClaim := { program := "ytnbjneknicppcaadoor", sum := "84b80106c4bbb9f8216c9301e50eed69fa9fdf3edbfc8a5bf70f8f904ff533d4", func := "longcase/longcaselaw08.PosixNames", spec := "posixNames", inPlace := ["internal/bytealg.IndexByteString", "internal/bytealg.IndexString", "internal/abi.NoEscape"], unfollowed := true, recurses := true, named := ["internal/bytealg.MaxLen", "strconv.ErrSyntax", "strconv.ErrRange", "internal/strconv.uint64pow10", "math/bits.deBruijn32tab", "math/bits.deBruijn64tab"], apart := false, laid := [("math/bits.deBruijn32tab", laid_math_bits_deBruijn32tab), ("math/bits.deBruijn64tab", laid_math_bits_deBruijn64tab), ("internal/strconv.uint64pow10", laid_internal_strconv_uint64pow10), ("strconv.ErrRange", laid_strconv_ErrRange), ("strconv.ErrSyntax", laid_strconv_ErrSyntax)], narrowed := true }
def PosixNamesUptoSaid : Prop := posixNamesUptoRow.holds Tryd.pinned (OpenSpec.upto posixNamesSpec)

/-- 'longcaselaw08.PosixTimes', WHERE WHAT IT READS IS OF BULK AT MOST 1048576: true; the input reads as it did. -/
def posixTimesUptoRow : OpenClaim := { program := "ytnbjneknicppcaadoor", sum := "84b80106c4bbb9f8216c9301e50eed69fa9fdf3edbfc8a5bf70f8f904ff533d4", func := "longcase/longcaselaw08.PosixTimes", spec := "posixTimes", inPlace := ["internal/bytealg.IndexByteString", "internal/bytealg.IndexString", "internal/abi.NoEscape"], unfollowed := true, recurses := true, named := ["internal/bytealg.MaxLen", "strconv.ErrSyntax", "strconv.ErrRange", "internal/strconv.uint64pow10", "math/bits.deBruijn32tab", "math/bits.deBruijn64tab"], apart := false, laid := [("math/bits.deBruijn32tab", laid_math_bits_deBruijn32tab), ("math/bits.deBruijn64tab", laid_math_bits_deBruijn64tab), ("internal/strconv.uint64pow10", laid_internal_strconv_uint64pow10), ("strconv.ErrRange", laid_strconv_ErrRange), ("strconv.ErrSyntax", laid_strconv_ErrSyntax)], narrowed := true }
def PosixTimesUptoSaid : Prop := posixTimesUptoRow.holds Tryd.pinned (OpenSpec.upto posixTimesSpec)

/-- 'longcaselaw08.PosixEnds', WHERE WHAT IT READS IS OF BULK AT MOST 1048576: true; the input reads as it did. -/
def posixEndsUptoRow : OpenClaim := { program := "ytnbjneknicppcaadoor", sum := "84b80106c4bbb9f8216c9301e50eed69fa9fdf3edbfc8a5bf70f8f904ff533d4", func := "longcase/longcaselaw08.PosixEnds", spec := "posixEnds", inPlace := ["internal/bytealg.IndexByteString", "internal/bytealg.IndexString", "internal/abi.NoEscape"], unfollowed := true, recurses := true, named := ["internal/bytealg.MaxLen", "strconv.ErrSyntax", "strconv.ErrRange", "internal/strconv.uint64pow10", "math/bits.deBruijn32tab", "math/bits.deBruijn64tab"], apart := false, laid := [("math/bits.deBruijn32tab", laid_math_bits_deBruijn32tab), ("math/bits.deBruijn64tab", laid_math_bits_deBruijn64tab), ("internal/strconv.uint64pow10", laid_internal_strconv_uint64pow10), ("strconv.ErrRange", laid_strconv_ErrRange), ("strconv.ErrSyntax", laid_strconv_ErrSyntax)], narrowed := true }
def PosixEndsUptoSaid : Prop := posixEndsUptoRow.holds Tryd.pinned (OpenSpec.upto posixEndsSpec)

/-- 'longcaselaw08.PosixSaved', WHERE WHAT IT READS IS OF BULK AT MOST 1048576: true; the input reads as it did. -/
def posixSavedUptoRow : OpenClaim := { program := "ytnbjneknicppcaadoor", sum := "84b80106c4bbb9f8216c9301e50eed69fa9fdf3edbfc8a5bf70f8f904ff533d4", func := "longcase/longcaselaw08.PosixSaved", spec := "posixSaved", inPlace := ["internal/bytealg.IndexByteString", "internal/bytealg.IndexString", "internal/abi.NoEscape"], unfollowed := true, recurses := true, named := ["internal/bytealg.MaxLen", "strconv.ErrSyntax", "strconv.ErrRange", "internal/strconv.uint64pow10", "math/bits.deBruijn32tab", "math/bits.deBruijn64tab"], apart := false, laid := [("math/bits.deBruijn32tab", laid_math_bits_deBruijn32tab), ("math/bits.deBruijn64tab", laid_math_bits_deBruijn64tab), ("internal/strconv.uint64pow10", laid_internal_strconv_uint64pow10), ("strconv.ErrRange", laid_strconv_ErrRange), ("strconv.ErrSyntax", laid_strconv_ErrSyntax)], narrowed := true }
def PosixSavedUptoSaid : Prop := posixSavedUptoRow.holds Tryd.pinned (OpenSpec.upto posixSavedSpec)

end Rows
end Go.Proofs.YtnbjneknicppcaaDoor
