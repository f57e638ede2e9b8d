/- PosixReads, as a plain law. -/
import Derived.Test.YtnbjneknicppcaaDoorKR5
import Derived.Test.YtnbjneknicppcaaDoorKR11
import Derived.Test.YtnbjneknicppcaaDoorKRFlongcaselaw08PosixReads
namespace Go.Proofs.YtnbjneknicppcaaDoor.Fn
set_option linter.unusedVariables false
set_option linter.unusedSimpArgs false
open Go.RowKit Go.Proofs.YtnbjneknicppcaaDoorW.PrintWords Go.Proofs.YtnbjneknicppcaaDoorW.PrintLast Go.Proofs.YtnbjneknicppcaaDoorW.PrintMore

theorem PosixReads_pure (s : ByteArray) (wide : Bool) : longcaselaw08_PosixReads.f 1100 s wide = some true := by
  unfold longcaselaw08_PosixReads.f longcaselaw08_shown.f
  simp only [Option.bind_some]
  have h1 := cut_ok s 200
  have h2 := cut_size s 200
  rw [show ((200 : Nat) : Int) = 200 from rfl] at h1 h2
  rw [if_pos h1.1, if_pos h1.2]
  generalize s.extract 0 (mn (s.size : Int) 200).toNat = s at h2
  rw [refParse_eq s (by omega) 1100 (by decide) wide]
  cases h : tkRule wide s.data.toList with
  | none =>
    rw [Parse_none (by omega) h]
    simp [Rul.tup, encP, Rul.zero, Kd.zero, Chg.zero]
  | some r =>
    rw [Parse_some (by omega) h]
    simp [Rul.tup, encP]

theorem PosixReads_walk (s : ByteArray) (wide : Bool) (w : World) (hG : GL w) :
    Calls Tryd.prog 4 #[.string s, .bool wide] w fun e w' => e = .returned (.bool true) ∧ Below w.heap.size w w' :=
  longcaselaw08_PosixReads.calls 1100 s wide true w hG (PosixReads_pure s wide)
end Go.Proofs.YtnbjneknicppcaaDoor.Fn
