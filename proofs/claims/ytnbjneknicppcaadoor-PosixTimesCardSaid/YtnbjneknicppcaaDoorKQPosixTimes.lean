/- PosixTimes, as a plain law. -/
import Derived.Test.YtnbjneknicppcaaDoorK5
import Derived.Test.YtnbjneknicppcaaDoorKFlongcaselaw08PosixTimes
namespace Go.Proofs.YtnbjneknicppcaaDoor.Fn
set_option linter.unusedVariables false
set_option linter.unusedSimpArgs false
open Go.RowKit Go.Proofs.YtnbjneknicppcaaDoorW.PrintWords Go.Proofs.YtnbjneknicppcaaDoorW.PrintLast Go.Proofs.YtnbjneknicppcaaDoorW.PrintMore

def tR (t : Int) : Rul := ⟨⟨0, false, ⟨#[65, 65, 65]⟩⟩, ⟨0, true, ⟨#[66, 66, 66]⟩⟩, true, ⟨2, 5, 0, 0, t⟩, ⟨2, 5, 0, 0, t⟩⟩
theorem tR_name1 : namedB ⟨#[65, 65, 65]⟩ = true := by kernel_rfl
theorem tR_name2 : namedB ⟨#[66, 66, 66]⟩ = true := by kernel_rfl
theorem tR_right (t : Int) (wide : Bool) : (tR t).right wide = (inB t 0 89999 || (wide && inB t (-604799) 604799)) := by
  unfold Rul.right tR rightB chgB dateB
  have i1 : inB 0 (-89999) 89999 = true := by decide
  have i2 : inB 5 0 365 = true := by decide
  simp only [tR_name1, tR_name2, i1, i2]
  cases inB t 0 89999 <;> cases wide <;> cases inB t (-604799) 604799 <;> simp
theorem tkRule_nil (wide : Bool) : tkRule wide (Tx ([] : List UInt8)).data.toList = none := by cases wide <;> kernel_rfl
theorem tR_print (t : Int) (wide : Bool) : posix_Print.f 0 false ⟨#[65, 65, 65]⟩ 0 true ⟨#[66, 66, 66]⟩ true 2 5 0 0 t 2 5 0 0 t wide = some (if (tR t).right wide = true then (Tx (prRule (tR t)), 0) else (emptyS, 1)) := rfl
theorem Times_j2 (k : Nat) (x6 x7 : Bool) (t : Int) (h6 : x6 = inB t (-604799) 604799) (h7 : x7 = inB t 0 89999) (o : Int × Int) :
    longcaselaw08_PosixTimes.j1 (k + 4) true x6 x7 0 false ⟨#[65, 65, 65]⟩ 0 true ⟨#[66, 66, 66]⟩ true 2 5 0 0 t 2 5 0 0 t = some true := by
  rw [longcaselaw08_PosixTimes.j1, rightR_eq, rightR_eq, tR_print]
  have r1 : rightB 0 false ⟨#[65, 65, 65]⟩ 0 true ⟨#[66, 66, 66]⟩ true 2 5 0 0 t 2 5 0 0 t true = (tR t).right true := rfl
  have r2 : rightB 0 false ⟨#[65, 65, 65]⟩ 0 true ⟨#[66, 66, 66]⟩ true 2 5 0 0 t 2 5 0 0 t false = (tR t).right false := rfl
  rw [r1, r2]
  have q1 := tR_right t true
  have q2 := tR_right t false
  simp only [Bool.true_and, Bool.false_and, Bool.or_false] at q1 q2
  have hsub : inB t 0 89999 = true → inB t (-604799) 604799 = true := by rw [inB_iff, inB_iff]; omega
  simp only [Option.bind_some]
  cases hw : (tR t).right true
  · have e12 := Bool.or_eq_false_iff.1 (q1.symm.trans hw)
    have e1 : inB t (-604799) 604799 = false := e12.2
    have e2 : inB t 0 89999 = false := e12.1
    rw [q2, h6, h7, e1, e2]
    simp only [Bool.false_eq_true, if_false]
    rw [Parse_none (s := emptyS) (by decide) (tkRule_nil true), Parse_none (s := emptyS) (by decide) (tkRule_nil false)]
    have he : emptyS.toList = [] := tl8_nil
    simp [longcaselaw08_PosixTimes.j2, he]
  · have e1 : inB t (-604799) 604799 = true := ((Bool.or_eq_true ..).mp (q1.symm.trans hw)).elim hsub id
    rw [h6, e1]
    simp only [if_true]
    rw [Parse_pr hw]
    cases hn : (tR t).right false
    · have e2 : inB t 0 89999 = false := by rw [← q2, hn]
      have hx : tkRule false (Tx (prRule (tR t))).data.toList = none := by
        rw [Tx_list]
        cases hy : tkRule false (prRule (tR t)) with
        | none => rfl
        | some y =>
          have h1 := tkRule_wide _ _ hy
          rw [tkRule_app true _ hw] at h1
          have h2 := tkRule_right _ _ _ hy
          rw [← Option.some.inj h1, hn] at h2
          cases h2
      rw [Parse_none (pr_size hw) hx, h7, e2]
      simp [longcaselaw08_PosixTimes.j2, Rul.tup, tR]
    · have e2 : inB t 0 89999 = true := by rw [← q2, hn]
      rw [Parse_pr hn, h7, e2]
      simp [longcaselaw08_PosixTimes.j2, Rul.tup, tR]
theorem PosixTimes_pure (t : Int) : longcaselaw08_PosixTimes.f 6 t = some true := by
  have hj : ∀ b, b = inB t (-604799) 604799 → longcaselaw08_PosixTimes.j0 6 t true b 0 false ⟨#[65, 65, 65]⟩ 0 true ⟨#[66, 66, 66]⟩ true 2 5 0 0 t 2 5 0 0 t = some true := by
    intro b hb
    rw [longcaselaw08_PosixTimes.j0]
    by_cases h : t ≥ 0
    · rw [if_pos h]
      exact Times_j2 1 b _ t hb (by unfold inB; rw [decide_eq_true (show 0 ≤ t from h), Bool.true_and]) (0, 0)
    · rw [if_neg h]
      exact Times_j2 1 b _ t hb (by unfold inB; rw [decide_eq_false (show ¬ 0 ≤ t from h), Bool.false_and]) (0, 0)
  unfold longcaselaw08_PosixTimes.f longcaselaw08_shown.f
  simp only [Option.bind_some]
  by_cases h : t ≥ -604799
  · rw [if_pos h]
    exact hj _ (by unfold inB; rw [decide_eq_true (show -604799 ≤ t from h), Bool.true_and])
  · rw [if_neg h]
    exact hj _ (by unfold inB; rw [decide_eq_false (show ¬ -604799 ≤ t from h), Bool.false_and])

theorem PosixTimes_walk (t : Int) (w : World) (hG : GL w) :
    Calls Tryd.prog 10 #[.int .i64 t] w fun e w' => e = .returned (.bool true) ∧ Below w.heap.size w w' :=
  longcaselaw08_PosixTimes.calls 6 t true w hG (PosixTimes_pure t)
end Go.Proofs.YtnbjneknicppcaaDoor.Fn
