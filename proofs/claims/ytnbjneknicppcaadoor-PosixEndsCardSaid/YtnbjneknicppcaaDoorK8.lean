/- Part 8 of the texts for KT: contracts and plain laws that it leans on. -/
import Derived.Test.YtnbjneknicppcaaDoorK2
import Derived.Test.YtnbjneknicppcaaDoorK7
import Derived.Test.YtnbjneknicppcaaDoorK6
import Derived.Test.YtnbjneknicppcaaDoorK5
import Derived.Test.YtnbjneknicppcaaDoorProg
import Derived.ProofKit
import Derived.OpenShut
import Derived.ShutString
import Derived.WalkKit
import Derived.Test.YtnbjneknicppcaaDoorK3
import Derived.Test.YtnbjneknicppcaaDoorRows
import Derived.Stop.LaidErr
import Derived.LaidMore
import Derived.KernelRfl
namespace Go.Proofs.YtnbjneknicppcaaDoor.Fn
open Go.RowKit Go.Proofs.YtnbjneknicppcaaDoorW.PrintWords Go.Proofs.YtnbjneknicppcaaDoorW.PrintLast Go.Proofs.YtnbjneknicppcaaDoorW.PrintMore
attribute [local go_sem] max2_int min2_int max_two min_two max_three min_three max_four min_four
set_option linter.unusedVariables false
set_option linter.unusedSimpArgs false
/-! ### longcaseref08_Print: function 17 -/
def longcaseref08_Print.f (k : Nat) (a0_0 : Int) (a0_1 : Bool) (a0_2 : ByteArray) (a0_3 : Int) (a0_4 : Bool) (a0_5 : ByteArray) (a0_6 : Bool) (a0_7 : Int) (a0_8 : Int) (a0_9 : Int) (a0_10 : Int) (a0_11 : Int) (a0_12 : Int) (a0_13 : Int) (a0_14 : Int) (a0_15 : Int) (a0_16 : Int) : Option (ByteArray) := (longcaseref08_named.f k a0_2).bind fun t208 => ((longcaseref08_hours.f k (wrap64 (-a0_0))).bind fun t209 => (if t208.size + t209.size ≤ 9223372036854775807 then (if a0_6 = true then ((longcaseref08_named.f k a0_5).bind fun t210 => (if (t208 ++ t209).size + t210.size ≤ 9223372036854775807 then (if a0_3 = (wrap64 (a0_0 + 3600)) then (if ((t208 ++ t209) ++ t210).size + 1 ≤ 9223372036854775807 then ((longcaseref08_change.f k a0_7 a0_8 a0_9 a0_10 a0_11).bind fun t211 => (if (((t208 ++ t209) ++ t210) ++ (⟨#[44]⟩ : ByteArray)).size + t211.size ≤ 9223372036854775807 then (if ((((t208 ++ t209) ++ t210) ++ (⟨#[44]⟩ : ByteArray)) ++ t211).size + 1 ≤ 9223372036854775807 then ((longcaseref08_change.f k a0_12 a0_13 a0_14 a0_15 a0_16).bind fun t212 => (if (((((t208 ++ t209) ++ t210) ++ (⟨#[44]⟩ : ByteArray)) ++ t211) ++ (⟨#[44]⟩ : ByteArray)).size + t212.size ≤ 9223372036854775807 then (some ((((((t208 ++ t209) ++ t210) ++ (⟨#[44]⟩ : ByteArray)) ++ t211) ++ (⟨#[44]⟩ : ByteArray)) ++ t212)) else (none))) else (none)) else (none))) else (none)) else ((longcaseref08_hours.f k (wrap64 (-a0_3))).bind fun t213 => (if ((t208 ++ t209) ++ t210).size + t213.size ≤ 9223372036854775807 then (if (((t208 ++ t209) ++ t210) ++ t213).size + 1 ≤ 9223372036854775807 then ((longcaseref08_change.f k a0_7 a0_8 a0_9 a0_10 a0_11).bind fun t214 => (if ((((t208 ++ t209) ++ t210) ++ t213) ++ (⟨#[44]⟩ : ByteArray)).size + t214.size ≤ 9223372036854775807 then (if (((((t208 ++ t209) ++ t210) ++ t213) ++ (⟨#[44]⟩ : ByteArray)) ++ t214).size + 1 ≤ 9223372036854775807 then ((longcaseref08_change.f k a0_12 a0_13 a0_14 a0_15 a0_16).bind fun t215 => (if ((((((t208 ++ t209) ++ t210) ++ t213) ++ (⟨#[44]⟩ : ByteArray)) ++ t214) ++ (⟨#[44]⟩ : ByteArray)).size + t215.size ≤ 9223372036854775807 then (some (((((((t208 ++ t209) ++ t210) ++ t213) ++ (⟨#[44]⟩ : ByteArray)) ++ t214) ++ (⟨#[44]⟩ : ByteArray)) ++ t215)) else (none))) else (none)) else (none))) else (none)) else (none)))) else (none))) else (some (t208 ++ t209))) else (none)))
theorem longcaseref08_Print.mono : ∀ a0 a1 a2 a3 a4 a5 a6 a7 a8 a9 a10 a11 a12 a13 a14 a15 a16 k, LeO (longcaseref08_Print.f k a0 a1 a2 a3 a4 a5 a6 a7 a8 a9 a10 a11 a12 a13 a14 a15 a16) (longcaseref08_Print.f (k + 1) a0 a1 a2 a3 a4 a5 a6 a7 a8 a9 a10 a11 a12 a13 a14 a15 a16) := by
  intro a0 a1 a2 a3 a4 a5 a6 a7 a8 a9 a10 a11 a12 a13 a14 a15 a16 k
  unfold longcaseref08_Print.f
  repeat' first
      | (with_reducible exact longcaseref08_change.mono _ _ _ _ _ _)
      | (with_reducible exact longcaseref08_hours.mono _ _)
      | (with_reducible exact longcaseref08_named.mono _ _)
      | (with_reducible exact LeO.refl _)
      | (with_reducible exact LeO.none _)
      | (with_reducible refine LeO.ite ?_ ?_)
      | (with_reducible refine LeO.bind ?_ (fun _ => ?_))
      | exact longcaseref08_change.mono _ _ _ _ _ _
      | exact longcaseref08_hours.mono _ _
      | exact longcaseref08_named.mono _ _
      | exact LeO.none _
      | refine LeO.ite ?_ ?_
      | refine LeO.bind ?_ (fun _ => ?_)
def longcaseref08_Print.T1 : Bool × List (List Nat × List Nat) := (true, [([], []), ([0], [0]), ([1], [1]), ([2], [2]), ([], []), ([4], [4]), ([5], [5]), ([6], [6]), ([7, 3], [7]), ([3, 8], [3, 8]), ([9, 8, 0, 1, 2, 3, 4, 5, 6, 7, 8, 9], [9])])
def longcaseref08_Print.B1 : List Nat := [0, 1, 3, 7, 0, 16, 48, 112, 255, 511, 1023]
theorem longcaseref08_Print.tab1 : rtab .any (opsOf Tryd.f17 1) = longcaseref08_Print.T1 := by kernel_rfl
theorem longcaseref08_Print.bits1 : waitsOk longcaseref08_Print.T1.2 longcaseref08_Print.B1 = true := by kernel_rfl
def longcaseref08_Print.T7 : Bool × List (List Nat × List Nat) := (true, [([], []), ([0], [0]), ([], []), ([2], [2]), ([3], [3]), ([1, 4], [1, 4]), ([5], [5]), ([], []), ([7], [7]), ([8, 4], [8]), ([6, 9], [6, 9]), ([10, 9, 0, 1, 2, 3, 4, 5, 6, 7, 8, 9, 10], [10])])
def longcaseref08_Print.B7 : List Nat := [0, 1, 0, 4, 12, 31, 63, 0, 128, 412, 1023, 2047]
theorem longcaseref08_Print.tab7 : rtab .any (opsOf Tryd.f17 7) = longcaseref08_Print.T7 := by kernel_rfl
theorem longcaseref08_Print.bits7 : waitsOk longcaseref08_Print.T7.2 longcaseref08_Print.B7 = true := by kernel_rfl
set_option maxHeartbeats 8000000 in
set_option maxRecDepth 100000 in
theorem longcaseref08_Print.calls (k : Nat) (a0_0 : Int) (a0_1 : Bool) (a0_2 : ByteArray) (a0_3 : Int) (a0_4 : Bool) (a0_5 : ByteArray) (a0_6 : Bool) (a0_7 : Int) (a0_8 : Int) (a0_9 : Int) (a0_10 : Int) (a0_11 : Int) (a0_12 : Int) (a0_13 : Int) (a0_14 : Int) (a0_15 : Int) (a0_16 : Int) (r : ByteArray) (w : World) (h : longcaseref08_Print.f k a0_0 a0_1 a0_2 a0_3 a0_4 a0_5 a0_6 a0_7 a0_8 a0_9 a0_10 a0_11 a0_12 a0_13 a0_14 a0_15 a0_16 = some r) :
    Calls Tryd.prog 17 #[.agg #[.int .i64 a0_0, .bool a0_1, .string a0_2, .int .i64 a0_3, .bool a0_4, .string a0_5, .bool a0_6, .int .i64 a0_7, .int .i64 a0_8, .int .i64 a0_9, .int .i64 a0_10, .int .i64 a0_11, .int .i64 a0_12, .int .i64 a0_13, .int .i64 a0_14, .int .i64 a0_15, .int .i64 a0_16]] w fun e w' => e = .returned (.string r) ∧ Below w.heap.size w w' := by
  have hu27 := Tryd.underlying27
  have hu25 := Tryd.underlying25
  have HB := Aside0.mk (Below.refl w.heap.size w)
  have H : ((longcaseref08_named.f k a0_2).bind fun t208 => ((longcaseref08_hours.f k (wrap64 (-a0_0))).bind fun t209 => (if t208.size + t209.size ≤ 9223372036854775807 then (if a0_6 = true then ((longcaseref08_named.f k a0_5).bind fun t210 => (if (t208 ++ t209).size + t210.size ≤ 9223372036854775807 then (if a0_3 = (wrap64 (a0_0 + 3600)) then (if ((t208 ++ t209) ++ t210).size + 1 ≤ 9223372036854775807 then ((longcaseref08_change.f k a0_7 a0_8 a0_9 a0_10 a0_11).bind fun t211 => (if (((t208 ++ t209) ++ t210) ++ (⟨#[44]⟩ : ByteArray)).size + t211.size ≤ 9223372036854775807 then (if ((((t208 ++ t209) ++ t210) ++ (⟨#[44]⟩ : ByteArray)) ++ t211).size + 1 ≤ 9223372036854775807 then ((longcaseref08_change.f k a0_12 a0_13 a0_14 a0_15 a0_16).bind fun t212 => (if (((((t208 ++ t209) ++ t210) ++ (⟨#[44]⟩ : ByteArray)) ++ t211) ++ (⟨#[44]⟩ : ByteArray)).size + t212.size ≤ 9223372036854775807 then (some ((((((t208 ++ t209) ++ t210) ++ (⟨#[44]⟩ : ByteArray)) ++ t211) ++ (⟨#[44]⟩ : ByteArray)) ++ t212)) else (none))) else (none)) else (none))) else (none)) else ((longcaseref08_hours.f k (wrap64 (-a0_3))).bind fun t213 => (if ((t208 ++ t209) ++ t210).size + t213.size ≤ 9223372036854775807 then (if (((t208 ++ t209) ++ t210) ++ t213).size + 1 ≤ 9223372036854775807 then ((longcaseref08_change.f k a0_7 a0_8 a0_9 a0_10 a0_11).bind fun t214 => (if ((((t208 ++ t209) ++ t210) ++ t213) ++ (⟨#[44]⟩ : ByteArray)).size + t214.size ≤ 9223372036854775807 then (if (((((t208 ++ t209) ++ t210) ++ t213) ++ (⟨#[44]⟩ : ByteArray)) ++ t214).size + 1 ≤ 9223372036854775807 then ((longcaseref08_change.f k a0_12 a0_13 a0_14 a0_15 a0_16).bind fun t215 => (if ((((((t208 ++ t209) ++ t210) ++ t213) ++ (⟨#[44]⟩ : ByteArray)) ++ t214) ++ (⟨#[44]⟩ : ByteArray)).size + t215.size ≤ 9223372036854775807 then (some (((((((t208 ++ t209) ++ t210) ++ t213) ++ (⟨#[44]⟩ : ByteArray)) ++ t214) ++ (⟨#[44]⟩ : ByteArray)) ++ t215)) else (none))) else (none)) else (none))) else (none)) else (none)))) else (none))) else (some (t208 ++ t209))) else (none)))) = some r := h
  clear h
  replace H := Option.bind_eq_some_iff.mp H
  obtain ⟨t208, A20, H⟩ := H
  replace H : ((longcaseref08_hours.f k (wrap64 (-a0_0))).bind fun t209 => (if t208.size + t209.size ≤ 9223372036854775807 then (if a0_6 = true then ((longcaseref08_named.f k a0_5).bind fun t210 => (if (t208 ++ t209).size + t210.size ≤ 9223372036854775807 then (if a0_3 = (wrap64 (a0_0 + 3600)) then (if ((t208 ++ t209) ++ t210).size + 1 ≤ 9223372036854775807 then ((longcaseref08_change.f k a0_7 a0_8 a0_9 a0_10 a0_11).bind fun t211 => (if (((t208 ++ t209) ++ t210) ++ (⟨#[44]⟩ : ByteArray)).size + t211.size ≤ 9223372036854775807 then (if ((((t208 ++ t209) ++ t210) ++ (⟨#[44]⟩ : ByteArray)) ++ t211).size + 1 ≤ 9223372036854775807 then ((longcaseref08_change.f k a0_12 a0_13 a0_14 a0_15 a0_16).bind fun t212 => (if (((((t208 ++ t209) ++ t210) ++ (⟨#[44]⟩ : ByteArray)) ++ t211) ++ (⟨#[44]⟩ : ByteArray)).size + t212.size ≤ 9223372036854775807 then (some ((((((t208 ++ t209) ++ t210) ++ (⟨#[44]⟩ : ByteArray)) ++ t211) ++ (⟨#[44]⟩ : ByteArray)) ++ t212)) else (none))) else (none)) else (none))) else (none)) else ((longcaseref08_hours.f k (wrap64 (-a0_3))).bind fun t213 => (if ((t208 ++ t209) ++ t210).size + t213.size ≤ 9223372036854775807 then (if (((t208 ++ t209) ++ t210) ++ t213).size + 1 ≤ 9223372036854775807 then ((longcaseref08_change.f k a0_7 a0_8 a0_9 a0_10 a0_11).bind fun t214 => (if ((((t208 ++ t209) ++ t210) ++ t213) ++ (⟨#[44]⟩ : ByteArray)).size + t214.size ≤ 9223372036854775807 then (if (((((t208 ++ t209) ++ t210) ++ t213) ++ (⟨#[44]⟩ : ByteArray)) ++ t214).size + 1 ≤ 9223372036854775807 then ((longcaseref08_change.f k a0_12 a0_13 a0_14 a0_15 a0_16).bind fun t215 => (if ((((((t208 ++ t209) ++ t210) ++ t213) ++ (⟨#[44]⟩ : ByteArray)) ++ t214) ++ (⟨#[44]⟩ : ByteArray)).size + t215.size ≤ 9223372036854775807 then (some (((((((t208 ++ t209) ++ t210) ++ t213) ++ (⟨#[44]⟩ : ByteArray)) ++ t214) ++ (⟨#[44]⟩ : ByteArray)) ++ t215)) else (none))) else (none)) else (none))) else (none)) else (none)))) else (none))) else (some (t208 ++ t209))) else (none))) = some r := H
  have A2 := Aside0.mk A20
  clear A20
  replace H := Option.bind_eq_some_iff.mp H
  obtain ⟨t209, A30, H⟩ := H
  replace H : (if t208.size + t209.size ≤ 9223372036854775807 then (if a0_6 = true then ((longcaseref08_named.f k a0_5).bind fun t210 => (if (t208 ++ t209).size + t210.size ≤ 9223372036854775807 then (if a0_3 = (wrap64 (a0_0 + 3600)) then (if ((t208 ++ t209) ++ t210).size + 1 ≤ 9223372036854775807 then ((longcaseref08_change.f k a0_7 a0_8 a0_9 a0_10 a0_11).bind fun t211 => (if (((t208 ++ t209) ++ t210) ++ (⟨#[44]⟩ : ByteArray)).size + t211.size ≤ 9223372036854775807 then (if ((((t208 ++ t209) ++ t210) ++ (⟨#[44]⟩ : ByteArray)) ++ t211).size + 1 ≤ 9223372036854775807 then ((longcaseref08_change.f k a0_12 a0_13 a0_14 a0_15 a0_16).bind fun t212 => (if (((((t208 ++ t209) ++ t210) ++ (⟨#[44]⟩ : ByteArray)) ++ t211) ++ (⟨#[44]⟩ : ByteArray)).size + t212.size ≤ 9223372036854775807 then (some ((((((t208 ++ t209) ++ t210) ++ (⟨#[44]⟩ : ByteArray)) ++ t211) ++ (⟨#[44]⟩ : ByteArray)) ++ t212)) else (none))) else (none)) else (none))) else (none)) else ((longcaseref08_hours.f k (wrap64 (-a0_3))).bind fun t213 => (if ((t208 ++ t209) ++ t210).size + t213.size ≤ 9223372036854775807 then (if (((t208 ++ t209) ++ t210) ++ t213).size + 1 ≤ 9223372036854775807 then ((longcaseref08_change.f k a0_7 a0_8 a0_9 a0_10 a0_11).bind fun t214 => (if ((((t208 ++ t209) ++ t210) ++ t213) ++ (⟨#[44]⟩ : ByteArray)).size + t214.size ≤ 9223372036854775807 then (if (((((t208 ++ t209) ++ t210) ++ t213) ++ (⟨#[44]⟩ : ByteArray)) ++ t214).size + 1 ≤ 9223372036854775807 then ((longcaseref08_change.f k a0_12 a0_13 a0_14 a0_15 a0_16).bind fun t215 => (if ((((((t208 ++ t209) ++ t210) ++ t213) ++ (⟨#[44]⟩ : ByteArray)) ++ t214) ++ (⟨#[44]⟩ : ByteArray)).size + t215.size ≤ 9223372036854775807 then (some (((((((t208 ++ t209) ++ t210) ++ t213) ++ (⟨#[44]⟩ : ByteArray)) ++ t214) ++ (⟨#[44]⟩ : ByteArray)) ++ t215)) else (none))) else (none)) else (none))) else (none)) else (none)))) else (none))) else (some (t208 ++ t209))) else (none)) = some r := H
  have A3 := Aside0.mk A30
  clear A30
  by_cases c4 : t208.size + t209.size ≤ 9223372036854775807
  · rw [if_pos c4] at H
    have c4b0 := eq_true c4
    have c4b1 : decide (t208.size + t209.size ≤ 9223372036854775807) = true := decide_eq_true c4
    try have c4b2 : (9223372036854775807 < t208.size + t209.size) = False := eq_false (Nat.not_lt.2 c4)
    by_cases c5 : a0_6 = true
    · subst c5
      have H1 : ((longcaseref08_named.f k a0_5).bind fun t210 => (if (t208 ++ t209).size + t210.size ≤ 9223372036854775807 then (if a0_3 = (wrap64 (a0_0 + 3600)) then (if ((t208 ++ t209) ++ t210).size + 1 ≤ 9223372036854775807 then ((longcaseref08_change.f k a0_7 a0_8 a0_9 a0_10 a0_11).bind fun t211 => (if (((t208 ++ t209) ++ t210) ++ (⟨#[44]⟩ : ByteArray)).size + t211.size ≤ 9223372036854775807 then (if ((((t208 ++ t209) ++ t210) ++ (⟨#[44]⟩ : ByteArray)) ++ t211).size + 1 ≤ 9223372036854775807 then ((longcaseref08_change.f k a0_12 a0_13 a0_14 a0_15 a0_16).bind fun t212 => (if (((((t208 ++ t209) ++ t210) ++ (⟨#[44]⟩ : ByteArray)) ++ t211) ++ (⟨#[44]⟩ : ByteArray)).size + t212.size ≤ 9223372036854775807 then (some ((((((t208 ++ t209) ++ t210) ++ (⟨#[44]⟩ : ByteArray)) ++ t211) ++ (⟨#[44]⟩ : ByteArray)) ++ t212)) else (none))) else (none)) else (none))) else (none)) else ((longcaseref08_hours.f k (wrap64 (-a0_3))).bind fun t213 => (if ((t208 ++ t209) ++ t210).size + t213.size ≤ 9223372036854775807 then (if (((t208 ++ t209) ++ t210) ++ t213).size + 1 ≤ 9223372036854775807 then ((longcaseref08_change.f k a0_7 a0_8 a0_9 a0_10 a0_11).bind fun t214 => (if ((((t208 ++ t209) ++ t210) ++ t213) ++ (⟨#[44]⟩ : ByteArray)).size + t214.size ≤ 9223372036854775807 then (if (((((t208 ++ t209) ++ t210) ++ t213) ++ (⟨#[44]⟩ : ByteArray)) ++ t214).size + 1 ≤ 9223372036854775807 then ((longcaseref08_change.f k a0_12 a0_13 a0_14 a0_15 a0_16).bind fun t215 => (if ((((((t208 ++ t209) ++ t210) ++ t213) ++ (⟨#[44]⟩ : ByteArray)) ++ t214) ++ (⟨#[44]⟩ : ByteArray)).size + t215.size ≤ 9223372036854775807 then (some (((((((t208 ++ t209) ++ t210) ++ t213) ++ (⟨#[44]⟩ : ByteArray)) ++ t214) ++ (⟨#[44]⟩ : ByteArray)) ++ t215)) else (none))) else (none)) else (none))) else (none)) else (none)))) else (none))) = some r := by rw [if_pos rfl] at H; exact H
      clear H
      have H := H1
      clear H1
      replace H := Option.bind_eq_some_iff.mp H
      obtain ⟨t210, A60, H⟩ := H
      replace H : (if (t208 ++ t209).size + t210.size ≤ 9223372036854775807 then (if a0_3 = (wrap64 (a0_0 + 3600)) then (if ((t208 ++ t209) ++ t210).size + 1 ≤ 9223372036854775807 then ((longcaseref08_change.f k a0_7 a0_8 a0_9 a0_10 a0_11).bind fun t211 => (if (((t208 ++ t209) ++ t210) ++ (⟨#[44]⟩ : ByteArray)).size + t211.size ≤ 9223372036854775807 then (if ((((t208 ++ t209) ++ t210) ++ (⟨#[44]⟩ : ByteArray)) ++ t211).size + 1 ≤ 9223372036854775807 then ((longcaseref08_change.f k a0_12 a0_13 a0_14 a0_15 a0_16).bind fun t212 => (if (((((t208 ++ t209) ++ t210) ++ (⟨#[44]⟩ : ByteArray)) ++ t211) ++ (⟨#[44]⟩ : ByteArray)).size + t212.size ≤ 9223372036854775807 then (some ((((((t208 ++ t209) ++ t210) ++ (⟨#[44]⟩ : ByteArray)) ++ t211) ++ (⟨#[44]⟩ : ByteArray)) ++ t212)) else (none))) else (none)) else (none))) else (none)) else ((longcaseref08_hours.f k (wrap64 (-a0_3))).bind fun t213 => (if ((t208 ++ t209) ++ t210).size + t213.size ≤ 9223372036854775807 then (if (((t208 ++ t209) ++ t210) ++ t213).size + 1 ≤ 9223372036854775807 then ((longcaseref08_change.f k a0_7 a0_8 a0_9 a0_10 a0_11).bind fun t214 => (if ((((t208 ++ t209) ++ t210) ++ t213) ++ (⟨#[44]⟩ : ByteArray)).size + t214.size ≤ 9223372036854775807 then (if (((((t208 ++ t209) ++ t210) ++ t213) ++ (⟨#[44]⟩ : ByteArray)) ++ t214).size + 1 ≤ 9223372036854775807 then ((longcaseref08_change.f k a0_12 a0_13 a0_14 a0_15 a0_16).bind fun t215 => (if ((((((t208 ++ t209) ++ t210) ++ t213) ++ (⟨#[44]⟩ : ByteArray)) ++ t214) ++ (⟨#[44]⟩ : ByteArray)).size + t215.size ≤ 9223372036854775807 then (some (((((((t208 ++ t209) ++ t210) ++ t213) ++ (⟨#[44]⟩ : ByteArray)) ++ t214) ++ (⟨#[44]⟩ : ByteArray)) ++ t215)) else (none))) else (none)) else (none))) else (none)) else (none)))) else (none)) = some r := H
      have A6 := Aside0.mk A60
      clear A60
      by_cases c7 : (t208 ++ t209).size + t210.size ≤ 9223372036854775807
      · rw [if_pos c7] at H
        have c7b0 := eq_true c7
        have c7b1 : decide ((t208 ++ t209).size + t210.size ≤ 9223372036854775807) = true := decide_eq_true c7
        try have c7b2 : (9223372036854775807 < (t208 ++ t209).size + t210.size) = False := eq_false (Nat.not_lt.2 c7)
        have c7z0 : (t208.size + t209.size) + t210.size ≤ 9223372036854775807 := by have z_ := c7; simp only [ByteArray.size_append] at z_; exact z_
        try have c7z1 : (9223372036854775807 < (t208.size + t209.size) + t210.size) = False := eq_false (Nat.not_lt.2 c7z0)
        by_cases c8 : a0_3 = (wrap64 (a0_0 + 3600))
        · rw [if_pos c8] at H
          have c8b0 : (a0_3 == (wrap64 (a0_0 + 3600))) = true := beq_iff_eq.mpr c8
          have c8b1 : (a0_3 != (wrap64 (a0_0 + 3600))) = false := bne_eq_false_iff_eq.mpr c8
          clear c8
          by_cases c9 : ((t208 ++ t209) ++ t210).size + 1 ≤ 9223372036854775807
          · rw [if_pos c9] at H
            have c9b0 := eq_true c9
            have c9b1 : decide (((t208 ++ t209) ++ t210).size + 1 ≤ 9223372036854775807) = true := decide_eq_true c9
            try have c9b2 : (9223372036854775807 < ((t208 ++ t209) ++ t210).size + 1) = False := eq_false (Nat.not_lt.2 c9)
            have c9z0 : ((t208.size + t209.size) + t210.size) + 1 ≤ 9223372036854775807 := by have z_ := c9; simp only [ByteArray.size_append] at z_; exact z_
            try have c9z1 : (9223372036854775807 < ((t208.size + t209.size) + t210.size) + 1) = False := eq_false (Nat.not_lt.2 c9z0)
            replace H := Option.bind_eq_some_iff.mp H
            obtain ⟨t211, A100, H⟩ := H
            replace H : (if (((t208 ++ t209) ++ t210) ++ (⟨#[44]⟩ : ByteArray)).size + t211.size ≤ 9223372036854775807 then (if ((((t208 ++ t209) ++ t210) ++ (⟨#[44]⟩ : ByteArray)) ++ t211).size + 1 ≤ 9223372036854775807 then ((longcaseref08_change.f k a0_12 a0_13 a0_14 a0_15 a0_16).bind fun t212 => (if (((((t208 ++ t209) ++ t210) ++ (⟨#[44]⟩ : ByteArray)) ++ t211) ++ (⟨#[44]⟩ : ByteArray)).size + t212.size ≤ 9223372036854775807 then (some ((((((t208 ++ t209) ++ t210) ++ (⟨#[44]⟩ : ByteArray)) ++ t211) ++ (⟨#[44]⟩ : ByteArray)) ++ t212)) else (none))) else (none)) else (none)) = some r := H
            have A10 := Aside0.mk A100
            clear A100
            by_cases c11 : (((t208 ++ t209) ++ t210) ++ (⟨#[44]⟩ : ByteArray)).size + t211.size ≤ 9223372036854775807
            · rw [if_pos c11] at H
              have c11b0 := eq_true c11
              have c11b1 : decide ((((t208 ++ t209) ++ t210) ++ (⟨#[44]⟩ : ByteArray)).size + t211.size ≤ 9223372036854775807) = true := decide_eq_true c11
              try have c11b2 : (9223372036854775807 < (((t208 ++ t209) ++ t210) ++ (⟨#[44]⟩ : ByteArray)).size + t211.size) = False := eq_false (Nat.not_lt.2 c11)
              have c11z0 : (((t208.size + t209.size) + t210.size) + 1) + t211.size ≤ 9223372036854775807 := by have z_ := c11; simp only [ByteArray.size_append] at z_; exact z_
              try have c11z1 : (9223372036854775807 < (((t208.size + t209.size) + t210.size) + 1) + t211.size) = False := eq_false (Nat.not_lt.2 c11z0)
              by_cases c12 : ((((t208 ++ t209) ++ t210) ++ (⟨#[44]⟩ : ByteArray)) ++ t211).size + 1 ≤ 9223372036854775807
              · rw [if_pos c12] at H
                have c12b0 := eq_true c12
                have c12b1 : decide (((((t208 ++ t209) ++ t210) ++ (⟨#[44]⟩ : ByteArray)) ++ t211).size + 1 ≤ 9223372036854775807) = true := decide_eq_true c12
                try have c12b2 : (9223372036854775807 < ((((t208 ++ t209) ++ t210) ++ (⟨#[44]⟩ : ByteArray)) ++ t211).size + 1) = False := eq_false (Nat.not_lt.2 c12)
                have c12z0 : ((((t208.size + t209.size) + t210.size) + 1) + t211.size) + 1 ≤ 9223372036854775807 := by have z_ := c12; simp only [ByteArray.size_append] at z_; exact z_
                try have c12z1 : (9223372036854775807 < ((((t208.size + t209.size) + t210.size) + 1) + t211.size) + 1) = False := eq_false (Nat.not_lt.2 c12z0)
                replace H := Option.bind_eq_some_iff.mp H
                obtain ⟨t212, A130, H⟩ := H
                replace H : (if (((((t208 ++ t209) ++ t210) ++ (⟨#[44]⟩ : ByteArray)) ++ t211) ++ (⟨#[44]⟩ : ByteArray)).size + t212.size ≤ 9223372036854775807 then (some ((((((t208 ++ t209) ++ t210) ++ (⟨#[44]⟩ : ByteArray)) ++ t211) ++ (⟨#[44]⟩ : ByteArray)) ++ t212)) else (none)) = some r := H
                have A13 := Aside0.mk A130
                clear A130
                by_cases c14 : (((((t208 ++ t209) ++ t210) ++ (⟨#[44]⟩ : ByteArray)) ++ t211) ++ (⟨#[44]⟩ : ByteArray)).size + t212.size ≤ 9223372036854775807
                · rw [if_pos c14] at H
                  have c14b0 := eq_true c14
                  have c14b1 : decide ((((((t208 ++ t209) ++ t210) ++ (⟨#[44]⟩ : ByteArray)) ++ t211) ++ (⟨#[44]⟩ : ByteArray)).size + t212.size ≤ 9223372036854775807) = true := decide_eq_true c14
                  try have c14b2 : (9223372036854775807 < (((((t208 ++ t209) ++ t210) ++ (⟨#[44]⟩ : ByteArray)) ++ t211) ++ (⟨#[44]⟩ : ByteArray)).size + t212.size) = False := eq_false (Nat.not_lt.2 c14)
                  have c14z0 : (((((t208.size + t209.size) + t210.size) + 1) + t211.size) + 1) + t212.size ≤ 9223372036854775807 := by have z_ := c14; simp only [ByteArray.size_append] at z_; exact z_
                  try have c14z1 : (9223372036854775807 < (((((t208.size + t209.size) + t210.size) + 1) + t211.size) + 1) + t212.size) = False := eq_false (Nat.not_lt.2 c14z0)
                  obtain rfl := Option.some.inj H
                  go_enter Tryd.func17, Tryd.ntmps17
                  try go_wp2_with (first | ((with_reducible refine gate_dst (N := 1) rfl ?_); refine box_event ?hg (N := 1) ?hd (cs := #[.int .i64 a0_0, .bool a0_1, .string a0_2, .int .i64 a0_3, .bool a0_4, .string a0_5, .bool true, .int .i64 a0_7, .int .i64 a0_8, .int .i64 a0_9, .int .i64 a0_10, .int .i64 a0_11, .int .i64 a0_12, .int .i64 a0_13, .int .i64 a0_14, .int .i64 a0_15, .int .i64 a0_16]) (t := 27) ?hr ?_; (case hd => rfl); (case hg => rfl); (case hr => first | (go_simp; done) | (go_simp; rfl)); intro gb207 hg w15 hbox hb; have n0_ := Aside0.mk (below_step (by repeat (first | (with_reducible first | exact HB.out | apply below_alloc | apply pw_below_drewN | apply below_drew1) | exact HB.out)) hb); have n1_ := Aside0.mk (hbox); have n2_ := Aside0.mk ((by rw [hg]; exact (below_size (by repeat (first | (with_reducible first | exact HB.out | apply below_alloc | apply pw_below_drewN | apply below_drew1) | exact HB.out))) : w.heap.size ≤ gb207)); have n3_ := Aside0.mk ((by rw [hg]; exact (below_size (by repeat (first | (with_reducible first | exact HB.out | apply below_alloc | apply pw_below_drewN | apply below_drew1) | exact HB.out))) : w.heap.size ≤ gb207)); clear HB; have HB := n0_; have BK207 := n1_; have GW207 := n2_; have GE207 := n3_; clear n0_ n1_ n2_ n3_; clear hb hbox hg))
                  have n0_ := Aside0.mk (blk_drew BK207.out)
                  have n1_ := Aside0.mk (below_drew1 HB.out)
                  clear BK207
                  clear HB
                  have BK207 := n0_
                  have HB := n1_
                  clear n0_ n1_
                  refine start_ (n := 11) (S := fun w' => w'.cell? ⟨gb207, 0, none⟩ = some (.int .i64 a0_0) ∧ w'.cell? ⟨gb207, 1, none⟩ = some (.bool a0_1) ∧ w'.cell? ⟨gb207, 2, none⟩ = some (.string a0_2) ∧ w'.cell? ⟨gb207, 3, none⟩ = some (.int .i64 a0_3) ∧ w'.cell? ⟨gb207, 4, none⟩ = some (.bool a0_4) ∧ w'.cell? ⟨gb207, 5, none⟩ = some (.string a0_5) ∧ w'.cell? ⟨gb207, 6, none⟩ = some (.bool true) ∧ w'.cell? ⟨gb207, 7, none⟩ = some (.int .i64 a0_7) ∧ w'.cell? ⟨gb207, 8, none⟩ = some (.int .i64 a0_8) ∧ w'.cell? ⟨gb207, 9, none⟩ = some (.int .i64 a0_9) ∧ w'.cell? ⟨gb207, 10, none⟩ = some (.int .i64 a0_10) ∧ w'.cell? ⟨gb207, 11, none⟩ = some (.int .i64 a0_11) ∧ w'.cell? ⟨gb207, 12, none⟩ = some (.int .i64 a0_12) ∧ w'.cell? ⟨gb207, 13, none⟩ = some (.int .i64 a0_13) ∧ w'.cell? ⟨gb207, 14, none⟩ = some (.int .i64 a0_14) ∧ w'.cell? ⟨gb207, 15, none⟩ = some (.int .i64 a0_15) ∧ w'.cell? ⟨gb207, 16, none⟩ = some (.int .i64 a0_16)) (ds := []) #[false, false, false, false, false, false, false, false, false, false, false] (by kernel_rfl) rfl rfl ⟨(blk_cell BK207.out 0).trans rfl, (blk_cell BK207.out 1).trans rfl, (blk_cell BK207.out 2).trans rfl, (blk_cell BK207.out 3).trans rfl, (blk_cell BK207.out 4).trans rfl, (blk_cell BK207.out 5).trans rfl, (blk_cell BK207.out 6).trans rfl, (blk_cell BK207.out 7).trans rfl, (blk_cell BK207.out 8).trans rfl, (blk_cell BK207.out 9).trans rfl, (blk_cell BK207.out 10).trans rfl, (blk_cell BK207.out 11).trans rfl, (blk_cell BK207.out 12).trans rfl, (blk_cell BK207.out 13).trans rfl, (blk_cell BK207.out 14).trans rfl, (blk_cell BK207.out 15).trans rfl, (blk_cell BK207.out 16).trans rfl⟩ (fun hHeld => ?_); refine with_tabW longcaseref08_Print.tab1 longcaseref08_Print.bits1 (fun HT_ HW_ => ?_)
                  generalize w15.drew = w16 at BK207 HB hHeld ⊢
                  refine pure_ (i := 0) (N := some 4) (v := ?_) (a' := ?_) #[true, false, false, false, false, false, false, false, false, false, false] rfl rfl (any_of HT_.out (by kernel_rfl)) (fun _ _ _ h => h) (Or.inl ⟨by rfl, ?_⟩) ?_ ?_
                  rotate_left
                  · intro w'
                    go_simp
                    with_reducible rfl
                  rotate_left
                  · simp only [Act.put, List.setIfInBounds_toArray, List.set_cons_zero, List.set_cons_succ, i64_w, i32_w]
                    rfl
                  refine pure_ (i := 1) (N := some 5) (v := ?_) (a' := ?_) #[true, true, false, false, false, false, false, false, false, false, false] rfl rfl (any_of HT_.out (by kernel_rfl)) (fun _ _ _ h => h) (Or.inl ⟨by rfl, ?_⟩) ?_ ?_
                  rotate_left
                  · intro w'
                    go_simp
                    with_reducible rfl
                  rotate_left
                  · simp only [Act.put, List.setIfInBounds_toArray, List.set_cons_zero, List.set_cons_succ, i64_w, i32_w]
                    rfl
                  refine pure_ (i := 4) (N := some 8) (v := ?_) (a' := ?_) #[true, true, false, false, true, false, false, false, false, false, false] rfl rfl (any_of HT_.out (by kernel_rfl)) (fun _ _ _ h => h) (Or.inl ⟨by rfl, ?_⟩) ?_ ?_
                  rotate_left
                  · intro w'
                    go_simp
                    with_reducible rfl
                  rotate_left
                  · simp only [Act.put, List.setIfInBounds_toArray, List.set_cons_zero, List.set_cons_succ, i64_w, i32_w]
                    rfl
                  refine pure_ (i := 5) (N := some 9) (v := ?_) (a' := ?_) #[true, true, false, false, true, true, false, false, false, false, false] rfl rfl (any_of HT_.out (by kernel_rfl)) (fun _ _ _ h => h) (Or.inl ⟨by rfl, ?_⟩) ?_ ?_
                  rotate_left
                  · intro w'
                    go_simp
                    with_reducible rfl
                  rotate_left
                  · simp only [Act.put, List.setIfInBounds_toArray, List.set_cons_zero, List.set_cons_succ, i64_w, i32_w]
                    rfl
                  refine take_ (i := 2) (N := some 6) (v := ?_) (a' := ?_) #[true, true, true, false, true, true, false, false, false, false, false] rfl rfl (take_ofW HT_.out HW_.out (by kernel_rfl)) (fun _ _ _ h => h) (Or.inl ⟨by rfl, ?_⟩) hHeld ?_ ?_
                  rotate_left
                  · rintro w' ⟨s0, s1, s2, s3, s4, s5, s6, s7, s8, s9, s10, s11, s12, s13, s14, s15, s16⟩
                    go_simp
                    with_reducible rfl
                  rotate_left
                  · simp only [Act.put, List.setIfInBounds_toArray, List.set_cons_zero, List.set_cons_succ, i64_w, i32_w]
                    rfl
                  refine take_ (i := 6) (N := some 10) (v := ?_) (a' := ?_) #[true, true, true, false, true, true, true, false, false, false, false] rfl rfl (take_ofW HT_.out HW_.out (by kernel_rfl)) (fun _ _ _ h => h) (Or.inl ⟨by rfl, ?_⟩) hHeld ?_ ?_
                  rotate_left
                  · rintro w' ⟨s0, s1, s2, s3, s4, s5, s6, s7, s8, s9, s10, s11, s12, s13, s14, s15, s16⟩
                    go_simp
                    with_reducible rfl
                  rotate_left
                  · simp only [Act.put, List.setIfInBounds_toArray, List.set_cons_zero, List.set_cons_succ, i64_w, i32_w]
                    rfl
                  refine pure_ (i := 7) (N := some 11) (v := ?_) (a' := ?_) #[true, true, true, false, true, true, true, true, false, false, false] rfl rfl (any_of HT_.out (by kernel_rfl)) (fun _ _ _ h => h) (Or.inl ⟨by rfl, ?_⟩) ?_ ?_
                  rotate_left
                  · intro w'
                    go_simp
                    with_reducible rfl
                  rotate_left
                  · simp only [Act.put, List.setIfInBounds_toArray, List.set_cons_zero, List.set_cons_succ, i64_w, i32_w]
                    rfl
                  refine one_ (i := 3) (N := some 7) #[true, true, true, true, true, true, true, true, false, false, false] rfl rfl (one_of HT_.out (by kernel_rfl)) (by decide) (fun K hK => ?_)
                  refine goes_ Tryd.func32 (by kernel_rfl) rfl #[.string a0_2] (by rfl) rfl rfl (by (try simp only [List.map_toArray, List.map_cons, List.map_nil]); first | done | rfl | (simp only [List.length_drop, List.length_take]; rfl)) ?_
                  with_reducible refine (longcaseref08_named.calls k a0_2 t208 _ A2.out).mono ?_
                  rintro e w' ⟨rfl, ⟨nd, rfl⟩⟩
                  refine ⟨_, rfl, ?_⟩
                  refine hK.out _ _ ⟨(blk_cell BK207.out 0).trans rfl, (blk_cell BK207.out 1).trans rfl, (blk_cell BK207.out 2).trans rfl, (blk_cell BK207.out 3).trans rfl, (blk_cell BK207.out 4).trans rfl, (blk_cell BK207.out 5).trans rfl, (blk_cell BK207.out 6).trans rfl, (blk_cell BK207.out 7).trans rfl, (blk_cell BK207.out 8).trans rfl, (blk_cell BK207.out 9).trans rfl, (blk_cell BK207.out 10).trans rfl, (blk_cell BK207.out 11).trans rfl, (blk_cell BK207.out 12).trans rfl, (blk_cell BK207.out 13).trans rfl, (blk_cell BK207.out 14).trans rfl, (blk_cell BK207.out 15).trans rfl, (blk_cell BK207.out 16).trans rfl⟩ (fun hHeld => ?_)
                  clear hK K
                  refine norm_ (a' := ?_) ?_ ?_
                  rotate_left
                  · show Act.put _ (some 7) _ = _
                    simp only [Act.put, List.setIfInBounds_toArray, List.set_cons_zero, List.set_cons_succ, i64_w, i32_w]
                    rfl
                  refine one_ (i := 8) (N := some 12) #[true, true, true, true, true, true, true, true, true, false, false] rfl rfl (one_of HT_.out (by kernel_rfl)) (by decide) (fun K hK => ?_)
                  refine goes_ Tryd.func33 (by kernel_rfl) rfl #[.int .i64 (wrap64 (-a0_0))] (by rfl) rfl rfl (by (try simp only [List.map_toArray, List.map_cons, List.map_nil]); first | done | rfl | (simp only [List.length_drop, List.length_take]; rfl)) ?_
                  with_reducible refine (longcaseref08_hours.calls k (wrap64 (-a0_0)) t209 _ A3.out).mono ?_
                  rintro e w17 ⟨rfl, hb⟩
                  refine ⟨_, rfl, ?_⟩
                  have n0_ := Aside0.mk (blk_below (g := gb207) (o := .cells #[.int .i64 a0_0, .bool a0_1, .string a0_2, .int .i64 a0_3, .bool a0_4, .string a0_5, .bool true, .int .i64 a0_7, .int .i64 a0_8, .int .i64 a0_9, .int .i64 a0_10, .int .i64 a0_11, .int .i64 a0_12, .int .i64 a0_13, .int .i64 a0_14, .int .i64 a0_15, .int .i64 a0_16] 27 (0, 0)) (by (with_reducible repeat (first | refine blk_drewN ?_ _ | refine blk_drew ?_ | refine blk_alloc ?_ _)); exact BK207.out) hb)
                  have n1_ := Aside0.mk (below_step (by repeat (first | (with_reducible first | exact HB.out | apply below_alloc | apply pw_below_drewN | apply below_drew1 | refine below_set ?_ GE207.out) | exact HB.out)) hb)
                  clear BK207
                  clear HB
                  have BK207 := n0_
                  have HB := n1_
                  clear n0_ n1_
                  (try clear hb)
                  (try clear hb2)
                  (try clear hk)
                  (try clear hi)
                  refine hK.out _ _ ⟨(blk_cell BK207.out 0).trans rfl, (blk_cell BK207.out 1).trans rfl, (blk_cell BK207.out 2).trans rfl, (blk_cell BK207.out 3).trans rfl, (blk_cell BK207.out 4).trans rfl, (blk_cell BK207.out 5).trans rfl, (blk_cell BK207.out 6).trans rfl, (blk_cell BK207.out 7).trans rfl, (blk_cell BK207.out 8).trans rfl, (blk_cell BK207.out 9).trans rfl, (blk_cell BK207.out 10).trans rfl, (blk_cell BK207.out 11).trans rfl, (blk_cell BK207.out 12).trans rfl, (blk_cell BK207.out 13).trans rfl, (blk_cell BK207.out 14).trans rfl, (blk_cell BK207.out 15).trans rfl, (blk_cell BK207.out 16).trans rfl⟩ (fun hHeld => ?_)
                  clear hK K
                  refine norm_ (a' := ?_) ?_ ?_
                  rotate_left
                  · show Act.put _ (some 12) _ = _
                    simp only [Act.put, List.setIfInBounds_toArray, List.set_cons_zero, List.set_cons_succ, i64_w, i32_w]
                    rfl
                  refine pure_ (i := 9) (N := some 13) (v := ?_) (a' := ?_) #[true, true, true, true, true, true, true, true, true, true, false] rfl rfl (any_of HT_.out (by kernel_rfl)) (fun _ _ _ h => h) (Or.inl ⟨by rfl, ?_⟩) ?_ ?_
                  rotate_left
                  · intro w'
                    go_simp
                    with_reducible rfl
                  rotate_left
                  · simp only [Act.put, List.setIfInBounds_toArray, List.set_cons_zero, List.set_cons_succ, i64_w, i32_w]
                    rfl
                  refine pure_ (i := 10) (N := some 3) (v := ?_) (a' := ?_) #[true, true, true, true, true, true, true, true, true, true, true] rfl rfl (any_of HT_.out (by kernel_rfl)) (fun _ _ _ h => h) (Or.inl ⟨by rfl, ?_⟩) ?_ ?_
                  rotate_left
                  · intro w'
                    go_simp
                    with_reducible rfl
                  rotate_left
                  · simp only [Act.put, List.setIfInBounds_toArray, List.set_cons_zero, List.set_cons_succ, i64_w, i32_w]
                    rfl
                  refine done_ (done_of HT_.out (by kernel_rfl)) ?_
                  have hcz18_0 : w17.cell? ⟨gb207, 0, none⟩ = some (.int .i64 a0_0) := (blk_cell BK207.out 0).trans rfl
                  have hcz18_1 : w17.cell? ⟨gb207, 1, none⟩ = some (.bool a0_1) := (blk_cell BK207.out 1).trans rfl
                  have hcz18_2 : w17.cell? ⟨gb207, 2, none⟩ = some (.string a0_2) := (blk_cell BK207.out 2).trans rfl
                  have hcz18_3 : w17.cell? ⟨gb207, 3, none⟩ = some (.int .i64 a0_3) := (blk_cell BK207.out 3).trans rfl
                  have hcz18_4 : w17.cell? ⟨gb207, 4, none⟩ = some (.bool a0_4) := (blk_cell BK207.out 4).trans rfl
                  have hcz18_5 : w17.cell? ⟨gb207, 5, none⟩ = some (.string a0_5) := (blk_cell BK207.out 5).trans rfl
                  have hcz18_6 : w17.cell? ⟨gb207, 6, none⟩ = some (.bool true) := (blk_cell BK207.out 6).trans rfl
                  have hcz18_7 : w17.cell? ⟨gb207, 7, none⟩ = some (.int .i64 a0_7) := (blk_cell BK207.out 7).trans rfl
                  have hcz18_8 : w17.cell? ⟨gb207, 8, none⟩ = some (.int .i64 a0_8) := (blk_cell BK207.out 8).trans rfl
                  have hcz18_9 : w17.cell? ⟨gb207, 9, none⟩ = some (.int .i64 a0_9) := (blk_cell BK207.out 9).trans rfl
                  have hcz18_10 : w17.cell? ⟨gb207, 10, none⟩ = some (.int .i64 a0_10) := (blk_cell BK207.out 10).trans rfl
                  have hcz18_11 : w17.cell? ⟨gb207, 11, none⟩ = some (.int .i64 a0_11) := (blk_cell BK207.out 11).trans rfl
                  have hcz18_12 : w17.cell? ⟨gb207, 12, none⟩ = some (.int .i64 a0_12) := (blk_cell BK207.out 12).trans rfl
                  have hcz18_13 : w17.cell? ⟨gb207, 13, none⟩ = some (.int .i64 a0_13) := (blk_cell BK207.out 13).trans rfl
                  have hcz18_14 : w17.cell? ⟨gb207, 14, none⟩ = some (.int .i64 a0_14) := (blk_cell BK207.out 14).trans rfl
                  have hcz18_15 : w17.cell? ⟨gb207, 15, none⟩ = some (.int .i64 a0_15) := (blk_cell BK207.out 15).trans rfl
                  have hcz18_16 : w17.cell? ⟨gb207, 16, none⟩ = some (.int .i64 a0_16) := (blk_cell BK207.out 16).trans rfl
                  have hfz18_0 := blk_frozen BK207.out 0
                  have hfz18_1 := blk_frozen BK207.out 1
                  have hfz18_2 := blk_frozen BK207.out 2
                  have hfz18_3 := blk_frozen BK207.out 3
                  have hfz18_4 := blk_frozen BK207.out 4
                  have hfz18_5 := blk_frozen BK207.out 5
                  have hfz18_6 := blk_frozen BK207.out 6
                  have hfz18_7 := blk_frozen BK207.out 7
                  have hfz18_8 := blk_frozen BK207.out 8
                  have hfz18_9 := blk_frozen BK207.out 9
                  have hfz18_10 := blk_frozen BK207.out 10
                  have hfz18_11 := blk_frozen BK207.out 11
                  have hfz18_12 := blk_frozen BK207.out 12
                  have hfz18_13 := blk_frozen BK207.out 13
                  have hfz18_14 := blk_frozen BK207.out 14
                  have hfz18_15 := blk_frozen BK207.out 15
                  have hfz18_16 := blk_frozen BK207.out 16
                  try go_wp2_with (first | ((with_reducible refine gate_callee (f := 32) rfl ?_); refine goesL_ (some 22) rfl rfl Tryd.func32 (by kernel_rfl) rfl #[.string a0_5] rfl (by (try simp only [List.map_toArray, List.map_cons, List.map_nil]); first | done | rfl | (simp only [List.length_drop, List.length_take]; rfl)) ?_; (with_reducible refine (longcaseref08_named.calls k a0_5 t210 _ A6.out).mono ?_); rintro e w' ⟨rfl, ⟨nd, rfl⟩⟩; refine ⟨_, rfl, ?_⟩))
                  (try (rw [drewN_self w17]; generalize hq_ : World.drewN w17 _ = w17; have n0_ : Aside0 (w17.heap[gb207]? = some (.cells #[.int .i64 a0_0, .bool a0_1, .string a0_2, .int .i64 a0_3, .bool a0_4, .string a0_5, .bool true, .int .i64 a0_7, .int .i64 a0_8, .int .i64 a0_9, .int .i64 a0_10, .int .i64 a0_11, .int .i64 a0_12, .int .i64 a0_13, .int .i64 a0_14, .int .i64 a0_15, .int .i64 a0_16] 27 (0, 0))) := ⟨by rw [← hq_]; exact (by (with_reducible repeat (first | refine blk_drewN ?_ _ | refine blk_drew ?_ | refine blk_alloc ?_ _)); exact BK207.out)⟩; have n1_ : Aside0 (Below w.heap.size w w17) := ⟨by rw [← hq_]; exact (by repeat (first | (with_reducible first | exact HB.out | apply below_alloc | apply pw_below_drewN | apply below_drew1 | refine below_set ?_ GE207.out) | exact HB.out))⟩; clear BK207 HB hq_; have BK207 := n0_; have HB := n1_; clear n0_ n1_))
                  have n0_ := Aside0.mk (blk_drew BK207.out)
                  have n1_ := Aside0.mk (below_drew1 HB.out)
                  clear BK207
                  clear HB
                  have BK207 := n0_
                  have HB := n1_
                  clear n0_ n1_
                  refine start_ (n := 12) (S := fun w' => w'.cell? ⟨gb207, 0, none⟩ = some (.int .i64 a0_0) ∧ w'.cell? ⟨gb207, 1, none⟩ = some (.bool a0_1) ∧ w'.cell? ⟨gb207, 2, none⟩ = some (.string a0_2) ∧ w'.cell? ⟨gb207, 3, none⟩ = some (.int .i64 a0_3) ∧ w'.cell? ⟨gb207, 4, none⟩ = some (.bool a0_4) ∧ w'.cell? ⟨gb207, 5, none⟩ = some (.string a0_5) ∧ w'.cell? ⟨gb207, 6, none⟩ = some (.bool true) ∧ w'.cell? ⟨gb207, 7, none⟩ = some (.int .i64 a0_7) ∧ w'.cell? ⟨gb207, 8, none⟩ = some (.int .i64 a0_8) ∧ w'.cell? ⟨gb207, 9, none⟩ = some (.int .i64 a0_9) ∧ w'.cell? ⟨gb207, 10, none⟩ = some (.int .i64 a0_10) ∧ w'.cell? ⟨gb207, 11, none⟩ = some (.int .i64 a0_11) ∧ w'.cell? ⟨gb207, 12, none⟩ = some (.int .i64 a0_12) ∧ w'.cell? ⟨gb207, 13, none⟩ = some (.int .i64 a0_13) ∧ w'.cell? ⟨gb207, 14, none⟩ = some (.int .i64 a0_14) ∧ w'.cell? ⟨gb207, 15, none⟩ = some (.int .i64 a0_15) ∧ w'.cell? ⟨gb207, 16, none⟩ = some (.int .i64 a0_16)) (ds := []) #[false, false, false, false, false, false, false, false, false, false, false, false] (by kernel_rfl) rfl rfl ⟨(blk_cell BK207.out 0).trans rfl, (blk_cell BK207.out 1).trans rfl, (blk_cell BK207.out 2).trans rfl, (blk_cell BK207.out 3).trans rfl, (blk_cell BK207.out 4).trans rfl, (blk_cell BK207.out 5).trans rfl, (blk_cell BK207.out 6).trans rfl, (blk_cell BK207.out 7).trans rfl, (blk_cell BK207.out 8).trans rfl, (blk_cell BK207.out 9).trans rfl, (blk_cell BK207.out 10).trans rfl, (blk_cell BK207.out 11).trans rfl, (blk_cell BK207.out 12).trans rfl, (blk_cell BK207.out 13).trans rfl, (blk_cell BK207.out 14).trans rfl, (blk_cell BK207.out 15).trans rfl, (blk_cell BK207.out 16).trans rfl⟩ (fun hHeld => ?_); refine with_tabW longcaseref08_Print.tab7 longcaseref08_Print.bits7 (fun HT_ HW_ => ?_)
                  generalize w17.drew = w19 at BK207 HB hHeld ⊢
                  refine pure_ (i := 0) (N := some 39) (v := ?_) (a' := ?_) #[true, false, false, false, false, false, false, false, false, false, false, false] rfl rfl (any_of HT_.out (by kernel_rfl)) (fun _ _ _ h => h) (Or.inl ⟨by rfl, ?_⟩) ?_ ?_
                  rotate_left
                  · intro w'
                    go_simp
                    with_reducible rfl
                  rotate_left
                  · simp only [Act.put, List.setIfInBounds_toArray, List.set_cons_zero, List.set_cons_succ, i64_w, i32_w]
                    rfl
                  refine pure_ (i := 1) (N := some 40) (v := ?_) (a' := ?_) #[true, true, false, false, false, false, false, false, false, false, false, false] rfl rfl (any_of HT_.out (by kernel_rfl)) (fun _ _ _ h => h) (Or.inl ⟨by rfl, ?_⟩) ?_ ?_
                  rotate_left
                  · intro w'
                    go_simp
                    with_reducible rfl
                  rotate_left
                  · simp only [Act.put, List.setIfInBounds_toArray, List.set_cons_zero, List.set_cons_succ, i64_w, i32_w]
                    rfl
                  refine pure_ (i := 2) (N := some 41) (v := ?_) (a' := ?_) #[true, true, true, false, false, false, false, false, false, false, false, false] rfl rfl (any_of HT_.out (by kernel_rfl)) (fun _ _ _ h => h) (Or.inl ⟨by rfl, ?_⟩) ?_ ?_
                  rotate_left
                  · intro w'
                    go_simp
                    with_reducible rfl
                  rotate_left
                  · simp only [Act.put, List.setIfInBounds_toArray, List.set_cons_zero, List.set_cons_succ, i64_w, i32_w]
                    rfl
                  refine pure_ (i := 7) (N := some 46) (v := ?_) (a' := ?_) #[true, true, true, false, false, false, false, true, false, false, false, false] rfl rfl (any_of HT_.out (by kernel_rfl)) (fun _ _ _ h => h) (Or.inl ⟨by rfl, ?_⟩) ?_ ?_
                  rotate_left
                  · intro w'
                    go_simp
                    with_reducible rfl
                  rotate_left
                  · simp only [Act.put, List.setIfInBounds_toArray, List.set_cons_zero, List.set_cons_succ, i64_w, i32_w]
                    rfl
                  refine take_ (i := 3) (N := some 42) (v := ?_) (a' := ?_) #[true, true, true, true, false, false, false, true, false, false, false, false] rfl rfl (take_ofW HT_.out HW_.out (by kernel_rfl)) (fun _ _ _ h => h) (Or.inl ⟨by rfl, ?_⟩) hHeld ?_ ?_
                  rotate_left
                  · rintro w' ⟨s0, s1, s2, s3, s4, s5, s6, s7, s8, s9, s10, s11, s12, s13, s14, s15, s16⟩
                    go_simp
                    with_reducible rfl
                  rotate_left
                  · simp only [Act.put, List.setIfInBounds_toArray, List.set_cons_zero, List.set_cons_succ, i64_w, i32_w]
                    rfl
                  refine take_ (i := 8) (N := some 47) (v := ?_) (a' := ?_) #[true, true, true, true, false, false, false, true, true, false, false, false] rfl rfl (take_ofW HT_.out HW_.out (by kernel_rfl)) (fun _ _ _ h => h) (Or.inl ⟨by rfl, ?_⟩) hHeld ?_ ?_
                  rotate_left
                  · rintro w' ⟨s0, s1, s2, s3, s4, s5, s6, s7, s8, s9, s10, s11, s12, s13, s14, s15, s16⟩
                    go_simp
                    with_reducible rfl
                  rotate_left
                  · simp only [Act.put, List.setIfInBounds_toArray, List.set_cons_zero, List.set_cons_succ, i64_w, i32_w]
                    rfl
                  refine one_ (i := 4) (N := some 43) #[true, true, true, true, true, false, false, true, true, false, false, false] rfl rfl (one_of HT_.out (by kernel_rfl)) (by decide) (fun K hK => ?_)
                  refine goes_ Tryd.func34 (by kernel_rfl) rfl #[.agg #[.int .i64 a0_7, .int .i64 a0_8, .int .i64 a0_9, .int .i64 a0_10, .int .i64 a0_11]] (by rfl) rfl rfl (by (try simp only [List.map_toArray, List.map_cons, List.map_nil]); first | done | rfl | (simp only [List.length_drop, List.length_take]; rfl)) ?_
                  with_reducible refine (longcaseref08_change.calls k a0_7 a0_8 a0_9 a0_10 a0_11 t211 _ A10.out).mono ?_
                  rintro e w20 ⟨rfl, hb⟩
                  refine ⟨_, rfl, ?_⟩
                  have n0_ := Aside0.mk (blk_below (g := gb207) (o := .cells #[.int .i64 a0_0, .bool a0_1, .string a0_2, .int .i64 a0_3, .bool a0_4, .string a0_5, .bool true, .int .i64 a0_7, .int .i64 a0_8, .int .i64 a0_9, .int .i64 a0_10, .int .i64 a0_11, .int .i64 a0_12, .int .i64 a0_13, .int .i64 a0_14, .int .i64 a0_15, .int .i64 a0_16] 27 (0, 0)) (by (with_reducible repeat (first | refine blk_drewN ?_ _ | refine blk_drew ?_ | refine blk_alloc ?_ _)); exact BK207.out) hb)
                  have n1_ := Aside0.mk (below_step (by repeat (first | (with_reducible first | exact HB.out | apply below_alloc | apply pw_below_drewN | apply below_drew1 | refine below_set ?_ GE207.out) | exact HB.out)) hb)
                  clear BK207
                  clear HB
                  have BK207 := n0_
                  have HB := n1_
                  clear n0_ n1_
                  (try clear hb)
                  (try clear hb2)
                  (try clear hk)
                  (try clear hi)
                  refine hK.out _ _ ⟨(blk_cell BK207.out 0).trans rfl, (blk_cell BK207.out 1).trans rfl, (blk_cell BK207.out 2).trans rfl, (blk_cell BK207.out 3).trans rfl, (blk_cell BK207.out 4).trans rfl, (blk_cell BK207.out 5).trans rfl, (blk_cell BK207.out 6).trans rfl, (blk_cell BK207.out 7).trans rfl, (blk_cell BK207.out 8).trans rfl, (blk_cell BK207.out 9).trans rfl, (blk_cell BK207.out 10).trans rfl, (blk_cell BK207.out 11).trans rfl, (blk_cell BK207.out 12).trans rfl, (blk_cell BK207.out 13).trans rfl, (blk_cell BK207.out 14).trans rfl, (blk_cell BK207.out 15).trans rfl, (blk_cell BK207.out 16).trans rfl⟩ (fun hHeld => ?_)
                  clear hK K
                  refine norm_ (a' := ?_) ?_ ?_
                  rotate_left
                  · show Act.put _ (some 43) _ = _
                    simp only [Act.put, List.setIfInBounds_toArray, List.set_cons_zero, List.set_cons_succ, i64_w, i32_w]
                    rfl
                  refine pure_ (i := 5) (N := some 44) (v := ?_) (a' := ?_) #[true, true, true, true, true, true, false, true, true, false, false, false] rfl rfl (any_of HT_.out (by kernel_rfl)) (fun _ _ _ h => h) (Or.inl ⟨by rfl, ?_⟩) ?_ ?_
                  rotate_left
                  · intro w'
                    go_simp
                    with_reducible rfl
                  rotate_left
                  · simp only [Act.put, List.setIfInBounds_toArray, List.set_cons_zero, List.set_cons_succ, i64_w, i32_w]
                    rfl
                  refine pure_ (i := 6) (N := some 45) (v := ?_) (a' := ?_) #[true, true, true, true, true, true, true, true, true, false, false, false] rfl rfl (any_of HT_.out (by kernel_rfl)) (fun _ _ _ h => h) (Or.inl ⟨by rfl, ?_⟩) ?_ ?_
                  rotate_left
                  · intro w'
                    go_simp
                    with_reducible rfl
                  rotate_left
                  · simp only [Act.put, List.setIfInBounds_toArray, List.set_cons_zero, List.set_cons_succ, i64_w, i32_w]
                    rfl
                  refine one_ (i := 9) (N := some 48) #[true, true, true, true, true, true, true, true, true, true, false, false] rfl rfl (one_of HT_.out (by kernel_rfl)) (by decide) (fun K hK => ?_)
                  refine goes_ Tryd.func34 (by kernel_rfl) rfl #[.agg #[.int .i64 a0_12, .int .i64 a0_13, .int .i64 a0_14, .int .i64 a0_15, .int .i64 a0_16]] (by rfl) rfl rfl (by (try simp only [List.map_toArray, List.map_cons, List.map_nil]); first | done | rfl | (simp only [List.length_drop, List.length_take]; rfl)) ?_
                  with_reducible refine (longcaseref08_change.calls k a0_12 a0_13 a0_14 a0_15 a0_16 t212 _ A13.out).mono ?_
                  rintro e w21 ⟨rfl, hb⟩
                  refine ⟨_, rfl, ?_⟩
                  have n0_ := Aside0.mk (blk_below (g := gb207) (o := .cells #[.int .i64 a0_0, .bool a0_1, .string a0_2, .int .i64 a0_3, .bool a0_4, .string a0_5, .bool true, .int .i64 a0_7, .int .i64 a0_8, .int .i64 a0_9, .int .i64 a0_10, .int .i64 a0_11, .int .i64 a0_12, .int .i64 a0_13, .int .i64 a0_14, .int .i64 a0_15, .int .i64 a0_16] 27 (0, 0)) (by (with_reducible repeat (first | refine blk_drewN ?_ _ | refine blk_drew ?_ | refine blk_alloc ?_ _)); exact BK207.out) hb)
                  have n1_ := Aside0.mk (below_step (by repeat (first | (with_reducible first | exact HB.out | apply below_alloc | apply pw_below_drewN | apply below_drew1 | refine below_set ?_ GE207.out) | exact HB.out)) hb)
                  clear BK207
                  clear HB
                  have BK207 := n0_
                  have HB := n1_
                  clear n0_ n1_
                  (try clear hb)
                  (try clear hb2)
                  (try clear hk)
                  (try clear hi)
                  refine hK.out _ _ ⟨(blk_cell BK207.out 0).trans rfl, (blk_cell BK207.out 1).trans rfl, (blk_cell BK207.out 2).trans rfl, (blk_cell BK207.out 3).trans rfl, (blk_cell BK207.out 4).trans rfl, (blk_cell BK207.out 5).trans rfl, (blk_cell BK207.out 6).trans rfl, (blk_cell BK207.out 7).trans rfl, (blk_cell BK207.out 8).trans rfl, (blk_cell BK207.out 9).trans rfl, (blk_cell BK207.out 10).trans rfl, (blk_cell BK207.out 11).trans rfl, (blk_cell BK207.out 12).trans rfl, (blk_cell BK207.out 13).trans rfl, (blk_cell BK207.out 14).trans rfl, (blk_cell BK207.out 15).trans rfl, (blk_cell BK207.out 16).trans rfl⟩ (fun hHeld => ?_)
                  clear hK K
                  refine norm_ (a' := ?_) ?_ ?_
                  rotate_left
                  · show Act.put _ (some 48) _ = _
                    simp only [Act.put, List.setIfInBounds_toArray, List.set_cons_zero, List.set_cons_succ, i64_w, i32_w]
                    rfl
                  refine pure_ (i := 10) (N := some 49) (v := ?_) (a' := ?_) #[true, true, true, true, true, true, true, true, true, true, true, false] rfl rfl (any_of HT_.out (by kernel_rfl)) (fun _ _ _ h => h) (Or.inl ⟨by rfl, ?_⟩) ?_ ?_
                  rotate_left
                  · intro w'
                    go_simp
                    with_reducible rfl
                  rotate_left
                  · simp only [Act.put, List.setIfInBounds_toArray, List.set_cons_zero, List.set_cons_succ, i64_w, i32_w]
                    rfl
                  refine pure_ (i := 11) (N := some 2) (v := ?_) (a' := ?_) #[true, true, true, true, true, true, true, true, true, true, true, true] rfl rfl (any_of HT_.out (by kernel_rfl)) (fun _ _ _ h => h) (Or.inl ⟨by rfl, ?_⟩) ?_ ?_
                  rotate_left
                  · intro w'
                    go_simp
                    with_reducible rfl
                  rotate_left
                  · simp only [Act.put, List.setIfInBounds_toArray, List.set_cons_zero, List.set_cons_succ, i64_w, i32_w]
                    rfl
                  refine done_ (done_of HT_.out (by kernel_rfl)) ?_
                  try go_wp2
                  go_ret
                  exact ⟨by first | rfl | (simp [errW_none, errW_some] <;> rfl) | (simp [*, errW_none, errW_some] <;> rfl), by repeat (first | (with_reducible first | exact HB.out | apply below_alloc | apply pw_below_drewN | apply below_drew1 | refine below_set ?_ GE207.out) | exact HB.out)⟩
                · rw [if_neg c14] at H
                  exact absurd H (by simp)
              · rw [if_neg c12] at H
                exact absurd H (by simp)
            · rw [if_neg c11] at H
              exact absurd H (by simp)
          · rw [if_neg c9] at H
            exact absurd H (by simp)
        · rw [if_neg c8] at H
          have c8b0 : (a0_3 == (wrap64 (a0_0 + 3600))) = false := beq_eq_false_iff_ne.mpr c8
          have c8b1 : (a0_3 != (wrap64 (a0_0 + 3600))) = true := bne_iff_ne.mpr c8
          replace H := Option.bind_eq_some_iff.mp H
          obtain ⟨t213, A220, H⟩ := H
          replace H : (if ((t208 ++ t209) ++ t210).size + t213.size ≤ 9223372036854775807 then (if (((t208 ++ t209) ++ t210) ++ t213).size + 1 ≤ 9223372036854775807 then ((longcaseref08_change.f k a0_7 a0_8 a0_9 a0_10 a0_11).bind fun t214 => (if ((((t208 ++ t209) ++ t210) ++ t213) ++ (⟨#[44]⟩ : ByteArray)).size + t214.size ≤ 9223372036854775807 then (if (((((t208 ++ t209) ++ t210) ++ t213) ++ (⟨#[44]⟩ : ByteArray)) ++ t214).size + 1 ≤ 9223372036854775807 then ((longcaseref08_change.f k a0_12 a0_13 a0_14 a0_15 a0_16).bind fun t215 => (if ((((((t208 ++ t209) ++ t210) ++ t213) ++ (⟨#[44]⟩ : ByteArray)) ++ t214) ++ (⟨#[44]⟩ : ByteArray)).size + t215.size ≤ 9223372036854775807 then (some (((((((t208 ++ t209) ++ t210) ++ t213) ++ (⟨#[44]⟩ : ByteArray)) ++ t214) ++ (⟨#[44]⟩ : ByteArray)) ++ t215)) else (none))) else (none)) else (none))) else (none)) else (none)) = some r := H
          have A22 := Aside0.mk A220
          clear A220
          by_cases c23 : ((t208 ++ t209) ++ t210).size + t213.size ≤ 9223372036854775807
          · rw [if_pos c23] at H
            have c23b0 := eq_true c23
            have c23b1 : decide (((t208 ++ t209) ++ t210).size + t213.size ≤ 9223372036854775807) = true := decide_eq_true c23
            try have c23b2 : (9223372036854775807 < ((t208 ++ t209) ++ t210).size + t213.size) = False := eq_false (Nat.not_lt.2 c23)
            have c23z0 : ((t208.size + t209.size) + t210.size) + t213.size ≤ 9223372036854775807 := by have z_ := c23; simp only [ByteArray.size_append] at z_; exact z_
            try have c23z1 : (9223372036854775807 < ((t208.size + t209.size) + t210.size) + t213.size) = False := eq_false (Nat.not_lt.2 c23z0)
            by_cases c24 : (((t208 ++ t209) ++ t210) ++ t213).size + 1 ≤ 9223372036854775807
            · rw [if_pos c24] at H
              have c24b0 := eq_true c24
              have c24b1 : decide ((((t208 ++ t209) ++ t210) ++ t213).size + 1 ≤ 9223372036854775807) = true := decide_eq_true c24
              try have c24b2 : (9223372036854775807 < (((t208 ++ t209) ++ t210) ++ t213).size + 1) = False := eq_false (Nat.not_lt.2 c24)
              have c24z0 : (((t208.size + t209.size) + t210.size) + t213.size) + 1 ≤ 9223372036854775807 := by have z_ := c24; simp only [ByteArray.size_append] at z_; exact z_
              try have c24z1 : (9223372036854775807 < (((t208.size + t209.size) + t210.size) + t213.size) + 1) = False := eq_false (Nat.not_lt.2 c24z0)
              replace H := Option.bind_eq_some_iff.mp H
              obtain ⟨t214, A250, H⟩ := H
              replace H : (if ((((t208 ++ t209) ++ t210) ++ t213) ++ (⟨#[44]⟩ : ByteArray)).size + t214.size ≤ 9223372036854775807 then (if (((((t208 ++ t209) ++ t210) ++ t213) ++ (⟨#[44]⟩ : ByteArray)) ++ t214).size + 1 ≤ 9223372036854775807 then ((longcaseref08_change.f k a0_12 a0_13 a0_14 a0_15 a0_16).bind fun t215 => (if ((((((t208 ++ t209) ++ t210) ++ t213) ++ (⟨#[44]⟩ : ByteArray)) ++ t214) ++ (⟨#[44]⟩ : ByteArray)).size + t215.size ≤ 9223372036854775807 then (some (((((((t208 ++ t209) ++ t210) ++ t213) ++ (⟨#[44]⟩ : ByteArray)) ++ t214) ++ (⟨#[44]⟩ : ByteArray)) ++ t215)) else (none))) else (none)) else (none)) = some r := H
              have A25 := Aside0.mk A250
              clear A250
              by_cases c26 : ((((t208 ++ t209) ++ t210) ++ t213) ++ (⟨#[44]⟩ : ByteArray)).size + t214.size ≤ 9223372036854775807
              · rw [if_pos c26] at H
                have c26b0 := eq_true c26
                have c26b1 : decide (((((t208 ++ t209) ++ t210) ++ t213) ++ (⟨#[44]⟩ : ByteArray)).size + t214.size ≤ 9223372036854775807) = true := decide_eq_true c26
                try have c26b2 : (9223372036854775807 < ((((t208 ++ t209) ++ t210) ++ t213) ++ (⟨#[44]⟩ : ByteArray)).size + t214.size) = False := eq_false (Nat.not_lt.2 c26)
                have c26z0 : ((((t208.size + t209.size) + t210.size) + t213.size) + 1) + t214.size ≤ 9223372036854775807 := by have z_ := c26; simp only [ByteArray.size_append] at z_; exact z_
                try have c26z1 : (9223372036854775807 < ((((t208.size + t209.size) + t210.size) + t213.size) + 1) + t214.size) = False := eq_false (Nat.not_lt.2 c26z0)
                by_cases c27 : (((((t208 ++ t209) ++ t210) ++ t213) ++ (⟨#[44]⟩ : ByteArray)) ++ t214).size + 1 ≤ 9223372036854775807
                · rw [if_pos c27] at H
                  have c27b0 := eq_true c27
                  have c27b1 : decide ((((((t208 ++ t209) ++ t210) ++ t213) ++ (⟨#[44]⟩ : ByteArray)) ++ t214).size + 1 ≤ 9223372036854775807) = true := decide_eq_true c27
                  try have c27b2 : (9223372036854775807 < (((((t208 ++ t209) ++ t210) ++ t213) ++ (⟨#[44]⟩ : ByteArray)) ++ t214).size + 1) = False := eq_false (Nat.not_lt.2 c27)
                  have c27z0 : (((((t208.size + t209.size) + t210.size) + t213.size) + 1) + t214.size) + 1 ≤ 9223372036854775807 := by have z_ := c27; simp only [ByteArray.size_append] at z_; exact z_
                  try have c27z1 : (9223372036854775807 < (((((t208.size + t209.size) + t210.size) + t213.size) + 1) + t214.size) + 1) = False := eq_false (Nat.not_lt.2 c27z0)
                  replace H := Option.bind_eq_some_iff.mp H
                  obtain ⟨t215, A280, H⟩ := H
                  replace H : (if ((((((t208 ++ t209) ++ t210) ++ t213) ++ (⟨#[44]⟩ : ByteArray)) ++ t214) ++ (⟨#[44]⟩ : ByteArray)).size + t215.size ≤ 9223372036854775807 then (some (((((((t208 ++ t209) ++ t210) ++ t213) ++ (⟨#[44]⟩ : ByteArray)) ++ t214) ++ (⟨#[44]⟩ : ByteArray)) ++ t215)) else (none)) = some r := H
                  have A28 := Aside0.mk A280
                  clear A280
                  by_cases c29 : ((((((t208 ++ t209) ++ t210) ++ t213) ++ (⟨#[44]⟩ : ByteArray)) ++ t214) ++ (⟨#[44]⟩ : ByteArray)).size + t215.size ≤ 9223372036854775807
                  · rw [if_pos c29] at H
                    have c29b0 := eq_true c29
                    have c29b1 : decide (((((((t208 ++ t209) ++ t210) ++ t213) ++ (⟨#[44]⟩ : ByteArray)) ++ t214) ++ (⟨#[44]⟩ : ByteArray)).size + t215.size ≤ 9223372036854775807) = true := decide_eq_true c29
                    try have c29b2 : (9223372036854775807 < ((((((t208 ++ t209) ++ t210) ++ t213) ++ (⟨#[44]⟩ : ByteArray)) ++ t214) ++ (⟨#[44]⟩ : ByteArray)).size + t215.size) = False := eq_false (Nat.not_lt.2 c29)
                    have c29z0 : ((((((t208.size + t209.size) + t210.size) + t213.size) + 1) + t214.size) + 1) + t215.size ≤ 9223372036854775807 := by have z_ := c29; simp only [ByteArray.size_append] at z_; exact z_
                    try have c29z1 : (9223372036854775807 < ((((((t208.size + t209.size) + t210.size) + t213.size) + 1) + t214.size) + 1) + t215.size) = False := eq_false (Nat.not_lt.2 c29z0)
                    obtain rfl := Option.some.inj H
                    go_enter Tryd.func17, Tryd.ntmps17
                    try go_wp2_with (first | ((with_reducible refine gate_dst (N := 1) rfl ?_); refine box_event ?hg (N := 1) ?hd (cs := #[.int .i64 a0_0, .bool a0_1, .string a0_2, .int .i64 a0_3, .bool a0_4, .string a0_5, .bool true, .int .i64 a0_7, .int .i64 a0_8, .int .i64 a0_9, .int .i64 a0_10, .int .i64 a0_11, .int .i64 a0_12, .int .i64 a0_13, .int .i64 a0_14, .int .i64 a0_15, .int .i64 a0_16]) (t := 27) ?hr ?_; (case hd => rfl); (case hg => rfl); (case hr => first | (go_simp; done) | (go_simp; rfl)); intro gb207 hg w30 hbox hb; have n0_ := Aside0.mk (below_step (by repeat (first | (with_reducible first | exact HB.out | apply below_alloc | apply pw_below_drewN | apply below_drew1) | exact HB.out)) hb); have n1_ := Aside0.mk (hbox); have n2_ := Aside0.mk ((by rw [hg]; exact (below_size (by repeat (first | (with_reducible first | exact HB.out | apply below_alloc | apply pw_below_drewN | apply below_drew1) | exact HB.out))) : w.heap.size ≤ gb207)); have n3_ := Aside0.mk ((by rw [hg]; exact (below_size (by repeat (first | (with_reducible first | exact HB.out | apply below_alloc | apply pw_below_drewN | apply below_drew1) | exact HB.out))) : w.heap.size ≤ gb207)); clear HB; have HB := n0_; have BK207 := n1_; have GW207 := n2_; have GE207 := n3_; clear n0_ n1_ n2_ n3_; clear hb hbox hg))
                    have n0_ := Aside0.mk (blk_drew BK207.out)
                    have n1_ := Aside0.mk (below_drew1 HB.out)
                    clear BK207
                    clear HB
                    have BK207 := n0_
                    have HB := n1_
                    clear n0_ n1_
                    refine start_ (n := 11) (S := fun w' => w'.cell? ⟨gb207, 0, none⟩ = some (.int .i64 a0_0) ∧ w'.cell? ⟨gb207, 1, none⟩ = some (.bool a0_1) ∧ w'.cell? ⟨gb207, 2, none⟩ = some (.string a0_2) ∧ w'.cell? ⟨gb207, 3, none⟩ = some (.int .i64 a0_3) ∧ w'.cell? ⟨gb207, 4, none⟩ = some (.bool a0_4) ∧ w'.cell? ⟨gb207, 5, none⟩ = some (.string a0_5) ∧ w'.cell? ⟨gb207, 6, none⟩ = some (.bool true) ∧ w'.cell? ⟨gb207, 7, none⟩ = some (.int .i64 a0_7) ∧ w'.cell? ⟨gb207, 8, none⟩ = some (.int .i64 a0_8) ∧ w'.cell? ⟨gb207, 9, none⟩ = some (.int .i64 a0_9) ∧ w'.cell? ⟨gb207, 10, none⟩ = some (.int .i64 a0_10) ∧ w'.cell? ⟨gb207, 11, none⟩ = some (.int .i64 a0_11) ∧ w'.cell? ⟨gb207, 12, none⟩ = some (.int .i64 a0_12) ∧ w'.cell? ⟨gb207, 13, none⟩ = some (.int .i64 a0_13) ∧ w'.cell? ⟨gb207, 14, none⟩ = some (.int .i64 a0_14) ∧ w'.cell? ⟨gb207, 15, none⟩ = some (.int .i64 a0_15) ∧ w'.cell? ⟨gb207, 16, none⟩ = some (.int .i64 a0_16)) (ds := []) #[false, false, false, false, false, false, false, false, false, false, false] (by kernel_rfl) rfl rfl ⟨(blk_cell BK207.out 0).trans rfl, (blk_cell BK207.out 1).trans rfl, (blk_cell BK207.out 2).trans rfl, (blk_cell BK207.out 3).trans rfl, (blk_cell BK207.out 4).trans rfl, (blk_cell BK207.out 5).trans rfl, (blk_cell BK207.out 6).trans rfl, (blk_cell BK207.out 7).trans rfl, (blk_cell BK207.out 8).trans rfl, (blk_cell BK207.out 9).trans rfl, (blk_cell BK207.out 10).trans rfl, (blk_cell BK207.out 11).trans rfl, (blk_cell BK207.out 12).trans rfl, (blk_cell BK207.out 13).trans rfl, (blk_cell BK207.out 14).trans rfl, (blk_cell BK207.out 15).trans rfl, (blk_cell BK207.out 16).trans rfl⟩ (fun hHeld => ?_); refine with_tabW longcaseref08_Print.tab1 longcaseref08_Print.bits1 (fun HT_ HW_ => ?_)
                    generalize w30.drew = w31 at BK207 HB hHeld ⊢
                    refine pure_ (i := 0) (N := some 4) (v := ?_) (a' := ?_) #[true, false, false, false, false, false, false, false, false, false, false] rfl rfl (any_of HT_.out (by kernel_rfl)) (fun _ _ _ h => h) (Or.inl ⟨by rfl, ?_⟩) ?_ ?_
                    rotate_left
                    · intro w'
                      go_simp
                      with_reducible rfl
                    rotate_left
                    · simp only [Act.put, List.setIfInBounds_toArray, List.set_cons_zero, List.set_cons_succ, i64_w, i32_w]
                      rfl
                    refine pure_ (i := 1) (N := some 5) (v := ?_) (a' := ?_) #[true, true, false, false, false, false, false, false, false, false, false] rfl rfl (any_of HT_.out (by kernel_rfl)) (fun _ _ _ h => h) (Or.inl ⟨by rfl, ?_⟩) ?_ ?_
                    rotate_left
                    · intro w'
                      go_simp
                      with_reducible rfl
                    rotate_left
                    · simp only [Act.put, List.setIfInBounds_toArray, List.set_cons_zero, List.set_cons_succ, i64_w, i32_w]
                      rfl
                    refine pure_ (i := 4) (N := some 8) (v := ?_) (a' := ?_) #[true, true, false, false, true, false, false, false, false, false, false] rfl rfl (any_of HT_.out (by kernel_rfl)) (fun _ _ _ h => h) (Or.inl ⟨by rfl, ?_⟩) ?_ ?_
                    rotate_left
                    · intro w'
                      go_simp
                      with_reducible rfl
                    rotate_left
                    · simp only [Act.put, List.setIfInBounds_toArray, List.set_cons_zero, List.set_cons_succ, i64_w, i32_w]
                      rfl
                    refine pure_ (i := 5) (N := some 9) (v := ?_) (a' := ?_) #[true, true, false, false, true, true, false, false, false, false, false] rfl rfl (any_of HT_.out (by kernel_rfl)) (fun _ _ _ h => h) (Or.inl ⟨by rfl, ?_⟩) ?_ ?_
                    rotate_left
                    · intro w'
                      go_simp
                      with_reducible rfl
                    rotate_left
                    · simp only [Act.put, List.setIfInBounds_toArray, List.set_cons_zero, List.set_cons_succ, i64_w, i32_w]
                      rfl
                    refine take_ (i := 2) (N := some 6) (v := ?_) (a' := ?_) #[true, true, true, false, true, true, false, false, false, false, false] rfl rfl (take_ofW HT_.out HW_.out (by kernel_rfl)) (fun _ _ _ h => h) (Or.inl ⟨by rfl, ?_⟩) hHeld ?_ ?_
                    rotate_left
                    · rintro w' ⟨s0, s1, s2, s3, s4, s5, s6, s7, s8, s9, s10, s11, s12, s13, s14, s15, s16⟩
                      go_simp
                      with_reducible rfl
                    rotate_left
                    · simp only [Act.put, List.setIfInBounds_toArray, List.set_cons_zero, List.set_cons_succ, i64_w, i32_w]
                      rfl
                    refine take_ (i := 6) (N := some 10) (v := ?_) (a' := ?_) #[true, true, true, false, true, true, true, false, false, false, false] rfl rfl (take_ofW HT_.out HW_.out (by kernel_rfl)) (fun _ _ _ h => h) (Or.inl ⟨by rfl, ?_⟩) hHeld ?_ ?_
                    rotate_left
                    · rintro w' ⟨s0, s1, s2, s3, s4, s5, s6, s7, s8, s9, s10, s11, s12, s13, s14, s15, s16⟩
                      go_simp
                      with_reducible rfl
                    rotate_left
                    · simp only [Act.put, List.setIfInBounds_toArray, List.set_cons_zero, List.set_cons_succ, i64_w, i32_w]
                      rfl
                    refine pure_ (i := 7) (N := some 11) (v := ?_) (a' := ?_) #[true, true, true, false, true, true, true, true, false, false, false] rfl rfl (any_of HT_.out (by kernel_rfl)) (fun _ _ _ h => h) (Or.inl ⟨by rfl, ?_⟩) ?_ ?_
                    rotate_left
                    · intro w'
                      go_simp
                      with_reducible rfl
                    rotate_left
                    · simp only [Act.put, List.setIfInBounds_toArray, List.set_cons_zero, List.set_cons_succ, i64_w, i32_w]
                      rfl
                    refine one_ (i := 3) (N := some 7) #[true, true, true, true, true, true, true, true, false, false, false] rfl rfl (one_of HT_.out (by kernel_rfl)) (by decide) (fun K hK => ?_)
                    refine goes_ Tryd.func32 (by kernel_rfl) rfl #[.string a0_2] (by rfl) rfl rfl (by (try simp only [List.map_toArray, List.map_cons, List.map_nil]); first | done | rfl | (simp only [List.length_drop, List.length_take]; rfl)) ?_
                    with_reducible refine (longcaseref08_named.calls k a0_2 t208 _ A2.out).mono ?_
                    rintro e w' ⟨rfl, ⟨nd, rfl⟩⟩
                    refine ⟨_, rfl, ?_⟩
                    refine hK.out _ _ ⟨(blk_cell BK207.out 0).trans rfl, (blk_cell BK207.out 1).trans rfl, (blk_cell BK207.out 2).trans rfl, (blk_cell BK207.out 3).trans rfl, (blk_cell BK207.out 4).trans rfl, (blk_cell BK207.out 5).trans rfl, (blk_cell BK207.out 6).trans rfl, (blk_cell BK207.out 7).trans rfl, (blk_cell BK207.out 8).trans rfl, (blk_cell BK207.out 9).trans rfl, (blk_cell BK207.out 10).trans rfl, (blk_cell BK207.out 11).trans rfl, (blk_cell BK207.out 12).trans rfl, (blk_cell BK207.out 13).trans rfl, (blk_cell BK207.out 14).trans rfl, (blk_cell BK207.out 15).trans rfl, (blk_cell BK207.out 16).trans rfl⟩ (fun hHeld => ?_)
                    clear hK K
                    refine norm_ (a' := ?_) ?_ ?_
                    rotate_left
                    · show Act.put _ (some 7) _ = _
                      simp only [Act.put, List.setIfInBounds_toArray, List.set_cons_zero, List.set_cons_succ, i64_w, i32_w]
                      rfl
                    refine one_ (i := 8) (N := some 12) #[true, true, true, true, true, true, true, true, true, false, false] rfl rfl (one_of HT_.out (by kernel_rfl)) (by decide) (fun K hK => ?_)
                    refine goes_ Tryd.func33 (by kernel_rfl) rfl #[.int .i64 (wrap64 (-a0_0))] (by rfl) rfl rfl (by (try simp only [List.map_toArray, List.map_cons, List.map_nil]); first | done | rfl | (simp only [List.length_drop, List.length_take]; rfl)) ?_
                    with_reducible refine (longcaseref08_hours.calls k (wrap64 (-a0_0)) t209 _ A3.out).mono ?_
                    rintro e w32 ⟨rfl, hb⟩
                    refine ⟨_, rfl, ?_⟩
                    have n0_ := Aside0.mk (blk_below (g := gb207) (o := .cells #[.int .i64 a0_0, .bool a0_1, .string a0_2, .int .i64 a0_3, .bool a0_4, .string a0_5, .bool true, .int .i64 a0_7, .int .i64 a0_8, .int .i64 a0_9, .int .i64 a0_10, .int .i64 a0_11, .int .i64 a0_12, .int .i64 a0_13, .int .i64 a0_14, .int .i64 a0_15, .int .i64 a0_16] 27 (0, 0)) (by (with_reducible repeat (first | refine blk_drewN ?_ _ | refine blk_drew ?_ | refine blk_alloc ?_ _)); exact BK207.out) hb)
                    have n1_ := Aside0.mk (below_step (by repeat (first | (with_reducible first | exact HB.out | apply below_alloc | apply pw_below_drewN | apply below_drew1 | refine below_set ?_ GE207.out) | exact HB.out)) hb)
                    clear BK207
                    clear HB
                    have BK207 := n0_
                    have HB := n1_
                    clear n0_ n1_
                    (try clear hb)
                    (try clear hb2)
                    (try clear hk)
                    (try clear hi)
                    refine hK.out _ _ ⟨(blk_cell BK207.out 0).trans rfl, (blk_cell BK207.out 1).trans rfl, (blk_cell BK207.out 2).trans rfl, (blk_cell BK207.out 3).trans rfl, (blk_cell BK207.out 4).trans rfl, (blk_cell BK207.out 5).trans rfl, (blk_cell BK207.out 6).trans rfl, (blk_cell BK207.out 7).trans rfl, (blk_cell BK207.out 8).trans rfl, (blk_cell BK207.out 9).trans rfl, (blk_cell BK207.out 10).trans rfl, (blk_cell BK207.out 11).trans rfl, (blk_cell BK207.out 12).trans rfl, (blk_cell BK207.out 13).trans rfl, (blk_cell BK207.out 14).trans rfl, (blk_cell BK207.out 15).trans rfl, (blk_cell BK207.out 16).trans rfl⟩ (fun hHeld => ?_)
                    clear hK K
                    refine norm_ (a' := ?_) ?_ ?_
                    rotate_left
                    · show Act.put _ (some 12) _ = _
                      simp only [Act.put, List.setIfInBounds_toArray, List.set_cons_zero, List.set_cons_succ, i64_w, i32_w]
                      rfl
                    refine pure_ (i := 9) (N := some 13) (v := ?_) (a' := ?_) #[true, true, true, true, true, true, true, true, true, true, false] rfl rfl (any_of HT_.out (by kernel_rfl)) (fun _ _ _ h => h) (Or.inl ⟨by rfl, ?_⟩) ?_ ?_
                    rotate_left
                    · intro w'
                      go_simp
                      with_reducible rfl
                    rotate_left
                    · simp only [Act.put, List.setIfInBounds_toArray, List.set_cons_zero, List.set_cons_succ, i64_w, i32_w]
                      rfl
                    refine pure_ (i := 10) (N := some 3) (v := ?_) (a' := ?_) #[true, true, true, true, true, true, true, true, true, true, true] rfl rfl (any_of HT_.out (by kernel_rfl)) (fun _ _ _ h => h) (Or.inl ⟨by rfl, ?_⟩) ?_ ?_
                    rotate_left
                    · intro w'
                      go_simp
                      with_reducible rfl
                    rotate_left
                    · simp only [Act.put, List.setIfInBounds_toArray, List.set_cons_zero, List.set_cons_succ, i64_w, i32_w]
                      rfl
                    refine done_ (done_of HT_.out (by kernel_rfl)) ?_
                    have hcz33_0 : w32.cell? ⟨gb207, 0, none⟩ = some (.int .i64 a0_0) := (blk_cell BK207.out 0).trans rfl
                    have hcz33_1 : w32.cell? ⟨gb207, 1, none⟩ = some (.bool a0_1) := (blk_cell BK207.out 1).trans rfl
                    have hcz33_2 : w32.cell? ⟨gb207, 2, none⟩ = some (.string a0_2) := (blk_cell BK207.out 2).trans rfl
                    have hcz33_3 : w32.cell? ⟨gb207, 3, none⟩ = some (.int .i64 a0_3) := (blk_cell BK207.out 3).trans rfl
                    have hcz33_4 : w32.cell? ⟨gb207, 4, none⟩ = some (.bool a0_4) := (blk_cell BK207.out 4).trans rfl
                    have hcz33_5 : w32.cell? ⟨gb207, 5, none⟩ = some (.string a0_5) := (blk_cell BK207.out 5).trans rfl
                    have hcz33_6 : w32.cell? ⟨gb207, 6, none⟩ = some (.bool true) := (blk_cell BK207.out 6).trans rfl
                    have hcz33_7 : w32.cell? ⟨gb207, 7, none⟩ = some (.int .i64 a0_7) := (blk_cell BK207.out 7).trans rfl
                    have hcz33_8 : w32.cell? ⟨gb207, 8, none⟩ = some (.int .i64 a0_8) := (blk_cell BK207.out 8).trans rfl
                    have hcz33_9 : w32.cell? ⟨gb207, 9, none⟩ = some (.int .i64 a0_9) := (blk_cell BK207.out 9).trans rfl
                    have hcz33_10 : w32.cell? ⟨gb207, 10, none⟩ = some (.int .i64 a0_10) := (blk_cell BK207.out 10).trans rfl
                    have hcz33_11 : w32.cell? ⟨gb207, 11, none⟩ = some (.int .i64 a0_11) := (blk_cell BK207.out 11).trans rfl
                    have hcz33_12 : w32.cell? ⟨gb207, 12, none⟩ = some (.int .i64 a0_12) := (blk_cell BK207.out 12).trans rfl
                    have hcz33_13 : w32.cell? ⟨gb207, 13, none⟩ = some (.int .i64 a0_13) := (blk_cell BK207.out 13).trans rfl
                    have hcz33_14 : w32.cell? ⟨gb207, 14, none⟩ = some (.int .i64 a0_14) := (blk_cell BK207.out 14).trans rfl
                    have hcz33_15 : w32.cell? ⟨gb207, 15, none⟩ = some (.int .i64 a0_15) := (blk_cell BK207.out 15).trans rfl
                    have hcz33_16 : w32.cell? ⟨gb207, 16, none⟩ = some (.int .i64 a0_16) := (blk_cell BK207.out 16).trans rfl
                    have hfz33_0 := blk_frozen BK207.out 0
                    have hfz33_1 := blk_frozen BK207.out 1
                    have hfz33_2 := blk_frozen BK207.out 2
                    have hfz33_3 := blk_frozen BK207.out 3
                    have hfz33_4 := blk_frozen BK207.out 4
                    have hfz33_5 := blk_frozen BK207.out 5
                    have hfz33_6 := blk_frozen BK207.out 6
                    have hfz33_7 := blk_frozen BK207.out 7
                    have hfz33_8 := blk_frozen BK207.out 8
                    have hfz33_9 := blk_frozen BK207.out 9
                    have hfz33_10 := blk_frozen BK207.out 10
                    have hfz33_11 := blk_frozen BK207.out 11
                    have hfz33_12 := blk_frozen BK207.out 12
                    have hfz33_13 := blk_frozen BK207.out 13
                    have hfz33_14 := blk_frozen BK207.out 14
                    have hfz33_15 := blk_frozen BK207.out 15
                    have hfz33_16 := blk_frozen BK207.out 16
                    try go_wp2_with (first | ((with_reducible refine gate_callee (f := 32) rfl ?_); refine goesL_ (some 22) rfl rfl Tryd.func32 (by kernel_rfl) rfl #[.string a0_5] rfl (by (try simp only [List.map_toArray, List.map_cons, List.map_nil]); first | done | rfl | (simp only [List.length_drop, List.length_take]; rfl)) ?_; (with_reducible refine (longcaseref08_named.calls k a0_5 t210 _ A6.out).mono ?_); rintro e w' ⟨rfl, ⟨nd, rfl⟩⟩; refine ⟨_, rfl, ?_⟩) | ((with_reducible refine gate_callee (f := 33) rfl ?_); refine goesL_ (some 37) rfl rfl Tryd.func33 (by kernel_rfl) rfl #[.int .i64 (wrap64 (-a0_3))] rfl (by (try simp only [List.map_toArray, List.map_cons, List.map_nil]); first | done | rfl | (simp only [List.length_drop, List.length_take]; rfl)) ?_; (with_reducible refine (longcaseref08_hours.calls k (wrap64 (-a0_3)) t213 _ A22.out).mono ?_); rintro e w34 ⟨rfl, hb⟩; refine ⟨_, rfl, ?_⟩; have n0_ := Aside0.mk (blk_below (g := gb207) (o := .cells #[.int .i64 a0_0, .bool a0_1, .string a0_2, .int .i64 a0_3, .bool a0_4, .string a0_5, .bool true, .int .i64 a0_7, .int .i64 a0_8, .int .i64 a0_9, .int .i64 a0_10, .int .i64 a0_11, .int .i64 a0_12, .int .i64 a0_13, .int .i64 a0_14, .int .i64 a0_15, .int .i64 a0_16] 27 (0, 0)) (by (with_reducible repeat (first | refine blk_drewN ?_ _ | refine blk_drew ?_ | refine blk_alloc ?_ _)); exact BK207.out) hb); have n1_ := Aside0.mk (below_step (by repeat (first | (with_reducible first | exact HB.out | apply below_alloc | apply pw_below_drewN | apply below_drew1 | refine below_set ?_ GE207.out) | exact HB.out)) hb); clear BK207; clear HB; have BK207 := n0_; have HB := n1_; clear n0_ n1_; (try clear hb); (try clear hb2); (try clear hk); (try clear hi)))
                    have n0_ := Aside0.mk (blk_drew BK207.out)
                    have n1_ := Aside0.mk (below_drew1 HB.out)
                    clear BK207
                    clear HB
                    have BK207 := n0_
                    have HB := n1_
                    clear n0_ n1_
                    refine start_ (n := 12) (S := fun w' => w'.cell? ⟨gb207, 0, none⟩ = some (.int .i64 a0_0) ∧ w'.cell? ⟨gb207, 1, none⟩ = some (.bool a0_1) ∧ w'.cell? ⟨gb207, 2, none⟩ = some (.string a0_2) ∧ w'.cell? ⟨gb207, 3, none⟩ = some (.int .i64 a0_3) ∧ w'.cell? ⟨gb207, 4, none⟩ = some (.bool a0_4) ∧ w'.cell? ⟨gb207, 5, none⟩ = some (.string a0_5) ∧ w'.cell? ⟨gb207, 6, none⟩ = some (.bool true) ∧ w'.cell? ⟨gb207, 7, none⟩ = some (.int .i64 a0_7) ∧ w'.cell? ⟨gb207, 8, none⟩ = some (.int .i64 a0_8) ∧ w'.cell? ⟨gb207, 9, none⟩ = some (.int .i64 a0_9) ∧ w'.cell? ⟨gb207, 10, none⟩ = some (.int .i64 a0_10) ∧ w'.cell? ⟨gb207, 11, none⟩ = some (.int .i64 a0_11) ∧ w'.cell? ⟨gb207, 12, none⟩ = some (.int .i64 a0_12) ∧ w'.cell? ⟨gb207, 13, none⟩ = some (.int .i64 a0_13) ∧ w'.cell? ⟨gb207, 14, none⟩ = some (.int .i64 a0_14) ∧ w'.cell? ⟨gb207, 15, none⟩ = some (.int .i64 a0_15) ∧ w'.cell? ⟨gb207, 16, none⟩ = some (.int .i64 a0_16)) (ds := []) #[false, false, false, false, false, false, false, false, false, false, false, false] (by kernel_rfl) rfl rfl ⟨(blk_cell BK207.out 0).trans rfl, (blk_cell BK207.out 1).trans rfl, (blk_cell BK207.out 2).trans rfl, (blk_cell BK207.out 3).trans rfl, (blk_cell BK207.out 4).trans rfl, (blk_cell BK207.out 5).trans rfl, (blk_cell BK207.out 6).trans rfl, (blk_cell BK207.out 7).trans rfl, (blk_cell BK207.out 8).trans rfl, (blk_cell BK207.out 9).trans rfl, (blk_cell BK207.out 10).trans rfl, (blk_cell BK207.out 11).trans rfl, (blk_cell BK207.out 12).trans rfl, (blk_cell BK207.out 13).trans rfl, (blk_cell BK207.out 14).trans rfl, (blk_cell BK207.out 15).trans rfl, (blk_cell BK207.out 16).trans rfl⟩ (fun hHeld => ?_); refine with_tabW longcaseref08_Print.tab7 longcaseref08_Print.bits7 (fun HT_ HW_ => ?_)
                    generalize w34.drew = w35 at BK207 HB hHeld ⊢
                    refine pure_ (i := 0) (N := some 39) (v := ?_) (a' := ?_) #[true, false, false, false, false, false, false, false, false, false, false, false] rfl rfl (any_of HT_.out (by kernel_rfl)) (fun _ _ _ h => h) (Or.inl ⟨by rfl, ?_⟩) ?_ ?_
                    rotate_left
                    · intro w'
                      go_simp
                      with_reducible rfl
                    rotate_left
                    · simp only [Act.put, List.setIfInBounds_toArray, List.set_cons_zero, List.set_cons_succ, i64_w, i32_w]
                      rfl
                    refine pure_ (i := 1) (N := some 40) (v := ?_) (a' := ?_) #[true, true, false, false, false, false, false, false, false, false, false, false] rfl rfl (any_of HT_.out (by kernel_rfl)) (fun _ _ _ h => h) (Or.inl ⟨by rfl, ?_⟩) ?_ ?_
                    rotate_left
                    · intro w'
                      go_simp
                      with_reducible rfl
                    rotate_left
                    · simp only [Act.put, List.setIfInBounds_toArray, List.set_cons_zero, List.set_cons_succ, i64_w, i32_w]
                      rfl
                    refine pure_ (i := 2) (N := some 41) (v := ?_) (a' := ?_) #[true, true, true, false, false, false, false, false, false, false, false, false] rfl rfl (any_of HT_.out (by kernel_rfl)) (fun _ _ _ h => h) (Or.inl ⟨by rfl, ?_⟩) ?_ ?_
                    rotate_left
                    · intro w'
                      go_simp
                      with_reducible rfl
                    rotate_left
                    · simp only [Act.put, List.setIfInBounds_toArray, List.set_cons_zero, List.set_cons_succ, i64_w, i32_w]
                      rfl
                    refine pure_ (i := 7) (N := some 46) (v := ?_) (a' := ?_) #[true, true, true, false, false, false, false, true, false, false, false, false] rfl rfl (any_of HT_.out (by kernel_rfl)) (fun _ _ _ h => h) (Or.inl ⟨by rfl, ?_⟩) ?_ ?_
                    rotate_left
                    · intro w'
                      go_simp
                      with_reducible rfl
                    rotate_left
                    · simp only [Act.put, List.setIfInBounds_toArray, List.set_cons_zero, List.set_cons_succ, i64_w, i32_w]
                      rfl
                    refine take_ (i := 3) (N := some 42) (v := ?_) (a' := ?_) #[true, true, true, true, false, false, false, true, false, false, false, false] rfl rfl (take_ofW HT_.out HW_.out (by kernel_rfl)) (fun _ _ _ h => h) (Or.inl ⟨by rfl, ?_⟩) hHeld ?_ ?_
                    rotate_left
                    · rintro w' ⟨s0, s1, s2, s3, s4, s5, s6, s7, s8, s9, s10, s11, s12, s13, s14, s15, s16⟩
                      go_simp
                      with_reducible rfl
                    rotate_left
                    · simp only [Act.put, List.setIfInBounds_toArray, List.set_cons_zero, List.set_cons_succ, i64_w, i32_w]
                      rfl
                    refine take_ (i := 8) (N := some 47) (v := ?_) (a' := ?_) #[true, true, true, true, false, false, false, true, true, false, false, false] rfl rfl (take_ofW HT_.out HW_.out (by kernel_rfl)) (fun _ _ _ h => h) (Or.inl ⟨by rfl, ?_⟩) hHeld ?_ ?_
                    rotate_left
                    · rintro w' ⟨s0, s1, s2, s3, s4, s5, s6, s7, s8, s9, s10, s11, s12, s13, s14, s15, s16⟩
                      go_simp
                      with_reducible rfl
                    rotate_left
                    · simp only [Act.put, List.setIfInBounds_toArray, List.set_cons_zero, List.set_cons_succ, i64_w, i32_w]
                      rfl
                    refine one_ (i := 4) (N := some 43) #[true, true, true, true, true, false, false, true, true, false, false, false] rfl rfl (one_of HT_.out (by kernel_rfl)) (by decide) (fun K hK => ?_)
                    refine goes_ Tryd.func34 (by kernel_rfl) rfl #[.agg #[.int .i64 a0_7, .int .i64 a0_8, .int .i64 a0_9, .int .i64 a0_10, .int .i64 a0_11]] (by rfl) rfl rfl (by (try simp only [List.map_toArray, List.map_cons, List.map_nil]); first | done | rfl | (simp only [List.length_drop, List.length_take]; rfl)) ?_
                    with_reducible refine (longcaseref08_change.calls k a0_7 a0_8 a0_9 a0_10 a0_11 t214 _ A25.out).mono ?_
                    rintro e w36 ⟨rfl, hb⟩
                    refine ⟨_, rfl, ?_⟩
                    have n0_ := Aside0.mk (blk_below (g := gb207) (o := .cells #[.int .i64 a0_0, .bool a0_1, .string a0_2, .int .i64 a0_3, .bool a0_4, .string a0_5, .bool true, .int .i64 a0_7, .int .i64 a0_8, .int .i64 a0_9, .int .i64 a0_10, .int .i64 a0_11, .int .i64 a0_12, .int .i64 a0_13, .int .i64 a0_14, .int .i64 a0_15, .int .i64 a0_16] 27 (0, 0)) (by (with_reducible repeat (first | refine blk_drewN ?_ _ | refine blk_drew ?_ | refine blk_alloc ?_ _)); exact BK207.out) hb)
                    have n1_ := Aside0.mk (below_step (by repeat (first | (with_reducible first | exact HB.out | apply below_alloc | apply pw_below_drewN | apply below_drew1 | refine below_set ?_ GE207.out) | exact HB.out)) hb)
                    clear BK207
                    clear HB
                    have BK207 := n0_
                    have HB := n1_
                    clear n0_ n1_
                    (try clear hb)
                    (try clear hb2)
                    (try clear hk)
                    (try clear hi)
                    refine hK.out _ _ ⟨(blk_cell BK207.out 0).trans rfl, (blk_cell BK207.out 1).trans rfl, (blk_cell BK207.out 2).trans rfl, (blk_cell BK207.out 3).trans rfl, (blk_cell BK207.out 4).trans rfl, (blk_cell BK207.out 5).trans rfl, (blk_cell BK207.out 6).trans rfl, (blk_cell BK207.out 7).trans rfl, (blk_cell BK207.out 8).trans rfl, (blk_cell BK207.out 9).trans rfl, (blk_cell BK207.out 10).trans rfl, (blk_cell BK207.out 11).trans rfl, (blk_cell BK207.out 12).trans rfl, (blk_cell BK207.out 13).trans rfl, (blk_cell BK207.out 14).trans rfl, (blk_cell BK207.out 15).trans rfl, (blk_cell BK207.out 16).trans rfl⟩ (fun hHeld => ?_)
                    clear hK K
                    refine norm_ (a' := ?_) ?_ ?_
                    rotate_left
                    · show Act.put _ (some 43) _ = _
                      simp only [Act.put, List.setIfInBounds_toArray, List.set_cons_zero, List.set_cons_succ, i64_w, i32_w]
                      rfl
                    refine pure_ (i := 5) (N := some 44) (v := ?_) (a' := ?_) #[true, true, true, true, true, true, false, true, true, false, false, false] rfl rfl (any_of HT_.out (by kernel_rfl)) (fun _ _ _ h => h) (Or.inl ⟨by rfl, ?_⟩) ?_ ?_
                    rotate_left
                    · intro w'
                      go_simp
                      with_reducible rfl
                    rotate_left
                    · simp only [Act.put, List.setIfInBounds_toArray, List.set_cons_zero, List.set_cons_succ, i64_w, i32_w]
                      rfl
                    refine pure_ (i := 6) (N := some 45) (v := ?_) (a' := ?_) #[true, true, true, true, true, true, true, true, true, false, false, false] rfl rfl (any_of HT_.out (by kernel_rfl)) (fun _ _ _ h => h) (Or.inl ⟨by rfl, ?_⟩) ?_ ?_
                    rotate_left
                    · intro w'
                      go_simp
                      with_reducible rfl
                    rotate_left
                    · simp only [Act.put, List.setIfInBounds_toArray, List.set_cons_zero, List.set_cons_succ, i64_w, i32_w]
                      rfl
                    refine one_ (i := 9) (N := some 48) #[true, true, true, true, true, true, true, true, true, true, false, false] rfl rfl (one_of HT_.out (by kernel_rfl)) (by decide) (fun K hK => ?_)
                    refine goes_ Tryd.func34 (by kernel_rfl) rfl #[.agg #[.int .i64 a0_12, .int .i64 a0_13, .int .i64 a0_14, .int .i64 a0_15, .int .i64 a0_16]] (by rfl) rfl rfl (by (try simp only [List.map_toArray, List.map_cons, List.map_nil]); first | done | rfl | (simp only [List.length_drop, List.length_take]; rfl)) ?_
                    with_reducible refine (longcaseref08_change.calls k a0_12 a0_13 a0_14 a0_15 a0_16 t215 _ A28.out).mono ?_
                    rintro e w37 ⟨rfl, hb⟩
                    refine ⟨_, rfl, ?_⟩
                    have n0_ := Aside0.mk (blk_below (g := gb207) (o := .cells #[.int .i64 a0_0, .bool a0_1, .string a0_2, .int .i64 a0_3, .bool a0_4, .string a0_5, .bool true, .int .i64 a0_7, .int .i64 a0_8, .int .i64 a0_9, .int .i64 a0_10, .int .i64 a0_11, .int .i64 a0_12, .int .i64 a0_13, .int .i64 a0_14, .int .i64 a0_15, .int .i64 a0_16] 27 (0, 0)) (by (with_reducible repeat (first | refine blk_drewN ?_ _ | refine blk_drew ?_ | refine blk_alloc ?_ _)); exact BK207.out) hb)
                    have n1_ := Aside0.mk (below_step (by repeat (first | (with_reducible first | exact HB.out | apply below_alloc | apply pw_below_drewN | apply below_drew1 | refine below_set ?_ GE207.out) | exact HB.out)) hb)
                    clear BK207
                    clear HB
                    have BK207 := n0_
                    have HB := n1_
                    clear n0_ n1_
                    (try clear hb)
                    (try clear hb2)
                    (try clear hk)
                    (try clear hi)
                    refine hK.out _ _ ⟨(blk_cell BK207.out 0).trans rfl, (blk_cell BK207.out 1).trans rfl, (blk_cell BK207.out 2).trans rfl, (blk_cell BK207.out 3).trans rfl, (blk_cell BK207.out 4).trans rfl, (blk_cell BK207.out 5).trans rfl, (blk_cell BK207.out 6).trans rfl, (blk_cell BK207.out 7).trans rfl, (blk_cell BK207.out 8).trans rfl, (blk_cell BK207.out 9).trans rfl, (blk_cell BK207.out 10).trans rfl, (blk_cell BK207.out 11).trans rfl, (blk_cell BK207.out 12).trans rfl, (blk_cell BK207.out 13).trans rfl, (blk_cell BK207.out 14).trans rfl, (blk_cell BK207.out 15).trans rfl, (blk_cell BK207.out 16).trans rfl⟩ (fun hHeld => ?_)
                    clear hK K
                    refine norm_ (a' := ?_) ?_ ?_
                    rotate_left
                    · show Act.put _ (some 48) _ = _
                      simp only [Act.put, List.setIfInBounds_toArray, List.set_cons_zero, List.set_cons_succ, i64_w, i32_w]
                      rfl
                    refine pure_ (i := 10) (N := some 49) (v := ?_) (a' := ?_) #[true, true, true, true, true, true, true, true, true, true, true, false] rfl rfl (any_of HT_.out (by kernel_rfl)) (fun _ _ _ h => h) (Or.inl ⟨by rfl, ?_⟩) ?_ ?_
                    rotate_left
                    · intro w'
                      go_simp
                      with_reducible rfl
                    rotate_left
                    · simp only [Act.put, List.setIfInBounds_toArray, List.set_cons_zero, List.set_cons_succ, i64_w, i32_w]
                      rfl
                    refine pure_ (i := 11) (N := some 2) (v := ?_) (a' := ?_) #[true, true, true, true, true, true, true, true, true, true, true, true] rfl rfl (any_of HT_.out (by kernel_rfl)) (fun _ _ _ h => h) (Or.inl ⟨by rfl, ?_⟩) ?_ ?_
                    rotate_left
                    · intro w'
                      go_simp
                      with_reducible rfl
                    rotate_left
                    · simp only [Act.put, List.setIfInBounds_toArray, List.set_cons_zero, List.set_cons_succ, i64_w, i32_w]
                      rfl
                    refine done_ (done_of HT_.out (by kernel_rfl)) ?_
                    try go_wp2
                    go_ret
                    exact ⟨by first | rfl | (simp [errW_none, errW_some] <;> rfl) | (simp [*, errW_none, errW_some] <;> rfl), by repeat (first | (with_reducible first | exact HB.out | apply below_alloc | apply pw_below_drewN | apply below_drew1 | refine below_set ?_ GE207.out) | exact HB.out)⟩
                  · rw [if_neg c29] at H
                    exact absurd H (by simp)
                · rw [if_neg c27] at H
                  exact absurd H (by simp)
              · rw [if_neg c26] at H
                exact absurd H (by simp)
            · rw [if_neg c24] at H
              exact absurd H (by simp)
          · rw [if_neg c23] at H
            exact absurd H (by simp)
      · rw [if_neg c7] at H
        exact absurd H (by simp)
    · replace c5 := Bool.eq_false_iff.mpr c5
      subst c5
      have H1 : (some (t208 ++ t209)) = some r := by rw [if_neg (show ¬ (false = true) by decide)] at H; exact H
      clear H
      have H := H1
      clear H1
      obtain rfl := Option.some.inj H
      go_enter Tryd.func17, Tryd.ntmps17
      try go_wp2_with (first | ((with_reducible refine gate_dst (N := 1) rfl ?_); refine box_event ?hg (N := 1) ?hd (cs := #[.int .i64 a0_0, .bool a0_1, .string a0_2, .int .i64 a0_3, .bool a0_4, .string a0_5, .bool false, .int .i64 a0_7, .int .i64 a0_8, .int .i64 a0_9, .int .i64 a0_10, .int .i64 a0_11, .int .i64 a0_12, .int .i64 a0_13, .int .i64 a0_14, .int .i64 a0_15, .int .i64 a0_16]) (t := 27) ?hr ?_; (case hd => rfl); (case hg => rfl); (case hr => first | (go_simp; done) | (go_simp; rfl)); intro gb207 hg w38 hbox hb; have n0_ := Aside0.mk (below_step (by repeat (first | (with_reducible first | exact HB.out | apply below_alloc | apply pw_below_drewN | apply below_drew1) | exact HB.out)) hb); have n1_ := Aside0.mk (hbox); have n2_ := Aside0.mk ((by rw [hg]; exact (below_size (by repeat (first | (with_reducible first | exact HB.out | apply below_alloc | apply pw_below_drewN | apply below_drew1) | exact HB.out))) : w.heap.size ≤ gb207)); have n3_ := Aside0.mk ((by rw [hg]; exact (below_size (by repeat (first | (with_reducible first | exact HB.out | apply below_alloc | apply pw_below_drewN | apply below_drew1) | exact HB.out))) : w.heap.size ≤ gb207)); clear HB; have HB := n0_; have BK207 := n1_; have GW207 := n2_; have GE207 := n3_; clear n0_ n1_ n2_ n3_; clear hb hbox hg))
      have n0_ := Aside0.mk (blk_drew BK207.out)
      have n1_ := Aside0.mk (below_drew1 HB.out)
      clear BK207
      clear HB
      have BK207 := n0_
      have HB := n1_
      clear n0_ n1_
      refine start_ (n := 11) (S := fun w' => w'.cell? ⟨gb207, 0, none⟩ = some (.int .i64 a0_0) ∧ w'.cell? ⟨gb207, 1, none⟩ = some (.bool a0_1) ∧ w'.cell? ⟨gb207, 2, none⟩ = some (.string a0_2) ∧ w'.cell? ⟨gb207, 3, none⟩ = some (.int .i64 a0_3) ∧ w'.cell? ⟨gb207, 4, none⟩ = some (.bool a0_4) ∧ w'.cell? ⟨gb207, 5, none⟩ = some (.string a0_5) ∧ w'.cell? ⟨gb207, 6, none⟩ = some (.bool false) ∧ w'.cell? ⟨gb207, 7, none⟩ = some (.int .i64 a0_7) ∧ w'.cell? ⟨gb207, 8, none⟩ = some (.int .i64 a0_8) ∧ w'.cell? ⟨gb207, 9, none⟩ = some (.int .i64 a0_9) ∧ w'.cell? ⟨gb207, 10, none⟩ = some (.int .i64 a0_10) ∧ w'.cell? ⟨gb207, 11, none⟩ = some (.int .i64 a0_11) ∧ w'.cell? ⟨gb207, 12, none⟩ = some (.int .i64 a0_12) ∧ w'.cell? ⟨gb207, 13, none⟩ = some (.int .i64 a0_13) ∧ w'.cell? ⟨gb207, 14, none⟩ = some (.int .i64 a0_14) ∧ w'.cell? ⟨gb207, 15, none⟩ = some (.int .i64 a0_15) ∧ w'.cell? ⟨gb207, 16, none⟩ = some (.int .i64 a0_16)) (ds := []) #[false, false, false, false, false, false, false, false, false, false, false] (by kernel_rfl) rfl rfl ⟨(blk_cell BK207.out 0).trans rfl, (blk_cell BK207.out 1).trans rfl, (blk_cell BK207.out 2).trans rfl, (blk_cell BK207.out 3).trans rfl, (blk_cell BK207.out 4).trans rfl, (blk_cell BK207.out 5).trans rfl, (blk_cell BK207.out 6).trans rfl, (blk_cell BK207.out 7).trans rfl, (blk_cell BK207.out 8).trans rfl, (blk_cell BK207.out 9).trans rfl, (blk_cell BK207.out 10).trans rfl, (blk_cell BK207.out 11).trans rfl, (blk_cell BK207.out 12).trans rfl, (blk_cell BK207.out 13).trans rfl, (blk_cell BK207.out 14).trans rfl, (blk_cell BK207.out 15).trans rfl, (blk_cell BK207.out 16).trans rfl⟩ (fun hHeld => ?_); refine with_tabW longcaseref08_Print.tab1 longcaseref08_Print.bits1 (fun HT_ HW_ => ?_)
      generalize w38.drew = w39 at BK207 HB hHeld ⊢
      refine pure_ (i := 0) (N := some 4) (v := ?_) (a' := ?_) #[true, false, false, false, false, false, false, false, false, false, false] rfl rfl (any_of HT_.out (by kernel_rfl)) (fun _ _ _ h => h) (Or.inl ⟨by rfl, ?_⟩) ?_ ?_
      rotate_left
      · intro w'
        go_simp
        with_reducible rfl
      rotate_left
      · simp only [Act.put, List.setIfInBounds_toArray, List.set_cons_zero, List.set_cons_succ, i64_w, i32_w]
        rfl
      refine pure_ (i := 1) (N := some 5) (v := ?_) (a' := ?_) #[true, true, false, false, false, false, false, false, false, false, false] rfl rfl (any_of HT_.out (by kernel_rfl)) (fun _ _ _ h => h) (Or.inl ⟨by rfl, ?_⟩) ?_ ?_
      rotate_left
      · intro w'
        go_simp
        with_reducible rfl
      rotate_left
      · simp only [Act.put, List.setIfInBounds_toArray, List.set_cons_zero, List.set_cons_succ, i64_w, i32_w]
        rfl
      refine pure_ (i := 4) (N := some 8) (v := ?_) (a' := ?_) #[true, true, false, false, true, false, false, false, false, false, false] rfl rfl (any_of HT_.out (by kernel_rfl)) (fun _ _ _ h => h) (Or.inl ⟨by rfl, ?_⟩) ?_ ?_
      rotate_left
      · intro w'
        go_simp
        with_reducible rfl
      rotate_left
      · simp only [Act.put, List.setIfInBounds_toArray, List.set_cons_zero, List.set_cons_succ, i64_w, i32_w]
        rfl
      refine pure_ (i := 5) (N := some 9) (v := ?_) (a' := ?_) #[true, true, false, false, true, true, false, false, false, false, false] rfl rfl (any_of HT_.out (by kernel_rfl)) (fun _ _ _ h => h) (Or.inl ⟨by rfl, ?_⟩) ?_ ?_
      rotate_left
      · intro w'
        go_simp
        with_reducible rfl
      rotate_left
      · simp only [Act.put, List.setIfInBounds_toArray, List.set_cons_zero, List.set_cons_succ, i64_w, i32_w]
        rfl
      refine take_ (i := 2) (N := some 6) (v := ?_) (a' := ?_) #[true, true, true, false, true, true, false, false, false, false, false] rfl rfl (take_ofW HT_.out HW_.out (by kernel_rfl)) (fun _ _ _ h => h) (Or.inl ⟨by rfl, ?_⟩) hHeld ?_ ?_
      rotate_left
      · rintro w' ⟨s0, s1, s2, s3, s4, s5, s6, s7, s8, s9, s10, s11, s12, s13, s14, s15, s16⟩
        go_simp
        with_reducible rfl
      rotate_left
      · simp only [Act.put, List.setIfInBounds_toArray, List.set_cons_zero, List.set_cons_succ, i64_w, i32_w]
        rfl
      refine take_ (i := 6) (N := some 10) (v := ?_) (a' := ?_) #[true, true, true, false, true, true, true, false, false, false, false] rfl rfl (take_ofW HT_.out HW_.out (by kernel_rfl)) (fun _ _ _ h => h) (Or.inl ⟨by rfl, ?_⟩) hHeld ?_ ?_
      rotate_left
      · rintro w' ⟨s0, s1, s2, s3, s4, s5, s6, s7, s8, s9, s10, s11, s12, s13, s14, s15, s16⟩
        go_simp
        with_reducible rfl
      rotate_left
      · simp only [Act.put, List.setIfInBounds_toArray, List.set_cons_zero, List.set_cons_succ, i64_w, i32_w]
        rfl
      refine pure_ (i := 7) (N := some 11) (v := ?_) (a' := ?_) #[true, true, true, false, true, true, true, true, false, false, false] rfl rfl (any_of HT_.out (by kernel_rfl)) (fun _ _ _ h => h) (Or.inl ⟨by rfl, ?_⟩) ?_ ?_
      rotate_left
      · intro w'
        go_simp
        with_reducible rfl
      rotate_left
      · simp only [Act.put, List.setIfInBounds_toArray, List.set_cons_zero, List.set_cons_succ, i64_w, i32_w]
        rfl
      refine one_ (i := 3) (N := some 7) #[true, true, true, true, true, true, true, true, false, false, false] rfl rfl (one_of HT_.out (by kernel_rfl)) (by decide) (fun K hK => ?_)
      refine goes_ Tryd.func32 (by kernel_rfl) rfl #[.string a0_2] (by rfl) rfl rfl (by (try simp only [List.map_toArray, List.map_cons, List.map_nil]); first | done | rfl | (simp only [List.length_drop, List.length_take]; rfl)) ?_
      with_reducible refine (longcaseref08_named.calls k a0_2 t208 _ A2.out).mono ?_
      rintro e w' ⟨rfl, ⟨nd, rfl⟩⟩
      refine ⟨_, rfl, ?_⟩
      refine hK.out _ _ ⟨(blk_cell BK207.out 0).trans rfl, (blk_cell BK207.out 1).trans rfl, (blk_cell BK207.out 2).trans rfl, (blk_cell BK207.out 3).trans rfl, (blk_cell BK207.out 4).trans rfl, (blk_cell BK207.out 5).trans rfl, (blk_cell BK207.out 6).trans rfl, (blk_cell BK207.out 7).trans rfl, (blk_cell BK207.out 8).trans rfl, (blk_cell BK207.out 9).trans rfl, (blk_cell BK207.out 10).trans rfl, (blk_cell BK207.out 11).trans rfl, (blk_cell BK207.out 12).trans rfl, (blk_cell BK207.out 13).trans rfl, (blk_cell BK207.out 14).trans rfl, (blk_cell BK207.out 15).trans rfl, (blk_cell BK207.out 16).trans rfl⟩ (fun hHeld => ?_)
      clear hK K
      refine norm_ (a' := ?_) ?_ ?_
      rotate_left
      · show Act.put _ (some 7) _ = _
        simp only [Act.put, List.setIfInBounds_toArray, List.set_cons_zero, List.set_cons_succ, i64_w, i32_w]
        rfl
      refine one_ (i := 8) (N := some 12) #[true, true, true, true, true, true, true, true, true, false, false] rfl rfl (one_of HT_.out (by kernel_rfl)) (by decide) (fun K hK => ?_)
      refine goes_ Tryd.func33 (by kernel_rfl) rfl #[.int .i64 (wrap64 (-a0_0))] (by rfl) rfl rfl (by (try simp only [List.map_toArray, List.map_cons, List.map_nil]); first | done | rfl | (simp only [List.length_drop, List.length_take]; rfl)) ?_
      with_reducible refine (longcaseref08_hours.calls k (wrap64 (-a0_0)) t209 _ A3.out).mono ?_
      rintro e w40 ⟨rfl, hb⟩
      refine ⟨_, rfl, ?_⟩
      have n0_ := Aside0.mk (blk_below (g := gb207) (o := .cells #[.int .i64 a0_0, .bool a0_1, .string a0_2, .int .i64 a0_3, .bool a0_4, .string a0_5, .bool false, .int .i64 a0_7, .int .i64 a0_8, .int .i64 a0_9, .int .i64 a0_10, .int .i64 a0_11, .int .i64 a0_12, .int .i64 a0_13, .int .i64 a0_14, .int .i64 a0_15, .int .i64 a0_16] 27 (0, 0)) (by (with_reducible repeat (first | refine blk_drewN ?_ _ | refine blk_drew ?_ | refine blk_alloc ?_ _)); exact BK207.out) hb)
      have n1_ := Aside0.mk (below_step (by repeat (first | (with_reducible first | exact HB.out | apply below_alloc | apply pw_below_drewN | apply below_drew1 | refine below_set ?_ GE207.out) | exact HB.out)) hb)
      clear BK207
      clear HB
      have BK207 := n0_
      have HB := n1_
      clear n0_ n1_
      (try clear hb)
      (try clear hb2)
      (try clear hk)
      (try clear hi)
      refine hK.out _ _ ⟨(blk_cell BK207.out 0).trans rfl, (blk_cell BK207.out 1).trans rfl, (blk_cell BK207.out 2).trans rfl, (blk_cell BK207.out 3).trans rfl, (blk_cell BK207.out 4).trans rfl, (blk_cell BK207.out 5).trans rfl, (blk_cell BK207.out 6).trans rfl, (blk_cell BK207.out 7).trans rfl, (blk_cell BK207.out 8).trans rfl, (blk_cell BK207.out 9).trans rfl, (blk_cell BK207.out 10).trans rfl, (blk_cell BK207.out 11).trans rfl, (blk_cell BK207.out 12).trans rfl, (blk_cell BK207.out 13).trans rfl, (blk_cell BK207.out 14).trans rfl, (blk_cell BK207.out 15).trans rfl, (blk_cell BK207.out 16).trans rfl⟩ (fun hHeld => ?_)
      clear hK K
      refine norm_ (a' := ?_) ?_ ?_
      rotate_left
      · show Act.put _ (some 12) _ = _
        simp only [Act.put, List.setIfInBounds_toArray, List.set_cons_zero, List.set_cons_succ, i64_w, i32_w]
        rfl
      refine pure_ (i := 9) (N := some 13) (v := ?_) (a' := ?_) #[true, true, true, true, true, true, true, true, true, true, false] rfl rfl (any_of HT_.out (by kernel_rfl)) (fun _ _ _ h => h) (Or.inl ⟨by rfl, ?_⟩) ?_ ?_
      rotate_left
      · intro w'
        go_simp
        with_reducible rfl
      rotate_left
      · simp only [Act.put, List.setIfInBounds_toArray, List.set_cons_zero, List.set_cons_succ, i64_w, i32_w]
        rfl
      refine pure_ (i := 10) (N := some 3) (v := ?_) (a' := ?_) #[true, true, true, true, true, true, true, true, true, true, true] rfl rfl (any_of HT_.out (by kernel_rfl)) (fun _ _ _ h => h) (Or.inl ⟨by rfl, ?_⟩) ?_ ?_
      rotate_left
      · intro w'
        go_simp
        with_reducible rfl
      rotate_left
      · simp only [Act.put, List.setIfInBounds_toArray, List.set_cons_zero, List.set_cons_succ, i64_w, i32_w]
        rfl
      refine done_ (done_of HT_.out (by kernel_rfl)) ?_
      have hcz41_0 : w40.cell? ⟨gb207, 0, none⟩ = some (.int .i64 a0_0) := (blk_cell BK207.out 0).trans rfl
      have hcz41_1 : w40.cell? ⟨gb207, 1, none⟩ = some (.bool a0_1) := (blk_cell BK207.out 1).trans rfl
      have hcz41_2 : w40.cell? ⟨gb207, 2, none⟩ = some (.string a0_2) := (blk_cell BK207.out 2).trans rfl
      have hcz41_3 : w40.cell? ⟨gb207, 3, none⟩ = some (.int .i64 a0_3) := (blk_cell BK207.out 3).trans rfl
      have hcz41_4 : w40.cell? ⟨gb207, 4, none⟩ = some (.bool a0_4) := (blk_cell BK207.out 4).trans rfl
      have hcz41_5 : w40.cell? ⟨gb207, 5, none⟩ = some (.string a0_5) := (blk_cell BK207.out 5).trans rfl
      have hcz41_6 : w40.cell? ⟨gb207, 6, none⟩ = some (.bool false) := (blk_cell BK207.out 6).trans rfl
      have hcz41_7 : w40.cell? ⟨gb207, 7, none⟩ = some (.int .i64 a0_7) := (blk_cell BK207.out 7).trans rfl
      have hcz41_8 : w40.cell? ⟨gb207, 8, none⟩ = some (.int .i64 a0_8) := (blk_cell BK207.out 8).trans rfl
      have hcz41_9 : w40.cell? ⟨gb207, 9, none⟩ = some (.int .i64 a0_9) := (blk_cell BK207.out 9).trans rfl
      have hcz41_10 : w40.cell? ⟨gb207, 10, none⟩ = some (.int .i64 a0_10) := (blk_cell BK207.out 10).trans rfl
      have hcz41_11 : w40.cell? ⟨gb207, 11, none⟩ = some (.int .i64 a0_11) := (blk_cell BK207.out 11).trans rfl
      have hcz41_12 : w40.cell? ⟨gb207, 12, none⟩ = some (.int .i64 a0_12) := (blk_cell BK207.out 12).trans rfl
      have hcz41_13 : w40.cell? ⟨gb207, 13, none⟩ = some (.int .i64 a0_13) := (blk_cell BK207.out 13).trans rfl
      have hcz41_14 : w40.cell? ⟨gb207, 14, none⟩ = some (.int .i64 a0_14) := (blk_cell BK207.out 14).trans rfl
      have hcz41_15 : w40.cell? ⟨gb207, 15, none⟩ = some (.int .i64 a0_15) := (blk_cell BK207.out 15).trans rfl
      have hcz41_16 : w40.cell? ⟨gb207, 16, none⟩ = some (.int .i64 a0_16) := (blk_cell BK207.out 16).trans rfl
      have hfz41_0 := blk_frozen BK207.out 0
      have hfz41_1 := blk_frozen BK207.out 1
      have hfz41_2 := blk_frozen BK207.out 2
      have hfz41_3 := blk_frozen BK207.out 3
      have hfz41_4 := blk_frozen BK207.out 4
      have hfz41_5 := blk_frozen BK207.out 5
      have hfz41_6 := blk_frozen BK207.out 6
      have hfz41_7 := blk_frozen BK207.out 7
      have hfz41_8 := blk_frozen BK207.out 8
      have hfz41_9 := blk_frozen BK207.out 9
      have hfz41_10 := blk_frozen BK207.out 10
      have hfz41_11 := blk_frozen BK207.out 11
      have hfz41_12 := blk_frozen BK207.out 12
      have hfz41_13 := blk_frozen BK207.out 13
      have hfz41_14 := blk_frozen BK207.out 14
      have hfz41_15 := blk_frozen BK207.out 15
      have hfz41_16 := blk_frozen BK207.out 16
      try go_wp2
      go_ret
      exact ⟨by first | rfl | (simp [errW_none, errW_some] <;> rfl) | (simp [*, errW_none, errW_some] <;> rfl), by repeat (first | (with_reducible first | exact HB.out | apply below_alloc | apply pw_below_drewN | apply below_drew1 | refine below_set ?_ GE207.out) | exact HB.out)⟩
  · rw [if_neg c4] at H
    exact absurd H (by simp)
end Go.Proofs.YtnbjneknicppcaaDoor.Fn

namespace Go.Proofs.YtnbjneknicppcaaDoor.Fn
set_option linter.unusedVariables false
set_option linter.unusedSimpArgs false
open Go.RowKit Go.Proofs.YtnbjneknicppcaaDoorW.PrintWords Go.Proofs.YtnbjneknicppcaaDoorW.PrintLast Go.Proofs.YtnbjneknicppcaaDoorW.PrintMore
theorem Tx_app (a b : List UInt8) : Tx a ++ Tx b = Tx (a ++ b) := by
  apply ByteArray.ext
  simp
theorem refTwo_eq (n : Nat) (h : n < 100) : longcaseref08_two.f (n : Int) = some (Tx (two n)) := by
  unfold longcaseref08_two.f
  rw [Int.tdiv_eq_ediv_of_nonneg (by omega), w64 (a := (n : Int) / 10) ⟨by omega, by omega⟩, Int.tmod_eq_emod_of_nonneg (by omega), w64 ⟨by omega, by omega⟩, w64 ⟨by omega, by omega⟩]
  unfold strOfNums two dig1
  simp only [List.map_cons, List.map_nil]
  have h1 : ((48 + (n : Int) / 10) % 256).toNat = 48 + n / 10 := by omega
  have h2 : ((48 + (n : Int) % 10) % 256).toNat = 48 + n % 10 := by omega
  rw [h1, h2]
theorem dec3_len3 (n : Nat) : (dec3 n).length ≤ 3 := by unfold dec3; split <;> (try split) <;> simp
end Go.Proofs.YtnbjneknicppcaaDoor.Fn

namespace Go.Proofs.YtnbjneknicppcaaDoor.Open
set_option maxRecDepth 100000
open Go.ChangeShapes Go.WideShapes Go.ChangeAt Go.RowKit
section
variable {H : Type} {enc : TypeId × Value → H} {w : World} {base : Nat} {spare : Nat → Bool} {held : Bool}
theorem c_int : Tryd.prog.cellsOf 3 = 1 := by kernel_rfl
theorem c_bool : Tryd.prog.cellsOf 4 = 1 := by kernel_rfl
theorem c_string : Tryd.prog.cellsOf 9 = 1 := by kernel_rfl
theorem c_kind : Tryd.prog.cellsOf 23 = 3 := by kernel_rfl
theorem c_change : Tryd.prog.cellsOf 25 = 5 := by kernel_rfl
theorem c_rule : Tryd.prog.cellsOf 27 = 17 := by kernel_rfl
def WfI (n : Int) : Prop := (Lit.int .i64 n).wf = true
theorem kind_of {fuel : Nat} {c0 c1 c2 : Value} {x : DataW H × List MemPlace} (h : DataW.trod enc Tryd.prog w base spare held fuel 23 [c0, c1, c2] = some x) :
    ∃ (o : Int) (d : Bool) (s : ByteArray), c0 = .int .i64 o ∧ c1 = .bool d ∧ c2 = .string s ∧ WfI o ∧ s.size ≤ maxLen := by
  obtain ⟨xs, n, _, hx, _, hlen, hg⟩ := DataW.trod_struct Tryd.underlying23 h
  match xs, hlen with
  | [y0, y1, y2], _ =>
    have h0 : DataW.trod enc Tryd.prog w base spare held n 3 [c0] = some y0 := by simpa [c_int] using hg 0 _ rfl
    have h1 : DataW.trod enc Tryd.prog w base spare held n 4 [c1] = some y1 := by simpa [c_bool] using hg 1 _ rfl
    have h2 : DataW.trod enc Tryd.prog w base spare held n 9 [c2] = some y2 := by simpa [c_string] using hg 2 _ rfl
    obtain ⟨o, e0, _, wo⟩ := DataW.trod_int Tryd.underlying3 h0
    obtain ⟨d, e1, _⟩ := DataW.trod_bool Tryd.underlying4 h1
    obtain ⟨s, e2, _, ws⟩ := DataW.trod_string Tryd.underlying9 h2
    simp at e0 e1 e2
    exact ⟨o, d, s, e0, e1, e2, wo, ws⟩
theorem change_of {fuel : Nat} {c0 c1 c2 c3 c4 : Value} {x : DataW H × List MemPlace} (h : DataW.trod enc Tryd.prog w base spare held fuel 25 [c0, c1, c2, c3, c4] = some x) :
    ∃ (n0 n1 n2 n3 n4 : Int), c0 = .int .i64 n0 ∧ c1 = .int .i64 n1 ∧ c2 = .int .i64 n2 ∧ c3 = .int .i64 n3 ∧ c4 = .int .i64 n4 ∧ WfI n0 ∧ WfI n1 ∧ WfI n2 ∧ WfI n3 ∧ WfI n4 := by
  obtain ⟨xs, n, _, hx, _, hlen, hg⟩ := DataW.trod_struct Tryd.underlying25 h
  match xs, hlen with
  | [y0, y1, y2, y3, y4], _ =>
    have h0 : DataW.trod enc Tryd.prog w base spare held n 3 [c0] = some y0 := by simpa [c_int] using hg 0 _ rfl
    have h1 : DataW.trod enc Tryd.prog w base spare held n 3 [c1] = some y1 := by simpa [c_int] using hg 1 _ rfl
    have h2 : DataW.trod enc Tryd.prog w base spare held n 3 [c2] = some y2 := by simpa [c_int] using hg 2 _ rfl
    have h3 : DataW.trod enc Tryd.prog w base spare held n 3 [c3] = some y3 := by simpa [c_int] using hg 3 _ rfl
    have h4 : DataW.trod enc Tryd.prog w base spare held n 3 [c4] = some y4 := by simpa [c_int] using hg 4 _ rfl
    obtain ⟨n0, e0, _, w0⟩ := DataW.trod_int Tryd.underlying3 h0
    obtain ⟨n1, e1, _, w1⟩ := DataW.trod_int Tryd.underlying3 h1
    obtain ⟨n2, e2, _, w2⟩ := DataW.trod_int Tryd.underlying3 h2
    obtain ⟨n3, e3, _, w3⟩ := DataW.trod_int Tryd.underlying3 h3
    obtain ⟨n4, e4, _, w4⟩ := DataW.trod_int Tryd.underlying3 h4
    simp at e0 e1 e2 e3 e4
    exact ⟨n0, n1, n2, n3, n4, e0, e1, e2, e3, e4, w0, w1, w2, w3, w4⟩
theorem open_rule {r : Reach} {b0 : Nat} {v : Value} {d : DataW H} {p : List MemPlace} (hv : Value.okWide Tryd.prog w r b0 27 v) (h : DataW.Trod enc Tryd.prog w base spare held 27 v d p) :
    ∃ (s0 : Int) (s1 : Bool) (s2 : ByteArray) (d0 : Int) (d1 : Bool) (d2 : ByteArray) (bo : Bool) (a0 : Int) (a1 : Int) (a2 : Int) (a3 : Int) (a4 : Int) (e0 : Int) (e1 : Int) (e2 : Int) (e3 : Int) (e4 : Int), v = .agg #[.int .i64 s0, .bool s1, .string s2, .int .i64 d0, .bool d1, .string d2, .bool bo, .int .i64 a0, .int .i64 a1, .int .i64 a2, .int .i64 a3, .int .i64 a4, .int .i64 e0, .int .i64 e1, .int .i64 e2, .int .i64 e3, .int .i64 e4] ∧ (WfI s0 ∧ s2.size ≤ maxLen ∧ WfI d0 ∧ d2.size ≤ maxLen) ∧ (WfI a0 ∧ WfI a1 ∧ WfI a2 ∧ WfI a3 ∧ WfI a4) ∧ (WfI e0 ∧ WfI e1 ∧ WfI e2 ∧ WfI e3 ∧ WfI e4) := by
  obtain ⟨cs, rfl, hsz⟩ := okWide_struct Tryd.underlying27 hv
  obtain ⟨l⟩ := cs
  match l, hsz.trans c_rule with
  | [b0, b1, b2, b3, b4, b5, b6, b7, b8, b9, b10, b11, b12, b13, b14, b15, b16], _ =>
    obtain ⟨fuel, hf⟩ := h
    obtain ⟨xs, n, _, hx, _, hlen, hg⟩ := DataW.trod_struct Tryd.underlying27 hf
    match xs, hlen with
    | [y0, y1, y2, y3, y4], _ =>
      have h0 : DataW.trod enc Tryd.prog w base spare held n 23 [b0, b1, b2] = some y0 := by simpa [c_kind, Value.cells] using hg 0 _ rfl
      have h1 : DataW.trod enc Tryd.prog w base spare held n 23 [b3, b4, b5] = some y1 := by simpa [c_kind, Value.cells] using hg 1 _ rfl
      have h2 : DataW.trod enc Tryd.prog w base spare held n 4 [b6] = some y2 := by simpa [c_bool, Value.cells] using hg 2 _ rfl
      have h3 : DataW.trod enc Tryd.prog w base spare held n 25 [b7, b8, b9, b10, b11] = some y3 := by simpa [c_change, Value.cells] using hg 3 _ rfl
      have h4 : DataW.trod enc Tryd.prog w base spare held n 25 [b12, b13, b14, b15, b16] = some y4 := by simpa [c_change, Value.cells] using hg 4 _ rfl
      obtain ⟨s0, s1, s2, rfl, rfl, rfl, ws0, ws2⟩ := kind_of h0
      obtain ⟨d0, d1, d2, rfl, rfl, rfl, wd0, wd2⟩ := kind_of h1
      obtain ⟨bo, e2, _⟩ := DataW.trod_bool Tryd.underlying4 h2
      simp at e2
      subst e2
      obtain ⟨a0, a1, a2, a3, a4, rfl, rfl, rfl, rfl, rfl, wa⟩ := change_of h3
      obtain ⟨e0, e1, e2, e3, e4, rfl, rfl, rfl, rfl, rfl, we⟩ := change_of h4
      exact ⟨s0, s1, s2, d0, d1, d2, bo, a0, a1, a2, a3, a4, e0, e1, e2, e3, e4, rfl, ⟨ws0, ws2, wd0, wd2⟩, wa, we⟩
end
end Go.Proofs.YtnbjneknicppcaaDoor.Open

namespace Go.Proofs.YtnbjneknicppcaaDoor.Open
open Go.RowKit
theorem row8 (u : TypeId) (h : Tryd.prog.typeName? 3 u = some "*errors.errorString") : u = 136 :=
  typeName_ptr_named (nm := "errors.errorString") (by kernel_rfl) (by kernel_rfl) (by decide) u h
theorem tab8 : Rows.laid_internal_strconv_uint64pow10 (H := Unit) = Lib.tabData .u64 Lib.pow10Tab := by kernel_rfl
theorem g8_of {W : World} (h : laidMet Tryd.prog [("math/bits.deBruijn32tab", Rows.laid_math_bits_deBruijn32tab), ("math/bits.deBruijn64tab", Rows.laid_math_bits_deBruijn64tab), ("internal/strconv.uint64pow10", Rows.laid_internal_strconv_uint64pow10), ("strconv.ErrRange", Rows.laid_strconv_ErrRange), ("strconv.ErrSyntax", Rows.laid_strconv_ErrSyntax)] W) : Fn.G8 W := by
  have h3 := h.tail.tail
  have h5 := h3.tail.tail
  rw [tab8] at h3
  have hT := Lib.tabIs_of_head Fn.g_tab (show (Tryd.prog.globals[0]?).map (·.type) = some 114 by kernel_rfl) Tryd.underlying114 Tryd.underlying106 (by kernel_rfl) (by kernel_rfl) h3
  obtain ⟨a, s, hv, _, _, _⟩ := laid_sentinel h5 Fn.g_syn (show (Tryd.prog.globals[2]?).map (·.type) = some 77 by kernel_rfl) Tryd.underlying77 row8 Tryd.underlying136 Tryd.underlying138 rfl rfl Tryd.underlying9 (by kernel_rfl) (by kernel_rfl)
  exact ⟨hT, _, _, hv⟩
end Go.Proofs.YtnbjneknicppcaaDoor.Open

namespace Go.Proofs.YtnbjneknicppcaaDoor.Fn
open Go.RowKit Go.Proofs.YtnbjneknicppcaaDoorW.PrintWords Go.Proofs.YtnbjneknicppcaaDoorW.PrintLast Go.Proofs.YtnbjneknicppcaaDoorW.PrintMore
attribute [local go_sem] max2_int min2_int max_two min_two max_three min_three max_four min_four
set_option linter.unusedVariables false
set_option linter.unusedSimpArgs false
/-! ### longcaselaw08_pair: function 20 -/
def longcaselaw08_pair.f (a0 : Int) : Option (ByteArray) := some (strOfNums (([(wrap64 (48 + (wrap64 (Int.tdiv a0 10)))) % 256, (wrap64 (48 + (Int.tmod a0 10))) % 256] : List Int)))
set_option maxHeartbeats 8000000 in
set_option maxRecDepth 100000 in
theorem longcaselaw08_pair.calls (a0 : Int) (r : ByteArray) (w : World) (h : longcaselaw08_pair.f a0 = some r) :
    Calls Tryd.prog 20 #[.int .i64 a0] w fun e w' => e = .returned (.string r) ∧ Below w.heap.size w w' := by
  have HB := Aside0.mk (Below.refl w.heap.size w)
  have H : (some (strOfNums (([(wrap64 (48 + (wrap64 (Int.tdiv a0 10)))) % 256, (wrap64 (48 + (Int.tmod a0 10))) % 256] : List Int)))) = some r := h
  clear h
  obtain ⟨y354, hy354⟩ : ∃ y_ : List Int, y_ = (([(wrap64 (48 + (wrap64 (Int.tdiv a0 10)))) % 256, (wrap64 (48 + (Int.tmod a0 10))) % 256] : List Int)) := ⟨_, rfl⟩
  replace H : (some (strOfNums y354)) = some r := by first | (rw [hy354]; with_reducible exact H) | (have H2_ := (Option.bind_some _ _).symm.trans H; rw [hy354]; with_reducible exact H2_) | (have H2_ := (Option.bind_some _ _).symm.trans H; with_reducible exact H2_) | with_reducible exact H | (rw [hy354]; exact H) | exact H
  have Ny354 := Aside0.mk hy354
  clear hy354
  obtain rfl := Option.some.inj H
  go_enter Tryd.func20, Tryd.ntmps20
  go_wp2_with (first | ((with_reducible refine gate_dst (N := 11) rfl ?_); refine Kd.R_lit (Kd.int .u8) _ 5 ?hg (N := 11) ?hd (xs := ([(wrap64 (48 + (wrap64 (Int.tdiv a0 10)))) % 256, (wrap64 (48 + (Int.tmod a0 10))) % 256] : List Int)) (inner := [.int .u8 ((wrap64 (48 + (wrap64 (Int.tdiv a0 10)))) % 256), .int .u8 ((wrap64 (48 + (Int.tmod a0 10))) % 256)]) (ok := fun _ => True) (okp := fun _ => True) ?hr ?hp (fun _ hk => hk) trivial (Below.refl _ _) (Nat.le_refl _) (by simp) ?_; (case hd => rfl); (case hg => rfl); (case hr => first | (go_simp; done) | (go_simp; rfl)); (case hp => exact (Reps.one (show Kd.M (Kd.int .u8) _ _ _ ((wrap64 (48 + (wrap64 (Int.tdiv a0 10)))) % 256) [.int .u8 ((wrap64 (48 + (wrap64 (Int.tdiv a0 10)))) % 256)] from rfl) (Reps.one (show Kd.M (Kd.int .u8) _ _ _ ((wrap64 (48 + (Int.tmod a0 10))) % 256) [.int .u8 ((wrap64 (48 + (Int.tmod a0 10))) % 256)] from rfl) (Reps.none _ _)))); intro v355 w2 ho3 hb hg_ hnew_; clear hg_ hnew_; (first | rw [← Ny354.out] at ho3 | (simp only [Int.reduceToNat] at ho3; rw [← Ny354.out] at ho3)); have n0_ := Aside0.mk (Kd.R_lower ho3 (below_size (by repeat (first | (with_reducible first | exact HB.out | apply below_alloc | apply pw_below_drewN | apply below_drew1) | exact HB.out)))); have n1_ := Aside0.mk (below_step (by repeat (first | (with_reducible first | exact HB.out | apply below_alloc | apply pw_below_drewN | apply below_drew1) | exact HB.out)) hb); clear HB; have HO356 := n0_; have HB := n1_; clear n0_ n1_; clear hb ho3; have hcv4 := own_string (P := Tryd.prog) Tryd.underlying46 Tryd.underlying5 Tryd.underlying9 (Kd.own_of_R HO356.out)))
  go_ret
  exact ⟨by first | rfl | (simp [errW_none, errW_some] <;> rfl) | (simp [*, errW_none, errW_some] <;> rfl), by repeat (first | (with_reducible first | exact HB.out | apply below_alloc | apply pw_below_drewN | apply below_drew1) | exact HB.out)⟩
end Go.Proofs.YtnbjneknicppcaaDoor.Fn

namespace Go.Proofs.YtnbjneknicppcaaDoor.Fn
open Go.RowKit Go.Proofs.YtnbjneknicppcaaDoorW.PrintWords Go.Proofs.YtnbjneknicppcaaDoorW.PrintLast Go.Proofs.YtnbjneknicppcaaDoorW.PrintMore
attribute [local go_sem] max2_int min2_int max_two min_two max_three min_three max_four min_four
set_option linter.unusedVariables false
set_option linter.unusedSimpArgs false
/-! ### longcaselaw08_three: function 21 -/
def longcaselaw08_three.f (a0 : Int) : Option (ByteArray) := some (strOfNums (([(wrap64 (48 + (wrap64 (Int.tdiv a0 100)))) % 256, (wrap64 (48 + (Int.tmod (wrap64 (Int.tdiv a0 10)) 10))) % 256, (wrap64 (48 + (Int.tmod a0 10))) % 256] : List Int)))
set_option maxHeartbeats 8000000 in
set_option maxRecDepth 100000 in
theorem longcaselaw08_three.calls (a0 : Int) (r : ByteArray) (w : World) (h : longcaselaw08_three.f a0 = some r) :
    Calls Tryd.prog 21 #[.int .i64 a0] w fun e w' => e = .returned (.string r) ∧ Below w.heap.size w w' := by
  have HB := Aside0.mk (Below.refl w.heap.size w)
  have H : (some (strOfNums (([(wrap64 (48 + (wrap64 (Int.tdiv a0 100)))) % 256, (wrap64 (48 + (Int.tmod (wrap64 (Int.tdiv a0 10)) 10))) % 256, (wrap64 (48 + (Int.tmod a0 10))) % 256] : List Int)))) = some r := h
  clear h
  obtain ⟨y402, hy402⟩ : ∃ y_ : List Int, y_ = (([(wrap64 (48 + (wrap64 (Int.tdiv a0 100)))) % 256, (wrap64 (48 + (Int.tmod (wrap64 (Int.tdiv a0 10)) 10))) % 256, (wrap64 (48 + (Int.tmod a0 10))) % 256] : List Int)) := ⟨_, rfl⟩
  replace H : (some (strOfNums y402)) = some r := by first | (rw [hy402]; with_reducible exact H) | (have H2_ := (Option.bind_some _ _).symm.trans H; rw [hy402]; with_reducible exact H2_) | (have H2_ := (Option.bind_some _ _).symm.trans H; with_reducible exact H2_) | with_reducible exact H | (rw [hy402]; exact H) | exact H
  have Ny402 := Aside0.mk hy402
  clear hy402
  obtain rfl := Option.some.inj H
  go_enter Tryd.func21, Tryd.ntmps21
  go_wp2_with (first | ((with_reducible refine gate_dst (N := 16) rfl ?_); refine Kd.R_lit (Kd.int .u8) _ 5 ?hg (N := 16) ?hd (xs := ([(wrap64 (48 + (wrap64 (Int.tdiv a0 100)))) % 256, (wrap64 (48 + (Int.tmod (wrap64 (Int.tdiv a0 10)) 10))) % 256, (wrap64 (48 + (Int.tmod a0 10))) % 256] : List Int)) (inner := [.int .u8 ((wrap64 (48 + (wrap64 (Int.tdiv a0 100)))) % 256), .int .u8 ((wrap64 (48 + (Int.tmod (wrap64 (Int.tdiv a0 10)) 10))) % 256), .int .u8 ((wrap64 (48 + (Int.tmod a0 10))) % 256)]) (ok := fun _ => True) (okp := fun _ => True) ?hr ?hp (fun _ hk => hk) trivial (Below.refl _ _) (Nat.le_refl _) (by simp) ?_; (case hd => rfl); (case hg => rfl); (case hr => first | (go_simp; done) | (go_simp; rfl)); (case hp => exact (Reps.one (show Kd.M (Kd.int .u8) _ _ _ ((wrap64 (48 + (wrap64 (Int.tdiv a0 100)))) % 256) [.int .u8 ((wrap64 (48 + (wrap64 (Int.tdiv a0 100)))) % 256)] from rfl) (Reps.one (show Kd.M (Kd.int .u8) _ _ _ ((wrap64 (48 + (Int.tmod (wrap64 (Int.tdiv a0 10)) 10))) % 256) [.int .u8 ((wrap64 (48 + (Int.tmod (wrap64 (Int.tdiv a0 10)) 10))) % 256)] from rfl) (Reps.one (show Kd.M (Kd.int .u8) _ _ _ ((wrap64 (48 + (Int.tmod a0 10))) % 256) [.int .u8 ((wrap64 (48 + (Int.tmod a0 10))) % 256)] from rfl) (Reps.none _ _))))); intro v403 w2 ho3 hb hg_ hnew_; clear hg_ hnew_; (first | rw [← Ny402.out] at ho3 | (simp only [Int.reduceToNat] at ho3; rw [← Ny402.out] at ho3)); have n0_ := Aside0.mk (Kd.R_lower ho3 (below_size (by repeat (first | (with_reducible first | exact HB.out | apply below_alloc | apply pw_below_drewN | apply below_drew1) | exact HB.out)))); have n1_ := Aside0.mk (below_step (by repeat (first | (with_reducible first | exact HB.out | apply below_alloc | apply pw_below_drewN | apply below_drew1) | exact HB.out)) hb); clear HB; have HO404 := n0_; have HB := n1_; clear n0_ n1_; clear hb ho3; have hcv4 := own_string (P := Tryd.prog) Tryd.underlying46 Tryd.underlying5 Tryd.underlying9 (Kd.own_of_R HO404.out)))
  go_ret
  exact ⟨by first | rfl | (simp [errW_none, errW_some] <;> rfl) | (simp [*, errW_none, errW_some] <;> rfl), by repeat (first | (with_reducible first | exact HB.out | apply below_alloc | apply pw_below_drewN | apply below_drew1) | exact HB.out)⟩
end Go.Proofs.YtnbjneknicppcaaDoor.Fn
