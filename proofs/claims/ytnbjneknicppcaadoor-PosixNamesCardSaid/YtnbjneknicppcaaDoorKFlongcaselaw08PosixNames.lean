/- A function's contract, walked, and what it computes, as a plain function. -/
import Derived.Test.YtnbjneknicppcaaDoorK1
import Derived.Test.YtnbjneknicppcaaDoorK2
import Derived.Test.YtnbjneknicppcaaDoorK3
import Derived.Test.YtnbjneknicppcaaDoorK4
import Derived.Test.YtnbjneknicppcaaDoorK5
import Derived.Test.YtnbjneknicppcaaDoorK6
import Derived.Test.YtnbjneknicppcaaDoorK7
import Derived.Test.YtnbjneknicppcaaDoorK8
namespace Go.Proofs.YtnbjneknicppcaaDoor.Fn
open Go.RowKit Go.Proofs.YtnbjneknicppcaaDoorW.PrintWords Go.Proofs.YtnbjneknicppcaaDoorW.PrintLast Go.Proofs.YtnbjneknicppcaaDoorW.PrintMore
attribute [local go_sem] max2_int min2_int max_two min_two max_three min_three max_four min_four   -- for this text's walks alone
set_option linter.unusedVariables false
set_option linter.unusedSimpArgs false

/-! ### longcaselaw08_PosixNames: function 9 -/
mutual
def longcaselaw08_PosixNames.j0 : Nat → ByteArray → Bool → Bool → Bool → Option (Bool)
  | 0, _, _, _, _ => none
  | k + 1, x0, x3, x4, x5 => longcaselaw08_PosixNames.l0 k x0 x3 x4 x5 0
def longcaselaw08_PosixNames.l0 : Nat → ByteArray → Bool → Bool → Bool → Int → Option (Bool)
  | 0, _, _, _, _, _ => none
  | k + 1, x0, x3, x4, x5, x6 => if x6 < (x0.size : Int) then (if 0 ≤ x6 then (if (bt x0 x6) ≥ 97 then (if (bt x0 x6) ≤ 122 then (if x4 = true then (if x5 = true then (longcaselaw08_PosixNames.l0 k x0 x3 true true (wrap64 (x6 + 1))) else (longcaselaw08_PosixNames.l0 k x0 x3 true false (wrap64 (x6 + 1)))) else (if x5 = true then (longcaselaw08_PosixNames.l0 k x0 x3 false true (wrap64 (x6 + 1))) else (longcaselaw08_PosixNames.l0 k x0 x3 false false (wrap64 (x6 + 1))))) else (if (bt x0 x6) ≥ 65 then (if x4 = true then (if x5 = true then (if (bt x0 x6) ≤ 90 then (longcaselaw08_PosixNames.l0 k x0 x3 (decide ((bt x0 x6) ≤ 90)) true (wrap64 (x6 + 1))) else (if (bt x0 x6) ≥ 48 then (if (bt x0 x6) ≤ 57 then (longcaselaw08_PosixNames.l0 k x0 x3 (decide ((bt x0 x6) ≤ 90)) true (wrap64 (x6 + 1))) else (if (bt x0 x6) = 43 then (longcaselaw08_PosixNames.l0 k x0 x3 (decide ((bt x0 x6) ≤ 90)) true (wrap64 (x6 + 1))) else (longcaselaw08_PosixNames.l0 k x0 x3 (decide ((bt x0 x6) ≤ 90)) ((bt x0 x6) == 45) (wrap64 (x6 + 1))))) else (if (bt x0 x6) = 43 then (longcaselaw08_PosixNames.l0 k x0 x3 (decide ((bt x0 x6) ≤ 90)) true (wrap64 (x6 + 1))) else (longcaselaw08_PosixNames.l0 k x0 x3 (decide ((bt x0 x6) ≤ 90)) ((bt x0 x6) == 45) (wrap64 (x6 + 1)))))) else (longcaselaw08_PosixNames.l0 k x0 x3 (decide ((bt x0 x6) ≤ 90)) false (wrap64 (x6 + 1)))) else (if x5 = true then (if (bt x0 x6) ≤ 90 then (longcaselaw08_PosixNames.l0 k x0 x3 false true (wrap64 (x6 + 1))) else (if (bt x0 x6) ≥ 48 then (if (bt x0 x6) ≤ 57 then (longcaselaw08_PosixNames.l0 k x0 x3 false true (wrap64 (x6 + 1))) else (if (bt x0 x6) = 43 then (longcaselaw08_PosixNames.l0 k x0 x3 false true (wrap64 (x6 + 1))) else (longcaselaw08_PosixNames.l0 k x0 x3 false ((bt x0 x6) == 45) (wrap64 (x6 + 1))))) else (if (bt x0 x6) = 43 then (longcaselaw08_PosixNames.l0 k x0 x3 false true (wrap64 (x6 + 1))) else (longcaselaw08_PosixNames.l0 k x0 x3 false ((bt x0 x6) == 45) (wrap64 (x6 + 1)))))) else (longcaselaw08_PosixNames.l0 k x0 x3 false false (wrap64 (x6 + 1))))) else (if x4 = true then (if x5 = true then (if (bt x0 x6) ≥ 48 then (if (bt x0 x6) ≤ 57 then (longcaselaw08_PosixNames.l0 k x0 x3 false true (wrap64 (x6 + 1))) else (if (bt x0 x6) = 43 then (longcaselaw08_PosixNames.l0 k x0 x3 false true (wrap64 (x6 + 1))) else (longcaselaw08_PosixNames.l0 k x0 x3 false ((bt x0 x6) == 45) (wrap64 (x6 + 1))))) else (if (bt x0 x6) = 43 then (longcaselaw08_PosixNames.l0 k x0 x3 false true (wrap64 (x6 + 1))) else (longcaselaw08_PosixNames.l0 k x0 x3 false ((bt x0 x6) == 45) (wrap64 (x6 + 1))))) else (longcaselaw08_PosixNames.l0 k x0 x3 false false (wrap64 (x6 + 1)))) else (if x5 = true then (if (bt x0 x6) ≥ 48 then (if (bt x0 x6) ≤ 57 then (longcaselaw08_PosixNames.l0 k x0 x3 false true (wrap64 (x6 + 1))) else (if (bt x0 x6) = 43 then (longcaselaw08_PosixNames.l0 k x0 x3 false true (wrap64 (x6 + 1))) else (longcaselaw08_PosixNames.l0 k x0 x3 false ((bt x0 x6) == 45) (wrap64 (x6 + 1))))) else (if (bt x0 x6) = 43 then (longcaselaw08_PosixNames.l0 k x0 x3 false true (wrap64 (x6 + 1))) else (longcaselaw08_PosixNames.l0 k x0 x3 false ((bt x0 x6) == 45) (wrap64 (x6 + 1))))) else (longcaselaw08_PosixNames.l0 k x0 x3 false false (wrap64 (x6 + 1))))))) else (if (bt x0 x6) ≥ 65 then (if x4 = true then (if x5 = true then (if (bt x0 x6) ≤ 90 then (longcaselaw08_PosixNames.l0 k x0 x3 (decide ((bt x0 x6) ≤ 90)) true (wrap64 (x6 + 1))) else (if (bt x0 x6) ≥ 48 then (if (bt x0 x6) ≤ 57 then (longcaselaw08_PosixNames.l0 k x0 x3 (decide ((bt x0 x6) ≤ 90)) true (wrap64 (x6 + 1))) else (if (bt x0 x6) = 43 then (longcaselaw08_PosixNames.l0 k x0 x3 (decide ((bt x0 x6) ≤ 90)) true (wrap64 (x6 + 1))) else (longcaselaw08_PosixNames.l0 k x0 x3 (decide ((bt x0 x6) ≤ 90)) ((bt x0 x6) == 45) (wrap64 (x6 + 1))))) else (if (bt x0 x6) = 43 then (longcaselaw08_PosixNames.l0 k x0 x3 (decide ((bt x0 x6) ≤ 90)) true (wrap64 (x6 + 1))) else (longcaselaw08_PosixNames.l0 k x0 x3 (decide ((bt x0 x6) ≤ 90)) ((bt x0 x6) == 45) (wrap64 (x6 + 1)))))) else (longcaselaw08_PosixNames.l0 k x0 x3 (decide ((bt x0 x6) ≤ 90)) false (wrap64 (x6 + 1)))) else (if x5 = true then (if (bt x0 x6) ≤ 90 then (longcaselaw08_PosixNames.l0 k x0 x3 false true (wrap64 (x6 + 1))) else (if (bt x0 x6) ≥ 48 then (if (bt x0 x6) ≤ 57 then (longcaselaw08_PosixNames.l0 k x0 x3 false true (wrap64 (x6 + 1))) else (if (bt x0 x6) = 43 then (longcaselaw08_PosixNames.l0 k x0 x3 false true (wrap64 (x6 + 1))) else (longcaselaw08_PosixNames.l0 k x0 x3 false ((bt x0 x6) == 45) (wrap64 (x6 + 1))))) else (if (bt x0 x6) = 43 then (longcaselaw08_PosixNames.l0 k x0 x3 false true (wrap64 (x6 + 1))) else (longcaselaw08_PosixNames.l0 k x0 x3 false ((bt x0 x6) == 45) (wrap64 (x6 + 1)))))) else (longcaselaw08_PosixNames.l0 k x0 x3 false false (wrap64 (x6 + 1))))) else (if x4 = true then (if x5 = true then (if (bt x0 x6) ≥ 48 then (if (bt x0 x6) ≤ 57 then (longcaselaw08_PosixNames.l0 k x0 x3 false true (wrap64 (x6 + 1))) else (if (bt x0 x6) = 43 then (longcaselaw08_PosixNames.l0 k x0 x3 false true (wrap64 (x6 + 1))) else (longcaselaw08_PosixNames.l0 k x0 x3 false ((bt x0 x6) == 45) (wrap64 (x6 + 1))))) else (if (bt x0 x6) = 43 then (longcaselaw08_PosixNames.l0 k x0 x3 false true (wrap64 (x6 + 1))) else (longcaselaw08_PosixNames.l0 k x0 x3 false ((bt x0 x6) == 45) (wrap64 (x6 + 1))))) else (longcaselaw08_PosixNames.l0 k x0 x3 false false (wrap64 (x6 + 1)))) else (if x5 = true then (if (bt x0 x6) ≥ 48 then (if (bt x0 x6) ≤ 57 then (longcaselaw08_PosixNames.l0 k x0 x3 false true (wrap64 (x6 + 1))) else (if (bt x0 x6) = 43 then (longcaselaw08_PosixNames.l0 k x0 x3 false true (wrap64 (x6 + 1))) else (longcaselaw08_PosixNames.l0 k x0 x3 false ((bt x0 x6) == 45) (wrap64 (x6 + 1))))) else (if (bt x0 x6) = 43 then (longcaselaw08_PosixNames.l0 k x0 x3 false true (wrap64 (x6 + 1))) else (longcaselaw08_PosixNames.l0 k x0 x3 false ((bt x0 x6) == 45) (wrap64 (x6 + 1))))) else (longcaselaw08_PosixNames.l0 k x0 x3 false false (wrap64 (x6 + 1))))))) else (none)) else ((posix_Print.f 0 false x0 0 false (⟨#[]⟩ : ByteArray) false 0 0 0 0 0 0 0 0 0 0 false).bind fun bt118 => (if (x5 != (bt118.2 == 0)) = true then (longcaselaw08_PosixNames.j2 k x0 x3 x4 x5 bt118.1 true) else ((posix_Right.f k 0 false x0 0 false (⟨#[]⟩ : ByteArray) false 0 0 0 0 0 0 0 0 0 0 true).bind fun t120 => (longcaselaw08_PosixNames.j2 k x0 x3 x4 x5 bt118.1 (x5 != t120)))))
def longcaselaw08_PosixNames.j2 : Nat → ByteArray → Bool → Bool → Bool → ByteArray → Bool → Option (Bool)
  | 0, _, _, _, _, _, _ => none
  | k + 1, x0, x3, x4, x5, x10, x90 => if x90 = true then (some false) else (if x5 = true then (if x4 = true then (if x3 = true then (if x0.size + 1 ≤ 9223372036854775807 then (some (x10.toList == (x0 ++ (⟨#[48]⟩ : ByteArray)).toList)) else (none)) else (some false)) else (if x3 = true then (if 1 + x0.size ≤ 9223372036854775807 then (if ((⟨#[60]⟩ : ByteArray) ++ x0).size + 2 ≤ 9223372036854775807 then (some (x10.toList == (((⟨#[60]⟩ : ByteArray) ++ x0) ++ (⟨#[62, 48]⟩ : ByteArray)).toList)) else (none)) else (none)) else (some false))) else (if x3 = true then (some (x10.toList == ([] : List UInt8))) else (some false)))
end
def longcaselaw08_PosixNames.f (k : Nat) (a0 : ByteArray) : Option (Bool) := (longcaselaw08_shown.f).bind fun t116 => (if 0 ≤ (mn (a0.size : Int) 30) then (if (mn (a0.size : Int) 30) ≤ (a0.size : Int) then (if ((a0.extract 0 ((mn (a0.size : Int) 30) : Int).toNat).size : Int) ≥ 3 then (longcaselaw08_PosixNames.j0 k (a0.extract 0 ((mn (a0.size : Int) 30) : Int).toNat) t116 true (decide (((a0.extract 0 ((mn (a0.size : Int) 30) : Int).toNat).size : Int) ≤ 20))) else (longcaselaw08_PosixNames.j0 k (a0.extract 0 ((mn (a0.size : Int) 30) : Int).toNat) t116 true false)) else (none)) else (none))
theorem longcaselaw08_PosixNames.mono_l : ∀ k, (∀ y0 y1 y2 y3, LeO (longcaselaw08_PosixNames.j0 k y0 y1 y2 y3) (longcaselaw08_PosixNames.j0 (k + 1) y0 y1 y2 y3)) ∧ (∀ y0 y1 y2 y3 y4, LeO (longcaselaw08_PosixNames.l0 k y0 y1 y2 y3 y4) (longcaselaw08_PosixNames.l0 (k + 1) y0 y1 y2 y3 y4)) ∧ (∀ y0 y1 y2 y3 y4 y5, LeO (longcaselaw08_PosixNames.j2 k y0 y1 y2 y3 y4 y5) (longcaselaw08_PosixNames.j2 (k + 1) y0 y1 y2 y3 y4 y5))
  | 0 => ⟨fun _ _ _ _ r h => by simp [longcaselaw08_PosixNames.j0] at h, fun _ _ _ _ _ r h => by simp [longcaselaw08_PosixNames.l0] at h, fun _ _ _ _ _ _ r h => by simp [longcaselaw08_PosixNames.j2] at h⟩
  | k + 1 => by
    obtain ⟨ih0, ih1, ih2⟩ := longcaselaw08_PosixNames.mono_l k
    refine ⟨?_, ?_, ?_⟩
    · intro y0 y1 y2 y3
      unfold longcaselaw08_PosixNames.j0
      repeat' first
      | (with_reducible exact ih0 _ _ _ _)
      | (with_reducible exact ih1 _ _ _ _ _)
      | (with_reducible exact ih2 _ _ _ _ _ _)
      | (with_reducible exact posix_Right.mono _ _ _ _ _ _ _ _ _ _ _ _ _ _ _ _ _ _ _)
      | (with_reducible exact LeO.refl _)
      | (with_reducible exact LeO.none _)
      | (with_reducible refine LeO.ite ?_ ?_)
      | (with_reducible refine LeO.bind ?_ (fun _ => ?_))
      | exact ih0 _ _ _ _
      | exact ih1 _ _ _ _ _
      | exact ih2 _ _ _ _ _ _
      | exact posix_Right.mono _ _ _ _ _ _ _ _ _ _ _ _ _ _ _ _ _ _ _
      | exact LeO.none _
      | refine LeO.ite ?_ ?_
      | refine LeO.bind ?_ (fun _ => ?_)
    · intro y0 y1 y2 y3 y4
      unfold longcaselaw08_PosixNames.l0
      repeat' first
      | (with_reducible exact ih0 _ _ _ _)
      | (with_reducible exact ih1 _ _ _ _ _)
      | (with_reducible exact ih2 _ _ _ _ _ _)
      | (with_reducible exact posix_Right.mono _ _ _ _ _ _ _ _ _ _ _ _ _ _ _ _ _ _ _)
      | (with_reducible exact LeO.refl _)
      | (with_reducible exact LeO.none _)
      | (with_reducible refine LeO.ite ?_ ?_)
      | (with_reducible refine LeO.bind ?_ (fun _ => ?_))
      | exact ih0 _ _ _ _
      | exact ih1 _ _ _ _ _
      | exact ih2 _ _ _ _ _ _
      | exact posix_Right.mono _ _ _ _ _ _ _ _ _ _ _ _ _ _ _ _ _ _ _
      | exact LeO.none _
      | refine LeO.ite ?_ ?_
      | refine LeO.bind ?_ (fun _ => ?_)
    · intro y0 y1 y2 y3 y4 y5
      unfold longcaselaw08_PosixNames.j2
      repeat' first
      | (with_reducible exact ih0 _ _ _ _)
      | (with_reducible exact ih1 _ _ _ _ _)
      | (with_reducible exact ih2 _ _ _ _ _ _)
      | (with_reducible exact posix_Right.mono _ _ _ _ _ _ _ _ _ _ _ _ _ _ _ _ _ _ _)
      | (with_reducible exact LeO.refl _)
      | (with_reducible exact LeO.none _)
      | (with_reducible refine LeO.ite ?_ ?_)
      | (with_reducible refine LeO.bind ?_ (fun _ => ?_))
      | exact ih0 _ _ _ _
      | exact ih1 _ _ _ _ _
      | exact ih2 _ _ _ _ _ _
      | exact posix_Right.mono _ _ _ _ _ _ _ _ _ _ _ _ _ _ _ _ _ _ _
      | exact LeO.none _
      | refine LeO.ite ?_ ?_
      | refine LeO.bind ?_ (fun _ => ?_)
theorem longcaselaw08_PosixNames.mono : ∀ a0 k, LeO (longcaselaw08_PosixNames.f k a0) (longcaselaw08_PosixNames.f (k + 1) a0) := by
  intro a0 k
  obtain ⟨ih0, ih1, ih2⟩ := longcaselaw08_PosixNames.mono_l k
  unfold longcaselaw08_PosixNames.f
  repeat' first
      | (with_reducible exact ih0 _ _ _ _)
      | (with_reducible exact ih1 _ _ _ _ _)
      | (with_reducible exact ih2 _ _ _ _ _ _)
      | (with_reducible exact posix_Right.mono _ _ _ _ _ _ _ _ _ _ _ _ _ _ _ _ _ _ _)
      | (with_reducible exact LeO.refl _)
      | (with_reducible exact LeO.none _)
      | (with_reducible refine LeO.ite ?_ ?_)
      | (with_reducible refine LeO.bind ?_ (fun _ => ?_))
      | exact ih0 _ _ _ _
      | exact ih1 _ _ _ _ _
      | exact ih2 _ _ _ _ _ _
      | exact posix_Right.mono _ _ _ _ _ _ _ _ _ _ _ _ _ _ _ _ _ _ _
      | exact LeO.none _
      | refine LeO.ite ?_ ?_
      | refine LeO.bind ?_ (fun _ => ?_)
set_option maxHeartbeats 8000000 in
set_option maxRecDepth 100000 in
theorem longcaselaw08_PosixNames.calls (k : Nat) (a0 : ByteArray) (r : Bool) (w : World) (hG : GL w) (h : longcaselaw08_PosixNames.f k a0 = some r) :
    Calls Tryd.prog 9 #[.string a0] w fun e w' => e = .returned (.bool r) ∧ Below w.heap.size w w' := by
  have hu23 := Tryd.underlying23
  have hu27 := Tryd.underlying27
  have HG := Aside0.mk hG
  clear hG
  have HB := Aside0.mk (Below.refl w.heap.size w)
  have H : ((longcaselaw08_shown.f).bind fun t116 => (if 0 ≤ (mn (a0.size : Int) 30) then (if (mn (a0.size : Int) 30) ≤ (a0.size : Int) then (if ((a0.extract 0 ((mn (a0.size : Int) 30) : Int).toNat).size : Int) ≥ 3 then (longcaselaw08_PosixNames.j0 k (a0.extract 0 ((mn (a0.size : Int) 30) : Int).toNat) t116 true (decide (((a0.extract 0 ((mn (a0.size : Int) 30) : Int).toNat).size : Int) ≤ 20))) else (longcaselaw08_PosixNames.j0 k (a0.extract 0 ((mn (a0.size : Int) 30) : Int).toNat) t116 true false)) else (none)) else (none))) = some r := h
  clear h
  replace H := Option.bind_eq_some_iff.mp H
  obtain ⟨t116, A20, H⟩ := H
  replace H : (if 0 ≤ (mn (a0.size : Int) 30) then (if (mn (a0.size : Int) 30) ≤ (a0.size : Int) then (if ((a0.extract 0 ((mn (a0.size : Int) 30) : Int).toNat).size : Int) ≥ 3 then (longcaselaw08_PosixNames.j0 k (a0.extract 0 ((mn (a0.size : Int) 30) : Int).toNat) t116 true (decide (((a0.extract 0 ((mn (a0.size : Int) 30) : Int).toNat).size : Int) ≤ 20))) else (longcaselaw08_PosixNames.j0 k (a0.extract 0 ((mn (a0.size : Int) 30) : Int).toNat) t116 true false)) else (none)) else (none)) = some r := H
  have A2 := Aside0.mk A20
  clear A20
  obtain ⟨ji3, hji3⟩ : ∃ j_ : Int, (mn (a0.size : Int) 30) = j_ := ⟨_, rfl⟩
  replace H : (if 0 ≤ (ji3) then (if (ji3) ≤ (a0.size : Int) then (if ((a0.extract 0 ((ji3) : Int).toNat).size : Int) ≥ 3 then (longcaselaw08_PosixNames.j0 k (a0.extract 0 ((ji3) : Int).toNat) t116 true (decide (((a0.extract 0 ((ji3) : Int).toNat).size : Int) ≤ 20))) else (longcaselaw08_PosixNames.j0 k (a0.extract 0 ((ji3) : Int).toNat) t116 true false)) else (none)) else (none)) = some r := by first | (rw [hji3] at H; exact H) | (simp only [hji3] at H ⊢; exact H)
  (try rw [hji3] at A2)
  (try (have hji3h : ji3 ≤ 30 := by (rw [← hji3]; unfold mn; (repeat' split) <;> omega)))
  (try (have hji3g : ji3 ≤ 64 := by omega))
  (try (have hji3l : 0 ≤ ji3 := by (rw [← hji3]; unfold mn; (repeat' split) <;> omega)))
  (try (have hji3m : 0 ≤ ji3 := by omega))
  have hji3_ : (if 30 < (a0.size : Int) then 30 else (a0.size : Int)) = ji3 := hji3
  by_cases c4 : 0 ≤ (ji3)
  · rw [if_pos c4] at H
    have c4b0 := eq_true c4
    have c4b1 : decide (0 ≤ (ji3)) = true := decide_eq_true c4
    clear c4
    by_cases c5 : (ji3) ≤ (a0.size : Int)
    · rw [if_pos c5] at H
      have c5b0 := eq_true c5
      have c5b1 : decide ((ji3) ≤ (a0.size : Int)) = true := decide_eq_true c5
      clear c5
      have HC6 := Aside0.mk H
      clear H
      go_enter Tryd.func9, Tryd.ntmps9
      go_upto_region 4 with (first | ((with_reducible refine gate_callee (f := 13) rfl ?_); refine goesL_ (some 12) rfl rfl Tryd.func13 (by kernel_rfl) rfl #[] rfl (by (try simp only [List.map_toArray, List.map_cons, List.map_nil]); first | done | rfl | (simp only [List.length_drop, List.length_take]; rfl)) ?_; (with_reducible refine (longcaselaw08_shown.calls  t116 _ ?side1 A2.out).mono ?_); (case side1 => exact GL.below HG.out (by repeat (first | (with_reducible first | exact HB.out | apply below_alloc | apply pw_below_drewN | apply below_drew1) | exact HB.out))); rintro e w7 ⟨rfl, hb⟩; refine ⟨_, rfl, ?_⟩; have n0_ := Aside0.mk (below_step (by repeat (first | (with_reducible first | exact HB.out | apply below_alloc | apply pw_below_drewN | apply below_drew1) | exact HB.out)) hb); clear HB; have HB := n0_; clear n0_; (try clear hb); (try clear hb2); (try clear hk); (try clear hi)))
      (try simp only [Act.put, List.setIfInBounds_toArray, List.set_cons_zero, List.set_cons_succ])
      have hmx_ : max ji3 0 = ((a0.extract 0 ((ji3) : Int).toNat).size : Int) := by rw [ByteArray.size_extract]; have h_ := of_eq_true c4b0; have h2_ := of_eq_true c5b0; omega
      try rw [hmx_]
      clear hmx_
      generalize (a0.extract 0 ((ji3) : Int).toNat) = sx at HC6 ⊢
      go_cut [5] (fun v5 wc => ∃ (kq : Nat) (x5_5 : Bool), v5 = .bool x5_5 ∧ Aside0 (longcaselaw08_PosixNames.j0 kq sx t116 true x5_5 = some r) ∧ Aside0 (kq ≤ k) ∧ Aside0 (Below w.heap.size w wc))
      case first => as_aux_lemma =>
        have H := HC6.out
        clear HC6
        by_cases c8 : (sx.size : Int) ≥ 3
        · rw [if_pos c8] at H
          have c8b0 : decide (3 ≤ (sx.size : Int)) = true := decide_eq_true c8
          have c8b1 : decide (3 ≤ sx.size) = true := decide_eq_true (by omega)
          clear c8
          (first | rw [c8b0] | (simp only [i64_w, i32_w]; rw [c8b0]) | skip)
          have H' := Aside0.mk H
          clear H
          go_wp2
          go_meet
          case rel => exact ⟨_, (decide ((sx.size : Int) ≤ 20)), (by first | rfl | (simp; done) | (simp only [← hji3] <;> (first | rfl | simp)) | (simp [*]; done)), H', ⟨by first | omega | exact Nat.le_refl _⟩, ⟨by repeat (first | (with_reducible first | exact HB.out | apply below_alloc | apply pw_below_drewN | apply below_drew1) | exact HB.out)⟩⟩
        · rw [if_neg c8] at H
          have c8b0 : decide (3 ≤ (sx.size : Int)) = false := decide_eq_false c8
          have c8b1 : decide (3 ≤ sx.size) = false := decide_eq_false (by omega)
          clear c8
          (first | rw [c8b0] | (simp only [i64_w, i32_w]; rw [c8b0]) | skip)
          have H' := Aside0.mk H
          clear H
          go_wp2
          go_meet
          case rel => exact ⟨_, (false), (by first | rfl | (simp; done) | (simp [*]; done)), H', ⟨by first | omega | exact Nat.le_refl _⟩, ⟨by repeat (first | (with_reducible first | exact HB.out | apply below_alloc | apply pw_below_drewN | apply below_drew1) | exact HB.out)⟩⟩
      case rest => as_aux_lemma =>
        clear HC6
        try clear c1
        try clear p2
        try clear c4
        try clear c4b0
        try clear c4b1
        try clear c5
        try clear c5b0
        try clear c5b1
        try clear c8
        try clear c8b0
        try clear c8b1
        obtain ⟨kq, x5_5, rfl, HA, HJ5, HB⟩ := hcut
        cases kq with
        | zero => exact absurd HA.out (by simp [longcaselaw08_PosixNames.j0])
        | succ kj5 =>
          have H := HA.out
          clear HA
          simp only [longcaselaw08_PosixNames.j0] at H
          have H' := Aside0.mk H
          clear H
          go_wp2
          go_loopg [4, 5, 6] kj5 (fun kq v4 v5 v6 w' => ∃ (x4_2 : Bool) (x5_2 : Bool) (x6_2 : Int), v4 = .bool x4_2 ∧ v5 = .bool x5_2 ∧ v6 = .int .i64 x6_2 ∧ Aside0 (longcaselaw08_PosixNames.l0 kq sx t116 x4_2 x5_2 x6_2 = some r) ∧ Aside0 (kq ≤ kj5) ∧ Aside0 (Below w.heap.size w w'))
          case atStart => exact ⟨(true), (x5_5), (0), (by first | rfl | (simp; done) | (simp [*]; done)), (by first | rfl | (simp; done) | (simp [*]; done)), (by first | rfl | (simp; done) | (simp [*]; done)), H', ⟨Nat.le_refl _⟩, ⟨by repeat (first | (with_reducible first | exact HB.out | apply below_alloc | apply pw_below_drewN | apply below_drew1) | exact HB.out)⟩⟩
          case round => as_aux_lemma =>
            clear H'
            try clear c1
            try clear p2
            try clear c4
            try clear c4b0
            try clear c4b1
            try clear c5
            try clear c5b0
            try clear c5b1
            try clear c8
            try clear c8b0
            try clear c8b1
            try clear p2
            obtain ⟨x4_2, x5_2, x6_2, rfl, rfl, rfl, HA, HK2, HB⟩ := hrel
            cases gk with
            | zero => exact absurd HA.out (by simp [longcaselaw08_PosixNames.l0])
            | succ k2 =>
              have H := HA.out
              clear HA
              simp only [longcaselaw08_PosixNames.l0] at H
              by_cases c9 : x6_2 < (sx.size : Int)
              · rw [if_pos c9] at H
                have c9b0 : decide (x6_2 < (sx.size : Int)) = true := decide_eq_true c9
                clear c9
                by_cases c10 : 0 ≤ x6_2
                · rw [if_pos c10] at H
                  have c10b0 : decide (0 ≤ x6_2) = true := decide_eq_true c10
                  clear c10
                  by_cases c12 : (bt sx x6_2) ≥ 97
                  · rw [if_pos c12] at H
                    have c12b0 : decide (97 ≤ (bt sx x6_2)) = true := decide_eq_true c12
                    clear c12
                    by_cases c13 : (bt sx x6_2) ≤ 122
                    · rw [if_pos c13] at H
                      have c13b0 : decide ((bt sx x6_2) ≤ 122) = true := decide_eq_true c13
                      clear c13
                      by_cases c14 : x4_2 = true
                      · subst c14
                        have H1 : (if x5_2 = true then (longcaselaw08_PosixNames.l0 k2 sx t116 true true (wrap64 (x6_2 + 1))) else (longcaselaw08_PosixNames.l0 k2 sx t116 true false (wrap64 (x6_2 + 1)))) = some r := by rw [if_pos rfl] at H; exact H
                        clear H
                        have H := H1
                        clear H1
                        by_cases c15 : x5_2 = true
                        · subst c15
                          have H1 : (longcaselaw08_PosixNames.l0 k2 sx t116 true true (wrap64 (x6_2 + 1))) = some r := by rw [if_pos rfl] at H; exact H
                          clear H
                          have H := H1
                          clear H1
                          have H' := Aside0.mk H
                          clear H
                          have p11 : 0 ≤ (x6_2 : Int) := of_decide_eq_true (by first | (with_reducible assumption) | assumption)
                          have q11 : x6_2 < (sx.size : Int) := of_decide_eq_true (by first | (with_reducible assumption) | assumption)
                          have hx11 := bt_at sx x6_2
                          replace p11 := eq_true p11
                          replace q11 := eq_true q11
                          go_wp2
                          go_roundg k2
                          case measure => have := HJ5.out; have := HK2.out; omega
                          case rel => exact ⟨(true), (true), (wrap64 (x6_2 + 1)), (by first | rfl | (simp; done) | (simp [*]; done)), (by first | rfl | (simp; done) | (simp [*]; done)), (by first | rfl | (simp; done) | (simp [*]; done)), H', ⟨by have := HJ5.out; have := HK2.out; omega⟩, ⟨by repeat (first | (with_reducible first | exact HB.out | apply below_alloc | apply pw_below_drewN | apply below_drew1) | exact HB.out)⟩⟩
                        · replace c15 := Bool.eq_false_iff.mpr c15
                          subst c15
                          have H1 : (longcaselaw08_PosixNames.l0 k2 sx t116 true false (wrap64 (x6_2 + 1))) = some r := by rw [if_neg (show ¬ (false = true) by decide)] at H; exact H
                          clear H
                          have H := H1
                          clear H1
                          have H' := Aside0.mk H
                          clear H
                          have p11 : 0 ≤ (x6_2 : Int) := of_decide_eq_true (by first | (with_reducible assumption) | assumption)
                          have q11 : x6_2 < (sx.size : Int) := of_decide_eq_true (by first | (with_reducible assumption) | assumption)
                          have hx11 := bt_at sx x6_2
                          replace p11 := eq_true p11
                          replace q11 := eq_true q11
                          go_wp2
                          go_roundg k2
                          case measure => have := HJ5.out; have := HK2.out; omega
                          case rel => exact ⟨(true), (false), (wrap64 (x6_2 + 1)), (by first | rfl | (simp; done) | (simp [*]; done)), (by first | rfl | (simp; done) | (simp [*]; done)), (by first | rfl | (simp; done) | (simp [*]; done)), H', ⟨by have := HJ5.out; have := HK2.out; omega⟩, ⟨by repeat (first | (with_reducible first | exact HB.out | apply below_alloc | apply pw_below_drewN | apply below_drew1) | exact HB.out)⟩⟩
                      · replace c14 := Bool.eq_false_iff.mpr c14
                        subst c14
                        have H1 : (if x5_2 = true then (longcaselaw08_PosixNames.l0 k2 sx t116 false true (wrap64 (x6_2 + 1))) else (longcaselaw08_PosixNames.l0 k2 sx t116 false false (wrap64 (x6_2 + 1)))) = some r := by rw [if_neg (show ¬ (false = true) by decide)] at H; exact H
                        clear H
                        have H := H1
                        clear H1
                        by_cases c16 : x5_2 = true
                        · subst c16
                          have H1 : (longcaselaw08_PosixNames.l0 k2 sx t116 false true (wrap64 (x6_2 + 1))) = some r := by rw [if_pos rfl] at H; exact H
                          clear H
                          have H := H1
                          clear H1
                          have H' := Aside0.mk H
                          clear H
                          have p11 : 0 ≤ (x6_2 : Int) := of_decide_eq_true (by first | (with_reducible assumption) | assumption)
                          have q11 : x6_2 < (sx.size : Int) := of_decide_eq_true (by first | (with_reducible assumption) | assumption)
                          have hx11 := bt_at sx x6_2
                          replace p11 := eq_true p11
                          replace q11 := eq_true q11
                          go_wp2
                          go_roundg k2
                          case measure => have := HJ5.out; have := HK2.out; omega
                          case rel => exact ⟨(false), (true), (wrap64 (x6_2 + 1)), (by first | rfl | (simp; done) | (simp [*]; done)), (by first | rfl | (simp; done) | (simp [*]; done)), (by first | rfl | (simp; done) | (simp [*]; done)), H', ⟨by have := HJ5.out; have := HK2.out; omega⟩, ⟨by repeat (first | (with_reducible first | exact HB.out | apply below_alloc | apply pw_below_drewN | apply below_drew1) | exact HB.out)⟩⟩
                        · replace c16 := Bool.eq_false_iff.mpr c16
                          subst c16
                          have H1 : (longcaselaw08_PosixNames.l0 k2 sx t116 false false (wrap64 (x6_2 + 1))) = some r := by rw [if_neg (show ¬ (false = true) by decide)] at H; exact H
                          clear H
                          have H := H1
                          clear H1
                          have H' := Aside0.mk H
                          clear H
                          have p11 : 0 ≤ (x6_2 : Int) := of_decide_eq_true (by first | (with_reducible assumption) | assumption)
                          have q11 : x6_2 < (sx.size : Int) := of_decide_eq_true (by first | (with_reducible assumption) | assumption)
                          have hx11 := bt_at sx x6_2
                          replace p11 := eq_true p11
                          replace q11 := eq_true q11
                          go_wp2
                          go_roundg k2
                          case measure => have := HJ5.out; have := HK2.out; omega
                          case rel => exact ⟨(false), (false), (wrap64 (x6_2 + 1)), (by first | rfl | (simp; done) | (simp [*]; done)), (by first | rfl | (simp; done) | (simp [*]; done)), (by first | rfl | (simp; done) | (simp [*]; done)), H', ⟨by have := HJ5.out; have := HK2.out; omega⟩, ⟨by repeat (first | (with_reducible first | exact HB.out | apply below_alloc | apply pw_below_drewN | apply below_drew1) | exact HB.out)⟩⟩
                    · rw [if_neg c13] at H
                      have c13b0 : decide ((bt sx x6_2) ≤ 122) = false := decide_eq_false c13
                      clear c13
                      by_cases c17 : (bt sx x6_2) ≥ 65
                      · rw [if_pos c17] at H
                        have c17b0 : decide (65 ≤ (bt sx x6_2)) = true := decide_eq_true c17
                        clear c17
                        by_cases c18 : x4_2 = true
                        · subst c18
                          have H1 : (if x5_2 = true then (if (bt sx x6_2) ≤ 90 then (longcaselaw08_PosixNames.l0 k2 sx t116 (decide ((bt sx x6_2) ≤ 90)) true (wrap64 (x6_2 + 1))) else (if (bt sx x6_2) ≥ 48 then (if (bt sx x6_2) ≤ 57 then (longcaselaw08_PosixNames.l0 k2 sx t116 (decide ((bt sx x6_2) ≤ 90)) true (wrap64 (x6_2 + 1))) else (if (bt sx x6_2) = 43 then (longcaselaw08_PosixNames.l0 k2 sx t116 (decide ((bt sx x6_2) ≤ 90)) true (wrap64 (x6_2 + 1))) else (longcaselaw08_PosixNames.l0 k2 sx t116 (decide ((bt sx x6_2) ≤ 90)) ((bt sx x6_2) == 45) (wrap64 (x6_2 + 1))))) else (if (bt sx x6_2) = 43 then (longcaselaw08_PosixNames.l0 k2 sx t116 (decide ((bt sx x6_2) ≤ 90)) true (wrap64 (x6_2 + 1))) else (longcaselaw08_PosixNames.l0 k2 sx t116 (decide ((bt sx x6_2) ≤ 90)) ((bt sx x6_2) == 45) (wrap64 (x6_2 + 1)))))) else (longcaselaw08_PosixNames.l0 k2 sx t116 (decide ((bt sx x6_2) ≤ 90)) false (wrap64 (x6_2 + 1)))) = some r := by rw [if_pos rfl] at H; exact H
                          clear H
                          have H := H1
                          clear H1
                          by_cases c19 : x5_2 = true
                          · subst c19
                            have H1 : (if (bt sx x6_2) ≤ 90 then (longcaselaw08_PosixNames.l0 k2 sx t116 (decide ((bt sx x6_2) ≤ 90)) true (wrap64 (x6_2 + 1))) else (if (bt sx x6_2) ≥ 48 then (if (bt sx x6_2) ≤ 57 then (longcaselaw08_PosixNames.l0 k2 sx t116 (decide ((bt sx x6_2) ≤ 90)) true (wrap64 (x6_2 + 1))) else (if (bt sx x6_2) = 43 then (longcaselaw08_PosixNames.l0 k2 sx t116 (decide ((bt sx x6_2) ≤ 90)) true (wrap64 (x6_2 + 1))) else (longcaselaw08_PosixNames.l0 k2 sx t116 (decide ((bt sx x6_2) ≤ 90)) ((bt sx x6_2) == 45) (wrap64 (x6_2 + 1))))) else (if (bt sx x6_2) = 43 then (longcaselaw08_PosixNames.l0 k2 sx t116 (decide ((bt sx x6_2) ≤ 90)) true (wrap64 (x6_2 + 1))) else (longcaselaw08_PosixNames.l0 k2 sx t116 (decide ((bt sx x6_2) ≤ 90)) ((bt sx x6_2) == 45) (wrap64 (x6_2 + 1)))))) = some r := by rw [if_pos rfl] at H; exact H
                            clear H
                            have H := H1
                            clear H1
                            by_cases c20 : (bt sx x6_2) ≤ 90
                            · rw [if_pos c20] at H
                              have c20b0 : decide ((bt sx x6_2) ≤ 90) = true := decide_eq_true c20
                              clear c20
                              have H' := Aside0.mk H
                              clear H
                              have p11 : 0 ≤ (x6_2 : Int) := of_decide_eq_true (by first | (with_reducible assumption) | assumption)
                              have q11 : x6_2 < (sx.size : Int) := of_decide_eq_true (by first | (with_reducible assumption) | assumption)
                              have hx11 := bt_at sx x6_2
                              replace p11 := eq_true p11
                              replace q11 := eq_true q11
                              go_wp2
                              go_roundg k2
                              case measure => have := HJ5.out; have := HK2.out; omega
                              case rel => exact ⟨(decide ((bt sx x6_2) ≤ 90)), (true), (wrap64 (x6_2 + 1)), (by first | rfl | (simp; done) | (simp only [← hji3] <;> (first | rfl | simp)) | (simp [*]; done)), (by first | rfl | (simp; done) | (simp [*]; done)), (by first | rfl | (simp; done) | (simp [*]; done)), H', ⟨by have := HJ5.out; have := HK2.out; omega⟩, ⟨by repeat (first | (with_reducible first | exact HB.out | apply below_alloc | apply pw_below_drewN | apply below_drew1) | exact HB.out)⟩⟩
                            · rw [if_neg c20] at H
                              have c20b0 : decide ((bt sx x6_2) ≤ 90) = false := decide_eq_false c20
                              clear c20
                              by_cases c21 : (bt sx x6_2) ≥ 48
                              · rw [if_pos c21] at H
                                have c21b0 : decide (48 ≤ (bt sx x6_2)) = true := decide_eq_true c21
                                clear c21
                                by_cases c22 : (bt sx x6_2) ≤ 57
                                · rw [if_pos c22] at H
                                  have c22b0 : decide ((bt sx x6_2) ≤ 57) = true := decide_eq_true c22
                                  clear c22
                                  have H' := Aside0.mk H
                                  clear H
                                  have p11 : 0 ≤ (x6_2 : Int) := of_decide_eq_true (by first | (with_reducible assumption) | assumption)
                                  have q11 : x6_2 < (sx.size : Int) := of_decide_eq_true (by first | (with_reducible assumption) | assumption)
                                  have hx11 := bt_at sx x6_2
                                  replace p11 := eq_true p11
                                  replace q11 := eq_true q11
                                  go_wp2
                                  go_roundg k2
                                  case measure => have := HJ5.out; have := HK2.out; omega
                                  case rel => exact ⟨(decide ((bt sx x6_2) ≤ 90)), (true), (wrap64 (x6_2 + 1)), (by first | rfl | (simp; done) | (simp only [← hji3] <;> (first | rfl | simp)) | (simp [*]; done)), (by first | rfl | (simp; done) | (simp [*]; done)), (by first | rfl | (simp; done) | (simp [*]; done)), H', ⟨by have := HJ5.out; have := HK2.out; omega⟩, ⟨by repeat (first | (with_reducible first | exact HB.out | apply below_alloc | apply pw_below_drewN | apply below_drew1) | exact HB.out)⟩⟩
                                · rw [if_neg c22] at H
                                  have c22b0 : decide ((bt sx x6_2) ≤ 57) = false := decide_eq_false c22
                                  clear c22
                                  by_cases c23 : (bt sx x6_2) = 43
                                  · rw [if_pos c23] at H
                                    have c23b0 : ((bt sx x6_2) == 43) = true := beq_iff_eq.mpr c23
                                    have c23b1 : ((bt sx x6_2) != 43) = false := bne_eq_false_iff_eq.mpr c23
                                    clear c23
                                    have H' := Aside0.mk H
                                    clear H
                                    have p11 : 0 ≤ (x6_2 : Int) := of_decide_eq_true (by first | (with_reducible assumption) | assumption)
                                    have q11 : x6_2 < (sx.size : Int) := of_decide_eq_true (by first | (with_reducible assumption) | assumption)
                                    have hx11 := bt_at sx x6_2
                                    replace p11 := eq_true p11
                                    replace q11 := eq_true q11
                                    go_wp2
                                    go_roundg k2
                                    case measure => have := HJ5.out; have := HK2.out; omega
                                    case rel => exact ⟨(decide ((bt sx x6_2) ≤ 90)), (true), (wrap64 (x6_2 + 1)), (by first | rfl | (simp; done) | (simp only [← hji3] <;> (first | rfl | simp)) | (simp [*]; done)), (by first | rfl | (simp; done) | (simp [*]; done)), (by first | rfl | (simp; done) | (simp [*]; done)), H', ⟨by have := HJ5.out; have := HK2.out; omega⟩, ⟨by repeat (first | (with_reducible first | exact HB.out | apply below_alloc | apply pw_below_drewN | apply below_drew1) | exact HB.out)⟩⟩
                                  · rw [if_neg c23] at H
                                    have c23b0 : ((bt sx x6_2) == 43) = false := beq_eq_false_iff_ne.mpr c23
                                    have c23b1 : ((bt sx x6_2) != 43) = true := bne_iff_ne.mpr c23
                                    have H' := Aside0.mk H
                                    clear H
                                    have p11 : 0 ≤ (x6_2 : Int) := of_decide_eq_true (by first | (with_reducible assumption) | assumption)
                                    have q11 : x6_2 < (sx.size : Int) := of_decide_eq_true (by first | (with_reducible assumption) | assumption)
                                    have hx11 := bt_at sx x6_2
                                    replace p11 := eq_true p11
                                    replace q11 := eq_true q11
                                    go_wp2
                                    go_roundg k2
                                    case measure => have := HJ5.out; have := HK2.out; omega
                                    case rel => exact ⟨(decide ((bt sx x6_2) ≤ 90)), (((bt sx x6_2) == 45)), (wrap64 (x6_2 + 1)), (by first | rfl | (simp; done) | (simp only [← hji3] <;> (first | rfl | simp)) | (simp [*]; done)), (by first | rfl | (simp; done) | (simp only [← hji3] <;> (first | rfl | simp)) | (simp [*]; done)), (by first | rfl | (simp; done) | (simp [*]; done)), H', ⟨by have := HJ5.out; have := HK2.out; omega⟩, ⟨by repeat (first | (with_reducible first | exact HB.out | apply below_alloc | apply pw_below_drewN | apply below_drew1) | exact HB.out)⟩⟩
                              · rw [if_neg c21] at H
                                have c21b0 : decide (48 ≤ (bt sx x6_2)) = false := decide_eq_false c21
                                clear c21
                                by_cases c24 : (bt sx x6_2) = 43
                                · rw [if_pos c24] at H
                                  have c24b0 : ((bt sx x6_2) == 43) = true := beq_iff_eq.mpr c24
                                  have c24b1 : ((bt sx x6_2) != 43) = false := bne_eq_false_iff_eq.mpr c24
                                  clear c24
                                  have H' := Aside0.mk H
                                  clear H
                                  have p11 : 0 ≤ (x6_2 : Int) := of_decide_eq_true (by first | (with_reducible assumption) | assumption)
                                  have q11 : x6_2 < (sx.size : Int) := of_decide_eq_true (by first | (with_reducible assumption) | assumption)
                                  have hx11 := bt_at sx x6_2
                                  replace p11 := eq_true p11
                                  replace q11 := eq_true q11
                                  go_wp2
                                  go_roundg k2
                                  case measure => have := HJ5.out; have := HK2.out; omega
                                  case rel => exact ⟨(decide ((bt sx x6_2) ≤ 90)), (true), (wrap64 (x6_2 + 1)), (by first | rfl | (simp; done) | (simp only [← hji3] <;> (first | rfl | simp)) | (simp [*]; done)), (by first | rfl | (simp; done) | (simp [*]; done)), (by first | rfl | (simp; done) | (simp [*]; done)), H', ⟨by have := HJ5.out; have := HK2.out; omega⟩, ⟨by repeat (first | (with_reducible first | exact HB.out | apply below_alloc | apply pw_below_drewN | apply below_drew1) | exact HB.out)⟩⟩
                                · rw [if_neg c24] at H
                                  have c24b0 : ((bt sx x6_2) == 43) = false := beq_eq_false_iff_ne.mpr c24
                                  have c24b1 : ((bt sx x6_2) != 43) = true := bne_iff_ne.mpr c24
                                  have H' := Aside0.mk H
                                  clear H
                                  have p11 : 0 ≤ (x6_2 : Int) := of_decide_eq_true (by first | (with_reducible assumption) | assumption)
                                  have q11 : x6_2 < (sx.size : Int) := of_decide_eq_true (by first | (with_reducible assumption) | assumption)
                                  have hx11 := bt_at sx x6_2
                                  replace p11 := eq_true p11
                                  replace q11 := eq_true q11
                                  go_wp2
                                  go_roundg k2
                                  case measure => have := HJ5.out; have := HK2.out; omega
                                  case rel => exact ⟨(decide ((bt sx x6_2) ≤ 90)), (((bt sx x6_2) == 45)), (wrap64 (x6_2 + 1)), (by first | rfl | (simp; done) | (simp only [← hji3] <;> (first | rfl | simp)) | (simp [*]; done)), (by first | rfl | (simp; done) | (simp only [← hji3] <;> (first | rfl | simp)) | (simp [*]; done)), (by first | rfl | (simp; done) | (simp [*]; done)), H', ⟨by have := HJ5.out; have := HK2.out; omega⟩, ⟨by repeat (first | (with_reducible first | exact HB.out | apply below_alloc | apply pw_below_drewN | apply below_drew1) | exact HB.out)⟩⟩
                          · replace c19 := Bool.eq_false_iff.mpr c19
                            subst c19
                            have H1 : (longcaselaw08_PosixNames.l0 k2 sx t116 (decide ((bt sx x6_2) ≤ 90)) false (wrap64 (x6_2 + 1))) = some r := by rw [if_neg (show ¬ (false = true) by decide)] at H; exact H
                            clear H
                            have H := H1
                            clear H1
                            have H' := Aside0.mk H
                            clear H
                            have p11 : 0 ≤ (x6_2 : Int) := of_decide_eq_true (by first | (with_reducible assumption) | assumption)
                            have q11 : x6_2 < (sx.size : Int) := of_decide_eq_true (by first | (with_reducible assumption) | assumption)
                            have hx11 := bt_at sx x6_2
                            replace p11 := eq_true p11
                            replace q11 := eq_true q11
                            go_wp2
                            go_roundg k2
                            case measure => have := HJ5.out; have := HK2.out; omega
                            case rel => exact ⟨(decide ((bt sx x6_2) ≤ 90)), (false), (wrap64 (x6_2 + 1)), (by first | rfl | (simp; done) | (simp only [← hji3] <;> (first | rfl | simp)) | (simp [*]; done)), (by first | rfl | (simp; done) | (simp [*]; done)), (by first | rfl | (simp; done) | (simp [*]; done)), H', ⟨by have := HJ5.out; have := HK2.out; omega⟩, ⟨by repeat (first | (with_reducible first | exact HB.out | apply below_alloc | apply pw_below_drewN | apply below_drew1) | exact HB.out)⟩⟩
                        · replace c18 := Bool.eq_false_iff.mpr c18
                          subst c18
                          have H1 : (if x5_2 = true then (if (bt sx x6_2) ≤ 90 then (longcaselaw08_PosixNames.l0 k2 sx t116 false true (wrap64 (x6_2 + 1))) else (if (bt sx x6_2) ≥ 48 then (if (bt sx x6_2) ≤ 57 then (longcaselaw08_PosixNames.l0 k2 sx t116 false true (wrap64 (x6_2 + 1))) else (if (bt sx x6_2) = 43 then (longcaselaw08_PosixNames.l0 k2 sx t116 false true (wrap64 (x6_2 + 1))) else (longcaselaw08_PosixNames.l0 k2 sx t116 false ((bt sx x6_2) == 45) (wrap64 (x6_2 + 1))))) else (if (bt sx x6_2) = 43 then (longcaselaw08_PosixNames.l0 k2 sx t116 false true (wrap64 (x6_2 + 1))) else (longcaselaw08_PosixNames.l0 k2 sx t116 false ((bt sx x6_2) == 45) (wrap64 (x6_2 + 1)))))) else (longcaselaw08_PosixNames.l0 k2 sx t116 false false (wrap64 (x6_2 + 1)))) = some r := by rw [if_neg (show ¬ (false = true) by decide)] at H; exact H
                          clear H
                          have H := H1
                          clear H1
                          by_cases c25 : x5_2 = true
                          · subst c25
                            have H1 : (if (bt sx x6_2) ≤ 90 then (longcaselaw08_PosixNames.l0 k2 sx t116 false true (wrap64 (x6_2 + 1))) else (if (bt sx x6_2) ≥ 48 then (if (bt sx x6_2) ≤ 57 then (longcaselaw08_PosixNames.l0 k2 sx t116 false true (wrap64 (x6_2 + 1))) else (if (bt sx x6_2) = 43 then (longcaselaw08_PosixNames.l0 k2 sx t116 false true (wrap64 (x6_2 + 1))) else (longcaselaw08_PosixNames.l0 k2 sx t116 false ((bt sx x6_2) == 45) (wrap64 (x6_2 + 1))))) else (if (bt sx x6_2) = 43 then (longcaselaw08_PosixNames.l0 k2 sx t116 false true (wrap64 (x6_2 + 1))) else (longcaselaw08_PosixNames.l0 k2 sx t116 false ((bt sx x6_2) == 45) (wrap64 (x6_2 + 1)))))) = some r := by rw [if_pos rfl] at H; exact H
                            clear H
                            have H := H1
                            clear H1
                            by_cases c26 : (bt sx x6_2) ≤ 90
                            · rw [if_pos c26] at H
                              have c26b0 : decide ((bt sx x6_2) ≤ 90) = true := decide_eq_true c26
                              clear c26
                              have H' := Aside0.mk H
                              clear H
                              have p11 : 0 ≤ (x6_2 : Int) := of_decide_eq_true (by first | (with_reducible assumption) | assumption)
                              have q11 : x6_2 < (sx.size : Int) := of_decide_eq_true (by first | (with_reducible assumption) | assumption)
                              have hx11 := bt_at sx x6_2
                              replace p11 := eq_true p11
                              replace q11 := eq_true q11
                              go_wp2
                              go_roundg k2
                              case measure => have := HJ5.out; have := HK2.out; omega
                              case rel => exact ⟨(false), (true), (wrap64 (x6_2 + 1)), (by first | rfl | (simp; done) | (simp [*]; done)), (by first | rfl | (simp; done) | (simp [*]; done)), (by first | rfl | (simp; done) | (simp [*]; done)), H', ⟨by have := HJ5.out; have := HK2.out; omega⟩, ⟨by repeat (first | (with_reducible first | exact HB.out | apply below_alloc | apply pw_below_drewN | apply below_drew1) | exact HB.out)⟩⟩
                            · rw [if_neg c26] at H
                              have c26b0 : decide ((bt sx x6_2) ≤ 90) = false := decide_eq_false c26
                              clear c26
                              by_cases c27 : (bt sx x6_2) ≥ 48
                              · rw [if_pos c27] at H
                                have c27b0 : decide (48 ≤ (bt sx x6_2)) = true := decide_eq_true c27
                                clear c27
                                by_cases c28 : (bt sx x6_2) ≤ 57
                                · rw [if_pos c28] at H
                                  have c28b0 : decide ((bt sx x6_2) ≤ 57) = true := decide_eq_true c28
                                  clear c28
                                  have H' := Aside0.mk H
                                  clear H
                                  have p11 : 0 ≤ (x6_2 : Int) := of_decide_eq_true (by first | (with_reducible assumption) | assumption)
                                  have q11 : x6_2 < (sx.size : Int) := of_decide_eq_true (by first | (with_reducible assumption) | assumption)
                                  have hx11 := bt_at sx x6_2
                                  replace p11 := eq_true p11
                                  replace q11 := eq_true q11
                                  go_wp2
                                  go_roundg k2
                                  case measure => have := HJ5.out; have := HK2.out; omega
                                  case rel => exact ⟨(false), (true), (wrap64 (x6_2 + 1)), (by first | rfl | (simp; done) | (simp [*]; done)), (by first | rfl | (simp; done) | (simp [*]; done)), (by first | rfl | (simp; done) | (simp [*]; done)), H', ⟨by have := HJ5.out; have := HK2.out; omega⟩, ⟨by repeat (first | (with_reducible first | exact HB.out | apply below_alloc | apply pw_below_drewN | apply below_drew1) | exact HB.out)⟩⟩
                                · rw [if_neg c28] at H
                                  have c28b0 : decide ((bt sx x6_2) ≤ 57) = false := decide_eq_false c28
                                  clear c28
                                  by_cases c29 : (bt sx x6_2) = 43
                                  · rw [if_pos c29] at H
                                    have c29b0 : ((bt sx x6_2) == 43) = true := beq_iff_eq.mpr c29
                                    have c29b1 : ((bt sx x6_2) != 43) = false := bne_eq_false_iff_eq.mpr c29
                                    clear c29
                                    have H' := Aside0.mk H
                                    clear H
                                    have p11 : 0 ≤ (x6_2 : Int) := of_decide_eq_true (by first | (with_reducible assumption) | assumption)
                                    have q11 : x6_2 < (sx.size : Int) := of_decide_eq_true (by first | (with_reducible assumption) | assumption)
                                    have hx11 := bt_at sx x6_2
                                    replace p11 := eq_true p11
                                    replace q11 := eq_true q11
                                    go_wp2
                                    go_roundg k2
                                    case measure => have := HJ5.out; have := HK2.out; omega
                                    case rel => exact ⟨(false), (true), (wrap64 (x6_2 + 1)), (by first | rfl | (simp; done) | (simp [*]; done)), (by first | rfl | (simp; done) | (simp [*]; done)), (by first | rfl | (simp; done) | (simp [*]; done)), H', ⟨by have := HJ5.out; have := HK2.out; omega⟩, ⟨by repeat (first | (with_reducible first | exact HB.out | apply below_alloc | apply pw_below_drewN | apply below_drew1) | exact HB.out)⟩⟩
                                  · rw [if_neg c29] at H
                                    have c29b0 : ((bt sx x6_2) == 43) = false := beq_eq_false_iff_ne.mpr c29
                                    have c29b1 : ((bt sx x6_2) != 43) = true := bne_iff_ne.mpr c29
                                    have H' := Aside0.mk H
                                    clear H
                                    have p11 : 0 ≤ (x6_2 : Int) := of_decide_eq_true (by first | (with_reducible assumption) | assumption)
                                    have q11 : x6_2 < (sx.size : Int) := of_decide_eq_true (by first | (with_reducible assumption) | assumption)
                                    have hx11 := bt_at sx x6_2
                                    replace p11 := eq_true p11
                                    replace q11 := eq_true q11
                                    go_wp2
                                    go_roundg k2
                                    case measure => have := HJ5.out; have := HK2.out; omega
                                    case rel => exact ⟨(false), (((bt sx x6_2) == 45)), (wrap64 (x6_2 + 1)), (by first | rfl | (simp; done) | (simp [*]; done)), (by first | rfl | (simp; done) | (simp only [← hji3] <;> (first | rfl | simp)) | (simp [*]; done)), (by first | rfl | (simp; done) | (simp [*]; done)), H', ⟨by have := HJ5.out; have := HK2.out; omega⟩, ⟨by repeat (first | (with_reducible first | exact HB.out | apply below_alloc | apply pw_below_drewN | apply below_drew1) | exact HB.out)⟩⟩
                              · rw [if_neg c27] at H
                                have c27b0 : decide (48 ≤ (bt sx x6_2)) = false := decide_eq_false c27
                                clear c27
                                by_cases c30 : (bt sx x6_2) = 43
                                · rw [if_pos c30] at H
                                  have c30b0 : ((bt sx x6_2) == 43) = true := beq_iff_eq.mpr c30
                                  have c30b1 : ((bt sx x6_2) != 43) = false := bne_eq_false_iff_eq.mpr c30
                                  clear c30
                                  have H' := Aside0.mk H
                                  clear H
                                  have p11 : 0 ≤ (x6_2 : Int) := of_decide_eq_true (by first | (with_reducible assumption) | assumption)
                                  have q11 : x6_2 < (sx.size : Int) := of_decide_eq_true (by first | (with_reducible assumption) | assumption)
                                  have hx11 := bt_at sx x6_2
                                  replace p11 := eq_true p11
                                  replace q11 := eq_true q11
                                  go_wp2
                                  go_roundg k2
                                  case measure => have := HJ5.out; have := HK2.out; omega
                                  case rel => exact ⟨(false), (true), (wrap64 (x6_2 + 1)), (by first | rfl | (simp; done) | (simp [*]; done)), (by first | rfl | (simp; done) | (simp [*]; done)), (by first | rfl | (simp; done) | (simp [*]; done)), H', ⟨by have := HJ5.out; have := HK2.out; omega⟩, ⟨by repeat (first | (with_reducible first | exact HB.out | apply below_alloc | apply pw_below_drewN | apply below_drew1) | exact HB.out)⟩⟩
                                · rw [if_neg c30] at H
                                  have c30b0 : ((bt sx x6_2) == 43) = false := beq_eq_false_iff_ne.mpr c30
                                  have c30b1 : ((bt sx x6_2) != 43) = true := bne_iff_ne.mpr c30
                                  have H' := Aside0.mk H
                                  clear H
                                  have p11 : 0 ≤ (x6_2 : Int) := of_decide_eq_true (by first | (with_reducible assumption) | assumption)
                                  have q11 : x6_2 < (sx.size : Int) := of_decide_eq_true (by first | (with_reducible assumption) | assumption)
                                  have hx11 := bt_at sx x6_2
                                  replace p11 := eq_true p11
                                  replace q11 := eq_true q11
                                  go_wp2
                                  go_roundg k2
                                  case measure => have := HJ5.out; have := HK2.out; omega
                                  case rel => exact ⟨(false), (((bt sx x6_2) == 45)), (wrap64 (x6_2 + 1)), (by first | rfl | (simp; done) | (simp [*]; done)), (by first | rfl | (simp; done) | (simp only [← hji3] <;> (first | rfl | simp)) | (simp [*]; done)), (by first | rfl | (simp; done) | (simp [*]; done)), H', ⟨by have := HJ5.out; have := HK2.out; omega⟩, ⟨by repeat (first | (with_reducible first | exact HB.out | apply below_alloc | apply pw_below_drewN | apply below_drew1) | exact HB.out)⟩⟩
                          · replace c25 := Bool.eq_false_iff.mpr c25
                            subst c25
                            have H1 : (longcaselaw08_PosixNames.l0 k2 sx t116 false false (wrap64 (x6_2 + 1))) = some r := by rw [if_neg (show ¬ (false = true) by decide)] at H; exact H
                            clear H
                            have H := H1
                            clear H1
                            have H' := Aside0.mk H
                            clear H
                            have p11 : 0 ≤ (x6_2 : Int) := of_decide_eq_true (by first | (with_reducible assumption) | assumption)
                            have q11 : x6_2 < (sx.size : Int) := of_decide_eq_true (by first | (with_reducible assumption) | assumption)
                            have hx11 := bt_at sx x6_2
                            replace p11 := eq_true p11
                            replace q11 := eq_true q11
                            go_wp2
                            go_roundg k2
                            case measure => have := HJ5.out; have := HK2.out; omega
                            case rel => exact ⟨(false), (false), (wrap64 (x6_2 + 1)), (by first | rfl | (simp; done) | (simp [*]; done)), (by first | rfl | (simp; done) | (simp [*]; done)), (by first | rfl | (simp; done) | (simp [*]; done)), H', ⟨by have := HJ5.out; have := HK2.out; omega⟩, ⟨by repeat (first | (with_reducible first | exact HB.out | apply below_alloc | apply pw_below_drewN | apply below_drew1) | exact HB.out)⟩⟩
                      · rw [if_neg c17] at H
                        have c17b0 : decide (65 ≤ (bt sx x6_2)) = false := decide_eq_false c17
                        clear c17
                        by_cases c31 : x4_2 = true
                        · subst c31
                          have H1 : (if x5_2 = true then (if (bt sx x6_2) ≥ 48 then (if (bt sx x6_2) ≤ 57 then (longcaselaw08_PosixNames.l0 k2 sx t116 false true (wrap64 (x6_2 + 1))) else (if (bt sx x6_2) = 43 then (longcaselaw08_PosixNames.l0 k2 sx t116 false true (wrap64 (x6_2 + 1))) else (longcaselaw08_PosixNames.l0 k2 sx t116 false ((bt sx x6_2) == 45) (wrap64 (x6_2 + 1))))) else (if (bt sx x6_2) = 43 then (longcaselaw08_PosixNames.l0 k2 sx t116 false true (wrap64 (x6_2 + 1))) else (longcaselaw08_PosixNames.l0 k2 sx t116 false ((bt sx x6_2) == 45) (wrap64 (x6_2 + 1))))) else (longcaselaw08_PosixNames.l0 k2 sx t116 false false (wrap64 (x6_2 + 1)))) = some r := by rw [if_pos rfl] at H; exact H
                          clear H
                          have H := H1
                          clear H1
                          by_cases c32 : x5_2 = true
                          · subst c32
                            have H1 : (if (bt sx x6_2) ≥ 48 then (if (bt sx x6_2) ≤ 57 then (longcaselaw08_PosixNames.l0 k2 sx t116 false true (wrap64 (x6_2 + 1))) else (if (bt sx x6_2) = 43 then (longcaselaw08_PosixNames.l0 k2 sx t116 false true (wrap64 (x6_2 + 1))) else (longcaselaw08_PosixNames.l0 k2 sx t116 false ((bt sx x6_2) == 45) (wrap64 (x6_2 + 1))))) else (if (bt sx x6_2) = 43 then (longcaselaw08_PosixNames.l0 k2 sx t116 false true (wrap64 (x6_2 + 1))) else (longcaselaw08_PosixNames.l0 k2 sx t116 false ((bt sx x6_2) == 45) (wrap64 (x6_2 + 1))))) = some r := by rw [if_pos rfl] at H; exact H
                            clear H
                            have H := H1
                            clear H1
                            by_cases c33 : (bt sx x6_2) ≥ 48
                            · rw [if_pos c33] at H
                              have c33b0 : decide (48 ≤ (bt sx x6_2)) = true := decide_eq_true c33
                              clear c33
                              by_cases c34 : (bt sx x6_2) ≤ 57
                              · rw [if_pos c34] at H
                                have c34b0 : decide ((bt sx x6_2) ≤ 57) = true := decide_eq_true c34
                                clear c34
                                have H' := Aside0.mk H
                                clear H
                                have p11 : 0 ≤ (x6_2 : Int) := of_decide_eq_true (by first | (with_reducible assumption) | assumption)
                                have q11 : x6_2 < (sx.size : Int) := of_decide_eq_true (by first | (with_reducible assumption) | assumption)
                                have hx11 := bt_at sx x6_2
                                replace p11 := eq_true p11
                                replace q11 := eq_true q11
                                go_wp2
                                go_roundg k2
                                case measure => have := HJ5.out; have := HK2.out; omega
                                case rel => exact ⟨(false), (true), (wrap64 (x6_2 + 1)), (by first | rfl | (simp; done) | (simp [*]; done)), (by first | rfl | (simp; done) | (simp [*]; done)), (by first | rfl | (simp; done) | (simp [*]; done)), H', ⟨by have := HJ5.out; have := HK2.out; omega⟩, ⟨by repeat (first | (with_reducible first | exact HB.out | apply below_alloc | apply pw_below_drewN | apply below_drew1) | exact HB.out)⟩⟩
                              · rw [if_neg c34] at H
                                have c34b0 : decide ((bt sx x6_2) ≤ 57) = false := decide_eq_false c34
                                clear c34
                                by_cases c35 : (bt sx x6_2) = 43
                                · rw [if_pos c35] at H
                                  have c35b0 : ((bt sx x6_2) == 43) = true := beq_iff_eq.mpr c35
                                  have c35b1 : ((bt sx x6_2) != 43) = false := bne_eq_false_iff_eq.mpr c35
                                  clear c35
                                  have H' := Aside0.mk H
                                  clear H
                                  have p11 : 0 ≤ (x6_2 : Int) := of_decide_eq_true (by first | (with_reducible assumption) | assumption)
                                  have q11 : x6_2 < (sx.size : Int) := of_decide_eq_true (by first | (with_reducible assumption) | assumption)
                                  have hx11 := bt_at sx x6_2
                                  replace p11 := eq_true p11
                                  replace q11 := eq_true q11
                                  go_wp2
                                  go_roundg k2
                                  case measure => have := HJ5.out; have := HK2.out; omega
                                  case rel => exact ⟨(false), (true), (wrap64 (x6_2 + 1)), (by first | rfl | (simp; done) | (simp [*]; done)), (by first | rfl | (simp; done) | (simp [*]; done)), (by first | rfl | (simp; done) | (simp [*]; done)), H', ⟨by have := HJ5.out; have := HK2.out; omega⟩, ⟨by repeat (first | (with_reducible first | exact HB.out | apply below_alloc | apply pw_below_drewN | apply below_drew1) | exact HB.out)⟩⟩
                                · rw [if_neg c35] at H
                                  have c35b0 : ((bt sx x6_2) == 43) = false := beq_eq_false_iff_ne.mpr c35
                                  have c35b1 : ((bt sx x6_2) != 43) = true := bne_iff_ne.mpr c35
                                  have H' := Aside0.mk H
                                  clear H
                                  have p11 : 0 ≤ (x6_2 : Int) := of_decide_eq_true (by first | (with_reducible assumption) | assumption)
                                  have q11 : x6_2 < (sx.size : Int) := of_decide_eq_true (by first | (with_reducible assumption) | assumption)
                                  have hx11 := bt_at sx x6_2
                                  replace p11 := eq_true p11
                                  replace q11 := eq_true q11
                                  go_wp2
                                  go_roundg k2
                                  case measure => have := HJ5.out; have := HK2.out; omega
                                  case rel => exact ⟨(false), (((bt sx x6_2) == 45)), (wrap64 (x6_2 + 1)), (by first | rfl | (simp; done) | (simp [*]; done)), (by first | rfl | (simp; done) | (simp only [← hji3] <;> (first | rfl | simp)) | (simp [*]; done)), (by first | rfl | (simp; done) | (simp [*]; done)), H', ⟨by have := HJ5.out; have := HK2.out; omega⟩, ⟨by repeat (first | (with_reducible first | exact HB.out | apply below_alloc | apply pw_below_drewN | apply below_drew1) | exact HB.out)⟩⟩
                            · rw [if_neg c33] at H
                              have c33b0 : decide (48 ≤ (bt sx x6_2)) = false := decide_eq_false c33
                              clear c33
                              by_cases c36 : (bt sx x6_2) = 43
                              · rw [if_pos c36] at H
                                have c36b0 : ((bt sx x6_2) == 43) = true := beq_iff_eq.mpr c36
                                have c36b1 : ((bt sx x6_2) != 43) = false := bne_eq_false_iff_eq.mpr c36
                                clear c36
                                have H' := Aside0.mk H
                                clear H
                                have p11 : 0 ≤ (x6_2 : Int) := of_decide_eq_true (by first | (with_reducible assumption) | assumption)
                                have q11 : x6_2 < (sx.size : Int) := of_decide_eq_true (by first | (with_reducible assumption) | assumption)
                                have hx11 := bt_at sx x6_2
                                replace p11 := eq_true p11
                                replace q11 := eq_true q11
                                go_wp2
                                go_roundg k2
                                case measure => have := HJ5.out; have := HK2.out; omega
                                case rel => exact ⟨(false), (true), (wrap64 (x6_2 + 1)), (by first | rfl | (simp; done) | (simp [*]; done)), (by first | rfl | (simp; done) | (simp [*]; done)), (by first | rfl | (simp; done) | (simp [*]; done)), H', ⟨by have := HJ5.out; have := HK2.out; omega⟩, ⟨by repeat (first | (with_reducible first | exact HB.out | apply below_alloc | apply pw_below_drewN | apply below_drew1) | exact HB.out)⟩⟩
                              · rw [if_neg c36] at H
                                have c36b0 : ((bt sx x6_2) == 43) = false := beq_eq_false_iff_ne.mpr c36
                                have c36b1 : ((bt sx x6_2) != 43) = true := bne_iff_ne.mpr c36
                                have H' := Aside0.mk H
                                clear H
                                have p11 : 0 ≤ (x6_2 : Int) := of_decide_eq_true (by first | (with_reducible assumption) | assumption)
                                have q11 : x6_2 < (sx.size : Int) := of_decide_eq_true (by first | (with_reducible assumption) | assumption)
                                have hx11 := bt_at sx x6_2
                                replace p11 := eq_true p11
                                replace q11 := eq_true q11
                                go_wp2
                                go_roundg k2
                                case measure => have := HJ5.out; have := HK2.out; omega
                                case rel => exact ⟨(false), (((bt sx x6_2) == 45)), (wrap64 (x6_2 + 1)), (by first | rfl | (simp; done) | (simp [*]; done)), (by first | rfl | (simp; done) | (simp only [← hji3] <;> (first | rfl | simp)) | (simp [*]; done)), (by first | rfl | (simp; done) | (simp [*]; done)), H', ⟨by have := HJ5.out; have := HK2.out; omega⟩, ⟨by repeat (first | (with_reducible first | exact HB.out | apply below_alloc | apply pw_below_drewN | apply below_drew1) | exact HB.out)⟩⟩
                          · replace c32 := Bool.eq_false_iff.mpr c32
                            subst c32
                            have H1 : (longcaselaw08_PosixNames.l0 k2 sx t116 false false (wrap64 (x6_2 + 1))) = some r := by rw [if_neg (show ¬ (false = true) by decide)] at H; exact H
                            clear H
                            have H := H1
                            clear H1
                            have H' := Aside0.mk H
                            clear H
                            have p11 : 0 ≤ (x6_2 : Int) := of_decide_eq_true (by first | (with_reducible assumption) | assumption)
                            have q11 : x6_2 < (sx.size : Int) := of_decide_eq_true (by first | (with_reducible assumption) | assumption)
                            have hx11 := bt_at sx x6_2
                            replace p11 := eq_true p11
                            replace q11 := eq_true q11
                            go_wp2
                            go_roundg k2
                            case measure => have := HJ5.out; have := HK2.out; omega
                            case rel => exact ⟨(false), (false), (wrap64 (x6_2 + 1)), (by first | rfl | (simp; done) | (simp [*]; done)), (by first | rfl | (simp; done) | (simp [*]; done)), (by first | rfl | (simp; done) | (simp [*]; done)), H', ⟨by have := HJ5.out; have := HK2.out; omega⟩, ⟨by repeat (first | (with_reducible first | exact HB.out | apply below_alloc | apply pw_below_drewN | apply below_drew1) | exact HB.out)⟩⟩
                        · replace c31 := Bool.eq_false_iff.mpr c31
                          subst c31
                          have H1 : (if x5_2 = true then (if (bt sx x6_2) ≥ 48 then (if (bt sx x6_2) ≤ 57 then (longcaselaw08_PosixNames.l0 k2 sx t116 false true (wrap64 (x6_2 + 1))) else (if (bt sx x6_2) = 43 then (longcaselaw08_PosixNames.l0 k2 sx t116 false true (wrap64 (x6_2 + 1))) else (longcaselaw08_PosixNames.l0 k2 sx t116 false ((bt sx x6_2) == 45) (wrap64 (x6_2 + 1))))) else (if (bt sx x6_2) = 43 then (longcaselaw08_PosixNames.l0 k2 sx t116 false true (wrap64 (x6_2 + 1))) else (longcaselaw08_PosixNames.l0 k2 sx t116 false ((bt sx x6_2) == 45) (wrap64 (x6_2 + 1))))) else (longcaselaw08_PosixNames.l0 k2 sx t116 false false (wrap64 (x6_2 + 1)))) = some r := by rw [if_neg (show ¬ (false = true) by decide)] at H; exact H
                          clear H
                          have H := H1
                          clear H1
                          by_cases c37 : x5_2 = true
                          · subst c37
                            have H1 : (if (bt sx x6_2) ≥ 48 then (if (bt sx x6_2) ≤ 57 then (longcaselaw08_PosixNames.l0 k2 sx t116 false true (wrap64 (x6_2 + 1))) else (if (bt sx x6_2) = 43 then (longcaselaw08_PosixNames.l0 k2 sx t116 false true (wrap64 (x6_2 + 1))) else (longcaselaw08_PosixNames.l0 k2 sx t116 false ((bt sx x6_2) == 45) (wrap64 (x6_2 + 1))))) else (if (bt sx x6_2) = 43 then (longcaselaw08_PosixNames.l0 k2 sx t116 false true (wrap64 (x6_2 + 1))) else (longcaselaw08_PosixNames.l0 k2 sx t116 false ((bt sx x6_2) == 45) (wrap64 (x6_2 + 1))))) = some r := by rw [if_pos rfl] at H; exact H
                            clear H
                            have H := H1
                            clear H1
                            by_cases c38 : (bt sx x6_2) ≥ 48
                            · rw [if_pos c38] at H
                              have c38b0 : decide (48 ≤ (bt sx x6_2)) = true := decide_eq_true c38
                              clear c38
                              by_cases c39 : (bt sx x6_2) ≤ 57
                              · rw [if_pos c39] at H
                                have c39b0 : decide ((bt sx x6_2) ≤ 57) = true := decide_eq_true c39
                                clear c39
                                have H' := Aside0.mk H
                                clear H
                                have p11 : 0 ≤ (x6_2 : Int) := of_decide_eq_true (by first | (with_reducible assumption) | assumption)
                                have q11 : x6_2 < (sx.size : Int) := of_decide_eq_true (by first | (with_reducible assumption) | assumption)
                                have hx11 := bt_at sx x6_2
                                replace p11 := eq_true p11
                                replace q11 := eq_true q11
                                go_wp2
                                go_roundg k2
                                case measure => have := HJ5.out; have := HK2.out; omega
                                case rel => exact ⟨(false), (true), (wrap64 (x6_2 + 1)), (by first | rfl | (simp; done) | (simp [*]; done)), (by first | rfl | (simp; done) | (simp [*]; done)), (by first | rfl | (simp; done) | (simp [*]; done)), H', ⟨by have := HJ5.out; have := HK2.out; omega⟩, ⟨by repeat (first | (with_reducible first | exact HB.out | apply below_alloc | apply pw_below_drewN | apply below_drew1) | exact HB.out)⟩⟩
                              · rw [if_neg c39] at H
                                have c39b0 : decide ((bt sx x6_2) ≤ 57) = false := decide_eq_false c39
                                clear c39
                                by_cases c40 : (bt sx x6_2) = 43
                                · rw [if_pos c40] at H
                                  have c40b0 : ((bt sx x6_2) == 43) = true := beq_iff_eq.mpr c40
                                  have c40b1 : ((bt sx x6_2) != 43) = false := bne_eq_false_iff_eq.mpr c40
                                  clear c40
                                  have H' := Aside0.mk H
                                  clear H
                                  have p11 : 0 ≤ (x6_2 : Int) := of_decide_eq_true (by first | (with_reducible assumption) | assumption)
                                  have q11 : x6_2 < (sx.size : Int) := of_decide_eq_true (by first | (with_reducible assumption) | assumption)
                                  have hx11 := bt_at sx x6_2
                                  replace p11 := eq_true p11
                                  replace q11 := eq_true q11
                                  go_wp2
                                  go_roundg k2
                                  case measure => have := HJ5.out; have := HK2.out; omega
                                  case rel => exact ⟨(false), (true), (wrap64 (x6_2 + 1)), (by first | rfl | (simp; done) | (simp [*]; done)), (by first | rfl | (simp; done) | (simp [*]; done)), (by first | rfl | (simp; done) | (simp [*]; done)), H', ⟨by have := HJ5.out; have := HK2.out; omega⟩, ⟨by repeat (first | (with_reducible first | exact HB.out | apply below_alloc | apply pw_below_drewN | apply below_drew1) | exact HB.out)⟩⟩
                                · rw [if_neg c40] at H
                                  have c40b0 : ((bt sx x6_2) == 43) = false := beq_eq_false_iff_ne.mpr c40
                                  have c40b1 : ((bt sx x6_2) != 43) = true := bne_iff_ne.mpr c40
                                  have H' := Aside0.mk H
                                  clear H
                                  have p11 : 0 ≤ (x6_2 : Int) := of_decide_eq_true (by first | (with_reducible assumption) | assumption)
                                  have q11 : x6_2 < (sx.size : Int) := of_decide_eq_true (by first | (with_reducible assumption) | assumption)
                                  have hx11 := bt_at sx x6_2
                                  replace p11 := eq_true p11
                                  replace q11 := eq_true q11
                                  go_wp2
                                  go_roundg k2
                                  case measure => have := HJ5.out; have := HK2.out; omega
                                  case rel => exact ⟨(false), (((bt sx x6_2) == 45)), (wrap64 (x6_2 + 1)), (by first | rfl | (simp; done) | (simp [*]; done)), (by first | rfl | (simp; done) | (simp only [← hji3] <;> (first | rfl | simp)) | (simp [*]; done)), (by first | rfl | (simp; done) | (simp [*]; done)), H', ⟨by have := HJ5.out; have := HK2.out; omega⟩, ⟨by repeat (first | (with_reducible first | exact HB.out | apply below_alloc | apply pw_below_drewN | apply below_drew1) | exact HB.out)⟩⟩
                            · rw [if_neg c38] at H
                              have c38b0 : decide (48 ≤ (bt sx x6_2)) = false := decide_eq_false c38
                              clear c38
                              by_cases c41 : (bt sx x6_2) = 43
                              · rw [if_pos c41] at H
                                have c41b0 : ((bt sx x6_2) == 43) = true := beq_iff_eq.mpr c41
                                have c41b1 : ((bt sx x6_2) != 43) = false := bne_eq_false_iff_eq.mpr c41
                                clear c41
                                have H' := Aside0.mk H
                                clear H
                                have p11 : 0 ≤ (x6_2 : Int) := of_decide_eq_true (by first | (with_reducible assumption) | assumption)
                                have q11 : x6_2 < (sx.size : Int) := of_decide_eq_true (by first | (with_reducible assumption) | assumption)
                                have hx11 := bt_at sx x6_2
                                replace p11 := eq_true p11
                                replace q11 := eq_true q11
                                go_wp2
                                go_roundg k2
                                case measure => have := HJ5.out; have := HK2.out; omega
                                case rel => exact ⟨(false), (true), (wrap64 (x6_2 + 1)), (by first | rfl | (simp; done) | (simp [*]; done)), (by first | rfl | (simp; done) | (simp [*]; done)), (by first | rfl | (simp; done) | (simp [*]; done)), H', ⟨by have := HJ5.out; have := HK2.out; omega⟩, ⟨by repeat (first | (with_reducible first | exact HB.out | apply below_alloc | apply pw_below_drewN | apply below_drew1) | exact HB.out)⟩⟩
                              · rw [if_neg c41] at H
                                have c41b0 : ((bt sx x6_2) == 43) = false := beq_eq_false_iff_ne.mpr c41
                                have c41b1 : ((bt sx x6_2) != 43) = true := bne_iff_ne.mpr c41
                                have H' := Aside0.mk H
                                clear H
                                have p11 : 0 ≤ (x6_2 : Int) := of_decide_eq_true (by first | (with_reducible assumption) | assumption)
                                have q11 : x6_2 < (sx.size : Int) := of_decide_eq_true (by first | (with_reducible assumption) | assumption)
                                have hx11 := bt_at sx x6_2
                                replace p11 := eq_true p11
                                replace q11 := eq_true q11
                                go_wp2
                                go_roundg k2
                                case measure => have := HJ5.out; have := HK2.out; omega
                                case rel => exact ⟨(false), (((bt sx x6_2) == 45)), (wrap64 (x6_2 + 1)), (by first | rfl | (simp; done) | (simp [*]; done)), (by first | rfl | (simp; done) | (simp only [← hji3] <;> (first | rfl | simp)) | (simp [*]; done)), (by first | rfl | (simp; done) | (simp [*]; done)), H', ⟨by have := HJ5.out; have := HK2.out; omega⟩, ⟨by repeat (first | (with_reducible first | exact HB.out | apply below_alloc | apply pw_below_drewN | apply below_drew1) | exact HB.out)⟩⟩
                          · replace c37 := Bool.eq_false_iff.mpr c37
                            subst c37
                            have H1 : (longcaselaw08_PosixNames.l0 k2 sx t116 false false (wrap64 (x6_2 + 1))) = some r := by rw [if_neg (show ¬ (false = true) by decide)] at H; exact H
                            clear H
                            have H := H1
                            clear H1
                            have H' := Aside0.mk H
                            clear H
                            have p11 : 0 ≤ (x6_2 : Int) := of_decide_eq_true (by first | (with_reducible assumption) | assumption)
                            have q11 : x6_2 < (sx.size : Int) := of_decide_eq_true (by first | (with_reducible assumption) | assumption)
                            have hx11 := bt_at sx x6_2
                            replace p11 := eq_true p11
                            replace q11 := eq_true q11
                            go_wp2
                            go_roundg k2
                            case measure => have := HJ5.out; have := HK2.out; omega
                            case rel => exact ⟨(false), (false), (wrap64 (x6_2 + 1)), (by first | rfl | (simp; done) | (simp [*]; done)), (by first | rfl | (simp; done) | (simp [*]; done)), (by first | rfl | (simp; done) | (simp [*]; done)), H', ⟨by have := HJ5.out; have := HK2.out; omega⟩, ⟨by repeat (first | (with_reducible first | exact HB.out | apply below_alloc | apply pw_below_drewN | apply below_drew1) | exact HB.out)⟩⟩
                  · rw [if_neg c12] at H
                    have c12b0 : decide (97 ≤ (bt sx x6_2)) = false := decide_eq_false c12
                    clear c12
                    by_cases c42 : (bt sx x6_2) ≥ 65
                    · rw [if_pos c42] at H
                      have c42b0 : decide (65 ≤ (bt sx x6_2)) = true := decide_eq_true c42
                      clear c42
                      by_cases c43 : x4_2 = true
                      · subst c43
                        have H1 : (if x5_2 = true then (if (bt sx x6_2) ≤ 90 then (longcaselaw08_PosixNames.l0 k2 sx t116 (decide ((bt sx x6_2) ≤ 90)) true (wrap64 (x6_2 + 1))) else (if (bt sx x6_2) ≥ 48 then (if (bt sx x6_2) ≤ 57 then (longcaselaw08_PosixNames.l0 k2 sx t116 (decide ((bt sx x6_2) ≤ 90)) true (wrap64 (x6_2 + 1))) else (if (bt sx x6_2) = 43 then (longcaselaw08_PosixNames.l0 k2 sx t116 (decide ((bt sx x6_2) ≤ 90)) true (wrap64 (x6_2 + 1))) else (longcaselaw08_PosixNames.l0 k2 sx t116 (decide ((bt sx x6_2) ≤ 90)) ((bt sx x6_2) == 45) (wrap64 (x6_2 + 1))))) else (if (bt sx x6_2) = 43 then (longcaselaw08_PosixNames.l0 k2 sx t116 (decide ((bt sx x6_2) ≤ 90)) true (wrap64 (x6_2 + 1))) else (longcaselaw08_PosixNames.l0 k2 sx t116 (decide ((bt sx x6_2) ≤ 90)) ((bt sx x6_2) == 45) (wrap64 (x6_2 + 1)))))) else (longcaselaw08_PosixNames.l0 k2 sx t116 (decide ((bt sx x6_2) ≤ 90)) false (wrap64 (x6_2 + 1)))) = some r := by rw [if_pos rfl] at H; exact H
                        clear H
                        have H := H1
                        clear H1
                        by_cases c44 : x5_2 = true
                        · subst c44
                          have H1 : (if (bt sx x6_2) ≤ 90 then (longcaselaw08_PosixNames.l0 k2 sx t116 (decide ((bt sx x6_2) ≤ 90)) true (wrap64 (x6_2 + 1))) else (if (bt sx x6_2) ≥ 48 then (if (bt sx x6_2) ≤ 57 then (longcaselaw08_PosixNames.l0 k2 sx t116 (decide ((bt sx x6_2) ≤ 90)) true (wrap64 (x6_2 + 1))) else (if (bt sx x6_2) = 43 then (longcaselaw08_PosixNames.l0 k2 sx t116 (decide ((bt sx x6_2) ≤ 90)) true (wrap64 (x6_2 + 1))) else (longcaselaw08_PosixNames.l0 k2 sx t116 (decide ((bt sx x6_2) ≤ 90)) ((bt sx x6_2) == 45) (wrap64 (x6_2 + 1))))) else (if (bt sx x6_2) = 43 then (longcaselaw08_PosixNames.l0 k2 sx t116 (decide ((bt sx x6_2) ≤ 90)) true (wrap64 (x6_2 + 1))) else (longcaselaw08_PosixNames.l0 k2 sx t116 (decide ((bt sx x6_2) ≤ 90)) ((bt sx x6_2) == 45) (wrap64 (x6_2 + 1)))))) = some r := by rw [if_pos rfl] at H; exact H
                          clear H
                          have H := H1
                          clear H1
                          by_cases c45 : (bt sx x6_2) ≤ 90
                          · rw [if_pos c45] at H
                            have c45b0 : decide ((bt sx x6_2) ≤ 90) = true := decide_eq_true c45
                            clear c45
                            have H' := Aside0.mk H
                            clear H
                            have p11 : 0 ≤ (x6_2 : Int) := of_decide_eq_true (by first | (with_reducible assumption) | assumption)
                            have q11 : x6_2 < (sx.size : Int) := of_decide_eq_true (by first | (with_reducible assumption) | assumption)
                            have hx11 := bt_at sx x6_2
                            replace p11 := eq_true p11
                            replace q11 := eq_true q11
                            go_wp2
                            go_roundg k2
                            case measure => have := HJ5.out; have := HK2.out; omega
                            case rel => exact ⟨(decide ((bt sx x6_2) ≤ 90)), (true), (wrap64 (x6_2 + 1)), (by first | rfl | (simp; done) | (simp only [← hji3] <;> (first | rfl | simp)) | (simp [*]; done)), (by first | rfl | (simp; done) | (simp [*]; done)), (by first | rfl | (simp; done) | (simp [*]; done)), H', ⟨by have := HJ5.out; have := HK2.out; omega⟩, ⟨by repeat (first | (with_reducible first | exact HB.out | apply below_alloc | apply pw_below_drewN | apply below_drew1) | exact HB.out)⟩⟩
                          · rw [if_neg c45] at H
                            have c45b0 : decide ((bt sx x6_2) ≤ 90) = false := decide_eq_false c45
                            clear c45
                            by_cases c46 : (bt sx x6_2) ≥ 48
                            · rw [if_pos c46] at H
                              have c46b0 : decide (48 ≤ (bt sx x6_2)) = true := decide_eq_true c46
                              clear c46
                              by_cases c47 : (bt sx x6_2) ≤ 57
                              · rw [if_pos c47] at H
                                have c47b0 : decide ((bt sx x6_2) ≤ 57) = true := decide_eq_true c47
                                clear c47
                                have H' := Aside0.mk H
                                clear H
                                have p11 : 0 ≤ (x6_2 : Int) := of_decide_eq_true (by first | (with_reducible assumption) | assumption)
                                have q11 : x6_2 < (sx.size : Int) := of_decide_eq_true (by first | (with_reducible assumption) | assumption)
                                have hx11 := bt_at sx x6_2
                                replace p11 := eq_true p11
                                replace q11 := eq_true q11
                                go_wp2
                                go_roundg k2
                                case measure => have := HJ5.out; have := HK2.out; omega
                                case rel => exact ⟨(decide ((bt sx x6_2) ≤ 90)), (true), (wrap64 (x6_2 + 1)), (by first | rfl | (simp; done) | (simp only [← hji3] <;> (first | rfl | simp)) | (simp [*]; done)), (by first | rfl | (simp; done) | (simp [*]; done)), (by first | rfl | (simp; done) | (simp [*]; done)), H', ⟨by have := HJ5.out; have := HK2.out; omega⟩, ⟨by repeat (first | (with_reducible first | exact HB.out | apply below_alloc | apply pw_below_drewN | apply below_drew1) | exact HB.out)⟩⟩
                              · rw [if_neg c47] at H
                                have c47b0 : decide ((bt sx x6_2) ≤ 57) = false := decide_eq_false c47
                                clear c47
                                by_cases c48 : (bt sx x6_2) = 43
                                · rw [if_pos c48] at H
                                  have c48b0 : ((bt sx x6_2) == 43) = true := beq_iff_eq.mpr c48
                                  have c48b1 : ((bt sx x6_2) != 43) = false := bne_eq_false_iff_eq.mpr c48
                                  clear c48
                                  have H' := Aside0.mk H
                                  clear H
                                  have p11 : 0 ≤ (x6_2 : Int) := of_decide_eq_true (by first | (with_reducible assumption) | assumption)
                                  have q11 : x6_2 < (sx.size : Int) := of_decide_eq_true (by first | (with_reducible assumption) | assumption)
                                  have hx11 := bt_at sx x6_2
                                  replace p11 := eq_true p11
                                  replace q11 := eq_true q11
                                  go_wp2
                                  go_roundg k2
                                  case measure => have := HJ5.out; have := HK2.out; omega
                                  case rel => exact ⟨(decide ((bt sx x6_2) ≤ 90)), (true), (wrap64 (x6_2 + 1)), (by first | rfl | (simp; done) | (simp only [← hji3] <;> (first | rfl | simp)) | (simp [*]; done)), (by first | rfl | (simp; done) | (simp [*]; done)), (by first | rfl | (simp; done) | (simp [*]; done)), H', ⟨by have := HJ5.out; have := HK2.out; omega⟩, ⟨by repeat (first | (with_reducible first | exact HB.out | apply below_alloc | apply pw_below_drewN | apply below_drew1) | exact HB.out)⟩⟩
                                · rw [if_neg c48] at H
                                  have c48b0 : ((bt sx x6_2) == 43) = false := beq_eq_false_iff_ne.mpr c48
                                  have c48b1 : ((bt sx x6_2) != 43) = true := bne_iff_ne.mpr c48
                                  have H' := Aside0.mk H
                                  clear H
                                  have p11 : 0 ≤ (x6_2 : Int) := of_decide_eq_true (by first | (with_reducible assumption) | assumption)
                                  have q11 : x6_2 < (sx.size : Int) := of_decide_eq_true (by first | (with_reducible assumption) | assumption)
                                  have hx11 := bt_at sx x6_2
                                  replace p11 := eq_true p11
                                  replace q11 := eq_true q11
                                  go_wp2
                                  go_roundg k2
                                  case measure => have := HJ5.out; have := HK2.out; omega
                                  case rel => exact ⟨(decide ((bt sx x6_2) ≤ 90)), (((bt sx x6_2) == 45)), (wrap64 (x6_2 + 1)), (by first | rfl | (simp; done) | (simp only [← hji3] <;> (first | rfl | simp)) | (simp [*]; done)), (by first | rfl | (simp; done) | (simp only [← hji3] <;> (first | rfl | simp)) | (simp [*]; done)), (by first | rfl | (simp; done) | (simp [*]; done)), H', ⟨by have := HJ5.out; have := HK2.out; omega⟩, ⟨by repeat (first | (with_reducible first | exact HB.out | apply below_alloc | apply pw_below_drewN | apply below_drew1) | exact HB.out)⟩⟩
                            · rw [if_neg c46] at H
                              have c46b0 : decide (48 ≤ (bt sx x6_2)) = false := decide_eq_false c46
                              clear c46
                              by_cases c49 : (bt sx x6_2) = 43
                              · rw [if_pos c49] at H
                                have c49b0 : ((bt sx x6_2) == 43) = true := beq_iff_eq.mpr c49
                                have c49b1 : ((bt sx x6_2) != 43) = false := bne_eq_false_iff_eq.mpr c49
                                clear c49
                                have H' := Aside0.mk H
                                clear H
                                have p11 : 0 ≤ (x6_2 : Int) := of_decide_eq_true (by first | (with_reducible assumption) | assumption)
                                have q11 : x6_2 < (sx.size : Int) := of_decide_eq_true (by first | (with_reducible assumption) | assumption)
                                have hx11 := bt_at sx x6_2
                                replace p11 := eq_true p11
                                replace q11 := eq_true q11
                                go_wp2
                                go_roundg k2
                                case measure => have := HJ5.out; have := HK2.out; omega
                                case rel => exact ⟨(decide ((bt sx x6_2) ≤ 90)), (true), (wrap64 (x6_2 + 1)), (by first | rfl | (simp; done) | (simp only [← hji3] <;> (first | rfl | simp)) | (simp [*]; done)), (by first | rfl | (simp; done) | (simp [*]; done)), (by first | rfl | (simp; done) | (simp [*]; done)), H', ⟨by have := HJ5.out; have := HK2.out; omega⟩, ⟨by repeat (first | (with_reducible first | exact HB.out | apply below_alloc | apply pw_below_drewN | apply below_drew1) | exact HB.out)⟩⟩
                              · rw [if_neg c49] at H
                                have c49b0 : ((bt sx x6_2) == 43) = false := beq_eq_false_iff_ne.mpr c49
                                have c49b1 : ((bt sx x6_2) != 43) = true := bne_iff_ne.mpr c49
                                have H' := Aside0.mk H
                                clear H
                                have p11 : 0 ≤ (x6_2 : Int) := of_decide_eq_true (by first | (with_reducible assumption) | assumption)
                                have q11 : x6_2 < (sx.size : Int) := of_decide_eq_true (by first | (with_reducible assumption) | assumption)
                                have hx11 := bt_at sx x6_2
                                replace p11 := eq_true p11
                                replace q11 := eq_true q11
                                go_wp2
                                go_roundg k2
                                case measure => have := HJ5.out; have := HK2.out; omega
                                case rel => exact ⟨(decide ((bt sx x6_2) ≤ 90)), (((bt sx x6_2) == 45)), (wrap64 (x6_2 + 1)), (by first | rfl | (simp; done) | (simp only [← hji3] <;> (first | rfl | simp)) | (simp [*]; done)), (by first | rfl | (simp; done) | (simp only [← hji3] <;> (first | rfl | simp)) | (simp [*]; done)), (by first | rfl | (simp; done) | (simp [*]; done)), H', ⟨by have := HJ5.out; have := HK2.out; omega⟩, ⟨by repeat (first | (with_reducible first | exact HB.out | apply below_alloc | apply pw_below_drewN | apply below_drew1) | exact HB.out)⟩⟩
                        · replace c44 := Bool.eq_false_iff.mpr c44
                          subst c44
                          have H1 : (longcaselaw08_PosixNames.l0 k2 sx t116 (decide ((bt sx x6_2) ≤ 90)) false (wrap64 (x6_2 + 1))) = some r := by rw [if_neg (show ¬ (false = true) by decide)] at H; exact H
                          clear H
                          have H := H1
                          clear H1
                          have H' := Aside0.mk H
                          clear H
                          have p11 : 0 ≤ (x6_2 : Int) := of_decide_eq_true (by first | (with_reducible assumption) | assumption)
                          have q11 : x6_2 < (sx.size : Int) := of_decide_eq_true (by first | (with_reducible assumption) | assumption)
                          have hx11 := bt_at sx x6_2
                          replace p11 := eq_true p11
                          replace q11 := eq_true q11
                          go_wp2
                          go_roundg k2
                          case measure => have := HJ5.out; have := HK2.out; omega
                          case rel => exact ⟨(decide ((bt sx x6_2) ≤ 90)), (false), (wrap64 (x6_2 + 1)), (by first | rfl | (simp; done) | (simp only [← hji3] <;> (first | rfl | simp)) | (simp [*]; done)), (by first | rfl | (simp; done) | (simp [*]; done)), (by first | rfl | (simp; done) | (simp [*]; done)), H', ⟨by have := HJ5.out; have := HK2.out; omega⟩, ⟨by repeat (first | (with_reducible first | exact HB.out | apply below_alloc | apply pw_below_drewN | apply below_drew1) | exact HB.out)⟩⟩
                      · replace c43 := Bool.eq_false_iff.mpr c43
                        subst c43
                        have H1 : (if x5_2 = true then (if (bt sx x6_2) ≤ 90 then (longcaselaw08_PosixNames.l0 k2 sx t116 false true (wrap64 (x6_2 + 1))) else (if (bt sx x6_2) ≥ 48 then (if (bt sx x6_2) ≤ 57 then (longcaselaw08_PosixNames.l0 k2 sx t116 false true (wrap64 (x6_2 + 1))) else (if (bt sx x6_2) = 43 then (longcaselaw08_PosixNames.l0 k2 sx t116 false true (wrap64 (x6_2 + 1))) else (longcaselaw08_PosixNames.l0 k2 sx t116 false ((bt sx x6_2) == 45) (wrap64 (x6_2 + 1))))) else (if (bt sx x6_2) = 43 then (longcaselaw08_PosixNames.l0 k2 sx t116 false true (wrap64 (x6_2 + 1))) else (longcaselaw08_PosixNames.l0 k2 sx t116 false ((bt sx x6_2) == 45) (wrap64 (x6_2 + 1)))))) else (longcaselaw08_PosixNames.l0 k2 sx t116 false false (wrap64 (x6_2 + 1)))) = some r := by rw [if_neg (show ¬ (false = true) by decide)] at H; exact H
                        clear H
                        have H := H1
                        clear H1
                        by_cases c50 : x5_2 = true
                        · subst c50
                          have H1 : (if (bt sx x6_2) ≤ 90 then (longcaselaw08_PosixNames.l0 k2 sx t116 false true (wrap64 (x6_2 + 1))) else (if (bt sx x6_2) ≥ 48 then (if (bt sx x6_2) ≤ 57 then (longcaselaw08_PosixNames.l0 k2 sx t116 false true (wrap64 (x6_2 + 1))) else (if (bt sx x6_2) = 43 then (longcaselaw08_PosixNames.l0 k2 sx t116 false true (wrap64 (x6_2 + 1))) else (longcaselaw08_PosixNames.l0 k2 sx t116 false ((bt sx x6_2) == 45) (wrap64 (x6_2 + 1))))) else (if (bt sx x6_2) = 43 then (longcaselaw08_PosixNames.l0 k2 sx t116 false true (wrap64 (x6_2 + 1))) else (longcaselaw08_PosixNames.l0 k2 sx t116 false ((bt sx x6_2) == 45) (wrap64 (x6_2 + 1)))))) = some r := by rw [if_pos rfl] at H; exact H
                          clear H
                          have H := H1
                          clear H1
                          by_cases c51 : (bt sx x6_2) ≤ 90
                          · rw [if_pos c51] at H
                            have c51b0 : decide ((bt sx x6_2) ≤ 90) = true := decide_eq_true c51
                            clear c51
                            have H' := Aside0.mk H
                            clear H
                            have p11 : 0 ≤ (x6_2 : Int) := of_decide_eq_true (by first | (with_reducible assumption) | assumption)
                            have q11 : x6_2 < (sx.size : Int) := of_decide_eq_true (by first | (with_reducible assumption) | assumption)
                            have hx11 := bt_at sx x6_2
                            replace p11 := eq_true p11
                            replace q11 := eq_true q11
                            go_wp2
                            go_roundg k2
                            case measure => have := HJ5.out; have := HK2.out; omega
                            case rel => exact ⟨(false), (true), (wrap64 (x6_2 + 1)), (by first | rfl | (simp; done) | (simp [*]; done)), (by first | rfl | (simp; done) | (simp [*]; done)), (by first | rfl | (simp; done) | (simp [*]; done)), H', ⟨by have := HJ5.out; have := HK2.out; omega⟩, ⟨by repeat (first | (with_reducible first | exact HB.out | apply below_alloc | apply pw_below_drewN | apply below_drew1) | exact HB.out)⟩⟩
                          · rw [if_neg c51] at H
                            have c51b0 : decide ((bt sx x6_2) ≤ 90) = false := decide_eq_false c51
                            clear c51
                            by_cases c52 : (bt sx x6_2) ≥ 48
                            · rw [if_pos c52] at H
                              have c52b0 : decide (48 ≤ (bt sx x6_2)) = true := decide_eq_true c52
                              clear c52
                              by_cases c53 : (bt sx x6_2) ≤ 57
                              · rw [if_pos c53] at H
                                have c53b0 : decide ((bt sx x6_2) ≤ 57) = true := decide_eq_true c53
                                clear c53
                                have H' := Aside0.mk H
                                clear H
                                have p11 : 0 ≤ (x6_2 : Int) := of_decide_eq_true (by first | (with_reducible assumption) | assumption)
                                have q11 : x6_2 < (sx.size : Int) := of_decide_eq_true (by first | (with_reducible assumption) | assumption)
                                have hx11 := bt_at sx x6_2
                                replace p11 := eq_true p11
                                replace q11 := eq_true q11
                                go_wp2
                                go_roundg k2
                                case measure => have := HJ5.out; have := HK2.out; omega
                                case rel => exact ⟨(false), (true), (wrap64 (x6_2 + 1)), (by first | rfl | (simp; done) | (simp [*]; done)), (by first | rfl | (simp; done) | (simp [*]; done)), (by first | rfl | (simp; done) | (simp [*]; done)), H', ⟨by have := HJ5.out; have := HK2.out; omega⟩, ⟨by repeat (first | (with_reducible first | exact HB.out | apply below_alloc | apply pw_below_drewN | apply below_drew1) | exact HB.out)⟩⟩
                              · rw [if_neg c53] at H
                                have c53b0 : decide ((bt sx x6_2) ≤ 57) = false := decide_eq_false c53
                                clear c53
                                by_cases c54 : (bt sx x6_2) = 43
                                · rw [if_pos c54] at H
                                  have c54b0 : ((bt sx x6_2) == 43) = true := beq_iff_eq.mpr c54
                                  have c54b1 : ((bt sx x6_2) != 43) = false := bne_eq_false_iff_eq.mpr c54
                                  clear c54
                                  have H' := Aside0.mk H
                                  clear H
                                  have p11 : 0 ≤ (x6_2 : Int) := of_decide_eq_true (by first | (with_reducible assumption) | assumption)
                                  have q11 : x6_2 < (sx.size : Int) := of_decide_eq_true (by first | (with_reducible assumption) | assumption)
                                  have hx11 := bt_at sx x6_2
                                  replace p11 := eq_true p11
                                  replace q11 := eq_true q11
                                  go_wp2
                                  go_roundg k2
                                  case measure => have := HJ5.out; have := HK2.out; omega
                                  case rel => exact ⟨(false), (true), (wrap64 (x6_2 + 1)), (by first | rfl | (simp; done) | (simp [*]; done)), (by first | rfl | (simp; done) | (simp [*]; done)), (by first | rfl | (simp; done) | (simp [*]; done)), H', ⟨by have := HJ5.out; have := HK2.out; omega⟩, ⟨by repeat (first | (with_reducible first | exact HB.out | apply below_alloc | apply pw_below_drewN | apply below_drew1) | exact HB.out)⟩⟩
                                · rw [if_neg c54] at H
                                  have c54b0 : ((bt sx x6_2) == 43) = false := beq_eq_false_iff_ne.mpr c54
                                  have c54b1 : ((bt sx x6_2) != 43) = true := bne_iff_ne.mpr c54
                                  have H' := Aside0.mk H
                                  clear H
                                  have p11 : 0 ≤ (x6_2 : Int) := of_decide_eq_true (by first | (with_reducible assumption) | assumption)
                                  have q11 : x6_2 < (sx.size : Int) := of_decide_eq_true (by first | (with_reducible assumption) | assumption)
                                  have hx11 := bt_at sx x6_2
                                  replace p11 := eq_true p11
                                  replace q11 := eq_true q11
                                  go_wp2
                                  go_roundg k2
                                  case measure => have := HJ5.out; have := HK2.out; omega
                                  case rel => exact ⟨(false), (((bt sx x6_2) == 45)), (wrap64 (x6_2 + 1)), (by first | rfl | (simp; done) | (simp [*]; done)), (by first | rfl | (simp; done) | (simp only [← hji3] <;> (first | rfl | simp)) | (simp [*]; done)), (by first | rfl | (simp; done) | (simp [*]; done)), H', ⟨by have := HJ5.out; have := HK2.out; omega⟩, ⟨by repeat (first | (with_reducible first | exact HB.out | apply below_alloc | apply pw_below_drewN | apply below_drew1) | exact HB.out)⟩⟩
                            · rw [if_neg c52] at H
                              have c52b0 : decide (48 ≤ (bt sx x6_2)) = false := decide_eq_false c52
                              clear c52
                              by_cases c55 : (bt sx x6_2) = 43
                              · rw [if_pos c55] at H
                                have c55b0 : ((bt sx x6_2) == 43) = true := beq_iff_eq.mpr c55
                                have c55b1 : ((bt sx x6_2) != 43) = false := bne_eq_false_iff_eq.mpr c55
                                clear c55
                                have H' := Aside0.mk H
                                clear H
                                have p11 : 0 ≤ (x6_2 : Int) := of_decide_eq_true (by first | (with_reducible assumption) | assumption)
                                have q11 : x6_2 < (sx.size : Int) := of_decide_eq_true (by first | (with_reducible assumption) | assumption)
                                have hx11 := bt_at sx x6_2
                                replace p11 := eq_true p11
                                replace q11 := eq_true q11
                                go_wp2
                                go_roundg k2
                                case measure => have := HJ5.out; have := HK2.out; omega
                                case rel => exact ⟨(false), (true), (wrap64 (x6_2 + 1)), (by first | rfl | (simp; done) | (simp [*]; done)), (by first | rfl | (simp; done) | (simp [*]; done)), (by first | rfl | (simp; done) | (simp [*]; done)), H', ⟨by have := HJ5.out; have := HK2.out; omega⟩, ⟨by repeat (first | (with_reducible first | exact HB.out | apply below_alloc | apply pw_below_drewN | apply below_drew1) | exact HB.out)⟩⟩
                              · rw [if_neg c55] at H
                                have c55b0 : ((bt sx x6_2) == 43) = false := beq_eq_false_iff_ne.mpr c55
                                have c55b1 : ((bt sx x6_2) != 43) = true := bne_iff_ne.mpr c55
                                have H' := Aside0.mk H
                                clear H
                                have p11 : 0 ≤ (x6_2 : Int) := of_decide_eq_true (by first | (with_reducible assumption) | assumption)
                                have q11 : x6_2 < (sx.size : Int) := of_decide_eq_true (by first | (with_reducible assumption) | assumption)
                                have hx11 := bt_at sx x6_2
                                replace p11 := eq_true p11
                                replace q11 := eq_true q11
                                go_wp2
                                go_roundg k2
                                case measure => have := HJ5.out; have := HK2.out; omega
                                case rel => exact ⟨(false), (((bt sx x6_2) == 45)), (wrap64 (x6_2 + 1)), (by first | rfl | (simp; done) | (simp [*]; done)), (by first | rfl | (simp; done) | (simp only [← hji3] <;> (first | rfl | simp)) | (simp [*]; done)), (by first | rfl | (simp; done) | (simp [*]; done)), H', ⟨by have := HJ5.out; have := HK2.out; omega⟩, ⟨by repeat (first | (with_reducible first | exact HB.out | apply below_alloc | apply pw_below_drewN | apply below_drew1) | exact HB.out)⟩⟩
                        · replace c50 := Bool.eq_false_iff.mpr c50
                          subst c50
                          have H1 : (longcaselaw08_PosixNames.l0 k2 sx t116 false false (wrap64 (x6_2 + 1))) = some r := by rw [if_neg (show ¬ (false = true) by decide)] at H; exact H
                          clear H
                          have H := H1
                          clear H1
                          have H' := Aside0.mk H
                          clear H
                          have p11 : 0 ≤ (x6_2 : Int) := of_decide_eq_true (by first | (with_reducible assumption) | assumption)
                          have q11 : x6_2 < (sx.size : Int) := of_decide_eq_true (by first | (with_reducible assumption) | assumption)
                          have hx11 := bt_at sx x6_2
                          replace p11 := eq_true p11
                          replace q11 := eq_true q11
                          go_wp2
                          go_roundg k2
                          case measure => have := HJ5.out; have := HK2.out; omega
                          case rel => exact ⟨(false), (false), (wrap64 (x6_2 + 1)), (by first | rfl | (simp; done) | (simp [*]; done)), (by first | rfl | (simp; done) | (simp [*]; done)), (by first | rfl | (simp; done) | (simp [*]; done)), H', ⟨by have := HJ5.out; have := HK2.out; omega⟩, ⟨by repeat (first | (with_reducible first | exact HB.out | apply below_alloc | apply pw_below_drewN | apply below_drew1) | exact HB.out)⟩⟩
                    · rw [if_neg c42] at H
                      have c42b0 : decide (65 ≤ (bt sx x6_2)) = false := decide_eq_false c42
                      clear c42
                      by_cases c56 : x4_2 = true
                      · subst c56
                        have H1 : (if x5_2 = true then (if (bt sx x6_2) ≥ 48 then (if (bt sx x6_2) ≤ 57 then (longcaselaw08_PosixNames.l0 k2 sx t116 false true (wrap64 (x6_2 + 1))) else (if (bt sx x6_2) = 43 then (longcaselaw08_PosixNames.l0 k2 sx t116 false true (wrap64 (x6_2 + 1))) else (longcaselaw08_PosixNames.l0 k2 sx t116 false ((bt sx x6_2) == 45) (wrap64 (x6_2 + 1))))) else (if (bt sx x6_2) = 43 then (longcaselaw08_PosixNames.l0 k2 sx t116 false true (wrap64 (x6_2 + 1))) else (longcaselaw08_PosixNames.l0 k2 sx t116 false ((bt sx x6_2) == 45) (wrap64 (x6_2 + 1))))) else (longcaselaw08_PosixNames.l0 k2 sx t116 false false (wrap64 (x6_2 + 1)))) = some r := by rw [if_pos rfl] at H; exact H
                        clear H
                        have H := H1
                        clear H1
                        by_cases c57 : x5_2 = true
                        · subst c57
                          have H1 : (if (bt sx x6_2) ≥ 48 then (if (bt sx x6_2) ≤ 57 then (longcaselaw08_PosixNames.l0 k2 sx t116 false true (wrap64 (x6_2 + 1))) else (if (bt sx x6_2) = 43 then (longcaselaw08_PosixNames.l0 k2 sx t116 false true (wrap64 (x6_2 + 1))) else (longcaselaw08_PosixNames.l0 k2 sx t116 false ((bt sx x6_2) == 45) (wrap64 (x6_2 + 1))))) else (if (bt sx x6_2) = 43 then (longcaselaw08_PosixNames.l0 k2 sx t116 false true (wrap64 (x6_2 + 1))) else (longcaselaw08_PosixNames.l0 k2 sx t116 false ((bt sx x6_2) == 45) (wrap64 (x6_2 + 1))))) = some r := by rw [if_pos rfl] at H; exact H
                          clear H
                          have H := H1
                          clear H1
                          by_cases c58 : (bt sx x6_2) ≥ 48
                          · rw [if_pos c58] at H
                            have c58b0 : decide (48 ≤ (bt sx x6_2)) = true := decide_eq_true c58
                            clear c58
                            by_cases c59 : (bt sx x6_2) ≤ 57
                            · rw [if_pos c59] at H
                              have c59b0 : decide ((bt sx x6_2) ≤ 57) = true := decide_eq_true c59
                              clear c59
                              have H' := Aside0.mk H
                              clear H
                              have p11 : 0 ≤ (x6_2 : Int) := of_decide_eq_true (by first | (with_reducible assumption) | assumption)
                              have q11 : x6_2 < (sx.size : Int) := of_decide_eq_true (by first | (with_reducible assumption) | assumption)
                              have hx11 := bt_at sx x6_2
                              replace p11 := eq_true p11
                              replace q11 := eq_true q11
                              go_wp2
                              go_roundg k2
                              case measure => have := HJ5.out; have := HK2.out; omega
                              case rel => exact ⟨(false), (true), (wrap64 (x6_2 + 1)), (by first | rfl | (simp; done) | (simp [*]; done)), (by first | rfl | (simp; done) | (simp [*]; done)), (by first | rfl | (simp; done) | (simp [*]; done)), H', ⟨by have := HJ5.out; have := HK2.out; omega⟩, ⟨by repeat (first | (with_reducible first | exact HB.out | apply below_alloc | apply pw_below_drewN | apply below_drew1) | exact HB.out)⟩⟩
                            · rw [if_neg c59] at H
                              have c59b0 : decide ((bt sx x6_2) ≤ 57) = false := decide_eq_false c59
                              clear c59
                              by_cases c60 : (bt sx x6_2) = 43
                              · rw [if_pos c60] at H
                                have c60b0 : ((bt sx x6_2) == 43) = true := beq_iff_eq.mpr c60
                                have c60b1 : ((bt sx x6_2) != 43) = false := bne_eq_false_iff_eq.mpr c60
                                clear c60
                                have H' := Aside0.mk H
                                clear H
                                have p11 : 0 ≤ (x6_2 : Int) := of_decide_eq_true (by first | (with_reducible assumption) | assumption)
                                have q11 : x6_2 < (sx.size : Int) := of_decide_eq_true (by first | (with_reducible assumption) | assumption)
                                have hx11 := bt_at sx x6_2
                                replace p11 := eq_true p11
                                replace q11 := eq_true q11
                                go_wp2
                                go_roundg k2
                                case measure => have := HJ5.out; have := HK2.out; omega
                                case rel => exact ⟨(false), (true), (wrap64 (x6_2 + 1)), (by first | rfl | (simp; done) | (simp [*]; done)), (by first | rfl | (simp; done) | (simp [*]; done)), (by first | rfl | (simp; done) | (simp [*]; done)), H', ⟨by have := HJ5.out; have := HK2.out; omega⟩, ⟨by repeat (first | (with_reducible first | exact HB.out | apply below_alloc | apply pw_below_drewN | apply below_drew1) | exact HB.out)⟩⟩
                              · rw [if_neg c60] at H
                                have c60b0 : ((bt sx x6_2) == 43) = false := beq_eq_false_iff_ne.mpr c60
                                have c60b1 : ((bt sx x6_2) != 43) = true := bne_iff_ne.mpr c60
                                have H' := Aside0.mk H
                                clear H
                                have p11 : 0 ≤ (x6_2 : Int) := of_decide_eq_true (by first | (with_reducible assumption) | assumption)
                                have q11 : x6_2 < (sx.size : Int) := of_decide_eq_true (by first | (with_reducible assumption) | assumption)
                                have hx11 := bt_at sx x6_2
                                replace p11 := eq_true p11
                                replace q11 := eq_true q11
                                go_wp2
                                go_roundg k2
                                case measure => have := HJ5.out; have := HK2.out; omega
                                case rel => exact ⟨(false), (((bt sx x6_2) == 45)), (wrap64 (x6_2 + 1)), (by first | rfl | (simp; done) | (simp [*]; done)), (by first | rfl | (simp; done) | (simp only [← hji3] <;> (first | rfl | simp)) | (simp [*]; done)), (by first | rfl | (simp; done) | (simp [*]; done)), H', ⟨by have := HJ5.out; have := HK2.out; omega⟩, ⟨by repeat (first | (with_reducible first | exact HB.out | apply below_alloc | apply pw_below_drewN | apply below_drew1) | exact HB.out)⟩⟩
                          · rw [if_neg c58] at H
                            have c58b0 : decide (48 ≤ (bt sx x6_2)) = false := decide_eq_false c58
                            clear c58
                            by_cases c61 : (bt sx x6_2) = 43
                            · rw [if_pos c61] at H
                              have c61b0 : ((bt sx x6_2) == 43) = true := beq_iff_eq.mpr c61
                              have c61b1 : ((bt sx x6_2) != 43) = false := bne_eq_false_iff_eq.mpr c61
                              clear c61
                              have H' := Aside0.mk H
                              clear H
                              have p11 : 0 ≤ (x6_2 : Int) := of_decide_eq_true (by first | (with_reducible assumption) | assumption)
                              have q11 : x6_2 < (sx.size : Int) := of_decide_eq_true (by first | (with_reducible assumption) | assumption)
                              have hx11 := bt_at sx x6_2
                              replace p11 := eq_true p11
                              replace q11 := eq_true q11
                              go_wp2
                              go_roundg k2
                              case measure => have := HJ5.out; have := HK2.out; omega
                              case rel => exact ⟨(false), (true), (wrap64 (x6_2 + 1)), (by first | rfl | (simp; done) | (simp [*]; done)), (by first | rfl | (simp; done) | (simp [*]; done)), (by first | rfl | (simp; done) | (simp [*]; done)), H', ⟨by have := HJ5.out; have := HK2.out; omega⟩, ⟨by repeat (first | (with_reducible first | exact HB.out | apply below_alloc | apply pw_below_drewN | apply below_drew1) | exact HB.out)⟩⟩
                            · rw [if_neg c61] at H
                              have c61b0 : ((bt sx x6_2) == 43) = false := beq_eq_false_iff_ne.mpr c61
                              have c61b1 : ((bt sx x6_2) != 43) = true := bne_iff_ne.mpr c61
                              have H' := Aside0.mk H
                              clear H
                              have p11 : 0 ≤ (x6_2 : Int) := of_decide_eq_true (by first | (with_reducible assumption) | assumption)
                              have q11 : x6_2 < (sx.size : Int) := of_decide_eq_true (by first | (with_reducible assumption) | assumption)
                              have hx11 := bt_at sx x6_2
                              replace p11 := eq_true p11
                              replace q11 := eq_true q11
                              go_wp2
                              go_roundg k2
                              case measure => have := HJ5.out; have := HK2.out; omega
                              case rel => exact ⟨(false), (((bt sx x6_2) == 45)), (wrap64 (x6_2 + 1)), (by first | rfl | (simp; done) | (simp [*]; done)), (by first | rfl | (simp; done) | (simp only [← hji3] <;> (first | rfl | simp)) | (simp [*]; done)), (by first | rfl | (simp; done) | (simp [*]; done)), H', ⟨by have := HJ5.out; have := HK2.out; omega⟩, ⟨by repeat (first | (with_reducible first | exact HB.out | apply below_alloc | apply pw_below_drewN | apply below_drew1) | exact HB.out)⟩⟩
                        · replace c57 := Bool.eq_false_iff.mpr c57
                          subst c57
                          have H1 : (longcaselaw08_PosixNames.l0 k2 sx t116 false false (wrap64 (x6_2 + 1))) = some r := by rw [if_neg (show ¬ (false = true) by decide)] at H; exact H
                          clear H
                          have H := H1
                          clear H1
                          have H' := Aside0.mk H
                          clear H
                          have p11 : 0 ≤ (x6_2 : Int) := of_decide_eq_true (by first | (with_reducible assumption) | assumption)
                          have q11 : x6_2 < (sx.size : Int) := of_decide_eq_true (by first | (with_reducible assumption) | assumption)
                          have hx11 := bt_at sx x6_2
                          replace p11 := eq_true p11
                          replace q11 := eq_true q11
                          go_wp2
                          go_roundg k2
                          case measure => have := HJ5.out; have := HK2.out; omega
                          case rel => exact ⟨(false), (false), (wrap64 (x6_2 + 1)), (by first | rfl | (simp; done) | (simp [*]; done)), (by first | rfl | (simp; done) | (simp [*]; done)), (by first | rfl | (simp; done) | (simp [*]; done)), H', ⟨by have := HJ5.out; have := HK2.out; omega⟩, ⟨by repeat (first | (with_reducible first | exact HB.out | apply below_alloc | apply pw_below_drewN | apply below_drew1) | exact HB.out)⟩⟩
                      · replace c56 := Bool.eq_false_iff.mpr c56
                        subst c56
                        have H1 : (if x5_2 = true then (if (bt sx x6_2) ≥ 48 then (if (bt sx x6_2) ≤ 57 then (longcaselaw08_PosixNames.l0 k2 sx t116 false true (wrap64 (x6_2 + 1))) else (if (bt sx x6_2) = 43 then (longcaselaw08_PosixNames.l0 k2 sx t116 false true (wrap64 (x6_2 + 1))) else (longcaselaw08_PosixNames.l0 k2 sx t116 false ((bt sx x6_2) == 45) (wrap64 (x6_2 + 1))))) else (if (bt sx x6_2) = 43 then (longcaselaw08_PosixNames.l0 k2 sx t116 false true (wrap64 (x6_2 + 1))) else (longcaselaw08_PosixNames.l0 k2 sx t116 false ((bt sx x6_2) == 45) (wrap64 (x6_2 + 1))))) else (longcaselaw08_PosixNames.l0 k2 sx t116 false false (wrap64 (x6_2 + 1)))) = some r := by rw [if_neg (show ¬ (false = true) by decide)] at H; exact H
                        clear H
                        have H := H1
                        clear H1
                        by_cases c62 : x5_2 = true
                        · subst c62
                          have H1 : (if (bt sx x6_2) ≥ 48 then (if (bt sx x6_2) ≤ 57 then (longcaselaw08_PosixNames.l0 k2 sx t116 false true (wrap64 (x6_2 + 1))) else (if (bt sx x6_2) = 43 then (longcaselaw08_PosixNames.l0 k2 sx t116 false true (wrap64 (x6_2 + 1))) else (longcaselaw08_PosixNames.l0 k2 sx t116 false ((bt sx x6_2) == 45) (wrap64 (x6_2 + 1))))) else (if (bt sx x6_2) = 43 then (longcaselaw08_PosixNames.l0 k2 sx t116 false true (wrap64 (x6_2 + 1))) else (longcaselaw08_PosixNames.l0 k2 sx t116 false ((bt sx x6_2) == 45) (wrap64 (x6_2 + 1))))) = some r := by rw [if_pos rfl] at H; exact H
                          clear H
                          have H := H1
                          clear H1
                          by_cases c63 : (bt sx x6_2) ≥ 48
                          · rw [if_pos c63] at H
                            have c63b0 : decide (48 ≤ (bt sx x6_2)) = true := decide_eq_true c63
                            clear c63
                            by_cases c64 : (bt sx x6_2) ≤ 57
                            · rw [if_pos c64] at H
                              have c64b0 : decide ((bt sx x6_2) ≤ 57) = true := decide_eq_true c64
                              clear c64
                              have H' := Aside0.mk H
                              clear H
                              have p11 : 0 ≤ (x6_2 : Int) := of_decide_eq_true (by first | (with_reducible assumption) | assumption)
                              have q11 : x6_2 < (sx.size : Int) := of_decide_eq_true (by first | (with_reducible assumption) | assumption)
                              have hx11 := bt_at sx x6_2
                              replace p11 := eq_true p11
                              replace q11 := eq_true q11
                              go_wp2
                              go_roundg k2
                              case measure => have := HJ5.out; have := HK2.out; omega
                              case rel => exact ⟨(false), (true), (wrap64 (x6_2 + 1)), (by first | rfl | (simp; done) | (simp [*]; done)), (by first | rfl | (simp; done) | (simp [*]; done)), (by first | rfl | (simp; done) | (simp [*]; done)), H', ⟨by have := HJ5.out; have := HK2.out; omega⟩, ⟨by repeat (first | (with_reducible first | exact HB.out | apply below_alloc | apply pw_below_drewN | apply below_drew1) | exact HB.out)⟩⟩
                            · rw [if_neg c64] at H
                              have c64b0 : decide ((bt sx x6_2) ≤ 57) = false := decide_eq_false c64
                              clear c64
                              by_cases c65 : (bt sx x6_2) = 43
                              · rw [if_pos c65] at H
                                have c65b0 : ((bt sx x6_2) == 43) = true := beq_iff_eq.mpr c65
                                have c65b1 : ((bt sx x6_2) != 43) = false := bne_eq_false_iff_eq.mpr c65
                                clear c65
                                have H' := Aside0.mk H
                                clear H
                                have p11 : 0 ≤ (x6_2 : Int) := of_decide_eq_true (by first | (with_reducible assumption) | assumption)
                                have q11 : x6_2 < (sx.size : Int) := of_decide_eq_true (by first | (with_reducible assumption) | assumption)
                                have hx11 := bt_at sx x6_2
                                replace p11 := eq_true p11
                                replace q11 := eq_true q11
                                go_wp2
                                go_roundg k2
                                case measure => have := HJ5.out; have := HK2.out; omega
                                case rel => exact ⟨(false), (true), (wrap64 (x6_2 + 1)), (by first | rfl | (simp; done) | (simp [*]; done)), (by first | rfl | (simp; done) | (simp [*]; done)), (by first | rfl | (simp; done) | (simp [*]; done)), H', ⟨by have := HJ5.out; have := HK2.out; omega⟩, ⟨by repeat (first | (with_reducible first | exact HB.out | apply below_alloc | apply pw_below_drewN | apply below_drew1) | exact HB.out)⟩⟩
                              · rw [if_neg c65] at H
                                have c65b0 : ((bt sx x6_2) == 43) = false := beq_eq_false_iff_ne.mpr c65
                                have c65b1 : ((bt sx x6_2) != 43) = true := bne_iff_ne.mpr c65
                                have H' := Aside0.mk H
                                clear H
                                have p11 : 0 ≤ (x6_2 : Int) := of_decide_eq_true (by first | (with_reducible assumption) | assumption)
                                have q11 : x6_2 < (sx.size : Int) := of_decide_eq_true (by first | (with_reducible assumption) | assumption)
                                have hx11 := bt_at sx x6_2
                                replace p11 := eq_true p11
                                replace q11 := eq_true q11
                                go_wp2
                                go_roundg k2
                                case measure => have := HJ5.out; have := HK2.out; omega
                                case rel => exact ⟨(false), (((bt sx x6_2) == 45)), (wrap64 (x6_2 + 1)), (by first | rfl | (simp; done) | (simp [*]; done)), (by first | rfl | (simp; done) | (simp only [← hji3] <;> (first | rfl | simp)) | (simp [*]; done)), (by first | rfl | (simp; done) | (simp [*]; done)), H', ⟨by have := HJ5.out; have := HK2.out; omega⟩, ⟨by repeat (first | (with_reducible first | exact HB.out | apply below_alloc | apply pw_below_drewN | apply below_drew1) | exact HB.out)⟩⟩
                          · rw [if_neg c63] at H
                            have c63b0 : decide (48 ≤ (bt sx x6_2)) = false := decide_eq_false c63
                            clear c63
                            by_cases c66 : (bt sx x6_2) = 43
                            · rw [if_pos c66] at H
                              have c66b0 : ((bt sx x6_2) == 43) = true := beq_iff_eq.mpr c66
                              have c66b1 : ((bt sx x6_2) != 43) = false := bne_eq_false_iff_eq.mpr c66
                              clear c66
                              have H' := Aside0.mk H
                              clear H
                              have p11 : 0 ≤ (x6_2 : Int) := of_decide_eq_true (by first | (with_reducible assumption) | assumption)
                              have q11 : x6_2 < (sx.size : Int) := of_decide_eq_true (by first | (with_reducible assumption) | assumption)
                              have hx11 := bt_at sx x6_2
                              replace p11 := eq_true p11
                              replace q11 := eq_true q11
                              go_wp2
                              go_roundg k2
                              case measure => have := HJ5.out; have := HK2.out; omega
                              case rel => exact ⟨(false), (true), (wrap64 (x6_2 + 1)), (by first | rfl | (simp; done) | (simp [*]; done)), (by first | rfl | (simp; done) | (simp [*]; done)), (by first | rfl | (simp; done) | (simp [*]; done)), H', ⟨by have := HJ5.out; have := HK2.out; omega⟩, ⟨by repeat (first | (with_reducible first | exact HB.out | apply below_alloc | apply pw_below_drewN | apply below_drew1) | exact HB.out)⟩⟩
                            · rw [if_neg c66] at H
                              have c66b0 : ((bt sx x6_2) == 43) = false := beq_eq_false_iff_ne.mpr c66
                              have c66b1 : ((bt sx x6_2) != 43) = true := bne_iff_ne.mpr c66
                              have H' := Aside0.mk H
                              clear H
                              have p11 : 0 ≤ (x6_2 : Int) := of_decide_eq_true (by first | (with_reducible assumption) | assumption)
                              have q11 : x6_2 < (sx.size : Int) := of_decide_eq_true (by first | (with_reducible assumption) | assumption)
                              have hx11 := bt_at sx x6_2
                              replace p11 := eq_true p11
                              replace q11 := eq_true q11
                              go_wp2
                              go_roundg k2
                              case measure => have := HJ5.out; have := HK2.out; omega
                              case rel => exact ⟨(false), (((bt sx x6_2) == 45)), (wrap64 (x6_2 + 1)), (by first | rfl | (simp; done) | (simp [*]; done)), (by first | rfl | (simp; done) | (simp only [← hji3] <;> (first | rfl | simp)) | (simp [*]; done)), (by first | rfl | (simp; done) | (simp [*]; done)), H', ⟨by have := HJ5.out; have := HK2.out; omega⟩, ⟨by repeat (first | (with_reducible first | exact HB.out | apply below_alloc | apply pw_below_drewN | apply below_drew1) | exact HB.out)⟩⟩
                        · replace c62 := Bool.eq_false_iff.mpr c62
                          subst c62
                          have H1 : (longcaselaw08_PosixNames.l0 k2 sx t116 false false (wrap64 (x6_2 + 1))) = some r := by rw [if_neg (show ¬ (false = true) by decide)] at H; exact H
                          clear H
                          have H := H1
                          clear H1
                          have H' := Aside0.mk H
                          clear H
                          have p11 : 0 ≤ (x6_2 : Int) := of_decide_eq_true (by first | (with_reducible assumption) | assumption)
                          have q11 : x6_2 < (sx.size : Int) := of_decide_eq_true (by first | (with_reducible assumption) | assumption)
                          have hx11 := bt_at sx x6_2
                          replace p11 := eq_true p11
                          replace q11 := eq_true q11
                          go_wp2
                          go_roundg k2
                          case measure => have := HJ5.out; have := HK2.out; omega
                          case rel => exact ⟨(false), (false), (wrap64 (x6_2 + 1)), (by first | rfl | (simp; done) | (simp [*]; done)), (by first | rfl | (simp; done) | (simp [*]; done)), (by first | rfl | (simp; done) | (simp [*]; done)), H', ⟨by have := HJ5.out; have := HK2.out; omega⟩, ⟨by repeat (first | (with_reducible first | exact HB.out | apply below_alloc | apply pw_below_drewN | apply below_drew1) | exact HB.out)⟩⟩
                · rw [if_neg c10] at H
                  exact absurd H (by simp)
              · rw [if_neg c9] at H
                have c9b0 : decide (x6_2 < (sx.size : Int)) = false := decide_eq_false c9
                clear c9
                replace H := Option.bind_eq_some_iff.mp H
                obtain ⟨⟨t118, t119⟩, A670, H⟩ := H
                replace H : (if (x5_2 != (t119 == 0)) = true then (longcaselaw08_PosixNames.j2 k2 sx t116 x4_2 x5_2 t118 true) else ((posix_Right.f k2 0 false sx 0 false (⟨#[]⟩ : ByteArray) false 0 0 0 0 0 0 0 0 0 0 true).bind fun t120 => (longcaselaw08_PosixNames.j2 k2 sx t116 x4_2 x5_2 t118 (x5_2 != t120)))) = some r := H
                have A67 := Aside0.mk A670
                clear A670
                have HC68 := Aside0.mk H
                clear H
                go_upto_region 14 with (first | ((with_reducible refine gate_dst (N := 9) rfl ?_); (try (refine gate_guard (by rfl) ?_; dsimp only)); refine box_event ?hg (N := 9) ?hd (cs := #[.int .i64 0, .bool false, .string (⟨#[]⟩ : ByteArray), .int .i64 0, .bool false, .string (⟨#[]⟩ : ByteArray), .bool false, .int .i64 0, .int .i64 0, .int .i64 0, .int .i64 0, .int .i64 0, .int .i64 0, .int .i64 0, .int .i64 0, .int .i64 0, .int .i64 0]) (t := 27) ?hr ?_; (case hd => rfl); (case hg => rfl); (case hr => first | (go_simp; done) | (go_simp; rfl)); intro gb117 hg w69 hbox hb; have n0_ := Aside0.mk (below_step (by repeat (first | (with_reducible first | exact HB.out | apply below_alloc | apply pw_below_drewN | apply below_drew1) | exact HB.out)) hb); have n1_ := Aside0.mk (hbox); have n2_ := Aside0.mk ((by rw [hg]; exact (below_size (by repeat (first | (with_reducible first | exact HB.out | apply below_alloc | apply pw_below_drewN | apply below_drew1) | exact HB.out))) : w.heap.size ≤ gb117)); have n3_ := Aside0.mk ((by rw [hg]; exact (below_size (by repeat (first | (with_reducible first | exact HB.out | apply below_alloc | apply pw_below_drewN | apply below_drew1) | exact HB.out))) : w.heap.size ≤ gb117)); clear HB; have HB := n0_; have BK117 := n1_; have GW117 := n2_; have GE117 := n3_; clear n0_ n1_ n2_ n3_; clear hb hbox hg) | ((with_reducible refine gate_store (t := 27) (p := 9) rfl ?_); refine wpList_store_row rfl 27 _ _ rfl (gb117) #[.int .i64 0, .bool false, .string sx, .int .i64 0, .bool false, .string (⟨#[]⟩ : ByteArray), .bool false, .int .i64 0, .int .i64 0, .int .i64 0, .int .i64 0, .int .i64 0, .int .i64 0, .int .i64 0, .int .i64 0, .int .i64 0, .int .i64 0] rfl rfl 27 #[.int .i64 0, .bool false, .string (⟨#[]⟩ : ByteArray), .int .i64 0, .bool false, .string (⟨#[]⟩ : ByteArray), .bool false, .int .i64 0, .int .i64 0, .int .i64 0, .int .i64 0, .int .i64 0, .int .i64 0, .int .i64 0, .int .i64 0, .int .i64 0, .int .i64 0] (by (with_reducible repeat (first | refine blk_drewN ?_ _ | refine blk_drew ?_ | refine blk_alloc ?_ _)); exact BK117.out) (by kernel_rfl) rfl (by simp [Value.oneCell']) ?_; refine (fun h_ => h_ _ rfl : (∀ w_, w_ = World.setRow _ gb117 #[.int .i64 0, .bool false, .string sx, .int .i64 0, .bool false, .string (⟨#[]⟩ : ByteArray), .bool false, .int .i64 0, .int .i64 0, .int .i64 0, .int .i64 0, .int .i64 0, .int .i64 0, .int .i64 0, .int .i64 0, .int .i64 0, .int .i64 0] → wpList _ _ _ _ _ w_) → wpList _ _ _ _ _ _) ?_; intro w70 hw; have n0_ : Aside0 (w70.heap[gb117]? = some (.cells #[.int .i64 0, .bool false, .string sx, .int .i64 0, .bool false, .string (⟨#[]⟩ : ByteArray), .bool false, .int .i64 0, .int .i64 0, .int .i64 0, .int .i64 0, .int .i64 0, .int .i64 0, .int .i64 0, .int .i64 0, .int .i64 0, .int .i64 0] 27 (0, 0))) := ⟨(by rw [hw]; exact (setRow_heap _ gb117 #[.int .i64 0, .bool false, .string (⟨#[]⟩ : ByteArray), .int .i64 0, .bool false, .string (⟨#[]⟩ : ByteArray), .bool false, .int .i64 0, .int .i64 0, .int .i64 0, .int .i64 0, .int .i64 0, .int .i64 0, .int .i64 0, .int .i64 0, .int .i64 0, .int .i64 0] _ 27 (0, 0) (by (with_reducible repeat (first | refine blk_drewN ?_ _ | refine blk_drew ?_ | refine blk_alloc ?_ _)); exact BK117.out)))⟩; have n1_ : Aside0 (Below w.heap.size w w70) := ⟨(by rw [hw]; exact ((show ∀ W_ : World, Below w.heap.size w W_ → Below w.heap.size w (World.setRow W_ gb117 #[.int .i64 0, .bool false, .string sx, .int .i64 0, .bool false, .string (⟨#[]⟩ : ByteArray), .bool false, .int .i64 0, .int .i64 0, .int .i64 0, .int .i64 0, .int .i64 0, .int .i64 0, .int .i64 0, .int .i64 0, .int .i64 0, .int .i64 0]) from fun W_ hb_ => Below.trans hb_ ⟨rfl, rfl, rfl, (by rw [size_setRow]; exact Nat.le_refl _), fun k_ hk_ => setRow_other _ _ _ _ (Nat.ne_of_lt (Nat.lt_of_lt_of_le hk_ GE117.out))⟩) _ (by repeat (first | (with_reducible first | exact HB.out | apply below_alloc | apply pw_below_drewN | apply below_drew1 | refine below_set ?_ GE117.out) | exact HB.out))))⟩; clear hw; clear BK117; clear HB; have BK117 := n0_; have HB := n1_; clear n0_ n1_) | ((with_reducible refine gate_dst (N := 77) rfl ?_); (try (refine gate_guard (by rfl) ?_; dsimp only)); refine wpList_load_row rfl 27 _ rfl (gb117) rfl 27 #[.int .i64 0, .bool false, .string sx, .int .i64 0, .bool false, .string (⟨#[]⟩ : ByteArray), .bool false, .int .i64 0, .int .i64 0, .int .i64 0, .int .i64 0, .int .i64 0, .int .i64 0, .int .i64 0, .int .i64 0, .int .i64 0, .int .i64 0] (0, 0) _ (by (with_reducible repeat (first | refine blk_drewN ?_ _ | refine blk_drew ?_ | refine blk_alloc ?_ _)); exact BK117.out) Tryd.underlying27 rfl (by kernel_rfl) ?_) | ((with_reducible refine gate_callee (f := 15) rfl ?_); refine goesL_ (some 78) rfl rfl Tryd.func15 (by kernel_rfl) rfl #[.agg #[.int .i64 0, .bool false, .string sx, .int .i64 0, .bool false, .string (⟨#[]⟩ : ByteArray), .bool false, .int .i64 0, .int .i64 0, .int .i64 0, .int .i64 0, .int .i64 0, .int .i64 0, .int .i64 0, .int .i64 0, .int .i64 0, .int .i64 0], .bool false] rfl (by (try simp only [List.map_toArray, List.map_cons, List.map_nil]); first | done | (simp only [hji3]; rfl) | rfl | (simp only [List.length_drop, List.length_take]; rfl)) ?_; (with_reducible refine (posix_Print.calls 0 false sx 0 false (⟨#[]⟩ : ByteArray) false 0 0 0 0 0 0 0 0 0 0 false t118 t119 _ ?side1 A67.out).mono ?_); (case side1 => exact GL.below HG.out (by repeat (first | (with_reducible first | exact HB.out | apply below_alloc | apply pw_below_drewN | apply below_drew1 | refine below_set ?_ GE117.out) | exact HB.out))); rintro e w71 ⟨rfl, hb⟩; refine ⟨_, rfl, ?_⟩; have n0_ := Aside0.mk (blk_below (g := gb117) (o := .cells #[.int .i64 0, .bool false, .string sx, .int .i64 0, .bool false, .string (⟨#[]⟩ : ByteArray), .bool false, .int .i64 0, .int .i64 0, .int .i64 0, .int .i64 0, .int .i64 0, .int .i64 0, .int .i64 0, .int .i64 0, .int .i64 0, .int .i64 0] 27 (0, 0)) (by (with_reducible repeat (first | refine blk_drewN ?_ _ | refine blk_drew ?_ | refine blk_alloc ?_ _)); exact BK117.out) hb); have n1_ := Aside0.mk (below_step (by repeat (first | (with_reducible first | exact HB.out | apply below_alloc | apply pw_below_drewN | apply below_drew1 | refine below_set ?_ GE117.out) | exact HB.out)) hb); clear BK117; clear HB; have BK117 := n0_; have HB := n1_; clear n0_ n1_; (try clear hb); (try clear hb2); (try clear hk); (try clear hi)))
                (try simp only [Act.put, List.setIfInBounds_toArray, List.set_cons_zero, List.set_cons_succ])
                go_cut [90] (fun v90 wc => ∃ (kq : Nat) (x90_67 : Bool), v90 = .bool x90_67 ∧ Aside0 (longcaselaw08_PosixNames.j2 kq sx t116 x4_2 x5_2 t118 x90_67 = some r) ∧ Aside0 (kq ≤ k2) ∧ Aside0 (wc.heap[gb117]? = some (.cells #[.int .i64 0, .bool false, .string sx, .int .i64 0, .bool false, .string (⟨#[]⟩ : ByteArray), .bool false, .int .i64 0, .int .i64 0, .int .i64 0, .int .i64 0, .int .i64 0, .int .i64 0, .int .i64 0, .int .i64 0, .int .i64 0, .int .i64 0] 27 (0, 0))) ∧ Aside0 (Below w.heap.size w wc))
                case first => as_aux_lemma =>
                  have H := HC68.out
                  clear HC68
                  by_cases c72 : (x5_2 != (t119 == 0)) = true
                  · rw [if_pos c72] at H
                    have c72b0 : (x5_2 != (t119 == 0)) = true := c72
                    (try (have c72b1 : decide (x5_2 = (t119 == 0)) = false := by simpa using c72))
                    (try (have c72b2 : (x5_2 == (t119 == 0)) = false := by simpa using c72))
                    (try (have c72b3 : ¬ (x5_2 = (t119 == 0)) := by simpa using c72))
                    clear c72
                    (first | rw [c72b0] | (simp only [i64_w, i32_w]; rw [c72b0]) | skip)
                    have H' := Aside0.mk H
                    clear H
                    go_wp2
                    go_meet
                    case rel => exact ⟨_, (true), (by first | rfl | (simp; done) | (simp [*]; done)), H', ⟨by have := HJ5.out; have := HK2.out; first | omega | exact Nat.le_refl _⟩, ⟨by (with_reducible repeat (first | refine blk_drewN ?_ _ | refine blk_drew ?_ | refine blk_alloc ?_ _)); exact BK117.out⟩, ⟨by repeat (first | (with_reducible first | exact HB.out | apply below_alloc | apply pw_below_drewN | apply below_drew1 | refine below_set ?_ GE117.out) | exact HB.out)⟩⟩
                  · rw [if_neg c72] at H
                    have c72b0 : (x5_2 != (t119 == 0)) = false := by simpa using c72
                    (try (have c72b1 : decide (x5_2 = (t119 == 0)) = true := by simpa using c72))
                    (try (have c72b2 : (x5_2 == (t119 == 0)) = true := by simpa using c72))
                    clear c72
                    (first | rw [c72b0] | (simp only [i64_w, i32_w]; rw [c72b0]) | skip)
                    replace H := Option.bind_eq_some_iff.mp H
                    obtain ⟨t120, A730, H⟩ := H
                    replace H : (longcaselaw08_PosixNames.j2 k2 sx t116 x4_2 x5_2 t118 (x5_2 != t120)) = some r := H
                    have A73 := Aside0.mk A730
                    clear A730
                    have H' := Aside0.mk H
                    clear H
                    go_wp2_with (first | ((with_reducible refine gate_dst (N := 87) rfl ?_); (try (refine gate_guard (by rfl) ?_; dsimp only)); refine gate_guard ?_ ?_; (first | rfl | (simp [Region.wanted, yielded, *]; done)); dsimp only; refine wpList_load_row rfl 27 _ rfl (gb117) rfl 27 #[.int .i64 0, .bool false, .string sx, .int .i64 0, .bool false, .string (⟨#[]⟩ : ByteArray), .bool false, .int .i64 0, .int .i64 0, .int .i64 0, .int .i64 0, .int .i64 0, .int .i64 0, .int .i64 0, .int .i64 0, .int .i64 0, .int .i64 0] (0, 0) _ (by (with_reducible repeat (first | refine blk_drewN ?_ _ | refine blk_drew ?_ | refine blk_alloc ?_ _)); exact BK117.out) Tryd.underlying27 rfl (by kernel_rfl) ?_) | (go_at_call 16; (with_reducible refine (posix_Right.calls k2 0 false sx 0 false (⟨#[]⟩ : ByteArray) false 0 0 0 0 0 0 0 0 0 0 true t120 _ A73.out).mono ?_); rintro e w74 ⟨rfl, hb⟩; have n0_ := Aside0.mk (blk_below (g := gb117) (o := .cells #[.int .i64 0, .bool false, .string sx, .int .i64 0, .bool false, .string (⟨#[]⟩ : ByteArray), .bool false, .int .i64 0, .int .i64 0, .int .i64 0, .int .i64 0, .int .i64 0, .int .i64 0, .int .i64 0, .int .i64 0, .int .i64 0, .int .i64 0] 27 (0, 0)) (by (with_reducible repeat (first | refine blk_drewN ?_ _ | refine blk_drew ?_ | refine blk_alloc ?_ _)); exact BK117.out) hb); have n1_ := Aside0.mk (below_step (by repeat (first | (with_reducible first | exact HB.out | apply below_alloc | apply pw_below_drewN | apply below_drew1 | refine below_set ?_ GE117.out) | exact HB.out)) hb); clear BK117; clear HB; have BK117 := n0_; have HB := n1_; clear n0_ n1_; (try clear hb); (try clear hb2); (try clear hk); (try clear hi)))
                    go_meet
                    case rel => exact ⟨_, ((x5_2 != t120)), (by first | rfl | (simp; done) | (simp [*]; done)), H', ⟨by have := HJ5.out; have := HK2.out; first | omega | exact Nat.le_refl _⟩, ⟨by (with_reducible repeat (first | refine blk_drewN ?_ _ | refine blk_drew ?_ | refine blk_alloc ?_ _)); exact BK117.out⟩, ⟨by repeat (first | (with_reducible first | exact HB.out | apply below_alloc | apply pw_below_drewN | apply below_drew1 | refine below_set ?_ GE117.out) | exact HB.out)⟩⟩
                case rest => as_aux_lemma =>
                  clear HC68
                  try clear c1
                  try clear p1
                  try clear q1
                  try clear hx1
                  try clear p2
                  try clear c3
                  try clear c4
                  try clear c5
                  try clear c6
                  try clear p6
                  try clear c7
                  try clear c9
                  try clear c9b0
                  try clear c10
                  try clear p11
                  try clear q11
                  try clear hx11
                  try clear c12
                  try clear c12b0
                  try clear c15
                  try clear c37
                  try clear c38
                  try clear c38b0
                  try clear c41
                  try clear c41b0
                  try clear c41b1
                  try clear c42
                  try clear c42b0
                  try clear c43
                  try clear c44
                  try clear c45
                  try clear c45b0
                  try clear c46
                  try clear c46b0
                  try clear c47
                  try clear c47b0
                  try clear c48
                  try clear c48b0
                  try clear c48b1
                  try clear c49
                  try clear c49b0
                  try clear c49b1
                  try clear c50
                  try clear c51
                  try clear c51b0
                  try clear c52
                  try clear c52b0
                  try clear c53
                  try clear c53b0
                  try clear c54
                  try clear c54b0
                  try clear c54b1
                  try clear c55
                  try clear c55b0
                  try clear c55b1
                  try clear c56
                  try clear c57
                  try clear c58
                  try clear c58b0
                  try clear c59
                  try clear c59b0
                  try clear c60
                  try clear c60b0
                  try clear c60b1
                  try clear c61
                  try clear c61b0
                  try clear c61b1
                  try clear c62
                  try clear c63
                  try clear c63b0
                  try clear c64
                  try clear c64b0
                  try clear p64
                  try clear c65
                  try clear c65b0
                  try clear c65b1
                  try clear c66
                  try clear c66b0
                  try clear c66b1
                  try clear c72
                  try clear c72b0
                  try clear c72b1
                  try clear c72b2
                  try clear p11
                  try clear q11
                  obtain ⟨kq, x90_67, rfl, HA, HJ67, BK117, HB⟩ := hcut
                  cases kq with
                  | zero => exact absurd HA.out (by simp [longcaselaw08_PosixNames.j2])
                  | succ kj67 =>
                    have H := HA.out
                    clear HA
                    simp only [longcaselaw08_PosixNames.j2] at H
                    by_cases c75 : x90_67 = true
                    · subst c75
                      have H1 : (some false) = some r := by rw [if_pos rfl] at H; exact H
                      clear H
                      have H := H1
                      clear H1
                      obtain rfl := Option.some.inj H
                      go_wp2
                      go_ret
                      exact ⟨by first | rfl | (simp [errW_none, errW_some] <;> rfl) | (simp only [← hji3]; first | rfl | (simp [errW_none, errW_some] <;> rfl)) | (simp [*, errW_none, errW_some] <;> rfl), by repeat (first | (with_reducible first | exact HB.out | apply below_alloc | apply pw_below_drewN | apply below_drew1 | refine below_set ?_ GE117.out) | exact HB.out)⟩
                    · replace c75 := Bool.eq_false_iff.mpr c75
                      subst c75
                      have H1 : (if x5_2 = true then (if x4_2 = true then (if t116 = true then (if sx.size + 1 ≤ 9223372036854775807 then (some (t118.toList == (sx ++ (⟨#[48]⟩ : ByteArray)).toList)) else (none)) else (some false)) else (if t116 = true then (if 1 + sx.size ≤ 9223372036854775807 then (if ((⟨#[60]⟩ : ByteArray) ++ sx).size + 2 ≤ 9223372036854775807 then (some (t118.toList == (((⟨#[60]⟩ : ByteArray) ++ sx) ++ (⟨#[62, 48]⟩ : ByteArray)).toList)) else (none)) else (none)) else (some false))) else (if t116 = true then (some (t118.toList == ([] : List UInt8))) else (some false))) = some r := by rw [if_neg (show ¬ (false = true) by decide)] at H; exact H
                      clear H
                      have H := H1
                      clear H1
                      by_cases c76 : x5_2 = true
                      · subst c76
                        have H1 : (if x4_2 = true then (if t116 = true then (if sx.size + 1 ≤ 9223372036854775807 then (some (t118.toList == (sx ++ (⟨#[48]⟩ : ByteArray)).toList)) else (none)) else (some false)) else (if t116 = true then (if 1 + sx.size ≤ 9223372036854775807 then (if ((⟨#[60]⟩ : ByteArray) ++ sx).size + 2 ≤ 9223372036854775807 then (some (t118.toList == (((⟨#[60]⟩ : ByteArray) ++ sx) ++ (⟨#[62, 48]⟩ : ByteArray)).toList)) else (none)) else (none)) else (some false))) = some r := by rw [if_pos rfl] at H; exact H
                        clear H
                        have H := H1
                        clear H1
                        by_cases c77 : x4_2 = true
                        · subst c77
                          have H1 : (if t116 = true then (if sx.size + 1 ≤ 9223372036854775807 then (some (t118.toList == (sx ++ (⟨#[48]⟩ : ByteArray)).toList)) else (none)) else (some false)) = some r := by rw [if_pos rfl] at H; exact H
                          clear H
                          have H := H1
                          clear H1
                          by_cases c78 : t116 = true
                          · subst c78
                            have H1 : (if sx.size + 1 ≤ 9223372036854775807 then (some (t118.toList == (sx ++ (⟨#[48]⟩ : ByteArray)).toList)) else (none)) = some r := by rw [if_pos rfl] at H; exact H
                            clear H
                            have H := H1
                            clear H1
                            by_cases c79 : sx.size + 1 ≤ 9223372036854775807
                            · rw [if_pos c79] at H
                              have c79b0 := eq_true c79
                              have c79b1 : decide (sx.size + 1 ≤ 9223372036854775807) = true := decide_eq_true c79
                              try have c79b2 : (9223372036854775807 < sx.size + 1) = False := eq_false (Nat.not_lt.2 c79)
                              obtain rfl := Option.some.inj H
                              go_wp2
                              go_ret
                              exact ⟨by first | rfl | (simp [errW_none, errW_some] <;> rfl) | (simp only [← hji3]; first | rfl | (simp [errW_none, errW_some] <;> rfl)) | (simp [*, errW_none, errW_some] <;> rfl), by repeat (first | (with_reducible first | exact HB.out | apply below_alloc | apply pw_below_drewN | apply below_drew1 | refine below_set ?_ GE117.out) | exact HB.out)⟩
                            · rw [if_neg c79] at H
                              exact absurd H (by simp)
                          · replace c78 := Bool.eq_false_iff.mpr c78
                            subst c78
                            have H1 : (some false) = some r := by rw [if_neg (show ¬ (false = true) by decide)] at H; exact H
                            clear H
                            have H := H1
                            clear H1
                            obtain rfl := Option.some.inj H
                            go_wp2
                            go_ret
                            exact ⟨by first | rfl | (simp [errW_none, errW_some] <;> rfl) | (simp only [← hji3]; first | rfl | (simp [errW_none, errW_some] <;> rfl)) | (simp [*, errW_none, errW_some] <;> rfl), by repeat (first | (with_reducible first | exact HB.out | apply below_alloc | apply pw_below_drewN | apply below_drew1 | refine below_set ?_ GE117.out) | exact HB.out)⟩
                        · replace c77 := Bool.eq_false_iff.mpr c77
                          subst c77
                          have H1 : (if t116 = true then (if 1 + sx.size ≤ 9223372036854775807 then (if ((⟨#[60]⟩ : ByteArray) ++ sx).size + 2 ≤ 9223372036854775807 then (some (t118.toList == (((⟨#[60]⟩ : ByteArray) ++ sx) ++ (⟨#[62, 48]⟩ : ByteArray)).toList)) else (none)) else (none)) else (some false)) = some r := by rw [if_neg (show ¬ (false = true) by decide)] at H; exact H
                          clear H
                          have H := H1
                          clear H1
                          by_cases c80 : t116 = true
                          · subst c80
                            have H1 : (if 1 + sx.size ≤ 9223372036854775807 then (if ((⟨#[60]⟩ : ByteArray) ++ sx).size + 2 ≤ 9223372036854775807 then (some (t118.toList == (((⟨#[60]⟩ : ByteArray) ++ sx) ++ (⟨#[62, 48]⟩ : ByteArray)).toList)) else (none)) else (none)) = some r := by rw [if_pos rfl] at H; exact H
                            clear H
                            have H := H1
                            clear H1
                            by_cases c81 : 1 + sx.size ≤ 9223372036854775807
                            · rw [if_pos c81] at H
                              have c81b0 := eq_true c81
                              have c81b1 : decide (1 + sx.size ≤ 9223372036854775807) = true := decide_eq_true c81
                              try have c81b2 : (9223372036854775807 < 1 + sx.size) = False := eq_false (Nat.not_lt.2 c81)
                              by_cases c82 : ((⟨#[60]⟩ : ByteArray) ++ sx).size + 2 ≤ 9223372036854775807
                              · rw [if_pos c82] at H
                                have c82b0 := eq_true c82
                                have c82b1 : decide (((⟨#[60]⟩ : ByteArray) ++ sx).size + 2 ≤ 9223372036854775807) = true := decide_eq_true c82
                                try have c82b2 : (9223372036854775807 < ((⟨#[60]⟩ : ByteArray) ++ sx).size + 2) = False := eq_false (Nat.not_lt.2 c82)
                                have c82z0 : (1 + sx.size) + 2 ≤ 9223372036854775807 := by have z_ := c82; simp only [ByteArray.size_append] at z_; exact z_
                                try have c82z1 : (9223372036854775807 < (1 + sx.size) + 2) = False := eq_false (Nat.not_lt.2 c82z0)
                                obtain rfl := Option.some.inj H
                                go_wp2
                                go_ret
                                exact ⟨by first | rfl | (simp [errW_none, errW_some] <;> rfl) | (simp only [← hji3]; first | rfl | (simp [errW_none, errW_some] <;> rfl)) | (simp [*, errW_none, errW_some] <;> rfl), by repeat (first | (with_reducible first | exact HB.out | apply below_alloc | apply pw_below_drewN | apply below_drew1 | refine below_set ?_ GE117.out) | exact HB.out)⟩
                              · rw [if_neg c82] at H
                                exact absurd H (by simp)
                            · rw [if_neg c81] at H
                              exact absurd H (by simp)
                          · replace c80 := Bool.eq_false_iff.mpr c80
                            subst c80
                            have H1 : (some false) = some r := by rw [if_neg (show ¬ (false = true) by decide)] at H; exact H
                            clear H
                            have H := H1
                            clear H1
                            obtain rfl := Option.some.inj H
                            go_wp2
                            go_ret
                            exact ⟨by first | rfl | (simp [errW_none, errW_some] <;> rfl) | (simp only [← hji3]; first | rfl | (simp [errW_none, errW_some] <;> rfl)) | (simp [*, errW_none, errW_some] <;> rfl), by repeat (first | (with_reducible first | exact HB.out | apply below_alloc | apply pw_below_drewN | apply below_drew1 | refine below_set ?_ GE117.out) | exact HB.out)⟩
                      · replace c76 := Bool.eq_false_iff.mpr c76
                        subst c76
                        have H1 : (if t116 = true then (some (t118.toList == ([] : List UInt8))) else (some false)) = some r := by rw [if_neg (show ¬ (false = true) by decide)] at H; exact H
                        clear H
                        have H := H1
                        clear H1
                        by_cases c83 : t116 = true
                        · subst c83
                          have H1 : (some (t118.toList == ([] : List UInt8))) = some r := by rw [if_pos rfl] at H; exact H
                          clear H
                          have H := H1
                          clear H1
                          obtain rfl := Option.some.inj H
                          go_wp2
                          go_ret
                          exact ⟨by first | rfl | (simp [errW_none, errW_some] <;> rfl) | (simp only [← hji3]; first | rfl | (simp [errW_none, errW_some] <;> rfl)) | (simp [*, errW_none, errW_some] <;> rfl), by repeat (first | (with_reducible first | exact HB.out | apply below_alloc | apply pw_below_drewN | apply below_drew1 | refine below_set ?_ GE117.out) | exact HB.out)⟩
                        · replace c83 := Bool.eq_false_iff.mpr c83
                          subst c83
                          have H1 : (some false) = some r := by rw [if_neg (show ¬ (false = true) by decide)] at H; exact H
                          clear H
                          have H := H1
                          clear H1
                          obtain rfl := Option.some.inj H
                          go_wp2
                          go_ret
                          exact ⟨by first | rfl | (simp [errW_none, errW_some] <;> rfl) | (simp only [← hji3]; first | rfl | (simp [errW_none, errW_some] <;> rfl)) | (simp [*, errW_none, errW_some] <;> rfl), by repeat (first | (with_reducible first | exact HB.out | apply below_alloc | apply pw_below_drewN | apply below_drew1 | refine below_set ?_ GE117.out) | exact HB.out)⟩
    · rw [if_neg c5] at H
      exact absurd H (by simp)
  · rw [if_neg c4] at H
    exact absurd H (by simp)

end Go.Proofs.YtnbjneknicppcaaDoor.Fn
