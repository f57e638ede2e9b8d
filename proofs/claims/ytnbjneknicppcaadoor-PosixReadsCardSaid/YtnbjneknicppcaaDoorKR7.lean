/- Part 7 of the texts for KTR: contracts and plain laws that it leans on. -/
import Derived.Test.YtnbjneknicppcaaDoorKR2
import Derived.Test.YtnbjneknicppcaaDoorKR6
import Derived.Test.YtnbjneknicppcaaDoorKR5
namespace Go.Proofs.YtnbjneknicppcaaDoor.Fn
open Go.RowKit Go.Proofs.YtnbjneknicppcaaDoorW.PrintWords Go.Proofs.YtnbjneknicppcaaDoorW.PrintLast Go.Proofs.YtnbjneknicppcaaDoorW.PrintMore
attribute [local go_sem] max2_int min2_int max_two min_two max_three min_three max_four min_four
set_option linter.unusedVariables false
set_option linter.unusedSimpArgs false
/-! ### longcaseref08_time: function 38 -/
mutual
def longcaseref08_time.j0 : Nat → ByteArray → Int → Bool → Bool → Bool → Option (Int × Int)
  | 0, _, _, _, _, _ => none
  | k + 1, x0, x1, x3, x10, x36 => if x36 = true then (if 0 ≤ x1 then (if x1 < (x0.size : Int) then (longcaseref08_time.j1 k x0 (wrap64 (x1 + 1)) x3 ((bt x0 x1) == 45)) else (none)) else (none)) else (longcaseref08_time.j1 k x0 x1 x3 x10)
def longcaseref08_time.j1 : Nat → ByteArray → Int → Bool → Bool → Option (Int × Int)
  | 0, _, _, _, _ => none
  | k + 1, x0, x1, x3, x10 => if x3 = true then (longcaseref08_time.j2 k x0 x1 x10 3 167) else (longcaseref08_time.j2 k x0 x1 x10 2 24)
def longcaseref08_time.j2 : Nat → ByteArray → Int → Bool → Int → Int → Option (Int × Int)
  | 0, _, _, _, _, _ => none
  | k + 1, x0, x1, x10, x11, x12 => (longcaseref08_digits.f k x0 x1 x11).bind fun bt225 => (if bt225.2 < 0 then (longcaseref08_time.j3 k x0 bt225.2 x10 bt225.1 true) else (longcaseref08_time.j3 k x0 bt225.2 x10 bt225.1 (decide (bt225.1 > x12))))
def longcaseref08_time.j3 : Nat → ByteArray → Int → Bool → Int → Bool → Option (Int × Int)
  | 0, _, _, _, _, _ => none
  | k + 1, x0, x1, x10, x13, x57 => if x57 = true then (some (0, (-1))) else (if x1 < (x0.size : Int) then (if 0 ≤ x1 then (longcaseref08_time.j4 k x0 x1 x10 (wrap64 (x13 * 3600)) ((bt x0 x1) == 58)) else (none)) else (longcaseref08_time.j4 k x0 x1 x10 (wrap64 (x13 * 3600)) false))
def longcaseref08_time.j4 : Nat → ByteArray → Int → Bool → Int → Bool → Option (Int × Int)
  | 0, _, _, _, _, _ => none
  | k + 1, x0, x1, x10, x13, x69 => if x69 = true then ((longcaseref08_sixty.f k x0 x1).bind fun bt227 => (if bt227.2 < 0 then (some (0, (-1))) else (if bt227.2 < (x0.size : Int) then (if 0 ≤ bt227.2 then (longcaseref08_time.j5 k x0 bt227.2 x10 (wrap64 (x13 + (wrap64 (60 * bt227.1)))) ((bt x0 bt227.2) == 58)) else (none)) else (longcaseref08_time.j5 k x0 bt227.2 x10 (wrap64 (x13 + (wrap64 (60 * bt227.1)))) false)))) else (if x10 = true then (some (wrap64 (-x13), x1)) else (some (x13, x1)))
def longcaseref08_time.j5 : Nat → ByteArray → Int → Bool → Int → Bool → Option (Int × Int)
  | 0, _, _, _, _, _ => none
  | k + 1, x0, x1, x10, x13, x92 => if x92 = true then ((longcaseref08_sixty.f k x0 x1).bind fun bt229 => (if bt229.2 < 0 then (some (0, (-1))) else (if x10 = true then (some (wrap64 (-(wrap64 (x13 + bt229.1))), bt229.2)) else (some (wrap64 (x13 + bt229.1), bt229.2))))) else (if x10 = true then (some (wrap64 (-x13), x1)) else (some (x13, x1)))
end
def longcaseref08_time.f (k : Nat) (a0 : ByteArray) (a1 : Int) (a2 : Bool) (a3 : Bool) : Option (Int × Int) := if a2 = true then (if a1 < (a0.size : Int) then (if 0 ≤ a1 then (if (bt a0 a1) = 45 then (longcaseref08_time.j0 k a0 a1 a3 false true) else (longcaseref08_time.j0 k a0 a1 a3 false ((bt a0 a1) == 43))) else (none)) else (longcaseref08_time.j0 k a0 a1 a3 false false)) else (longcaseref08_time.j0 k a0 a1 a3 false false)
theorem longcaseref08_time.mono_l : ∀ k, (∀ y0 y1 y2 y3 y4, LeO (longcaseref08_time.j0 k y0 y1 y2 y3 y4) (longcaseref08_time.j0 (k + 1) y0 y1 y2 y3 y4)) ∧ (∀ y0 y1 y2 y3, LeO (longcaseref08_time.j1 k y0 y1 y2 y3) (longcaseref08_time.j1 (k + 1) y0 y1 y2 y3)) ∧ (∀ y0 y1 y2 y3 y4, LeO (longcaseref08_time.j2 k y0 y1 y2 y3 y4) (longcaseref08_time.j2 (k + 1) y0 y1 y2 y3 y4)) ∧ (∀ y0 y1 y2 y3 y4, LeO (longcaseref08_time.j3 k y0 y1 y2 y3 y4) (longcaseref08_time.j3 (k + 1) y0 y1 y2 y3 y4)) ∧ (∀ y0 y1 y2 y3 y4, LeO (longcaseref08_time.j4 k y0 y1 y2 y3 y4) (longcaseref08_time.j4 (k + 1) y0 y1 y2 y3 y4)) ∧ (∀ y0 y1 y2 y3 y4, LeO (longcaseref08_time.j5 k y0 y1 y2 y3 y4) (longcaseref08_time.j5 (k + 1) y0 y1 y2 y3 y4))
  | 0 => ⟨fun _ _ _ _ _ r h => by simp [longcaseref08_time.j0] at h, fun _ _ _ _ r h => by simp [longcaseref08_time.j1] at h, fun _ _ _ _ _ r h => by simp [longcaseref08_time.j2] at h, fun _ _ _ _ _ r h => by simp [longcaseref08_time.j3] at h, fun _ _ _ _ _ r h => by simp [longcaseref08_time.j4] at h, fun _ _ _ _ _ r h => by simp [longcaseref08_time.j5] at h⟩
  | k + 1 => by
    obtain ⟨ih0, ih1, ih2, ih3, ih4, ih5⟩ := longcaseref08_time.mono_l k
    refine ⟨?_, ?_, ?_, ?_, ?_, ?_⟩
    · intro y0 y1 y2 y3 y4
      unfold longcaseref08_time.j0
      repeat' first
      | (with_reducible exact ih0 _ _ _ _ _)
      | (with_reducible exact ih1 _ _ _ _)
      | (with_reducible exact ih2 _ _ _ _ _)
      | (with_reducible exact ih3 _ _ _ _ _)
      | (with_reducible exact ih4 _ _ _ _ _)
      | (with_reducible exact ih5 _ _ _ _ _)
      | (with_reducible exact longcaseref08_digits.mono _ _ _ _)
      | (with_reducible exact longcaseref08_sixty.mono _ _ _)
      | (with_reducible exact LeO.refl _)
      | (with_reducible exact LeO.none _)
      | (with_reducible refine LeO.ite ?_ ?_)
      | (with_reducible refine LeO.bind ?_ (fun _ => ?_))
      | exact ih0 _ _ _ _ _
      | exact ih1 _ _ _ _
      | exact ih2 _ _ _ _ _
      | exact ih3 _ _ _ _ _
      | exact ih4 _ _ _ _ _
      | exact ih5 _ _ _ _ _
      | exact longcaseref08_digits.mono _ _ _ _
      | exact longcaseref08_sixty.mono _ _ _
      | exact LeO.none _
      | refine LeO.ite ?_ ?_
      | refine LeO.bind ?_ (fun _ => ?_)
    · intro y0 y1 y2 y3
      unfold longcaseref08_time.j1
      repeat' first
      | (with_reducible exact ih0 _ _ _ _ _)
      | (with_reducible exact ih1 _ _ _ _)
      | (with_reducible exact ih2 _ _ _ _ _)
      | (with_reducible exact ih3 _ _ _ _ _)
      | (with_reducible exact ih4 _ _ _ _ _)
      | (with_reducible exact ih5 _ _ _ _ _)
      | (with_reducible exact longcaseref08_digits.mono _ _ _ _)
      | (with_reducible exact longcaseref08_sixty.mono _ _ _)
      | (with_reducible exact LeO.refl _)
      | (with_reducible exact LeO.none _)
      | (with_reducible refine LeO.ite ?_ ?_)
      | (with_reducible refine LeO.bind ?_ (fun _ => ?_))
      | exact ih0 _ _ _ _ _
      | exact ih1 _ _ _ _
      | exact ih2 _ _ _ _ _
      | exact ih3 _ _ _ _ _
      | exact ih4 _ _ _ _ _
      | exact ih5 _ _ _ _ _
      | exact longcaseref08_digits.mono _ _ _ _
      | exact longcaseref08_sixty.mono _ _ _
      | exact LeO.none _
      | refine LeO.ite ?_ ?_
      | refine LeO.bind ?_ (fun _ => ?_)
    · intro y0 y1 y2 y3 y4
      unfold longcaseref08_time.j2
      repeat' first
      | (with_reducible exact ih0 _ _ _ _ _)
      | (with_reducible exact ih1 _ _ _ _)
      | (with_reducible exact ih2 _ _ _ _ _)
      | (with_reducible exact ih3 _ _ _ _ _)
      | (with_reducible exact ih4 _ _ _ _ _)
      | (with_reducible exact ih5 _ _ _ _ _)
      | (with_reducible exact longcaseref08_digits.mono _ _ _ _)
      | (with_reducible exact longcaseref08_sixty.mono _ _ _)
      | (with_reducible exact LeO.refl _)
      | (with_reducible exact LeO.none _)
      | (with_reducible refine LeO.ite ?_ ?_)
      | (with_reducible refine LeO.bind ?_ (fun _ => ?_))
      | exact ih0 _ _ _ _ _
      | exact ih1 _ _ _ _
      | exact ih2 _ _ _ _ _
      | exact ih3 _ _ _ _ _
      | exact ih4 _ _ _ _ _
      | exact ih5 _ _ _ _ _
      | exact longcaseref08_digits.mono _ _ _ _
      | exact longcaseref08_sixty.mono _ _ _
      | exact LeO.none _
      | refine LeO.ite ?_ ?_
      | refine LeO.bind ?_ (fun _ => ?_)
    · intro y0 y1 y2 y3 y4
      unfold longcaseref08_time.j3
      repeat' first
      | (with_reducible exact ih0 _ _ _ _ _)
      | (with_reducible exact ih1 _ _ _ _)
      | (with_reducible exact ih2 _ _ _ _ _)
      | (with_reducible exact ih3 _ _ _ _ _)
      | (with_reducible exact ih4 _ _ _ _ _)
      | (with_reducible exact ih5 _ _ _ _ _)
      | (with_reducible exact longcaseref08_digits.mono _ _ _ _)
      | (with_reducible exact longcaseref08_sixty.mono _ _ _)
      | (with_reducible exact LeO.refl _)
      | (with_reducible exact LeO.none _)
      | (with_reducible refine LeO.ite ?_ ?_)
      | (with_reducible refine LeO.bind ?_ (fun _ => ?_))
      | exact ih0 _ _ _ _ _
      | exact ih1 _ _ _ _
      | exact ih2 _ _ _ _ _
      | exact ih3 _ _ _ _ _
      | exact ih4 _ _ _ _ _
      | exact ih5 _ _ _ _ _
      | exact longcaseref08_digits.mono _ _ _ _
      | exact longcaseref08_sixty.mono _ _ _
      | exact LeO.none _
      | refine LeO.ite ?_ ?_
      | refine LeO.bind ?_ (fun _ => ?_)
    · intro y0 y1 y2 y3 y4
      unfold longcaseref08_time.j4
      repeat' first
      | (with_reducible exact ih0 _ _ _ _ _)
      | (with_reducible exact ih1 _ _ _ _)
      | (with_reducible exact ih2 _ _ _ _ _)
      | (with_reducible exact ih3 _ _ _ _ _)
      | (with_reducible exact ih4 _ _ _ _ _)
      | (with_reducible exact ih5 _ _ _ _ _)
      | (with_reducible exact longcaseref08_digits.mono _ _ _ _)
      | (with_reducible exact longcaseref08_sixty.mono _ _ _)
      | (with_reducible exact LeO.refl _)
      | (with_reducible exact LeO.none _)
      | (with_reducible refine LeO.ite ?_ ?_)
      | (with_reducible refine LeO.bind ?_ (fun _ => ?_))
      | exact ih0 _ _ _ _ _
      | exact ih1 _ _ _ _
      | exact ih2 _ _ _ _ _
      | exact ih3 _ _ _ _ _
      | exact ih4 _ _ _ _ _
      | exact ih5 _ _ _ _ _
      | exact longcaseref08_digits.mono _ _ _ _
      | exact longcaseref08_sixty.mono _ _ _
      | exact LeO.none _
      | refine LeO.ite ?_ ?_
      | refine LeO.bind ?_ (fun _ => ?_)
    · intro y0 y1 y2 y3 y4
      unfold longcaseref08_time.j5
      repeat' first
      | (with_reducible exact ih0 _ _ _ _ _)
      | (with_reducible exact ih1 _ _ _ _)
      | (with_reducible exact ih2 _ _ _ _ _)
      | (with_reducible exact ih3 _ _ _ _ _)
      | (with_reducible exact ih4 _ _ _ _ _)
      | (with_reducible exact ih5 _ _ _ _ _)
      | (with_reducible exact longcaseref08_digits.mono _ _ _ _)
      | (with_reducible exact longcaseref08_sixty.mono _ _ _)
      | (with_reducible exact LeO.refl _)
      | (with_reducible exact LeO.none _)
      | (with_reducible refine LeO.ite ?_ ?_)
      | (with_reducible refine LeO.bind ?_ (fun _ => ?_))
      | exact ih0 _ _ _ _ _
      | exact ih1 _ _ _ _
      | exact ih2 _ _ _ _ _
      | exact ih3 _ _ _ _ _
      | exact ih4 _ _ _ _ _
      | exact ih5 _ _ _ _ _
      | exact longcaseref08_digits.mono _ _ _ _
      | exact longcaseref08_sixty.mono _ _ _
      | exact LeO.none _
      | refine LeO.ite ?_ ?_
      | refine LeO.bind ?_ (fun _ => ?_)
theorem longcaseref08_time.mono : ∀ a0 a1 a2 a3 k, LeO (longcaseref08_time.f k a0 a1 a2 a3) (longcaseref08_time.f (k + 1) a0 a1 a2 a3) := by
  intro a0 a1 a2 a3 k
  obtain ⟨ih0, ih1, ih2, ih3, ih4, ih5⟩ := longcaseref08_time.mono_l k
  unfold longcaseref08_time.f
  repeat' first
      | (with_reducible exact ih0 _ _ _ _ _)
      | (with_reducible exact ih1 _ _ _ _)
      | (with_reducible exact ih2 _ _ _ _ _)
      | (with_reducible exact ih3 _ _ _ _ _)
      | (with_reducible exact ih4 _ _ _ _ _)
      | (with_reducible exact ih5 _ _ _ _ _)
      | (with_reducible exact longcaseref08_digits.mono _ _ _ _)
      | (with_reducible exact longcaseref08_sixty.mono _ _ _)
      | (with_reducible exact LeO.refl _)
      | (with_reducible exact LeO.none _)
      | (with_reducible refine LeO.ite ?_ ?_)
      | (with_reducible refine LeO.bind ?_ (fun _ => ?_))
      | exact ih0 _ _ _ _ _
      | exact ih1 _ _ _ _
      | exact ih2 _ _ _ _ _
      | exact ih3 _ _ _ _ _
      | exact ih4 _ _ _ _ _
      | exact ih5 _ _ _ _ _
      | exact longcaseref08_digits.mono _ _ _ _
      | exact longcaseref08_sixty.mono _ _ _
      | exact LeO.none _
      | refine LeO.ite ?_ ?_
      | refine LeO.bind ?_ (fun _ => ?_)
set_option maxHeartbeats 8000000 in
set_option maxRecDepth 100000 in
theorem longcaseref08_time.calls (k : Nat) (a0 : ByteArray) (a1 : Int) (a2 : Bool) (a3 : Bool) (r1 : Int) (r2 : Int) (w : World) (h : longcaseref08_time.f k a0 a1 a2 a3 = some (r1, r2)) :
    Calls Tryd.prog 38 #[.string a0, .int .i64 a1, .bool a2, .bool a3] w fun e w' => e = .returned (.tuple #[.int .i64 r1, .int .i64 r2]) ∧ Drawn0 w w' := by
  have H : (if a2 = true then (if a1 < (a0.size : Int) then (if 0 ≤ a1 then (if (bt a0 a1) = 45 then (longcaseref08_time.j0 k a0 a1 a3 false true) else (longcaseref08_time.j0 k a0 a1 a3 false ((bt a0 a1) == 43))) else (none)) else (longcaseref08_time.j0 k a0 a1 a3 false false)) else (longcaseref08_time.j0 k a0 a1 a3 false false)) = some (r1, r2) := h
  clear h
  have HC5 := Aside0.mk H
  clear H
  go_enter Tryd.func38, Tryd.ntmps38
  go_upto_region 2 with (fail)
  go_cut [36] (fun v36 wc => ∃ (kq : Nat) (x36_4 : Bool), v36 = .bool x36_4 ∧ Aside0 (longcaseref08_time.j0 kq a0 a1 a3 false x36_4 = some (r1, r2)) ∧ Aside0 (kq ≤ k) ∧ Drawn0 w wc)
  case first =>
    have H := HC5.out
    clear HC5
    by_cases c6 : a2 = true
    · subst c6
      have H1 : (if a1 < (a0.size : Int) then (if 0 ≤ a1 then (if (bt a0 a1) = 45 then (longcaseref08_time.j0 k a0 a1 a3 false true) else (longcaseref08_time.j0 k a0 a1 a3 false ((bt a0 a1) == 43))) else (none)) else (longcaseref08_time.j0 k a0 a1 a3 false false)) = some (r1, r2) := by rw [if_pos rfl] at H; exact H
      clear H
      have H := H1
      clear H1
      by_cases c7 : a1 < (a0.size : Int)
      · rw [if_pos c7] at H
        have c7b0 : decide (a1 < (a0.size : Int)) = true := decide_eq_true c7
        clear c7
        (first | rw [c7b0] | (simp only [i64_w, i32_w]; rw [c7b0]) | skip)
        by_cases c8 : 0 ≤ a1
        · rw [if_pos c8] at H
          have c8b0 : decide (0 ≤ a1) = true := decide_eq_true c8
          clear c8
          by_cases c10 : (bt a0 a1) = 45
          · rw [if_pos c10] at H
            have c10b0 : ((bt a0 a1) == 45) = true := beq_iff_eq.mpr c10
            have c10b1 : ((bt a0 a1) != 45) = false := bne_eq_false_iff_eq.mpr c10
            clear c10
            have H' := Aside0.mk H
            clear H
            have p9 : 0 ≤ (a1 : Int) := of_decide_eq_true (by first | (with_reducible assumption) | assumption)
            have q9 : a1 < (a0.size : Int) := of_decide_eq_true (by first | (with_reducible assumption) | assumption)
            have hx9 := bt_at a0 a1
            replace p9 := eq_true p9
            replace q9 := eq_true q9
            go_wp2
            go_meet
            case rel => exact ⟨_, (true), (by first | rfl | (simp; done) | (simp [*]; done)), H', ⟨by first | omega | exact Nat.le_refl _⟩, by repeat (first | exact Drawn0.refl _ | apply Drawn0.step)⟩
          · rw [if_neg c10] at H
            have c10b0 : ((bt a0 a1) == 45) = false := beq_eq_false_iff_ne.mpr c10
            have c10b1 : ((bt a0 a1) != 45) = true := bne_iff_ne.mpr c10
            have H' := Aside0.mk H
            clear H
            have p9 : 0 ≤ (a1 : Int) := of_decide_eq_true (by first | (with_reducible assumption) | assumption)
            have q9 : a1 < (a0.size : Int) := of_decide_eq_true (by first | (with_reducible assumption) | assumption)
            have hx9 := bt_at a0 a1
            replace p9 := eq_true p9
            replace q9 := eq_true q9
            have p11 : 0 ≤ (a1 : Int) := of_decide_eq_true (by first | (with_reducible assumption) | assumption)
            have q11 : a1 < (a0.size : Int) := of_decide_eq_true (by first | (with_reducible assumption) | assumption)
            have hx11 := bt_at a0 a1
            replace p11 := eq_true p11
            replace q11 := eq_true q11
            go_wp2
            go_meet
            case rel => exact ⟨_, (((bt a0 a1) == 43)), (by first | rfl | (simp; done) | (simp [*]; done)), H', ⟨by first | omega | exact Nat.le_refl _⟩, by repeat (first | exact Drawn0.refl _ | apply Drawn0.step)⟩
        · rw [if_neg c8] at H
          exact absurd H (by simp)
      · rw [if_neg c7] at H
        have c7b0 : decide (a1 < (a0.size : Int)) = false := decide_eq_false c7
        clear c7
        (first | rw [c7b0] | (simp only [i64_w, i32_w]; rw [c7b0]) | skip)
        have H' := Aside0.mk H
        clear H
        go_wp2
        go_meet
        case rel => exact ⟨_, (false), (by first | rfl | (simp; done) | (simp [*]; done)), H', ⟨by first | omega | exact Nat.le_refl _⟩, by repeat (first | exact Drawn0.refl _ | apply Drawn0.step)⟩
    · replace c6 := Bool.eq_false_iff.mpr c6
      subst c6
      have H1 : (longcaseref08_time.j0 k a0 a1 a3 false false) = some (r1, r2) := by rw [if_neg (show ¬ (false = true) by decide)] at H; exact H
      clear H
      have H := H1
      clear H1
      have H' := Aside0.mk H
      clear H
      go_wp2
      go_meet
      case rel => exact ⟨_, (false), (by first | rfl | (simp; done) | (simp [*]; done)), H', ⟨by first | omega | exact Nat.le_refl _⟩, by repeat (first | exact Drawn0.refl _ | apply Drawn0.step)⟩
  case rest =>
    clear HC5
    try clear c1
    try clear p1
    try clear q1
    try clear hx1
    try clear p2
    try clear c3
    try clear c6
    try clear c7
    try clear c7b0
    try clear c8
    try clear c8b0
    try clear p9
    try clear q9
    try clear hx9
    try clear c10
    try clear c10b0
    try clear c10b1
    try clear p11
    try clear q11
    try clear hx11
    try clear p11
    try clear p9
    try clear q11
    try clear q9
    obtain ⟨kq, x36_4, rfl, HA, HJ4, ⟨mc4, rfl⟩⟩ := hcut
    cases kq with
    | zero => exact absurd HA.out (by simp [longcaseref08_time.j0])
    | succ kj4 =>
      have H := HA.out
      clear HA
      simp only [longcaseref08_time.j0] at H
      have HC12 := Aside0.mk H
      clear H
      go_upto_if 36 with (fail)
      go_cut [1, 10] (fun v1 v10 wc => ∃ (kq : Nat) (x1_11 : Int) (x10_11 : Bool), v1 = .int .i64 x1_11 ∧ v10 = .bool x10_11 ∧ Aside0 (longcaseref08_time.j1 kq a0 x1_11 a3 x10_11 = some (r1, r2)) ∧ Aside0 (kq ≤ kj4) ∧ Drawn0 w wc)
      case first =>
        have H := HC12.out
        clear HC12
        by_cases c13 : x36_4 = true
        · subst c13
          have H1 : (if 0 ≤ a1 then (if a1 < (a0.size : Int) then (longcaseref08_time.j1 kj4 a0 (wrap64 (a1 + 1)) a3 ((bt a0 a1) == 45)) else (none)) else (none)) = some (r1, r2) := by rw [if_pos rfl] at H; exact H
          clear H
          have H := H1
          clear H1
          by_cases c14 : 0 ≤ a1
          · rw [if_pos c14] at H
            have c14b0 : decide (0 ≤ a1) = true := decide_eq_true c14
            clear c14
            (first | rw [c14b0] | (simp only [i64_w, i32_w]; rw [c14b0]) | skip)
            by_cases c15 : a1 < (a0.size : Int)
            · rw [if_pos c15] at H
              have c15b0 : decide (a1 < (a0.size : Int)) = true := decide_eq_true c15
              clear c15
              have H' := Aside0.mk H
              clear H
              have p16 : 0 ≤ (a1 : Int) := of_decide_eq_true (by first | (with_reducible assumption) | assumption)
              have q16 : a1 < (a0.size : Int) := of_decide_eq_true (by first | (with_reducible assumption) | assumption)
              have hx16 := bt_at a0 a1
              replace p16 := eq_true p16
              replace q16 := eq_true q16
              go_wp2
              go_meet
              case rel => exact ⟨_, (wrap64 (a1 + 1)), (((bt a0 a1) == 45)), (by first | rfl | (simp; done) | (simp [*]; done)), (by first | rfl | (simp; done) | (simp [*]; done)), H', ⟨by have := HJ4.out; first | omega | exact Nat.le_refl _⟩, by repeat (first | exact Drawn0.refl _ | apply Drawn0.step)⟩
            · rw [if_neg c15] at H
              exact absurd H (by simp)
          · rw [if_neg c14] at H
            exact absurd H (by simp)
        · replace c13 := Bool.eq_false_iff.mpr c13
          subst c13
          have H1 : (longcaseref08_time.j1 kj4 a0 a1 a3 false) = some (r1, r2) := by rw [if_neg (show ¬ (false = true) by decide)] at H; exact H
          clear H
          have H := H1
          clear H1
          have H' := Aside0.mk H
          clear H
          go_wp2
          go_meet
          case rel => exact ⟨_, (a1), (false), (by first | rfl | (simp; done) | (simp [*]; done)), (by first | rfl | (simp; done) | (simp [*]; done)), H', ⟨by have := HJ4.out; first | omega | exact Nat.le_refl _⟩, by repeat (first | exact Drawn0.refl _ | apply Drawn0.step)⟩
      case rest =>
        clear HC12
        try clear c1
        try clear p1
        try clear q1
        try clear hx1
        try clear p2
        try clear c3
        try clear c4
        try clear c6
        try clear p6
        try clear c7
        try clear c7b0
        try clear c8
        try clear c8b0
        try clear p9
        try clear q9
        try clear hx9
        try clear c10
        try clear c10b0
        try clear c10b1
        try clear p11
        try clear q11
        try clear hx11
        try clear c13
        try clear c14
        try clear c14b0
        try clear c15
        try clear c15b0
        try clear p16
        try clear q16
        try clear hx16
        try clear p1
        try clear p11
        try clear p16
        try clear p2
        try clear p9
        try clear q1
        try clear q11
        try clear q16
        try clear q9
        obtain ⟨kq, x1_11, x10_11, rfl, rfl, HA, HJ11, ⟨mc11, rfl⟩⟩ := hcut
        cases kq with
        | zero => exact absurd HA.out (by simp [longcaseref08_time.j1])
        | succ kj11 =>
          have H := HA.out
          clear HA
          simp only [longcaseref08_time.j1] at H
          have HC17 := Aside0.mk H
          clear H
          go_upto_if 43 with (fail)
          go_cut [11, 12] (fun v11 v12 wc => ∃ (kq : Nat) (x11_16 : Int) (x12_16 : Int), v11 = .int .i64 x11_16 ∧ v12 = .int .i64 x12_16 ∧ Aside0 (longcaseref08_time.j2 kq a0 x1_11 x10_11 x11_16 x12_16 = some (r1, r2)) ∧ Aside0 (kq ≤ kj11) ∧ Drawn0 w wc)
          case first =>
            have H := HC17.out
            clear HC17
            by_cases c18 : a3 = true
            · subst c18
              have H1 : (longcaseref08_time.j2 kj11 a0 x1_11 x10_11 3 167) = some (r1, r2) := by rw [if_pos rfl] at H; exact H
              clear H
              have H := H1
              clear H1
              have H' := Aside0.mk H
              clear H
              go_wp2
              go_meet
              case rel => exact ⟨_, (3), (167), (by first | rfl | (simp; done) | (simp [*]; done)), (by first | rfl | (simp; done) | (simp [*]; done)), H', ⟨by have := HJ4.out; have := HJ11.out; first | omega | exact Nat.le_refl _⟩, by repeat (first | exact Drawn0.refl _ | apply Drawn0.step)⟩
            · replace c18 := Bool.eq_false_iff.mpr c18
              subst c18
              have H1 : (longcaseref08_time.j2 kj11 a0 x1_11 x10_11 2 24) = some (r1, r2) := by rw [if_neg (show ¬ (false = true) by decide)] at H; exact H
              clear H
              have H := H1
              clear H1
              have H' := Aside0.mk H
              clear H
              go_wp2
              go_meet
              case rel => exact ⟨_, (2), (24), (by first | rfl | (simp; done) | (simp [*]; done)), (by first | rfl | (simp; done) | (simp [*]; done)), H', ⟨by have := HJ4.out; have := HJ11.out; first | omega | exact Nat.le_refl _⟩, by repeat (first | exact Drawn0.refl _ | apply Drawn0.step)⟩
          case rest =>
            clear HC17
            try clear c1
            try clear p1
            try clear q1
            try clear hx1
            try clear p2
            try clear c3
            try clear c4
            try clear c6
            try clear p6
            try clear c7
            try clear c7b0
            try clear c8
            try clear c8b0
            try clear p9
            try clear q9
            try clear hx9
            try clear c10
            try clear c10b0
            try clear c10b1
            try clear c11
            try clear p11
            try clear q11
            try clear hx11
            try clear c13
            try clear c14
            try clear c14b0
            try clear c15
            try clear c15b0
            try clear p16
            try clear q16
            try clear hx16
            try clear c18
            try clear p1
            try clear p11
            try clear p16
            try clear p2
            try clear p6
            try clear p9
            try clear q1
            try clear q11
            try clear q16
            try clear q9
            obtain ⟨kq, x11_16, x12_16, rfl, rfl, HA, HJ16, ⟨mc16, rfl⟩⟩ := hcut
            cases kq with
            | zero => exact absurd HA.out (by simp [longcaseref08_time.j2])
            | succ kj16 =>
              have H := HA.out
              clear HA
              simp only [longcaseref08_time.j2] at H
              replace H := Option.bind_eq_some_iff.mp H
              obtain ⟨⟨t225, t226⟩, A190, H⟩ := H
              replace H : (if t226 < 0 then (longcaseref08_time.j3 kj16 a0 t226 x10_11 t225 true) else (longcaseref08_time.j3 kj16 a0 t226 x10_11 t225 (decide (t225 > x12_16)))) = some (r1, r2) := H
              have A19 := Aside0.mk A190
              clear A190
              have HC20 := Aside0.mk H
              clear H
              go_upto_region 11 with (first | ((with_reducible refine gate_callee (f := 57) rfl ?_); refine goesL_ (some 48) rfl rfl Tryd.func57 (by kernel_rfl) rfl #[.string a0, .int .i64 x1_11, .int .i64 x11_16] rfl (by (try simp only [List.map_toArray, List.map_cons, List.map_nil]); first | done | rfl | (simp only [List.length_drop, List.length_take]; rfl)) ?_; (with_reducible refine (longcaseref08_digits.calls kj16 a0 x1_11 x11_16 t225 t226 _ A19.out).mono ?_); rintro e w' ⟨rfl, ⟨nd, rfl⟩⟩; refine ⟨_, rfl, ?_⟩))
              (try simp only [Act.put, List.setIfInBounds_toArray, List.set_cons_zero, List.set_cons_succ])
              go_cut [57] (fun v57 wc => ∃ (kq : Nat) (x57_19 : Bool), v57 = .bool x57_19 ∧ Aside0 (longcaseref08_time.j3 kq a0 t226 x10_11 t225 x57_19 = some (r1, r2)) ∧ Aside0 (kq ≤ kj16) ∧ Drawn0 w wc)
              case first =>
                have H := HC20.out
                clear HC20
                by_cases c21 : t226 < 0
                · rw [if_pos c21] at H
                  have c21b0 : decide (t226 < 0) = true := decide_eq_true c21
                  clear c21
                  (first | rw [c21b0] | (simp only [i64_w, i32_w]; rw [c21b0]) | skip)
                  have H' := Aside0.mk H
                  clear H
                  go_wp2
                  go_meet
                  case rel => exact ⟨_, (true), (by first | rfl | (simp; done) | (simp [*]; done)), H', ⟨by have := HJ4.out; have := HJ11.out; have := HJ16.out; first | omega | exact Nat.le_refl _⟩, by repeat (first | exact Drawn0.refl _ | apply Drawn0.step)⟩
                · rw [if_neg c21] at H
                  have c21b0 : decide (t226 < 0) = false := decide_eq_false c21
                  clear c21
                  (first | rw [c21b0] | (simp only [i64_w, i32_w]; rw [c21b0]) | skip)
                  have H' := Aside0.mk H
                  clear H
                  go_wp2
                  go_meet
                  case rel => exact ⟨_, (decide (t225 > x12_16)), (by first | rfl | (simp; done) | (simp [*]; done)), H', ⟨by have := HJ4.out; have := HJ11.out; have := HJ16.out; first | omega | exact Nat.le_refl _⟩, by repeat (first | exact Drawn0.refl _ | apply Drawn0.step)⟩
              case rest =>
                clear HC20
                try clear c1
                try clear p1
                try clear q1
                try clear hx1
                try clear c2
                try clear p2
                try clear c3
                try clear c4
                try clear c5
                try clear c6
                try clear p6
                try clear c7
                try clear c7b0
                try clear c8
                try clear c8b0
                try clear p9
                try clear q9
                try clear hx9
                try clear c10
                try clear c10b0
                try clear c10b1
                try clear c11
                try clear p11
                try clear q11
                try clear hx11
                try clear c13
                try clear c14
                try clear c14b0
                try clear c15
                try clear c15b0
                try clear c16
                try clear p16
                try clear q16
                try clear hx16
                try clear c18
                try clear c21
                try clear c21b0
                try clear p1
                try clear p11
                try clear p16
                try clear p2
                try clear p6
                try clear p9
                try clear q1
                try clear q11
                try clear q16
                try clear q9
                obtain ⟨kq, x57_19, rfl, HA, HJ19, ⟨mc19, rfl⟩⟩ := hcut
                cases kq with
                | zero => exact absurd HA.out (by simp [longcaseref08_time.j3])
                | succ kj19 =>
                  have H := HA.out
                  clear HA
                  simp only [longcaseref08_time.j3] at H
                  by_cases c22 : x57_19 = true
                  · subst c22
                    have H1 : (some (0, (-1))) = some (r1, r2) := by rw [if_pos rfl] at H; exact H
                    clear H
                    have H := H1
                    clear H1
                    simp only [Option.some.injEq, Prod.mk.injEq] at H
                    obtain ⟨rfl, rfl⟩ := H
                    go_wp2
                    go_ret2
                    exact ⟨by first | rfl | (simp; done) | (simp [*]; done), by repeat (first | exact Drawn0.refl _ | apply Drawn0.step)⟩
                  · replace c22 := Bool.eq_false_iff.mpr c22
                    subst c22
                    have H1 : (if t226 < (a0.size : Int) then (if 0 ≤ t226 then (longcaseref08_time.j4 kj19 a0 t226 x10_11 (wrap64 (t225 * 3600)) ((bt a0 t226) == 58)) else (none)) else (longcaseref08_time.j4 kj19 a0 t226 x10_11 (wrap64 (t225 * 3600)) false)) = some (r1, r2) := by rw [if_neg (show ¬ (false = true) by decide)] at H; exact H
                    clear H
                    have H := H1
                    clear H1
                    have HC23 := Aside0.mk H
                    clear H
                    go_upto_region 14 with (fail)
                    go_cut [69] (fun v69 wc => ∃ (kq : Nat) (x69_22 : Bool), v69 = .bool x69_22 ∧ Aside0 (longcaseref08_time.j4 kq a0 t226 x10_11 (wrap64 (t225 * 3600)) x69_22 = some (r1, r2)) ∧ Aside0 (kq ≤ kj19) ∧ Drawn0 w wc)
                    case first =>
                      have H := HC23.out
                      clear HC23
                      by_cases c24 : t226 < (a0.size : Int)
                      · rw [if_pos c24] at H
                        have c24b0 : decide (t226 < (a0.size : Int)) = true := decide_eq_true c24
                        clear c24
                        (first | rw [c24b0] | (simp only [i64_w, i32_w]; rw [c24b0]) | skip)
                        by_cases c25 : 0 ≤ t226
                        · rw [if_pos c25] at H
                          have c25b0 : decide (0 ≤ t226) = true := decide_eq_true c25
                          clear c25
                          have H' := Aside0.mk H
                          clear H
                          have p26 : 0 ≤ (t226 : Int) := of_decide_eq_true (by first | (with_reducible assumption) | assumption)
                          have q26 : t226 < (a0.size : Int) := of_decide_eq_true (by first | (with_reducible assumption) | assumption)
                          have hx26 := bt_at a0 t226
                          replace p26 := eq_true p26
                          replace q26 := eq_true q26
                          go_wp2
                          go_meet
                          case rel => exact ⟨_, (((bt a0 t226) == 58)), (by first | rfl | (simp; done) | (simp [*]; done)), H', ⟨by have := HJ4.out; have := HJ11.out; have := HJ16.out; have := HJ19.out; first | omega | exact Nat.le_refl _⟩, by repeat (first | exact Drawn0.refl _ | apply Drawn0.step)⟩
                        · rw [if_neg c25] at H
                          exact absurd H (by simp)
                      · rw [if_neg c24] at H
                        have c24b0 : decide (t226 < (a0.size : Int)) = false := decide_eq_false c24
                        clear c24
                        (first | rw [c24b0] | (simp only [i64_w, i32_w]; rw [c24b0]) | skip)
                        have H' := Aside0.mk H
                        clear H
                        go_wp2
                        go_meet
                        case rel => exact ⟨_, (false), (by first | rfl | (simp; done) | (simp [*]; done)), H', ⟨by have := HJ4.out; have := HJ11.out; have := HJ16.out; have := HJ19.out; first | omega | exact Nat.le_refl _⟩, by repeat (first | exact Drawn0.refl _ | apply Drawn0.step)⟩
                    case rest =>
                      clear HC23
                      try clear c1
                      try clear p1
                      try clear q1
                      try clear hx1
                      try clear c2
                      try clear p2
                      try clear q2
                      try clear hx2
                      try clear c3
                      try clear c4
                      try clear c5
                      try clear c6
                      try clear p6
                      try clear c7
                      try clear c7b0
                      try clear c8
                      try clear c8b0
                      try clear p9
                      try clear q9
                      try clear hx9
                      try clear c10
                      try clear c10b0
                      try clear c10b1
                      try clear c11
                      try clear p11
                      try clear q11
                      try clear hx11
                      try clear c13
                      try clear c14
                      try clear c14b0
                      try clear c15
                      try clear c15b0
                      try clear c16
                      try clear p16
                      try clear q16
                      try clear hx16
                      try clear c18
                      try clear c19
                      try clear c21
                      try clear c21b0
                      try clear c22
                      try clear c24
                      try clear c24b0
                      try clear c25
                      try clear c25b0
                      try clear p26
                      try clear q26
                      try clear hx26
                      try clear p1
                      try clear p11
                      try clear p16
                      try clear p2
                      try clear p26
                      try clear p6
                      try clear p9
                      try clear q1
                      try clear q11
                      try clear q16
                      try clear q26
                      try clear q9
                      obtain ⟨kq, x69_22, rfl, HA, HJ22, ⟨mc22, rfl⟩⟩ := hcut
                      cases kq with
                      | zero => exact absurd HA.out (by simp [longcaseref08_time.j4])
                      | succ kj22 =>
                        have H := HA.out
                        clear HA
                        simp only [longcaseref08_time.j4] at H
                        by_cases c27 : x69_22 = true
                        · subst c27
                          have H1 : ((longcaseref08_sixty.f kj22 a0 t226).bind fun bt227 => (if bt227.2 < 0 then (some (0, (-1))) else (if bt227.2 < (a0.size : Int) then (if 0 ≤ bt227.2 then (longcaseref08_time.j5 kj22 a0 bt227.2 x10_11 (wrap64 ((wrap64 (t225 * 3600)) + (wrap64 (60 * bt227.1)))) ((bt a0 bt227.2) == 58)) else (none)) else (longcaseref08_time.j5 kj22 a0 bt227.2 x10_11 (wrap64 ((wrap64 (t225 * 3600)) + (wrap64 (60 * bt227.1)))) false)))) = some (r1, r2) := by rw [if_pos rfl] at H; exact H
                          clear H
                          have H := H1
                          clear H1
                          replace H := Option.bind_eq_some_iff.mp H
                          obtain ⟨⟨t227, t228⟩, A280, H⟩ := H
                          replace H : (if t228 < 0 then (some (0, (-1))) else (if t228 < (a0.size : Int) then (if 0 ≤ t228 then (longcaseref08_time.j5 kj22 a0 t228 x10_11 (wrap64 ((wrap64 (t225 * 3600)) + (wrap64 (60 * t227)))) ((bt a0 t228) == 58)) else (none)) else (longcaseref08_time.j5 kj22 a0 t228 x10_11 (wrap64 ((wrap64 (t225 * 3600)) + (wrap64 (60 * t227)))) false))) = some (r1, r2) := H
                          have A28 := Aside0.mk A280
                          clear A280
                          by_cases c29 : t228 < 0
                          · rw [if_pos c29] at H
                            have c29b0 : decide (t228 < 0) = true := decide_eq_true c29
                            clear c29
                            simp only [Option.some.injEq, Prod.mk.injEq] at H
                            obtain ⟨rfl, rfl⟩ := H
                            go_wp2_with (first | ((with_reducible refine gate_callee (f := 58) rfl ?_); refine goesL_ (some 73) rfl rfl Tryd.func58 (by kernel_rfl) rfl #[.string a0, .int .i64 t226] rfl (by (try simp only [List.map_toArray, List.map_cons, List.map_nil]); first | done | rfl | (simp only [List.length_drop, List.length_take]; rfl)) ?_; (with_reducible refine (longcaseref08_sixty.calls kj22 a0 t226 t227 t228 _ A28.out).mono ?_); rintro e w' ⟨rfl, ⟨nd, rfl⟩⟩; refine ⟨_, rfl, ?_⟩))
                            go_ret2
                            exact ⟨by first | rfl | (simp; done) | (simp [*]; done), by repeat (first | exact Drawn0.refl _ | apply Drawn0.step)⟩
                          · rw [if_neg c29] at H
                            have c29b0 : decide (t228 < 0) = false := decide_eq_false c29
                            clear c29
                            have HC30 := Aside0.mk H
                            clear H
                            go_upto_region 20 with (first | ((with_reducible refine gate_callee (f := 58) rfl ?_); refine goesL_ (some 73) rfl rfl Tryd.func58 (by kernel_rfl) rfl #[.string a0, .int .i64 t226] rfl (by (try simp only [List.map_toArray, List.map_cons, List.map_nil]); first | done | rfl | (simp only [List.length_drop, List.length_take]; rfl)) ?_; (with_reducible refine (longcaseref08_sixty.calls kj22 a0 t226 t227 t228 _ A28.out).mono ?_); rintro e w' ⟨rfl, ⟨nd, rfl⟩⟩; refine ⟨_, rfl, ?_⟩))
                            (try simp only [Act.put, List.setIfInBounds_toArray, List.set_cons_zero, List.set_cons_succ])
                            go_cut [92] (fun v92 wc => ∃ (kq : Nat) (x92_29 : Bool), v92 = .bool x92_29 ∧ Aside0 (longcaseref08_time.j5 kq a0 t228 x10_11 (wrap64 ((wrap64 (t225 * 3600)) + (wrap64 (60 * t227)))) x92_29 = some (r1, r2)) ∧ Aside0 (kq ≤ kj22) ∧ Drawn0 w wc)
                            case first =>
                              have H := HC30.out
                              clear HC30
                              by_cases c31 : t228 < (a0.size : Int)
                              · rw [if_pos c31] at H
                                have c31b0 : decide (t228 < (a0.size : Int)) = true := decide_eq_true c31
                                clear c31
                                (first | rw [c31b0] | (simp only [i64_w, i32_w]; rw [c31b0]) | skip)
                                by_cases c32 : 0 ≤ t228
                                · rw [if_pos c32] at H
                                  have c32b0 : decide (0 ≤ t228) = true := decide_eq_true c32
                                  clear c32
                                  have H' := Aside0.mk H
                                  clear H
                                  have p33 : 0 ≤ (t228 : Int) := of_decide_eq_true (by first | (with_reducible assumption) | assumption)
                                  have q33 : t228 < (a0.size : Int) := of_decide_eq_true (by first | (with_reducible assumption) | assumption)
                                  have hx33 := bt_at a0 t228
                                  replace p33 := eq_true p33
                                  replace q33 := eq_true q33
                                  go_wp2
                                  go_meet
                                  case rel => exact ⟨_, (((bt a0 t228) == 58)), (by first | rfl | (simp; done) | (simp [*]; done)), H', ⟨by have := HJ4.out; have := HJ11.out; have := HJ16.out; have := HJ19.out; have := HJ22.out; first | omega | exact Nat.le_refl _⟩, by repeat (first | exact Drawn0.refl _ | apply Drawn0.step)⟩
                                · rw [if_neg c32] at H
                                  exact absurd H (by simp)
                              · rw [if_neg c31] at H
                                have c31b0 : decide (t228 < (a0.size : Int)) = false := decide_eq_false c31
                                clear c31
                                (first | rw [c31b0] | (simp only [i64_w, i32_w]; rw [c31b0]) | skip)
                                have H' := Aside0.mk H
                                clear H
                                go_wp2
                                go_meet
                                case rel => exact ⟨_, (false), (by first | rfl | (simp; done) | (simp [*]; done)), H', ⟨by have := HJ4.out; have := HJ11.out; have := HJ16.out; have := HJ19.out; have := HJ22.out; first | omega | exact Nat.le_refl _⟩, by repeat (first | exact Drawn0.refl _ | apply Drawn0.step)⟩
                            case rest =>
                              clear HC30
                              try clear c1
                              try clear p1
                              try clear q1
                              try clear hx1
                              try clear c2
                              try clear p2
                              try clear q2
                              try clear hx2
                              try clear c3
                              try clear p3
                              try clear q3
                              try clear hx3
                              try clear c4
                              try clear c5
                              try clear c6
                              try clear p6
                              try clear c7
                              try clear c7b0
                              try clear c8
                              try clear c8b0
                              try clear p9
                              try clear q9
                              try clear hx9
                              try clear c10
                              try clear c10b0
                              try clear c10b1
                              try clear c11
                              try clear p11
                              try clear q11
                              try clear hx11
                              try clear c13
                              try clear c14
                              try clear c14b0
                              try clear c15
                              try clear c15b0
                              try clear c16
                              try clear p16
                              try clear q16
                              try clear hx16
                              try clear c18
                              try clear c19
                              try clear c21
                              try clear c21b0
                              try clear c22
                              try clear c24
                              try clear c24b0
                              try clear c25
                              try clear c25b0
                              try clear p26
                              try clear q26
                              try clear hx26
                              try clear c27
                              try clear c29
                              try clear c29b0
                              try clear c31
                              try clear c31b0
                              try clear c32
                              try clear c32b0
                              try clear p33
                              try clear q33
                              try clear hx33
                              try clear p1
                              try clear p11
                              try clear p16
                              try clear p2
                              try clear p26
                              try clear p33
                              try clear p6
                              try clear p9
                              try clear q1
                              try clear q11
                              try clear q16
                              try clear q2
                              try clear q26
                              try clear q33
                              try clear q9
                              obtain ⟨kq, x92_29, rfl, HA, HJ29, ⟨mc29, rfl⟩⟩ := hcut
                              cases kq with
                              | zero => exact absurd HA.out (by simp [longcaseref08_time.j5])
                              | succ kj29 =>
                                have H := HA.out
                                clear HA
                                simp only [longcaseref08_time.j5] at H
                                by_cases c34 : x92_29 = true
                                · subst c34
                                  have H1 : ((longcaseref08_sixty.f kj29 a0 t228).bind fun bt229 => (if bt229.2 < 0 then (some (0, (-1))) else (if x10_11 = true then (some (wrap64 (-(wrap64 ((wrap64 ((wrap64 (t225 * 3600)) + (wrap64 (60 * t227)))) + bt229.1))), bt229.2)) else (some (wrap64 ((wrap64 ((wrap64 (t225 * 3600)) + (wrap64 (60 * t227)))) + bt229.1), bt229.2))))) = some (r1, r2) := by rw [if_pos rfl] at H; exact H
                                  clear H
                                  have H := H1
                                  clear H1
                                  replace H := Option.bind_eq_some_iff.mp H
                                  obtain ⟨⟨t229, t230⟩, A350, H⟩ := H
                                  replace H : (if t230 < 0 then (some (0, (-1))) else (if x10_11 = true then (some (wrap64 (-(wrap64 ((wrap64 ((wrap64 (t225 * 3600)) + (wrap64 (60 * t227)))) + t229))), t230)) else (some (wrap64 ((wrap64 ((wrap64 (t225 * 3600)) + (wrap64 (60 * t227)))) + t229), t230)))) = some (r1, r2) := H
                                  have A35 := Aside0.mk A350
                                  clear A350
                                  by_cases c36 : t230 < 0
                                  · rw [if_pos c36] at H
                                    have c36b0 : decide (t230 < 0) = true := decide_eq_true c36
                                    clear c36
                                    simp only [Option.some.injEq, Prod.mk.injEq] at H
                                    obtain ⟨rfl, rfl⟩ := H
                                    go_wp2_with (first | ((with_reducible refine gate_callee (f := 58) rfl ?_); refine goesL_ (some 96) rfl rfl Tryd.func58 (by kernel_rfl) rfl #[.string a0, .int .i64 t228] rfl (by (try simp only [List.map_toArray, List.map_cons, List.map_nil]); first | done | rfl | (simp only [List.length_drop, List.length_take]; rfl)) ?_; (with_reducible refine (longcaseref08_sixty.calls kj29 a0 t228 t229 t230 _ A35.out).mono ?_); rintro e w' ⟨rfl, ⟨nd, rfl⟩⟩; refine ⟨_, rfl, ?_⟩))
                                    go_ret2
                                    exact ⟨by first | rfl | (simp; done) | (simp [*]; done), by repeat (first | exact Drawn0.refl _ | apply Drawn0.step)⟩
                                  · rw [if_neg c36] at H
                                    have c36b0 : decide (t230 < 0) = false := decide_eq_false c36
                                    clear c36
                                    by_cases c37 : x10_11 = true
                                    · subst c37
                                      have H1 : (some (wrap64 (-(wrap64 ((wrap64 ((wrap64 (t225 * 3600)) + (wrap64 (60 * t227)))) + t229))), t230)) = some (r1, r2) := by rw [if_pos rfl] at H; exact H
                                      clear H
                                      have H := H1
                                      clear H1
                                      simp only [Option.some.injEq, Prod.mk.injEq] at H
                                      obtain ⟨rfl, rfl⟩ := H
                                      go_wp2_with (first | ((with_reducible refine gate_callee (f := 58) rfl ?_); refine goesL_ (some 96) rfl rfl Tryd.func58 (by kernel_rfl) rfl #[.string a0, .int .i64 t228] rfl (by (try simp only [List.map_toArray, List.map_cons, List.map_nil]); first | done | rfl | (simp only [List.length_drop, List.length_take]; rfl)) ?_; (with_reducible refine (longcaseref08_sixty.calls kj29 a0 t228 t229 t230 _ A35.out).mono ?_); rintro e w' ⟨rfl, ⟨nd, rfl⟩⟩; refine ⟨_, rfl, ?_⟩))
                                      go_ret2
                                      exact ⟨by first | rfl | (simp; done) | (simp [*]; done), by repeat (first | exact Drawn0.refl _ | apply Drawn0.step)⟩
                                    · replace c37 := Bool.eq_false_iff.mpr c37
                                      subst c37
                                      have H1 : (some (wrap64 ((wrap64 ((wrap64 (t225 * 3600)) + (wrap64 (60 * t227)))) + t229), t230)) = some (r1, r2) := by rw [if_neg (show ¬ (false = true) by decide)] at H; exact H
                                      clear H
                                      have H := H1
                                      clear H1
                                      simp only [Option.some.injEq, Prod.mk.injEq] at H
                                      obtain ⟨rfl, rfl⟩ := H
                                      go_wp2_with (first | ((with_reducible refine gate_callee (f := 58) rfl ?_); refine goesL_ (some 96) rfl rfl Tryd.func58 (by kernel_rfl) rfl #[.string a0, .int .i64 t228] rfl (by (try simp only [List.map_toArray, List.map_cons, List.map_nil]); first | done | rfl | (simp only [List.length_drop, List.length_take]; rfl)) ?_; (with_reducible refine (longcaseref08_sixty.calls kj29 a0 t228 t229 t230 _ A35.out).mono ?_); rintro e w' ⟨rfl, ⟨nd, rfl⟩⟩; refine ⟨_, rfl, ?_⟩))
                                      go_ret2
                                      exact ⟨by first | rfl | (simp; done) | (simp [*]; done), by repeat (first | exact Drawn0.refl _ | apply Drawn0.step)⟩
                                · replace c34 := Bool.eq_false_iff.mpr c34
                                  subst c34
                                  have H1 : (if x10_11 = true then (some (wrap64 (-(wrap64 ((wrap64 (t225 * 3600)) + (wrap64 (60 * t227))))), t228)) else (some ((wrap64 ((wrap64 (t225 * 3600)) + (wrap64 (60 * t227)))), t228))) = some (r1, r2) := by rw [if_neg (show ¬ (false = true) by decide)] at H; exact H
                                  clear H
                                  have H := H1
                                  clear H1
                                  by_cases c38 : x10_11 = true
                                  · subst c38
                                    have H1 : (some (wrap64 (-(wrap64 ((wrap64 (t225 * 3600)) + (wrap64 (60 * t227))))), t228)) = some (r1, r2) := by rw [if_pos rfl] at H; exact H
                                    clear H
                                    have H := H1
                                    clear H1
                                    simp only [Option.some.injEq, Prod.mk.injEq] at H
                                    obtain ⟨rfl, rfl⟩ := H
                                    go_wp2
                                    go_ret2
                                    exact ⟨by first | rfl | (simp; done) | (simp [*]; done), by repeat (first | exact Drawn0.refl _ | apply Drawn0.step)⟩
                                  · replace c38 := Bool.eq_false_iff.mpr c38
                                    subst c38
                                    have H1 : (some ((wrap64 ((wrap64 (t225 * 3600)) + (wrap64 (60 * t227)))), t228)) = some (r1, r2) := by rw [if_neg (show ¬ (false = true) by decide)] at H; exact H
                                    clear H
                                    have H := H1
                                    clear H1
                                    simp only [Option.some.injEq, Prod.mk.injEq] at H
                                    obtain ⟨rfl, rfl⟩ := H
                                    go_wp2
                                    go_ret2
                                    exact ⟨by first | rfl | (simp; done) | (simp [*]; done), by repeat (first | exact Drawn0.refl _ | apply Drawn0.step)⟩
                        · replace c27 := Bool.eq_false_iff.mpr c27
                          subst c27
                          have H1 : (if x10_11 = true then (some (wrap64 (-(wrap64 (t225 * 3600))), t226)) else (some ((wrap64 (t225 * 3600)), t226))) = some (r1, r2) := by rw [if_neg (show ¬ (false = true) by decide)] at H; exact H
                          clear H
                          have H := H1
                          clear H1
                          by_cases c39 : x10_11 = true
                          · subst c39
                            have H1 : (some (wrap64 (-(wrap64 (t225 * 3600))), t226)) = some (r1, r2) := by rw [if_pos rfl] at H; exact H
                            clear H
                            have H := H1
                            clear H1
                            simp only [Option.some.injEq, Prod.mk.injEq] at H
                            obtain ⟨rfl, rfl⟩ := H
                            go_wp2
                            go_ret2
                            exact ⟨by first | rfl | (simp; done) | (simp [*]; done), by repeat (first | exact Drawn0.refl _ | apply Drawn0.step)⟩
                          · replace c39 := Bool.eq_false_iff.mpr c39
                            subst c39
                            have H1 : (some ((wrap64 (t225 * 3600)), t226)) = some (r1, r2) := by rw [if_neg (show ¬ (false = true) by decide)] at H; exact H
                            clear H
                            have H := H1
                            clear H1
                            simp only [Option.some.injEq, Prod.mk.injEq] at H
                            obtain ⟨rfl, rfl⟩ := H
                            go_wp2
                            go_ret2
                            exact ⟨by first | rfl | (simp; done) | (simp [*]; done), by repeat (first | exact Drawn0.refl _ | apply Drawn0.step)⟩
end Go.Proofs.YtnbjneknicppcaaDoor.Fn

namespace Go.Proofs.YtnbjneknicppcaaDoor.Fn
open Go.RowKit Go.Proofs.YtnbjneknicppcaaDoorW.PrintWords Go.Proofs.YtnbjneknicppcaaDoorW.PrintLast Go.Proofs.YtnbjneknicppcaaDoorW.PrintMore
attribute [local go_sem] max2_int min2_int max_two min_two max_three min_three max_four min_four
set_option linter.unusedVariables false
set_option linter.unusedSimpArgs false
/-! ### longcaseref08_word: function 37 -/
mutual
def longcaseref08_word.j0 : Nat → ByteArray → Int → Bool → Option (ByteArray × Int)
  | 0, _, _, _ => none
  | k + 1, x0, x1, x17 => if x17 = true then (longcaseref08_word.l0 k x0 x1 (wrap64 (x1 + 1))) else (longcaseref08_word.l1 k x0 x1 x1)
def longcaseref08_word.l0 : Nat → ByteArray → Int → Int → Option (ByteArray × Int)
  | 0, _, _, _ => none
  | k + 1, x0, x1, x6 => if x6 < (x0.size : Int) then (if 0 ≤ x6 then (if (bt x0 x6) = 62 then (if x6 = (x0.size : Int) then (some ((⟨#[]⟩ : ByteArray), (-1))) else (if 0 ≤ (wrap64 (x1 + 1)) then (if (wrap64 (x1 + 1)) ≤ x6 then (if x6 ≤ (x0.size : Int) then ((longcaseref08_name.f k (x0.extract ((wrap64 (x1 + 1)) : Int).toNat (x6 : Int).toNat)).bind fun t217 => (if t217 = true then (some (x0.extract ((wrap64 (x1 + 1)) : Int).toNat (x6 : Int).toNat, wrap64 (x6 + 1))) else (some ((⟨#[]⟩ : ByteArray), (-1))))) else (none)) else (none)) else (none))) else (longcaseref08_word.l0 k x0 x1 (wrap64 (x6 + 1)))) else (none)) else (if x6 = (x0.size : Int) then (some ((⟨#[]⟩ : ByteArray), (-1))) else (if 0 ≤ (wrap64 (x1 + 1)) then (if (wrap64 (x1 + 1)) ≤ x6 then (if x6 ≤ (x0.size : Int) then ((longcaseref08_name.f k (x0.extract ((wrap64 (x1 + 1)) : Int).toNat (x6 : Int).toNat)).bind fun t218 => (if t218 = true then (some (x0.extract ((wrap64 (x1 + 1)) : Int).toNat (x6 : Int).toNat, wrap64 (x6 + 1))) else (some ((⟨#[]⟩ : ByteArray), (-1))))) else (none)) else (none)) else (none)))
def longcaseref08_word.l1 : Nat → ByteArray → Int → Int → Option (ByteArray × Int)
  | 0, _, _, _ => none
  | k + 1, x0, x1, x7 => if x7 < (x0.size : Int) then (if 0 ≤ x7 then ((longcaseref08_letter.f (bt x0 x7)).bind fun t219 => (if t219 = true then (longcaseref08_word.l1 k x0 x1 (wrap64 (x7 + 1))) else (if 0 ≤ x1 then (if x1 ≤ x7 then (if x7 ≤ (x0.size : Int) then ((longcaseref08_name.f k (x0.extract (x1 : Int).toNat (x7 : Int).toNat)).bind fun t220 => (if t220 = true then (some (x0.extract (x1 : Int).toNat (x7 : Int).toNat, x7)) else (some ((⟨#[]⟩ : ByteArray), (-1))))) else (none)) else (none)) else (none)))) else (none)) else (if 0 ≤ x1 then (if x1 ≤ x7 then (if x7 ≤ (x0.size : Int) then ((longcaseref08_name.f k (x0.extract (x1 : Int).toNat (x7 : Int).toNat)).bind fun t221 => (if t221 = true then (some (x0.extract (x1 : Int).toNat (x7 : Int).toNat, x7)) else (some ((⟨#[]⟩ : ByteArray), (-1))))) else (none)) else (none)) else (none))
end
def longcaseref08_word.f (k : Nat) (a0 : ByteArray) (a1 : Int) : Option (ByteArray × Int) := if a1 < (a0.size : Int) then (if 0 ≤ a1 then (longcaseref08_word.j0 k a0 a1 ((bt a0 a1) == 60)) else (none)) else (longcaseref08_word.j0 k a0 a1 false)
theorem longcaseref08_word.mono_l : ∀ k, (∀ y0 y1 y2, LeO (longcaseref08_word.j0 k y0 y1 y2) (longcaseref08_word.j0 (k + 1) y0 y1 y2)) ∧ (∀ y0 y1 y2, LeO (longcaseref08_word.l0 k y0 y1 y2) (longcaseref08_word.l0 (k + 1) y0 y1 y2)) ∧ (∀ y0 y1 y2, LeO (longcaseref08_word.l1 k y0 y1 y2) (longcaseref08_word.l1 (k + 1) y0 y1 y2))
  | 0 => ⟨fun _ _ _ r h => by simp [longcaseref08_word.j0] at h, fun _ _ _ r h => by simp [longcaseref08_word.l0] at h, fun _ _ _ r h => by simp [longcaseref08_word.l1] at h⟩
  | k + 1 => by
    obtain ⟨ih0, ih1, ih2⟩ := longcaseref08_word.mono_l k
    refine ⟨?_, ?_, ?_⟩
    · intro y0 y1 y2
      unfold longcaseref08_word.j0
      repeat' first
      | (with_reducible exact ih0 _ _ _)
      | (with_reducible exact ih1 _ _ _)
      | (with_reducible exact ih2 _ _ _)
      | (with_reducible exact longcaseref08_name.mono _ _)
      | (with_reducible exact LeO.refl _)
      | (with_reducible exact LeO.none _)
      | (with_reducible refine LeO.ite ?_ ?_)
      | (with_reducible refine LeO.bind ?_ (fun _ => ?_))
      | exact ih0 _ _ _
      | exact ih1 _ _ _
      | exact ih2 _ _ _
      | exact longcaseref08_name.mono _ _
      | exact LeO.none _
      | refine LeO.ite ?_ ?_
      | refine LeO.bind ?_ (fun _ => ?_)
    · intro y0 y1 y2
      unfold longcaseref08_word.l0
      repeat' first
      | (with_reducible exact ih0 _ _ _)
      | (with_reducible exact ih1 _ _ _)
      | (with_reducible exact ih2 _ _ _)
      | (with_reducible exact longcaseref08_name.mono _ _)
      | (with_reducible exact LeO.refl _)
      | (with_reducible exact LeO.none _)
      | (with_reducible refine LeO.ite ?_ ?_)
      | (with_reducible refine LeO.bind ?_ (fun _ => ?_))
      | exact ih0 _ _ _
      | exact ih1 _ _ _
      | exact ih2 _ _ _
      | exact longcaseref08_name.mono _ _
      | exact LeO.none _
      | refine LeO.ite ?_ ?_
      | refine LeO.bind ?_ (fun _ => ?_)
    · intro y0 y1 y2
      unfold longcaseref08_word.l1
      repeat' first
      | (with_reducible exact ih0 _ _ _)
      | (with_reducible exact ih1 _ _ _)
      | (with_reducible exact ih2 _ _ _)
      | (with_reducible exact longcaseref08_name.mono _ _)
      | (with_reducible exact LeO.refl _)
      | (with_reducible exact LeO.none _)
      | (with_reducible refine LeO.ite ?_ ?_)
      | (with_reducible refine LeO.bind ?_ (fun _ => ?_))
      | exact ih0 _ _ _
      | exact ih1 _ _ _
      | exact ih2 _ _ _
      | exact longcaseref08_name.mono _ _
      | exact LeO.none _
      | refine LeO.ite ?_ ?_
      | refine LeO.bind ?_ (fun _ => ?_)
theorem longcaseref08_word.mono : ∀ a0 a1 k, LeO (longcaseref08_word.f k a0 a1) (longcaseref08_word.f (k + 1) a0 a1) := by
  intro a0 a1 k
  obtain ⟨ih0, ih1, ih2⟩ := longcaseref08_word.mono_l k
  unfold longcaseref08_word.f
  repeat' first
      | (with_reducible exact ih0 _ _ _)
      | (with_reducible exact ih1 _ _ _)
      | (with_reducible exact ih2 _ _ _)
      | (with_reducible exact longcaseref08_name.mono _ _)
      | (with_reducible exact LeO.refl _)
      | (with_reducible exact LeO.none _)
      | (with_reducible refine LeO.ite ?_ ?_)
      | (with_reducible refine LeO.bind ?_ (fun _ => ?_))
      | exact ih0 _ _ _
      | exact ih1 _ _ _
      | exact ih2 _ _ _
      | exact longcaseref08_name.mono _ _
      | exact LeO.none _
      | refine LeO.ite ?_ ?_
      | refine LeO.bind ?_ (fun _ => ?_)
set_option maxHeartbeats 8000000 in
set_option maxRecDepth 100000 in
theorem longcaseref08_word.calls (k : Nat) (a0 : ByteArray) (a1 : Int) (r1 : ByteArray) (r2 : Int) (w : World) (h : longcaseref08_word.f k a0 a1 = some (r1, r2)) :
    Calls Tryd.prog 37 #[.string a0, .int .i64 a1] w fun e w' => e = .returned (.tuple #[.string r1, .int .i64 r2]) ∧ Drawn0 w w' := by
  have H : (if a1 < (a0.size : Int) then (if 0 ≤ a1 then (longcaseref08_word.j0 k a0 a1 ((bt a0 a1) == 60)) else (none)) else (longcaseref08_word.j0 k a0 a1 false)) = some (r1, r2) := h
  clear h
  have HC3 := Aside0.mk H
  clear H
  go_enter Tryd.func37, Tryd.ntmps37
  go_upto_region 1 with (fail)
  go_cut [17] (fun v17 wc => ∃ (kq : Nat) (x17_2 : Bool), v17 = .bool x17_2 ∧ Aside0 (longcaseref08_word.j0 kq a0 a1 x17_2 = some (r1, r2)) ∧ Aside0 (kq ≤ k) ∧ Drawn0 w wc)
  case first =>
    have H := HC3.out
    clear HC3
    by_cases c4 : a1 < (a0.size : Int)
    · rw [if_pos c4] at H
      have c4b0 : decide (a1 < (a0.size : Int)) = true := decide_eq_true c4
      clear c4
      (first | rw [c4b0] | (simp only [i64_w, i32_w]; rw [c4b0]) | skip)
      by_cases c5 : 0 ≤ a1
      · rw [if_pos c5] at H
        have c5b0 : decide (0 ≤ a1) = true := decide_eq_true c5
        clear c5
        have H' := Aside0.mk H
        clear H
        have p6 : 0 ≤ (a1 : Int) := of_decide_eq_true (by first | (with_reducible assumption) | assumption)
        have q6 : a1 < (a0.size : Int) := of_decide_eq_true (by first | (with_reducible assumption) | assumption)
        have hx6 := bt_at a0 a1
        replace p6 := eq_true p6
        replace q6 := eq_true q6
        go_wp2
        go_meet
        case rel => exact ⟨_, (((bt a0 a1) == 60)), (by first | rfl | (simp; done) | (simp [*]; done)), H', ⟨by first | omega | exact Nat.le_refl _⟩, by repeat (first | exact Drawn0.refl _ | apply Drawn0.step)⟩
      · rw [if_neg c5] at H
        exact absurd H (by simp)
    · rw [if_neg c4] at H
      have c4b0 : decide (a1 < (a0.size : Int)) = false := decide_eq_false c4
      clear c4
      (first | rw [c4b0] | (simp only [i64_w, i32_w]; rw [c4b0]) | skip)
      have H' := Aside0.mk H
      clear H
      go_wp2
      go_meet
      case rel => exact ⟨_, (false), (by first | rfl | (simp; done) | (simp [*]; done)), H', ⟨by first | omega | exact Nat.le_refl _⟩, by repeat (first | exact Drawn0.refl _ | apply Drawn0.step)⟩
  case rest =>
    clear HC3
    try clear p2
    try clear c3
    try clear c4
    try clear c4b0
    try clear c5
    try clear c5b0
    try clear p6
    try clear q6
    try clear hx6
    try clear p6
    try clear q6
    obtain ⟨kq, x17_2, rfl, HA, HJ2, ⟨mc2, rfl⟩⟩ := hcut
    cases kq with
    | zero => exact absurd HA.out (by simp [longcaseref08_word.j0])
    | succ kj2 =>
      have H := HA.out
      clear HA
      simp only [longcaseref08_word.j0] at H
      by_cases c7 : x17_2 = true
      · subst c7
        have H1 : (longcaseref08_word.l0 kj2 a0 a1 (wrap64 (a1 + 1))) = some (r1, r2) := by rw [if_pos rfl] at H; exact H
        clear H
        have H := H1
        clear H1
        have H' := Aside0.mk H
        clear H
        go_wp2
        go_loopg [6] kj2 (fun kq v6 w' => ∃ (x6_2 : Int), v6 = .int .i64 x6_2 ∧ Aside0 (longcaseref08_word.l0 kq a0 a1 x6_2 = some (r1, r2)) ∧ Aside0 (kq ≤ kj2) ∧ Drawn0 w w')
        case atStart => exact ⟨(wrap64 (a1 + 1)), (by first | rfl | (simp; done) | (simp [*]; done)), H', ⟨Nat.le_refl _⟩, by repeat (first | exact Drawn0.refl _ | apply Drawn0.step)⟩
        case round =>
          clear H'
          try clear c2
          try clear p2
          try clear c3
          try clear c4
          try clear c4b0
          try clear c5
          try clear c5b0
          try clear p6
          try clear q6
          try clear hx6
          try clear c7
          try clear p2
          try clear p6
          try clear q6
          obtain ⟨x6_2, rfl, HA, HK2, ⟨m2, rfl⟩⟩ := hrel
          cases gk with
          | zero => exact absurd HA.out (by simp [longcaseref08_word.l0])
          | succ k2 =>
            have H := HA.out
            clear HA
            simp only [longcaseref08_word.l0] at H
            by_cases c8 : x6_2 < (a0.size : Int)
            · rw [if_pos c8] at H
              have c8b0 : decide (x6_2 < (a0.size : Int)) = true := decide_eq_true c8
              clear c8
              by_cases c9 : 0 ≤ x6_2
              · rw [if_pos c9] at H
                have c9b0 : decide (0 ≤ x6_2) = true := decide_eq_true c9
                clear c9
                by_cases c11 : (bt a0 x6_2) = 62
                · rw [if_pos c11] at H
                  have c11b0 : ((bt a0 x6_2) == 62) = true := beq_iff_eq.mpr c11
                  have c11b1 : ((bt a0 x6_2) != 62) = false := bne_eq_false_iff_eq.mpr c11
                  clear c11
                  by_cases c12 : x6_2 = (a0.size : Int)
                  · rw [if_pos c12] at H
                    have c12b0 : (x6_2 == (a0.size : Int)) = true := beq_iff_eq.mpr c12
                    have c12b1 : (x6_2 != (a0.size : Int)) = false := bne_eq_false_iff_eq.mpr c12
                    clear c12
                    simp only [Option.some.injEq, Prod.mk.injEq] at H
                    obtain ⟨rfl, rfl⟩ := H
                    have p10 : 0 ≤ (x6_2 : Int) := of_decide_eq_true (by first | (with_reducible assumption) | assumption)
                    have q10 : x6_2 < (a0.size : Int) := of_decide_eq_true (by first | (with_reducible assumption) | assumption)
                    have hx10 := bt_at a0 x6_2
                    replace p10 := eq_true p10
                    replace q10 := eq_true q10
                    go_wp2
                    go_ret2
                    exact ⟨by first | rfl | (simp; done) | (simp [*]; done), by repeat (first | exact Drawn0.refl _ | apply Drawn0.step)⟩
                  · rw [if_neg c12] at H
                    have c12b0 : (x6_2 == (a0.size : Int)) = false := beq_eq_false_iff_ne.mpr c12
                    have c12b1 : (x6_2 != (a0.size : Int)) = true := bne_iff_ne.mpr c12
                    obtain ⟨ji13, hji13⟩ : ∃ j_ : Int, (wrap64 (a1 + 1)) = j_ := ⟨_, rfl⟩
                    replace H : (if 0 ≤ (ji13) then (if (ji13) ≤ x6_2 then (if x6_2 ≤ (a0.size : Int) then ((longcaseref08_name.f k2 (a0.extract ((ji13) : Int).toNat (x6_2 : Int).toNat)).bind fun t217 => (if t217 = true then (some (a0.extract ((ji13) : Int).toNat (x6_2 : Int).toNat, wrap64 (x6_2 + 1))) else (some ((⟨#[]⟩ : ByteArray), (-1))))) else (none)) else (none)) else (none)) = some (r1, r2) := by first | (rw [hji13] at H; exact H) | (simp only [hji13] at H ⊢; exact H)
                    have hji13w : (IntKind.i64.wrap (a1 + 1)) = ji13 := (i64_w _).trans hji13
                    by_cases c14 : 0 ≤ (ji13)
                    · rw [if_pos c14] at H
                      have c14b0 := eq_true c14
                      have c14b1 : decide (0 ≤ (ji13)) = true := decide_eq_true c14
                      clear c14
                      by_cases c15 : (ji13) ≤ x6_2
                      · rw [if_pos c15] at H
                        have c15b0 := eq_true c15
                        have c15b1 : decide ((ji13) ≤ x6_2) = true := decide_eq_true c15
                        clear c15
                        by_cases c16 : x6_2 ≤ (a0.size : Int)
                        · rw [if_pos c16] at H
                          have c16b0 := eq_true c16
                          have c16b1 : decide (x6_2 ≤ (a0.size : Int)) = true := decide_eq_true c16
                          clear c16
                          replace H := Option.bind_eq_some_iff.mp H
                          obtain ⟨t217, A170, H⟩ := H
                          replace H : (if t217 = true then (some (a0.extract ((ji13) : Int).toNat (x6_2 : Int).toNat, wrap64 (x6_2 + 1))) else (some ((⟨#[]⟩ : ByteArray), (-1)))) = some (r1, r2) := H
                          have A17 := Aside0.mk A170
                          clear A170
                          by_cases c18 : t217 = true
                          · subst c18
                            have H1 : (some (a0.extract ((ji13) : Int).toNat (x6_2 : Int).toNat, wrap64 (x6_2 + 1))) = some (r1, r2) := by rw [if_pos rfl] at H; exact H
                            clear H
                            have H := H1
                            clear H1
                            have c19b0 := eq_true (of_decide_eq_true (by first | (with_reducible assumption) | assumption) : 0 ≤ (ji13))
                            have c20b0 := eq_true (of_decide_eq_true (by first | (with_reducible assumption) | assumption) : (ji13) ≤ x6_2)
                            have c21b0 := eq_true (of_decide_eq_true (by first | (with_reducible assumption) | assumption) : x6_2 ≤ (a0.size : Int))
                            simp only [Option.some.injEq, Prod.mk.injEq] at H
                            obtain ⟨rfl, rfl⟩ := H
                            have p10 : 0 ≤ (x6_2 : Int) := of_decide_eq_true (by first | (with_reducible assumption) | assumption)
                            have q10 : x6_2 < (a0.size : Int) := of_decide_eq_true (by first | (with_reducible assumption) | assumption)
                            have hx10 := bt_at a0 x6_2
                            replace p10 := eq_true p10
                            replace q10 := eq_true q10
                            go_wp2_with (first | (go_at_call 22; (with_reducible refine (longcaseref08_name.calls k2 (a0.extract ((ji13) : Int).toNat (x6_2 : Int).toNat) true _ A17.out).mono ?_); rintro e w' ⟨rfl, ⟨nd, rfl⟩⟩))
                            go_ret2
                            exact ⟨by first | rfl | (simp; done) | (simp only [← hji13] <;> (first | rfl | simp)) | (simp [*]; done), by repeat (first | exact Drawn0.refl _ | apply Drawn0.step)⟩
                          · replace c18 := Bool.eq_false_iff.mpr c18
                            subst c18
                            have H1 : (some ((⟨#[]⟩ : ByteArray), (-1))) = some (r1, r2) := by rw [if_neg (show ¬ (false = true) by decide)] at H; exact H
                            clear H
                            have H := H1
                            clear H1
                            simp only [Option.some.injEq, Prod.mk.injEq] at H
                            obtain ⟨rfl, rfl⟩ := H
                            have p10 : 0 ≤ (x6_2 : Int) := of_decide_eq_true (by first | (with_reducible assumption) | assumption)
                            have q10 : x6_2 < (a0.size : Int) := of_decide_eq_true (by first | (with_reducible assumption) | assumption)
                            have hx10 := bt_at a0 x6_2
                            replace p10 := eq_true p10
                            replace q10 := eq_true q10
                            go_wp2_with (first | (go_at_call 22; (with_reducible refine (longcaseref08_name.calls k2 (a0.extract ((ji13) : Int).toNat (x6_2 : Int).toNat) false _ A17.out).mono ?_); rintro e w' ⟨rfl, ⟨nd, rfl⟩⟩))
                            go_ret2
                            exact ⟨by first | rfl | (simp; done) | (simp only [← hji13] <;> (first | rfl | simp)) | (simp [*]; done), by repeat (first | exact Drawn0.refl _ | apply Drawn0.step)⟩
                        · rw [if_neg c16] at H
                          exact absurd H (by simp)
                      · rw [if_neg c15] at H
                        exact absurd H (by simp)
                    · rw [if_neg c14] at H
                      exact absurd H (by simp)
                · rw [if_neg c11] at H
                  have c11b0 : ((bt a0 x6_2) == 62) = false := beq_eq_false_iff_ne.mpr c11
                  have c11b1 : ((bt a0 x6_2) != 62) = true := bne_iff_ne.mpr c11
                  have H' := Aside0.mk H
                  clear H
                  have p10 : 0 ≤ (x6_2 : Int) := of_decide_eq_true (by first | (with_reducible assumption) | assumption)
                  have q10 : x6_2 < (a0.size : Int) := of_decide_eq_true (by first | (with_reducible assumption) | assumption)
                  have hx10 := bt_at a0 x6_2
                  replace p10 := eq_true p10
                  replace q10 := eq_true q10
                  go_wp2
                  go_roundg k2
                  case measure => have := HJ2.out; have := HK2.out; omega
                  case rel => exact ⟨(wrap64 (x6_2 + 1)), (by first | rfl | (simp; done) | (simp [*]; done)), H', ⟨by have := HJ2.out; have := HK2.out; omega⟩, by repeat (first | exact Drawn0.refl _ | apply Drawn0.step)⟩
              · rw [if_neg c9] at H
                exact absurd H (by simp)
            · rw [if_neg c8] at H
              have c8b0 : decide (x6_2 < (a0.size : Int)) = false := decide_eq_false c8
              clear c8
              by_cases c22 : x6_2 = (a0.size : Int)
              · rw [if_pos c22] at H
                have c22b0 : (x6_2 == (a0.size : Int)) = true := beq_iff_eq.mpr c22
                have c22b1 : (x6_2 != (a0.size : Int)) = false := bne_eq_false_iff_eq.mpr c22
                clear c22
                simp only [Option.some.injEq, Prod.mk.injEq] at H
                obtain ⟨rfl, rfl⟩ := H
                go_wp2
                go_ret2
                exact ⟨by first | rfl | (simp; done) | (simp [*]; done), by repeat (first | exact Drawn0.refl _ | apply Drawn0.step)⟩
              · rw [if_neg c22] at H
                have c22b0 : (x6_2 == (a0.size : Int)) = false := beq_eq_false_iff_ne.mpr c22
                have c22b1 : (x6_2 != (a0.size : Int)) = true := bne_iff_ne.mpr c22
                obtain ⟨ji23, hji23⟩ : ∃ j_ : Int, (wrap64 (a1 + 1)) = j_ := ⟨_, rfl⟩
                replace H : (if 0 ≤ (ji23) then (if (ji23) ≤ x6_2 then (if x6_2 ≤ (a0.size : Int) then ((longcaseref08_name.f k2 (a0.extract ((ji23) : Int).toNat (x6_2 : Int).toNat)).bind fun t218 => (if t218 = true then (some (a0.extract ((ji23) : Int).toNat (x6_2 : Int).toNat, wrap64 (x6_2 + 1))) else (some ((⟨#[]⟩ : ByteArray), (-1))))) else (none)) else (none)) else (none)) = some (r1, r2) := by first | (rw [hji23] at H; exact H) | (simp only [hji23] at H ⊢; exact H)
                have hji23w : (IntKind.i64.wrap (a1 + 1)) = ji23 := (i64_w _).trans hji23
                by_cases c24 : 0 ≤ (ji23)
                · rw [if_pos c24] at H
                  have c24b0 := eq_true c24
                  have c24b1 : decide (0 ≤ (ji23)) = true := decide_eq_true c24
                  clear c24
                  by_cases c25 : (ji23) ≤ x6_2
                  · rw [if_pos c25] at H
                    have c25b0 := eq_true c25
                    have c25b1 : decide ((ji23) ≤ x6_2) = true := decide_eq_true c25
                    clear c25
                    by_cases c26 : x6_2 ≤ (a0.size : Int)
                    · rw [if_pos c26] at H
                      have c26b0 := eq_true c26
                      have c26b1 : decide (x6_2 ≤ (a0.size : Int)) = true := decide_eq_true c26
                      clear c26
                      replace H := Option.bind_eq_some_iff.mp H
                      obtain ⟨t218, A270, H⟩ := H
                      replace H : (if t218 = true then (some (a0.extract ((ji23) : Int).toNat (x6_2 : Int).toNat, wrap64 (x6_2 + 1))) else (some ((⟨#[]⟩ : ByteArray), (-1)))) = some (r1, r2) := H
                      have A27 := Aside0.mk A270
                      clear A270
                      by_cases c28 : t218 = true
                      · subst c28
                        have H1 : (some (a0.extract ((ji23) : Int).toNat (x6_2 : Int).toNat, wrap64 (x6_2 + 1))) = some (r1, r2) := by rw [if_pos rfl] at H; exact H
                        clear H
                        have H := H1
                        clear H1
                        have c29b0 := eq_true (of_decide_eq_true (by first | (with_reducible assumption) | assumption) : 0 ≤ (ji23))
                        have c30b0 := eq_true (of_decide_eq_true (by first | (with_reducible assumption) | assumption) : (ji23) ≤ x6_2)
                        have c31b0 := eq_true (of_decide_eq_true (by first | (with_reducible assumption) | assumption) : x6_2 ≤ (a0.size : Int))
                        simp only [Option.some.injEq, Prod.mk.injEq] at H
                        obtain ⟨rfl, rfl⟩ := H
                        go_wp2_with (first | (go_at_call 22; (with_reducible refine (longcaseref08_name.calls k2 (a0.extract ((ji23) : Int).toNat (x6_2 : Int).toNat) true _ A27.out).mono ?_); rintro e w' ⟨rfl, ⟨nd, rfl⟩⟩))
                        go_ret2
                        exact ⟨by first | rfl | (simp; done) | (simp only [← hji23] <;> (first | rfl | simp)) | (simp [*]; done), by repeat (first | exact Drawn0.refl _ | apply Drawn0.step)⟩
                      · replace c28 := Bool.eq_false_iff.mpr c28
                        subst c28
                        have H1 : (some ((⟨#[]⟩ : ByteArray), (-1))) = some (r1, r2) := by rw [if_neg (show ¬ (false = true) by decide)] at H; exact H
                        clear H
                        have H := H1
                        clear H1
                        simp only [Option.some.injEq, Prod.mk.injEq] at H
                        obtain ⟨rfl, rfl⟩ := H
                        go_wp2_with (first | (go_at_call 22; (with_reducible refine (longcaseref08_name.calls k2 (a0.extract ((ji23) : Int).toNat (x6_2 : Int).toNat) false _ A27.out).mono ?_); rintro e w' ⟨rfl, ⟨nd, rfl⟩⟩))
                        go_ret2
                        exact ⟨by first | rfl | (simp; done) | (simp only [← hji23] <;> (first | rfl | simp)) | (simp [*]; done), by repeat (first | exact Drawn0.refl _ | apply Drawn0.step)⟩
                    · rw [if_neg c26] at H
                      exact absurd H (by simp)
                  · rw [if_neg c25] at H
                    exact absurd H (by simp)
                · rw [if_neg c24] at H
                  exact absurd H (by simp)
      · replace c7 := Bool.eq_false_iff.mpr c7
        subst c7
        have H1 : (longcaseref08_word.l1 kj2 a0 a1 a1) = some (r1, r2) := by rw [if_neg (show ¬ (false = true) by decide)] at H; exact H
        clear H
        have H := H1
        clear H1
        have H' := Aside0.mk H
        clear H
        go_wp2
        go_loopg [7] kj2 (fun kq v7 w' => ∃ (x7_2 : Int), v7 = .int .i64 x7_2 ∧ Aside0 (longcaseref08_word.l1 kq a0 a1 x7_2 = some (r1, r2)) ∧ Aside0 (kq ≤ kj2) ∧ Drawn0 w w')
        case atStart => exact ⟨(a1), (by first | rfl | (simp; done) | (simp [*]; done)), H', ⟨Nat.le_refl _⟩, by repeat (first | exact Drawn0.refl _ | apply Drawn0.step)⟩
        case round =>
          clear H'
          try clear c1
          try clear p1
          try clear q1
          try clear hx1
          try clear c2
          try clear p2
          try clear c3
          try clear c4
          try clear c4b0
          try clear c5
          try clear c5b0
          try clear p6
          try clear q6
          try clear hx6
          try clear c7
          try clear c8
          try clear c8b0
          try clear c9
          try clear c9b0
          try clear p10
          try clear q10
          try clear hx10
          try clear c11
          try clear c11b0
          try clear c11b1
          try clear c12
          try clear c12b0
          try clear c12b1
          try clear c14
          try clear c14b0
          try clear c14b1
          try clear c15
          try clear c15b0
          try clear c15b1
          try clear c16
          try clear c16b0
          try clear c16b1
          try clear c18
          try clear c19
          try clear c19b0
          try clear c20
          try clear c20b0
          try clear c21
          try clear c21b0
          try clear c22
          try clear c22b0
          try clear c22b1
          try clear c24
          try clear c24b0
          try clear c24b1
          try clear c25
          try clear c25b0
          try clear c25b1
          try clear c26
          try clear c26b0
          try clear c26b1
          try clear c28
          try clear c29
          try clear c29b0
          try clear c30
          try clear c30b0
          try clear c31
          try clear c31b0
          try clear p10
          try clear p2
          try clear p6
          try clear q10
          try clear q6
          obtain ⟨x7_2, rfl, HA, HK2, ⟨m2, rfl⟩⟩ := hrel
          cases gk with
          | zero => exact absurd HA.out (by simp [longcaseref08_word.l1])
          | succ k2 =>
            have H := HA.out
            clear HA
            simp only [longcaseref08_word.l1] at H
            by_cases c32 : x7_2 < (a0.size : Int)
            · rw [if_pos c32] at H
              have c32b0 : decide (x7_2 < (a0.size : Int)) = true := decide_eq_true c32
              clear c32
              by_cases c33 : 0 ≤ x7_2
              · rw [if_pos c33] at H
                have c33b0 : decide (0 ≤ x7_2) = true := decide_eq_true c33
                clear c33
                replace H := Option.bind_eq_some_iff.mp H
                obtain ⟨t219, A350, H⟩ := H
                replace H : (if t219 = true then (longcaseref08_word.l1 k2 a0 a1 (wrap64 (x7_2 + 1))) else (if 0 ≤ a1 then (if a1 ≤ x7_2 then (if x7_2 ≤ (a0.size : Int) then ((longcaseref08_name.f k2 (a0.extract (a1 : Int).toNat (x7_2 : Int).toNat)).bind fun t220 => (if t220 = true then (some (a0.extract (a1 : Int).toNat (x7_2 : Int).toNat, x7_2)) else (some ((⟨#[]⟩ : ByteArray), (-1))))) else (none)) else (none)) else (none))) = some (r1, r2) := H
                have A35 := Aside0.mk A350
                clear A350
                by_cases c36 : t219 = true
                · subst c36
                  have H1 : (longcaseref08_word.l1 k2 a0 a1 (wrap64 (x7_2 + 1))) = some (r1, r2) := by rw [if_pos rfl] at H; exact H
                  clear H
                  have H := H1
                  clear H1
                  have H' := Aside0.mk H
                  clear H
                  have p34 : 0 ≤ (x7_2 : Int) := of_decide_eq_true (by first | (with_reducible assumption) | assumption)
                  have q34 : x7_2 < (a0.size : Int) := of_decide_eq_true (by first | (with_reducible assumption) | assumption)
                  have hx34 := bt_at a0 x7_2
                  replace p34 := eq_true p34
                  replace q34 := eq_true q34
                  go_wp2_with (first | (go_at_call 40; (with_reducible refine (longcaseref08_letter.calls (bt a0 x7_2) true _ A35.out).mono ?_); rintro e w' ⟨rfl, ⟨nd, rfl⟩⟩))
                  go_roundg k2
                  case measure => have := HJ2.out; have := HK2.out; omega
                  case rel => exact ⟨(wrap64 (x7_2 + 1)), (by first | rfl | (simp; done) | (simp [*]; done)), H', ⟨by have := HJ2.out; have := HK2.out; omega⟩, by repeat (first | exact Drawn0.refl _ | apply Drawn0.step)⟩
                · replace c36 := Bool.eq_false_iff.mpr c36
                  subst c36
                  have H1 : (if 0 ≤ a1 then (if a1 ≤ x7_2 then (if x7_2 ≤ (a0.size : Int) then ((longcaseref08_name.f k2 (a0.extract (a1 : Int).toNat (x7_2 : Int).toNat)).bind fun t220 => (if t220 = true then (some (a0.extract (a1 : Int).toNat (x7_2 : Int).toNat, x7_2)) else (some ((⟨#[]⟩ : ByteArray), (-1))))) else (none)) else (none)) else (none)) = some (r1, r2) := by rw [if_neg (show ¬ (false = true) by decide)] at H; exact H
                  clear H
                  have H := H1
                  clear H1
                  by_cases c37 : 0 ≤ a1
                  · rw [if_pos c37] at H
                    have c37b0 := eq_true c37
                    have c37b1 : decide (0 ≤ a1) = true := decide_eq_true c37
                    clear c37
                    by_cases c38 : a1 ≤ x7_2
                    · rw [if_pos c38] at H
                      have c38b0 := eq_true c38
                      have c38b1 : decide (a1 ≤ x7_2) = true := decide_eq_true c38
                      clear c38
                      by_cases c39 : x7_2 ≤ (a0.size : Int)
                      · rw [if_pos c39] at H
                        have c39b0 := eq_true c39
                        have c39b1 : decide (x7_2 ≤ (a0.size : Int)) = true := decide_eq_true c39
                        clear c39
                        replace H := Option.bind_eq_some_iff.mp H
                        obtain ⟨t220, A400, H⟩ := H
                        replace H : (if t220 = true then (some (a0.extract (a1 : Int).toNat (x7_2 : Int).toNat, x7_2)) else (some ((⟨#[]⟩ : ByteArray), (-1)))) = some (r1, r2) := H
                        have A40 := Aside0.mk A400
                        clear A400
                        by_cases c41 : t220 = true
                        · subst c41
                          have H1 : (some (a0.extract (a1 : Int).toNat (x7_2 : Int).toNat, x7_2)) = some (r1, r2) := by rw [if_pos rfl] at H; exact H
                          clear H
                          have H := H1
                          clear H1
                          have c42b0 := eq_true (of_decide_eq_true (by first | (with_reducible assumption) | assumption) : 0 ≤ a1)
                          have c43b0 := eq_true (of_decide_eq_true (by first | (with_reducible assumption) | assumption) : a1 ≤ x7_2)
                          have c44b0 := eq_true (of_decide_eq_true (by first | (with_reducible assumption) | assumption) : x7_2 ≤ (a0.size : Int))
                          simp only [Option.some.injEq, Prod.mk.injEq] at H
                          obtain ⟨rfl, rfl⟩ := H
                          have p34 : 0 ≤ (x7_2 : Int) := of_decide_eq_true (by first | (with_reducible assumption) | assumption)
                          have q34 : x7_2 < (a0.size : Int) := of_decide_eq_true (by first | (with_reducible assumption) | assumption)
                          have hx34 := bt_at a0 x7_2
                          replace p34 := eq_true p34
                          replace q34 := eq_true q34
                          go_wp2_with (first | (go_at_call 40; (with_reducible refine (longcaseref08_letter.calls (bt a0 x7_2) false _ A35.out).mono ?_); rintro e w' ⟨rfl, ⟨nd, rfl⟩⟩) | ((with_reducible refine gate_callee (f := 22) rfl ?_); refine goesL_ (some 69) rfl rfl Tryd.func22 (by kernel_rfl) rfl #[.string (a0.extract (a1 : Int).toNat (x7_2 : Int).toNat)] rfl (by (try simp only [List.map_toArray, List.map_cons, List.map_nil]); first | done | rfl | (simp only [List.length_drop, List.length_take]; rfl)) ?_; (with_reducible refine (longcaseref08_name.calls k2 (a0.extract (a1 : Int).toNat (x7_2 : Int).toNat) true _ A40.out).mono ?_); rintro e w' ⟨rfl, ⟨nd, rfl⟩⟩; refine ⟨_, rfl, ?_⟩))
                          go_ret2
                          exact ⟨by first | rfl | (simp; done) | (simp [*]; done), by repeat (first | exact Drawn0.refl _ | apply Drawn0.step)⟩
                        · replace c41 := Bool.eq_false_iff.mpr c41
                          subst c41
                          have H1 : (some ((⟨#[]⟩ : ByteArray), (-1))) = some (r1, r2) := by rw [if_neg (show ¬ (false = true) by decide)] at H; exact H
                          clear H
                          have H := H1
                          clear H1
                          simp only [Option.some.injEq, Prod.mk.injEq] at H
                          obtain ⟨rfl, rfl⟩ := H
                          have p34 : 0 ≤ (x7_2 : Int) := of_decide_eq_true (by first | (with_reducible assumption) | assumption)
                          have q34 : x7_2 < (a0.size : Int) := of_decide_eq_true (by first | (with_reducible assumption) | assumption)
                          have hx34 := bt_at a0 x7_2
                          replace p34 := eq_true p34
                          replace q34 := eq_true q34
                          go_wp2_with (first | (go_at_call 40; (with_reducible refine (longcaseref08_letter.calls (bt a0 x7_2) false _ A35.out).mono ?_); rintro e w' ⟨rfl, ⟨nd, rfl⟩⟩) | ((with_reducible refine gate_callee (f := 22) rfl ?_); refine goesL_ (some 69) rfl rfl Tryd.func22 (by kernel_rfl) rfl #[.string (a0.extract (a1 : Int).toNat (x7_2 : Int).toNat)] rfl (by (try simp only [List.map_toArray, List.map_cons, List.map_nil]); first | done | rfl | (simp only [List.length_drop, List.length_take]; rfl)) ?_; (with_reducible refine (longcaseref08_name.calls k2 (a0.extract (a1 : Int).toNat (x7_2 : Int).toNat) false _ A40.out).mono ?_); rintro e w' ⟨rfl, ⟨nd, rfl⟩⟩; refine ⟨_, rfl, ?_⟩))
                          go_ret2
                          exact ⟨by first | rfl | (simp; done) | (simp [*]; done), by repeat (first | exact Drawn0.refl _ | apply Drawn0.step)⟩
                      · rw [if_neg c39] at H
                        exact absurd H (by simp)
                    · rw [if_neg c38] at H
                      exact absurd H (by simp)
                  · rw [if_neg c37] at H
                    exact absurd H (by simp)
              · rw [if_neg c33] at H
                exact absurd H (by simp)
            · rw [if_neg c32] at H
              have c32b0 : decide (x7_2 < (a0.size : Int)) = false := decide_eq_false c32
              clear c32
              by_cases c45 : 0 ≤ a1
              · rw [if_pos c45] at H
                have c45b0 := eq_true c45
                have c45b1 : decide (0 ≤ a1) = true := decide_eq_true c45
                clear c45
                by_cases c46 : a1 ≤ x7_2
                · rw [if_pos c46] at H
                  have c46b0 := eq_true c46
                  have c46b1 : decide (a1 ≤ x7_2) = true := decide_eq_true c46
                  clear c46
                  by_cases c47 : x7_2 ≤ (a0.size : Int)
                  · rw [if_pos c47] at H
                    have c47b0 := eq_true c47
                    have c47b1 : decide (x7_2 ≤ (a0.size : Int)) = true := decide_eq_true c47
                    clear c47
                    replace H := Option.bind_eq_some_iff.mp H
                    obtain ⟨t221, A480, H⟩ := H
                    replace H : (if t221 = true then (some (a0.extract (a1 : Int).toNat (x7_2 : Int).toNat, x7_2)) else (some ((⟨#[]⟩ : ByteArray), (-1)))) = some (r1, r2) := H
                    have A48 := Aside0.mk A480
                    clear A480
                    by_cases c49 : t221 = true
                    · subst c49
                      have H1 : (some (a0.extract (a1 : Int).toNat (x7_2 : Int).toNat, x7_2)) = some (r1, r2) := by rw [if_pos rfl] at H; exact H
                      clear H
                      have H := H1
                      clear H1
                      have c50b0 := eq_true (of_decide_eq_true (by first | (with_reducible assumption) | assumption) : 0 ≤ a1)
                      have c51b0 := eq_true (of_decide_eq_true (by first | (with_reducible assumption) | assumption) : a1 ≤ x7_2)
                      have c52b0 := eq_true (of_decide_eq_true (by first | (with_reducible assumption) | assumption) : x7_2 ≤ (a0.size : Int))
                      simp only [Option.some.injEq, Prod.mk.injEq] at H
                      obtain ⟨rfl, rfl⟩ := H
                      go_wp2_with (first | ((with_reducible refine gate_callee (f := 22) rfl ?_); refine goesL_ (some 69) rfl rfl Tryd.func22 (by kernel_rfl) rfl #[.string (a0.extract (a1 : Int).toNat (x7_2 : Int).toNat)] rfl (by (try simp only [List.map_toArray, List.map_cons, List.map_nil]); first | done | rfl | (simp only [List.length_drop, List.length_take]; rfl)) ?_; (with_reducible refine (longcaseref08_name.calls k2 (a0.extract (a1 : Int).toNat (x7_2 : Int).toNat) true _ A48.out).mono ?_); rintro e w' ⟨rfl, ⟨nd, rfl⟩⟩; refine ⟨_, rfl, ?_⟩))
                      go_ret2
                      exact ⟨by first | rfl | (simp; done) | (simp [*]; done), by repeat (first | exact Drawn0.refl _ | apply Drawn0.step)⟩
                    · replace c49 := Bool.eq_false_iff.mpr c49
                      subst c49
                      have H1 : (some ((⟨#[]⟩ : ByteArray), (-1))) = some (r1, r2) := by rw [if_neg (show ¬ (false = true) by decide)] at H; exact H
                      clear H
                      have H := H1
                      clear H1
                      simp only [Option.some.injEq, Prod.mk.injEq] at H
                      obtain ⟨rfl, rfl⟩ := H
                      go_wp2_with (first | ((with_reducible refine gate_callee (f := 22) rfl ?_); refine goesL_ (some 69) rfl rfl Tryd.func22 (by kernel_rfl) rfl #[.string (a0.extract (a1 : Int).toNat (x7_2 : Int).toNat)] rfl (by (try simp only [List.map_toArray, List.map_cons, List.map_nil]); first | done | rfl | (simp only [List.length_drop, List.length_take]; rfl)) ?_; (with_reducible refine (longcaseref08_name.calls k2 (a0.extract (a1 : Int).toNat (x7_2 : Int).toNat) false _ A48.out).mono ?_); rintro e w' ⟨rfl, ⟨nd, rfl⟩⟩; refine ⟨_, rfl, ?_⟩))
                      go_ret2
                      exact ⟨by first | rfl | (simp; done) | (simp [*]; done), by repeat (first | exact Drawn0.refl _ | apply Drawn0.step)⟩
                  · rw [if_neg c47] at H
                    exact absurd H (by simp)
                · rw [if_neg c46] at H
                  exact absurd H (by simp)
              · rw [if_neg c45] at H
                exact absurd H (by simp)
end Go.Proofs.YtnbjneknicppcaaDoor.Fn
