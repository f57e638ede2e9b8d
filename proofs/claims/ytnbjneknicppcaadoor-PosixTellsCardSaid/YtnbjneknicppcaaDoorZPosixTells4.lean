/- Part 4 of the texts for LPosixTells: contracts and plain laws that it leans on. -/
import Derived.Test.YtnbjneknicppcaaDoorZPosixTells2
import Derived.Test.YtnbjneknicppcaaDoorZPosixTells3
namespace Go.Proofs.YtnbjneknicppcaaDoor.Fn
open Go.RowKit Go.Proofs.YtnbjneknicppcaaDoorW.PrintWords Go.Proofs.YtnbjneknicppcaaDoorW.PrintLast Go.Proofs.YtnbjneknicppcaaDoorW.PrintMore
attribute [local go_sem] min2_int min_two
set_option linter.unusedVariables false
set_option linter.unusedSimpArgs false
/-! ### longcaseref08_hours: function 33 -/
def longcaseref08_hours.j0 : Nat → Int → ByteArray → Option (ByteArray)
  | 0, _, _ => none
  | k + 1, x0, x3 => (longcaseref08_number.f k (wrap64 (Int.tdiv x0 3600))).bind fun t197 => (if x3.size + t197.size ≤ 9223372036854775807 then (if (Int.tmod x0 3600) = 0 then (if (Int.tmod x0 60) = 0 then (some (x3 ++ t197)) else (if (x3 ++ t197).size + 1 ≤ 9223372036854775807 then ((longcaseref08_two.f (Int.tmod x0 60)).bind fun t198 => (if ((x3 ++ t197) ++ (⟨#[58]⟩ : ByteArray)).size + t198.size ≤ 9223372036854775807 then (some (((x3 ++ t197) ++ (⟨#[58]⟩ : ByteArray)) ++ t198)) else (none))) else (none))) else (if (x3 ++ t197).size + 1 ≤ 9223372036854775807 then ((longcaseref08_two.f (Int.tmod (wrap64 (Int.tdiv x0 60)) 60)).bind fun t199 => (if ((x3 ++ t197) ++ (⟨#[58]⟩ : ByteArray)).size + t199.size ≤ 9223372036854775807 then (if (Int.tmod x0 60) = 0 then (some (((x3 ++ t197) ++ (⟨#[58]⟩ : ByteArray)) ++ t199)) else (if (((x3 ++ t197) ++ (⟨#[58]⟩ : ByteArray)) ++ t199).size + 1 ≤ 9223372036854775807 then ((longcaseref08_two.f (Int.tmod x0 60)).bind fun t200 => (if ((((x3 ++ t197) ++ (⟨#[58]⟩ : ByteArray)) ++ t199) ++ (⟨#[58]⟩ : ByteArray)).size + t200.size ≤ 9223372036854775807 then (some (((((x3 ++ t197) ++ (⟨#[58]⟩ : ByteArray)) ++ t199) ++ (⟨#[58]⟩ : ByteArray)) ++ t200)) else (none))) else (none))) else (none))) else (none))) else (none))
def longcaseref08_hours.f (k : Nat) (a0 : Int) : Option (ByteArray) := if a0 < 0 then (longcaseref08_hours.j0 k (wrap64 (-a0)) (⟨#[45]⟩ : ByteArray)) else (longcaseref08_hours.j0 k a0 (⟨#[]⟩ : ByteArray))
theorem longcaseref08_hours.mono_l : ∀ k, (∀ y0 y1, LeO (longcaseref08_hours.j0 k y0 y1) (longcaseref08_hours.j0 (k + 1) y0 y1))
  | 0 => fun _ _ r h => by simp [longcaseref08_hours.j0] at h
  | k + 1 => by
    have ih0 := longcaseref08_hours.mono_l k
    · intro y0 y1
      unfold longcaseref08_hours.j0
      repeat' first
      | (with_reducible exact ih0 _ _)
      | (with_reducible exact longcaseref08_number.mono _ _)
      | (with_reducible exact LeO.refl _)
      | (with_reducible exact LeO.none _)
      | (with_reducible refine LeO.ite ?_ ?_)
      | (with_reducible refine LeO.bind ?_ (fun _ => ?_))
      | exact ih0 _ _
      | exact longcaseref08_number.mono _ _
      | exact LeO.none _
      | refine LeO.ite ?_ ?_
      | refine LeO.bind ?_ (fun _ => ?_)
theorem longcaseref08_hours.mono : ∀ a0 k, LeO (longcaseref08_hours.f k a0) (longcaseref08_hours.f (k + 1) a0) := by
  intro a0 k
  have ih0 := longcaseref08_hours.mono_l k
  unfold longcaseref08_hours.f
  repeat' first
      | (with_reducible exact ih0 _ _)
      | (with_reducible exact longcaseref08_number.mono _ _)
      | (with_reducible exact LeO.refl _)
      | (with_reducible exact LeO.none _)
      | (with_reducible refine LeO.ite ?_ ?_)
      | (with_reducible refine LeO.bind ?_ (fun _ => ?_))
      | exact ih0 _ _
      | exact longcaseref08_number.mono _ _
      | exact LeO.none _
      | refine LeO.ite ?_ ?_
      | refine LeO.bind ?_ (fun _ => ?_)
set_option maxHeartbeats 8000000 in
set_option maxRecDepth 100000 in
theorem longcaseref08_hours.calls (k : Nat) (a0 : Int) (r : ByteArray) (w : World) (h : longcaseref08_hours.f k a0 = some r) :
    Calls Tryd.prog 33 #[.int .i64 a0] w fun e w' => e = .returned (.string r) ∧ Below w.heap.size w w' := by
  have HB := Aside0.mk (Below.refl w.heap.size w)
  have H : (if a0 < 0 then (longcaseref08_hours.j0 k (wrap64 (-a0)) (⟨#[45]⟩ : ByteArray)) else (longcaseref08_hours.j0 k a0 (⟨#[]⟩ : ByteArray))) = some r := h
  clear h
  have HC2 := Aside0.mk H
  clear H
  go_enter Tryd.func33, Tryd.ntmps33
  go_upto_if 5 with (fail)
  go_cut [0, 3] (fun v0 v3 wc => ∃ (kq : Nat) (x0_1 : Int) (x3_1 : ByteArray), v0 = .int .i64 x0_1 ∧ v3 = .string x3_1 ∧ Aside0 (longcaseref08_hours.j0 kq x0_1 x3_1 = some r) ∧ Aside0 (kq ≤ k) ∧ Aside0 (Below w.heap.size w wc))
  case first =>
    have H := HC2.out
    clear HC2
    by_cases c3 : a0 < 0
    · rw [if_pos c3] at H
      have c3b0 : decide (a0 < 0) = true := decide_eq_true c3
      clear c3
      (first | rw [c3b0] | (simp only [i64_w, i32_w]; rw [c3b0]) | skip)
      have H' := Aside0.mk H
      clear H
      go_wp2
      go_meet
      case rel => exact ⟨_, (wrap64 (-a0)), ((⟨#[45]⟩ : ByteArray)), (by first | rfl | (simp; done) | (simp [*]; done)), (by first | rfl | (simp; done) | (simp [*]; done)), H', ⟨by first | omega | exact Nat.le_refl _⟩, ⟨by repeat (first | (with_reducible first | exact HB.out | apply below_alloc | apply pw_below_drewN | apply below_drew1) | exact HB.out)⟩⟩
    · rw [if_neg c3] at H
      have c3b0 : decide (a0 < 0) = false := decide_eq_false c3
      clear c3
      (first | rw [c3b0] | (simp only [i64_w, i32_w]; rw [c3b0]) | skip)
      have H' := Aside0.mk H
      clear H
      go_wp2
      go_meet
      case rel => exact ⟨_, (a0), ((⟨#[]⟩ : ByteArray)), (by first | rfl | (simp; done) | (simp [*]; done)), (by first | rfl | (simp; done) | (simp [*]; done)), H', ⟨by first | omega | exact Nat.le_refl _⟩, ⟨by repeat (first | (with_reducible first | exact HB.out | apply below_alloc | apply pw_below_drewN | apply below_drew1) | exact HB.out)⟩⟩
  case rest =>
    clear HC2
    try clear p2
    try clear c3
    try clear c3b0
    obtain ⟨kq, x0_1, x3_1, rfl, rfl, HA, HJ1, HB⟩ := hcut
    cases kq with
    | zero => exact absurd HA.out (by simp [longcaseref08_hours.j0])
    | succ kj1 =>
      have H := HA.out
      clear HA
      simp only [longcaseref08_hours.j0] at H
      replace H := Option.bind_eq_some_iff.mp H
      obtain ⟨t197, A40, H⟩ := H
      replace H : (if x3_1.size + t197.size ≤ 9223372036854775807 then (if (Int.tmod x0_1 3600) = 0 then (if (Int.tmod x0_1 60) = 0 then (some (x3_1 ++ t197)) else (if (x3_1 ++ t197).size + 1 ≤ 9223372036854775807 then ((longcaseref08_two.f (Int.tmod x0_1 60)).bind fun t198 => (if ((x3_1 ++ t197) ++ (⟨#[58]⟩ : ByteArray)).size + t198.size ≤ 9223372036854775807 then (some (((x3_1 ++ t197) ++ (⟨#[58]⟩ : ByteArray)) ++ t198)) else (none))) else (none))) else (if (x3_1 ++ t197).size + 1 ≤ 9223372036854775807 then ((longcaseref08_two.f (Int.tmod (wrap64 (Int.tdiv x0_1 60)) 60)).bind fun t199 => (if ((x3_1 ++ t197) ++ (⟨#[58]⟩ : ByteArray)).size + t199.size ≤ 9223372036854775807 then (if (Int.tmod x0_1 60) = 0 then (some (((x3_1 ++ t197) ++ (⟨#[58]⟩ : ByteArray)) ++ t199)) else (if (((x3_1 ++ t197) ++ (⟨#[58]⟩ : ByteArray)) ++ t199).size + 1 ≤ 9223372036854775807 then ((longcaseref08_two.f (Int.tmod x0_1 60)).bind fun t200 => (if ((((x3_1 ++ t197) ++ (⟨#[58]⟩ : ByteArray)) ++ t199) ++ (⟨#[58]⟩ : ByteArray)).size + t200.size ≤ 9223372036854775807 then (some (((((x3_1 ++ t197) ++ (⟨#[58]⟩ : ByteArray)) ++ t199) ++ (⟨#[58]⟩ : ByteArray)) ++ t200)) else (none))) else (none))) else (none))) else (none))) else (none)) = some r := H
      have A4 := Aside0.mk A40
      clear A40
      by_cases c5 : x3_1.size + t197.size ≤ 9223372036854775807
      · rw [if_pos c5] at H
        have c5b0 := eq_true c5
        have c5b1 : decide (x3_1.size + t197.size ≤ 9223372036854775807) = true := decide_eq_true c5
        try have c5b2 : (9223372036854775807 < x3_1.size + t197.size) = False := eq_false (Nat.not_lt.2 c5)
        by_cases c6 : (Int.tmod x0_1 3600) = 0
        · rw [if_pos c6] at H
          have c6b0 : ((Int.tmod x0_1 3600) == 0) = true := beq_iff_eq.mpr c6
          have c6b1 : ((Int.tmod x0_1 3600) != 0) = false := bne_eq_false_iff_eq.mpr c6
          clear c6
          by_cases c7 : (Int.tmod x0_1 60) = 0
          · rw [if_pos c7] at H
            have c7b0 : ((Int.tmod x0_1 60) == 0) = true := beq_iff_eq.mpr c7
            have c7b1 : ((Int.tmod x0_1 60) != 0) = false := bne_eq_false_iff_eq.mpr c7
            clear c7
            obtain rfl := Option.some.inj H
            go_wp2_with (first | ((with_reducible refine gate_callee (f := 50) rfl ?_); refine goesL_ (some 11) rfl rfl Tryd.func50 (by kernel_rfl) rfl #[.int .i64 (wrap64 (Int.tdiv x0_1 3600))] rfl (by (try simp only [List.map_toArray, List.map_cons, List.map_nil]); first | done | rfl | (simp only [List.length_drop, List.length_take]; rfl)) ?_; (with_reducible refine (longcaseref08_number.calls kj1 (wrap64 (Int.tdiv x0_1 3600)) t197 _ A4.out).mono ?_); rintro e w8 ⟨rfl, hb⟩; refine ⟨_, rfl, ?_⟩; have n0_ := Aside0.mk (below_step (by repeat (first | (with_reducible first | exact HB.out | apply below_alloc | apply pw_below_drewN | apply below_drew1) | exact HB.out)) hb); clear HB; have HB := n0_; clear n0_; (try clear hb); (try clear hb2); (try clear hk); (try clear hi)))
            go_ret
            exact ⟨by first | rfl | (simp [errW_none, errW_some] <;> rfl) | (simp [*, errW_none, errW_some] <;> rfl), by repeat (first | (with_reducible first | exact HB.out | apply below_alloc | apply pw_below_drewN | apply below_drew1) | exact HB.out)⟩
          · rw [if_neg c7] at H
            have c7b0 : ((Int.tmod x0_1 60) == 0) = false := beq_eq_false_iff_ne.mpr c7
            have c7b1 : ((Int.tmod x0_1 60) != 0) = true := bne_iff_ne.mpr c7
            by_cases c9 : (x3_1 ++ t197).size + 1 ≤ 9223372036854775807
            · rw [if_pos c9] at H
              have c9b0 := eq_true c9
              have c9b1 : decide ((x3_1 ++ t197).size + 1 ≤ 9223372036854775807) = true := decide_eq_true c9
              try have c9b2 : (9223372036854775807 < (x3_1 ++ t197).size + 1) = False := eq_false (Nat.not_lt.2 c9)
              have c9z0 : (x3_1.size + t197.size) + 1 ≤ 9223372036854775807 := by have z_ := c9; simp only [ByteArray.size_append] at z_; exact z_
              try have c9z1 : (9223372036854775807 < (x3_1.size + t197.size) + 1) = False := eq_false (Nat.not_lt.2 c9z0)
              replace H := Option.bind_eq_some_iff.mp H
              obtain ⟨t198, A100, H⟩ := H
              replace H : (if ((x3_1 ++ t197) ++ (⟨#[58]⟩ : ByteArray)).size + t198.size ≤ 9223372036854775807 then (some (((x3_1 ++ t197) ++ (⟨#[58]⟩ : ByteArray)) ++ t198)) else (none)) = some r := H
              have A10 := Aside0.mk A100
              clear A100
              by_cases c11 : ((x3_1 ++ t197) ++ (⟨#[58]⟩ : ByteArray)).size + t198.size ≤ 9223372036854775807
              · rw [if_pos c11] at H
                have c11b0 := eq_true c11
                have c11b1 : decide (((x3_1 ++ t197) ++ (⟨#[58]⟩ : ByteArray)).size + t198.size ≤ 9223372036854775807) = true := decide_eq_true c11
                try have c11b2 : (9223372036854775807 < ((x3_1 ++ t197) ++ (⟨#[58]⟩ : ByteArray)).size + t198.size) = False := eq_false (Nat.not_lt.2 c11)
                have c11z0 : ((x3_1.size + t197.size) + 1) + t198.size ≤ 9223372036854775807 := by have z_ := c11; simp only [ByteArray.size_append] at z_; exact z_
                try have c11z1 : (9223372036854775807 < ((x3_1.size + t197.size) + 1) + t198.size) = False := eq_false (Nat.not_lt.2 c11z0)
                obtain rfl := Option.some.inj H
                go_wp2_with (first | ((with_reducible refine gate_callee (f := 50) rfl ?_); refine goesL_ (some 11) rfl rfl Tryd.func50 (by kernel_rfl) rfl #[.int .i64 (wrap64 (Int.tdiv x0_1 3600))] rfl (by (try simp only [List.map_toArray, List.map_cons, List.map_nil]); first | done | rfl | (simp only [List.length_drop, List.length_take]; rfl)) ?_; (with_reducible refine (longcaseref08_number.calls kj1 (wrap64 (Int.tdiv x0_1 3600)) t197 _ A4.out).mono ?_); rintro e w12 ⟨rfl, hb⟩; refine ⟨_, rfl, ?_⟩; have n0_ := Aside0.mk (below_step (by repeat (first | (with_reducible first | exact HB.out | apply below_alloc | apply pw_below_drewN | apply below_drew1) | exact HB.out)) hb); clear HB; have HB := n0_; clear n0_; (try clear hb); (try clear hb2); (try clear hk); (try clear hi)) | ((with_reducible refine gate_callee (f := 51) rfl ?_); refine goesL_ (some 30) rfl rfl Tryd.func51 (by kernel_rfl) rfl #[.int .i64 (Int.tmod x0_1 60)] rfl (by (try simp only [List.map_toArray, List.map_cons, List.map_nil]); first | done | rfl | (simp only [List.length_drop, List.length_take]; rfl)) ?_; (with_reducible refine (longcaseref08_two.calls (Int.tmod x0_1 60) t198 _ A10.out).mono ?_); rintro e w13 ⟨rfl, hb⟩; refine ⟨_, rfl, ?_⟩; have n0_ := Aside0.mk (below_step (by repeat (first | (with_reducible first | exact HB.out | apply below_alloc | apply pw_below_drewN | apply below_drew1) | exact HB.out)) hb); clear HB; have HB := n0_; clear n0_; (try clear hb); (try clear hb2); (try clear hk); (try clear hi)))
                go_ret
                exact ⟨by first | rfl | (simp [errW_none, errW_some] <;> rfl) | (simp [*, errW_none, errW_some] <;> rfl), by repeat (first | (with_reducible first | exact HB.out | apply below_alloc | apply pw_below_drewN | apply below_drew1) | exact HB.out)⟩
              · rw [if_neg c11] at H
                exact absurd H (by simp)
            · rw [if_neg c9] at H
              exact absurd H (by simp)
        · rw [if_neg c6] at H
          have c6b0 : ((Int.tmod x0_1 3600) == 0) = false := beq_eq_false_iff_ne.mpr c6
          have c6b1 : ((Int.tmod x0_1 3600) != 0) = true := bne_iff_ne.mpr c6
          by_cases c14 : (x3_1 ++ t197).size + 1 ≤ 9223372036854775807
          · rw [if_pos c14] at H
            have c14b0 := eq_true c14
            have c14b1 : decide ((x3_1 ++ t197).size + 1 ≤ 9223372036854775807) = true := decide_eq_true c14
            try have c14b2 : (9223372036854775807 < (x3_1 ++ t197).size + 1) = False := eq_false (Nat.not_lt.2 c14)
            have c14z0 : (x3_1.size + t197.size) + 1 ≤ 9223372036854775807 := by have z_ := c14; simp only [ByteArray.size_append] at z_; exact z_
            try have c14z1 : (9223372036854775807 < (x3_1.size + t197.size) + 1) = False := eq_false (Nat.not_lt.2 c14z0)
            replace H := Option.bind_eq_some_iff.mp H
            obtain ⟨t199, A150, H⟩ := H
            replace H : (if ((x3_1 ++ t197) ++ (⟨#[58]⟩ : ByteArray)).size + t199.size ≤ 9223372036854775807 then (if (Int.tmod x0_1 60) = 0 then (some (((x3_1 ++ t197) ++ (⟨#[58]⟩ : ByteArray)) ++ t199)) else (if (((x3_1 ++ t197) ++ (⟨#[58]⟩ : ByteArray)) ++ t199).size + 1 ≤ 9223372036854775807 then ((longcaseref08_two.f (Int.tmod x0_1 60)).bind fun t200 => (if ((((x3_1 ++ t197) ++ (⟨#[58]⟩ : ByteArray)) ++ t199) ++ (⟨#[58]⟩ : ByteArray)).size + t200.size ≤ 9223372036854775807 then (some (((((x3_1 ++ t197) ++ (⟨#[58]⟩ : ByteArray)) ++ t199) ++ (⟨#[58]⟩ : ByteArray)) ++ t200)) else (none))) else (none))) else (none)) = some r := H
            have A15 := Aside0.mk A150
            clear A150
            by_cases c16 : ((x3_1 ++ t197) ++ (⟨#[58]⟩ : ByteArray)).size + t199.size ≤ 9223372036854775807
            · rw [if_pos c16] at H
              have c16b0 := eq_true c16
              have c16b1 : decide (((x3_1 ++ t197) ++ (⟨#[58]⟩ : ByteArray)).size + t199.size ≤ 9223372036854775807) = true := decide_eq_true c16
              try have c16b2 : (9223372036854775807 < ((x3_1 ++ t197) ++ (⟨#[58]⟩ : ByteArray)).size + t199.size) = False := eq_false (Nat.not_lt.2 c16)
              have c16z0 : ((x3_1.size + t197.size) + 1) + t199.size ≤ 9223372036854775807 := by have z_ := c16; simp only [ByteArray.size_append] at z_; exact z_
              try have c16z1 : (9223372036854775807 < ((x3_1.size + t197.size) + 1) + t199.size) = False := eq_false (Nat.not_lt.2 c16z0)
              by_cases c17 : (Int.tmod x0_1 60) = 0
              · rw [if_pos c17] at H
                have c17b0 : ((Int.tmod x0_1 60) == 0) = true := beq_iff_eq.mpr c17
                have c17b1 : ((Int.tmod x0_1 60) != 0) = false := bne_eq_false_iff_eq.mpr c17
                clear c17
                obtain rfl := Option.some.inj H
                go_wp2_with (first | ((with_reducible refine gate_callee (f := 50) rfl ?_); refine goesL_ (some 11) rfl rfl Tryd.func50 (by kernel_rfl) rfl #[.int .i64 (wrap64 (Int.tdiv x0_1 3600))] rfl (by (try simp only [List.map_toArray, List.map_cons, List.map_nil]); first | done | rfl | (simp only [List.length_drop, List.length_take]; rfl)) ?_; (with_reducible refine (longcaseref08_number.calls kj1 (wrap64 (Int.tdiv x0_1 3600)) t197 _ A4.out).mono ?_); rintro e w18 ⟨rfl, hb⟩; refine ⟨_, rfl, ?_⟩; have n0_ := Aside0.mk (below_step (by repeat (first | (with_reducible first | exact HB.out | apply below_alloc | apply pw_below_drewN | apply below_drew1) | exact HB.out)) hb); clear HB; have HB := n0_; clear n0_; (try clear hb); (try clear hb2); (try clear hk); (try clear hi)) | ((with_reducible refine gate_callee (f := 51) rfl ?_); refine goesL_ (some 21) rfl rfl Tryd.func51 (by kernel_rfl) rfl #[.int .i64 (Int.tmod (wrap64 (Int.tdiv x0_1 60)) 60)] rfl (by (try simp only [List.map_toArray, List.map_cons, List.map_nil]); first | done | rfl | (simp only [List.length_drop, List.length_take]; rfl)) ?_; (with_reducible refine (longcaseref08_two.calls (Int.tmod (wrap64 (Int.tdiv x0_1 60)) 60) t199 _ A15.out).mono ?_); rintro e w19 ⟨rfl, hb⟩; refine ⟨_, rfl, ?_⟩; have n0_ := Aside0.mk (below_step (by repeat (first | (with_reducible first | exact HB.out | apply below_alloc | apply pw_below_drewN | apply below_drew1) | exact HB.out)) hb); clear HB; have HB := n0_; clear n0_; (try clear hb); (try clear hb2); (try clear hk); (try clear hi)))
                go_ret
                exact ⟨by first | rfl | (simp [errW_none, errW_some] <;> rfl) | (simp [*, errW_none, errW_some] <;> rfl), by repeat (first | (with_reducible first | exact HB.out | apply below_alloc | apply pw_below_drewN | apply below_drew1) | exact HB.out)⟩
              · rw [if_neg c17] at H
                have c17b0 : ((Int.tmod x0_1 60) == 0) = false := beq_eq_false_iff_ne.mpr c17
                have c17b1 : ((Int.tmod x0_1 60) != 0) = true := bne_iff_ne.mpr c17
                by_cases c20 : (((x3_1 ++ t197) ++ (⟨#[58]⟩ : ByteArray)) ++ t199).size + 1 ≤ 9223372036854775807
                · rw [if_pos c20] at H
                  have c20b0 := eq_true c20
                  have c20b1 : decide ((((x3_1 ++ t197) ++ (⟨#[58]⟩ : ByteArray)) ++ t199).size + 1 ≤ 9223372036854775807) = true := decide_eq_true c20
                  try have c20b2 : (9223372036854775807 < (((x3_1 ++ t197) ++ (⟨#[58]⟩ : ByteArray)) ++ t199).size + 1) = False := eq_false (Nat.not_lt.2 c20)
                  have c20z0 : (((x3_1.size + t197.size) + 1) + t199.size) + 1 ≤ 9223372036854775807 := by have z_ := c20; simp only [ByteArray.size_append] at z_; exact z_
                  try have c20z1 : (9223372036854775807 < (((x3_1.size + t197.size) + 1) + t199.size) + 1) = False := eq_false (Nat.not_lt.2 c20z0)
                  replace H := Option.bind_eq_some_iff.mp H
                  obtain ⟨t200, A210, H⟩ := H
                  replace H : (if ((((x3_1 ++ t197) ++ (⟨#[58]⟩ : ByteArray)) ++ t199) ++ (⟨#[58]⟩ : ByteArray)).size + t200.size ≤ 9223372036854775807 then (some (((((x3_1 ++ t197) ++ (⟨#[58]⟩ : ByteArray)) ++ t199) ++ (⟨#[58]⟩ : ByteArray)) ++ t200)) else (none)) = some r := H
                  have A21 := Aside0.mk A210
                  clear A210
                  by_cases c22 : ((((x3_1 ++ t197) ++ (⟨#[58]⟩ : ByteArray)) ++ t199) ++ (⟨#[58]⟩ : ByteArray)).size + t200.size ≤ 9223372036854775807
                  · rw [if_pos c22] at H
                    have c22b0 := eq_true c22
                    have c22b1 : decide (((((x3_1 ++ t197) ++ (⟨#[58]⟩ : ByteArray)) ++ t199) ++ (⟨#[58]⟩ : ByteArray)).size + t200.size ≤ 9223372036854775807) = true := decide_eq_true c22
                    try have c22b2 : (9223372036854775807 < ((((x3_1 ++ t197) ++ (⟨#[58]⟩ : ByteArray)) ++ t199) ++ (⟨#[58]⟩ : ByteArray)).size + t200.size) = False := eq_false (Nat.not_lt.2 c22)
                    have c22z0 : ((((x3_1.size + t197.size) + 1) + t199.size) + 1) + t200.size ≤ 9223372036854775807 := by have z_ := c22; simp only [ByteArray.size_append] at z_; exact z_
                    try have c22z1 : (9223372036854775807 < ((((x3_1.size + t197.size) + 1) + t199.size) + 1) + t200.size) = False := eq_false (Nat.not_lt.2 c22z0)
                    obtain rfl := Option.some.inj H
                    go_wp2_with (first | ((with_reducible refine gate_callee (f := 50) rfl ?_); refine goesL_ (some 11) rfl rfl Tryd.func50 (by kernel_rfl) rfl #[.int .i64 (wrap64 (Int.tdiv x0_1 3600))] rfl (by (try simp only [List.map_toArray, List.map_cons, List.map_nil]); first | done | rfl | (simp only [List.length_drop, List.length_take]; rfl)) ?_; (with_reducible refine (longcaseref08_number.calls kj1 (wrap64 (Int.tdiv x0_1 3600)) t197 _ A4.out).mono ?_); rintro e w23 ⟨rfl, hb⟩; refine ⟨_, rfl, ?_⟩; have n0_ := Aside0.mk (below_step (by repeat (first | (with_reducible first | exact HB.out | apply below_alloc | apply pw_below_drewN | apply below_drew1) | exact HB.out)) hb); clear HB; have HB := n0_; clear n0_; (try clear hb); (try clear hb2); (try clear hk); (try clear hi)) | ((with_reducible refine gate_callee (f := 51) rfl ?_); refine goesL_ (some 21) rfl rfl Tryd.func51 (by kernel_rfl) rfl #[.int .i64 (Int.tmod (wrap64 (Int.tdiv x0_1 60)) 60)] rfl (by (try simp only [List.map_toArray, List.map_cons, List.map_nil]); first | done | rfl | (simp only [List.length_drop, List.length_take]; rfl)) ?_; (with_reducible refine (longcaseref08_two.calls (Int.tmod (wrap64 (Int.tdiv x0_1 60)) 60) t199 _ A15.out).mono ?_); rintro e w24 ⟨rfl, hb⟩; refine ⟨_, rfl, ?_⟩; have n0_ := Aside0.mk (below_step (by repeat (first | (with_reducible first | exact HB.out | apply below_alloc | apply pw_below_drewN | apply below_drew1) | exact HB.out)) hb); clear HB; have HB := n0_; clear n0_; (try clear hb); (try clear hb2); (try clear hk); (try clear hi)) | ((with_reducible refine gate_callee (f := 51) rfl ?_); refine goesL_ (some 30) rfl rfl Tryd.func51 (by kernel_rfl) rfl #[.int .i64 (Int.tmod x0_1 60)] rfl (by (try simp only [List.map_toArray, List.map_cons, List.map_nil]); first | done | rfl | (simp only [List.length_drop, List.length_take]; rfl)) ?_; (with_reducible refine (longcaseref08_two.calls (Int.tmod x0_1 60) t200 _ A21.out).mono ?_); rintro e w25 ⟨rfl, hb⟩; refine ⟨_, rfl, ?_⟩; have n0_ := Aside0.mk (below_step (by repeat (first | (with_reducible first | exact HB.out | apply below_alloc | apply pw_below_drewN | apply below_drew1) | exact HB.out)) hb); clear HB; have HB := n0_; clear n0_; (try clear hb); (try clear hb2); (try clear hk); (try clear hi)))
                    go_ret
                    exact ⟨by first | rfl | (simp [errW_none, errW_some] <;> rfl) | (simp [*, errW_none, errW_some] <;> rfl), by repeat (first | (with_reducible first | exact HB.out | apply below_alloc | apply pw_below_drewN | apply below_drew1) | exact HB.out)⟩
                  · rw [if_neg c22] at H
                    exact absurd H (by simp)
                · rw [if_neg c20] at H
                  exact absurd H (by simp)
            · rw [if_neg c16] at H
              exact absurd H (by simp)
          · rw [if_neg c14] at H
            exact absurd H (by simp)
      · rw [if_neg c5] at H
        exact absurd H (by simp)
end Go.Proofs.YtnbjneknicppcaaDoor.Fn

namespace Go.Proofs.YtnbjneknicppcaaDoor.Fn
open Go.RowKit Go.Proofs.YtnbjneknicppcaaDoorW.PrintWords Go.Proofs.YtnbjneknicppcaaDoorW.PrintLast Go.Proofs.YtnbjneknicppcaaDoorW.PrintMore
attribute [local go_sem] min2_int min_two
set_option linter.unusedVariables false
set_option linter.unusedSimpArgs false
/-! ### longcaseref08_change: function 34 -/
def longcaseref08_change.j0 : Nat → ByteArray → Int → Int → Int → Int → Int → Option (ByteArray)
  | 0, _, _, _, _, _, _ => none
  | k + 1, x3, x202000, x202001, x202002, x202003, x202004 => if x202000 = 3 then (if 1 + x3.size ≤ 9223372036854775807 then (if ((⟨#[77]⟩ : ByteArray) ++ x3).size + 1 ≤ 9223372036854775807 then ((longcaseref08_number.f k x202002).bind fun t203 => (if (((⟨#[77]⟩ : ByteArray) ++ x3) ++ (⟨#[46]⟩ : ByteArray)).size + t203.size ≤ 9223372036854775807 then (if ((((⟨#[77]⟩ : ByteArray) ++ x3) ++ (⟨#[46]⟩ : ByteArray)) ++ t203).size + 1 ≤ 9223372036854775807 then ((longcaseref08_number.f k x202003).bind fun t204 => (if (((((⟨#[77]⟩ : ByteArray) ++ x3) ++ (⟨#[46]⟩ : ByteArray)) ++ t203) ++ (⟨#[46]⟩ : ByteArray)).size + t204.size ≤ 9223372036854775807 then (if x202004 = 7200 then (some ((((((⟨#[77]⟩ : ByteArray) ++ x3) ++ (⟨#[46]⟩ : ByteArray)) ++ t203) ++ (⟨#[46]⟩ : ByteArray)) ++ t204)) else (if ((((((⟨#[77]⟩ : ByteArray) ++ x3) ++ (⟨#[46]⟩ : ByteArray)) ++ t203) ++ (⟨#[46]⟩ : ByteArray)) ++ t204).size + 1 ≤ 9223372036854775807 then ((longcaseref08_hours.f k x202004).bind fun t205 => (if (((((((⟨#[77]⟩ : ByteArray) ++ x3) ++ (⟨#[46]⟩ : ByteArray)) ++ t203) ++ (⟨#[46]⟩ : ByteArray)) ++ t204) ++ (⟨#[47]⟩ : ByteArray)).size + t205.size ≤ 9223372036854775807 then (some ((((((((⟨#[77]⟩ : ByteArray) ++ x3) ++ (⟨#[46]⟩ : ByteArray)) ++ t203) ++ (⟨#[46]⟩ : ByteArray)) ++ t204) ++ (⟨#[47]⟩ : ByteArray)) ++ t205)) else (none))) else (none))) else (none))) else (none)) else (none))) else (none)) else (none)) else (if x202004 = 7200 then (some x3) else (if x3.size + 1 ≤ 9223372036854775807 then ((longcaseref08_hours.f k x202004).bind fun t206 => (if (x3 ++ (⟨#[47]⟩ : ByteArray)).size + t206.size ≤ 9223372036854775807 then (some ((x3 ++ (⟨#[47]⟩ : ByteArray)) ++ t206)) else (none))) else (none)))
def longcaseref08_change.f (k : Nat) (a0_0 : Int) (a0_1 : Int) (a0_2 : Int) (a0_3 : Int) (a0_4 : Int) : Option (ByteArray) := (longcaseref08_number.f k a0_1).bind fun t202 => (if a0_0 = 1 then (if 1 + t202.size ≤ 9223372036854775807 then (longcaseref08_change.j0 k ((⟨#[74]⟩ : ByteArray) ++ t202) a0_0 a0_1 a0_2 a0_3 a0_4) else (none)) else (longcaseref08_change.j0 k t202 a0_0 a0_1 a0_2 a0_3 a0_4))
theorem longcaseref08_change.mono_l : ∀ k, (∀ y0 y1 y2 y3 y4 y5, LeO (longcaseref08_change.j0 k y0 y1 y2 y3 y4 y5) (longcaseref08_change.j0 (k + 1) y0 y1 y2 y3 y4 y5))
  | 0 => fun _ _ _ _ _ _ r h => by simp [longcaseref08_change.j0] at h
  | k + 1 => by
    have ih0 := longcaseref08_change.mono_l k
    · intro y0 y1 y2 y3 y4 y5
      unfold longcaseref08_change.j0
      repeat' first
      | (with_reducible exact ih0 _ _ _ _ _ _)
      | (with_reducible exact longcaseref08_hours.mono _ _)
      | (with_reducible exact longcaseref08_number.mono _ _)
      | (with_reducible exact LeO.refl _)
      | (with_reducible exact LeO.none _)
      | (with_reducible refine LeO.ite ?_ ?_)
      | (with_reducible refine LeO.bind ?_ (fun _ => ?_))
      | exact ih0 _ _ _ _ _ _
      | exact longcaseref08_hours.mono _ _
      | exact longcaseref08_number.mono _ _
      | exact LeO.none _
      | refine LeO.ite ?_ ?_
      | refine LeO.bind ?_ (fun _ => ?_)
theorem longcaseref08_change.mono : ∀ a0 a1 a2 a3 a4 k, LeO (longcaseref08_change.f k a0 a1 a2 a3 a4) (longcaseref08_change.f (k + 1) a0 a1 a2 a3 a4) := by
  intro a0 a1 a2 a3 a4 k
  have ih0 := longcaseref08_change.mono_l k
  unfold longcaseref08_change.f
  repeat' first
      | (with_reducible exact ih0 _ _ _ _ _ _)
      | (with_reducible exact longcaseref08_hours.mono _ _)
      | (with_reducible exact longcaseref08_number.mono _ _)
      | (with_reducible exact LeO.refl _)
      | (with_reducible exact LeO.none _)
      | (with_reducible refine LeO.ite ?_ ?_)
      | (with_reducible refine LeO.bind ?_ (fun _ => ?_))
      | exact ih0 _ _ _ _ _ _
      | exact longcaseref08_hours.mono _ _
      | exact longcaseref08_number.mono _ _
      | exact LeO.none _
      | refine LeO.ite ?_ ?_
      | refine LeO.bind ?_ (fun _ => ?_)
def longcaseref08_change.T5 : Bool × List (List Nat × List Nat) := (true, [([], []), ([0], [0]), ([1], [1]), ([], []), ([3], [3]), ([4], [4]), ([2, 5], [2, 5]), ([6], [6]), ([], []), ([8], [8]), ([9, 5], [9]), ([7, 10], [7, 10]), ([11, 10, 0, 1, 2, 3, 4, 5, 6, 7, 8, 9, 10, 11], [0, 11])])
def longcaseref08_change.B5 : List Nat := [0, 1, 3, 0, 8, 24, 63, 127, 0, 256, 824, 2047, 4095]
theorem longcaseref08_change.tab5 : rtab .any (opsOf Tryd.f34 5) = longcaseref08_change.T5 := by kernel_rfl
theorem longcaseref08_change.bits5 : waitsOk longcaseref08_change.T5.2 longcaseref08_change.B5 = true := by kernel_rfl
set_option maxHeartbeats 8000000 in
set_option maxRecDepth 100000 in
theorem longcaseref08_change.calls (k : Nat) (a0_0 : Int) (a0_1 : Int) (a0_2 : Int) (a0_3 : Int) (a0_4 : Int) (r : ByteArray) (w : World) (h : longcaseref08_change.f k a0_0 a0_1 a0_2 a0_3 a0_4 = some r) :
    Calls Tryd.prog 34 #[.agg #[.int .i64 a0_0, .int .i64 a0_1, .int .i64 a0_2, .int .i64 a0_3, .int .i64 a0_4]] w fun e w' => e = .returned (.string r) ∧ Below w.heap.size w w' := by
  have hu25 := Tryd.underlying25
  have HB := Aside0.mk (Below.refl w.heap.size w)
  have H : ((longcaseref08_number.f k a0_1).bind fun t202 => (if a0_0 = 1 then (if 1 + t202.size ≤ 9223372036854775807 then (longcaseref08_change.j0 k ((⟨#[74]⟩ : ByteArray) ++ t202) a0_0 a0_1 a0_2 a0_3 a0_4) else (none)) else (longcaseref08_change.j0 k t202 a0_0 a0_1 a0_2 a0_3 a0_4))) = some r := h
  clear h
  replace H := Option.bind_eq_some_iff.mp H
  obtain ⟨t202, A20, H⟩ := H
  replace H : (if a0_0 = 1 then (if 1 + t202.size ≤ 9223372036854775807 then (longcaseref08_change.j0 k ((⟨#[74]⟩ : ByteArray) ++ t202) a0_0 a0_1 a0_2 a0_3 a0_4) else (none)) else (longcaseref08_change.j0 k t202 a0_0 a0_1 a0_2 a0_3 a0_4)) = some r := H
  have A2 := Aside0.mk A20
  clear A20
  have HC3 := Aside0.mk H
  clear H
  go_enter Tryd.func34, Tryd.ntmps34
  go_upto_if 9 with (first | ((with_reducible refine gate_dst (N := 1) rfl ?_); refine box_event ?hg (N := 1) ?hd (cs := #[.int .i64 a0_0, .int .i64 a0_1, .int .i64 a0_2, .int .i64 a0_3, .int .i64 a0_4]) (t := 25) ?hr ?_; (case hd => rfl); (case hg => rfl); (case hr => first | (go_simp; done) | (go_simp; rfl)); intro gb201 hg w4 hbox hb; have n0_ := Aside0.mk (below_step (by repeat (first | (with_reducible first | exact HB.out | apply below_alloc | apply pw_below_drewN | apply below_drew1) | exact HB.out)) hb); have n1_ := Aside0.mk (hbox); have n2_ := Aside0.mk ((by rw [hg]; exact (below_size (by repeat (first | (with_reducible first | exact HB.out | apply below_alloc | apply pw_below_drewN | apply below_drew1) | exact HB.out))) : w.heap.size ≤ gb201)); have n3_ := Aside0.mk ((by rw [hg]; exact (below_size (by repeat (first | (with_reducible first | exact HB.out | apply below_alloc | apply pw_below_drewN | apply below_drew1) | exact HB.out))) : w.heap.size ≤ gb201)); clear HB; have HB := n0_; have BK201 := n1_; have GW201 := n2_; have GE201 := n3_; clear n0_ n1_ n2_ n3_; clear hb hbox hg; have hcz5_0 : w4.cell? ⟨gb201, 0, none⟩ = some (.int .i64 a0_0) := (blk_cell BK201.out 0).trans rfl; have hcz5_1 : w4.cell? ⟨gb201, 1, none⟩ = some (.int .i64 a0_1) := (blk_cell BK201.out 1).trans rfl; have hcz5_2 : w4.cell? ⟨gb201, 2, none⟩ = some (.int .i64 a0_2) := (blk_cell BK201.out 2).trans rfl; have hcz5_3 : w4.cell? ⟨gb201, 3, none⟩ = some (.int .i64 a0_3) := (blk_cell BK201.out 3).trans rfl; have hcz5_4 : w4.cell? ⟨gb201, 4, none⟩ = some (.int .i64 a0_4) := (blk_cell BK201.out 4).trans rfl; have hfz5_0 := blk_frozen BK201.out 0; have hfz5_1 := blk_frozen BK201.out 1; have hfz5_2 := blk_frozen BK201.out 2; have hfz5_3 := blk_frozen BK201.out 3; have hfz5_4 := blk_frozen BK201.out 4) | ((with_reducible refine gate_callee (f := 50) rfl ?_); refine goesL_ (some 6) rfl rfl Tryd.func50 (by kernel_rfl) rfl #[.int .i64 a0_1] rfl (by (try simp only [List.map_toArray, List.map_cons, List.map_nil]); first | done | rfl | (simp only [List.length_drop, List.length_take]; rfl)) ?_; (with_reducible refine (longcaseref08_number.calls k a0_1 t202 _ A2.out).mono ?_); rintro e w6 ⟨rfl, hb⟩; refine ⟨_, rfl, ?_⟩; have n0_ := Aside0.mk (blk_below (g := gb201) (o := .cells #[.int .i64 a0_0, .int .i64 a0_1, .int .i64 a0_2, .int .i64 a0_3, .int .i64 a0_4] 25 (0, 0)) (by (with_reducible repeat (first | refine blk_drewN ?_ _ | refine blk_drew ?_ | refine blk_alloc ?_ _)); exact BK201.out) hb); have n1_ := Aside0.mk (below_step (by repeat (first | (with_reducible first | exact HB.out | apply below_alloc | apply pw_below_drewN | apply below_drew1 | refine below_set ?_ GE201.out) | exact HB.out)) hb); clear BK201; clear HB; have BK201 := n0_; have HB := n1_; clear n0_ n1_; (try clear hb); (try clear hb2); (try clear hk); (try clear hi); have hcz7_0 : w6.cell? ⟨gb201, 0, none⟩ = some (.int .i64 a0_0) := (blk_cell BK201.out 0).trans rfl; have hcz7_1 : w6.cell? ⟨gb201, 1, none⟩ = some (.int .i64 a0_1) := (blk_cell BK201.out 1).trans rfl; have hcz7_2 : w6.cell? ⟨gb201, 2, none⟩ = some (.int .i64 a0_2) := (blk_cell BK201.out 2).trans rfl; have hcz7_3 : w6.cell? ⟨gb201, 3, none⟩ = some (.int .i64 a0_3) := (blk_cell BK201.out 3).trans rfl; have hcz7_4 : w6.cell? ⟨gb201, 4, none⟩ = some (.int .i64 a0_4) := (blk_cell BK201.out 4).trans rfl; have hfz7_0 := blk_frozen BK201.out 0; have hfz7_1 := blk_frozen BK201.out 1; have hfz7_2 := blk_frozen BK201.out 2; have hfz7_3 := blk_frozen BK201.out 3; have hfz7_4 := blk_frozen BK201.out 4))
  (try simp only [Act.put, List.setIfInBounds_toArray, List.set_cons_zero, List.set_cons_succ])
  go_cut [3] (fun v3 wc => ∃ (kq : Nat) (x3_2 : ByteArray), v3 = .string x3_2 ∧ Aside0 (longcaseref08_change.j0 kq x3_2 a0_0 a0_1 a0_2 a0_3 a0_4 = some r) ∧ Aside0 (kq ≤ k) ∧ Aside0 (wc.heap[gb201]? = some (.cells #[.int .i64 a0_0, .int .i64 a0_1, .int .i64 a0_2, .int .i64 a0_3, .int .i64 a0_4] 25 (0, 0))) ∧ Aside0 (Below w.heap.size w wc))
  case first =>
    have H := HC3.out
    clear HC3
    by_cases c8 : a0_0 = 1
    · rw [if_pos c8] at H
      have c8b0 : (a0_0 == 1) = true := beq_iff_eq.mpr c8
      have c8b1 : (a0_0 != 1) = false := bne_eq_false_iff_eq.mpr c8
      clear c8
      (first | rw [c8b0] | (simp only [i64_w, i32_w]; rw [c8b0]) | skip)
      by_cases c9 : 1 + t202.size ≤ 9223372036854775807
      · rw [if_pos c9] at H
        have c9b0 := eq_true c9
        have c9b1 : decide (1 + t202.size ≤ 9223372036854775807) = true := decide_eq_true c9
        try have c9b2 : (9223372036854775807 < 1 + t202.size) = False := eq_false (Nat.not_lt.2 c9)
        have H' := Aside0.mk H
        clear H
        go_wp2
        go_meet
        case rel => exact ⟨_, ((⟨#[74]⟩ : ByteArray) ++ t202), (by first | rfl | (simp; done) | (simp [*]; done)), H', ⟨by first | omega | exact Nat.le_refl _⟩, ⟨by (with_reducible repeat (first | refine blk_drewN ?_ _ | refine blk_drew ?_ | refine blk_alloc ?_ _)); exact BK201.out⟩, ⟨by repeat (first | (with_reducible first | exact HB.out | apply below_alloc | apply pw_below_drewN | apply below_drew1 | refine below_set ?_ GE201.out) | exact HB.out)⟩⟩
      · rw [if_neg c9] at H
        exact absurd H (by simp)
    · rw [if_neg c8] at H
      have c8b0 : (a0_0 == 1) = false := beq_eq_false_iff_ne.mpr c8
      have c8b1 : (a0_0 != 1) = true := bne_iff_ne.mpr c8
      (first | rw [c8b0] | (simp only [i64_w, i32_w]; rw [c8b0]) | skip)
      have H' := Aside0.mk H
      clear H
      go_wp2
      go_meet
      case rel => exact ⟨_, (t202), (by first | rfl | (simp; done) | (simp [*]; done)), H', ⟨by first | omega | exact Nat.le_refl _⟩, ⟨by (with_reducible repeat (first | refine blk_drewN ?_ _ | refine blk_drew ?_ | refine blk_alloc ?_ _)); exact BK201.out⟩, ⟨by repeat (first | (with_reducible first | exact HB.out | apply below_alloc | apply pw_below_drewN | apply below_drew1 | refine below_set ?_ GE201.out) | exact HB.out)⟩⟩
  case rest =>
    clear HC3
    try clear p2
    try clear c3
    try clear c5
    try clear c8
    try clear c8b0
    try clear c8b1
    try clear c9
    try clear c9b0
    try clear c9b1
    try clear c9b2
    try clear hcz5_0
    try clear hcz5_1
    try clear hcz5_2
    try clear hcz5_3
    try clear hcz5_4
    try clear hcz7_0
    try clear hcz7_1
    try clear hcz7_2
    try clear hcz7_3
    try clear hcz7_4
    try clear hfz5_0
    try clear hfz5_1
    try clear hfz5_2
    try clear hfz5_3
    try clear hfz5_4
    try clear hfz7_0
    try clear hfz7_1
    try clear hfz7_2
    try clear hfz7_3
    try clear hfz7_4
    obtain ⟨kq, x3_2, rfl, HA, HJ2, BK201, HB⟩ := hcut
    cases kq with
    | zero => exact absurd HA.out (by simp [longcaseref08_change.j0])
    | succ kj2 =>
      have H := HA.out
      clear HA
      simp only [longcaseref08_change.j0] at H
      by_cases c10 : a0_0 = 3
      · rw [if_pos c10] at H
        have c10b0 : (a0_0 == 3) = true := beq_iff_eq.mpr c10
        have c10b1 : (a0_0 != 3) = false := bne_eq_false_iff_eq.mpr c10
        clear c10
        by_cases c11 : 1 + x3_2.size ≤ 9223372036854775807
        · rw [if_pos c11] at H
          have c11b0 := eq_true c11
          have c11b1 : decide (1 + x3_2.size ≤ 9223372036854775807) = true := decide_eq_true c11
          try have c11b2 : (9223372036854775807 < 1 + x3_2.size) = False := eq_false (Nat.not_lt.2 c11)
          by_cases c12 : ((⟨#[77]⟩ : ByteArray) ++ x3_2).size + 1 ≤ 9223372036854775807
          · rw [if_pos c12] at H
            have c12b0 := eq_true c12
            have c12b1 : decide (((⟨#[77]⟩ : ByteArray) ++ x3_2).size + 1 ≤ 9223372036854775807) = true := decide_eq_true c12
            try have c12b2 : (9223372036854775807 < ((⟨#[77]⟩ : ByteArray) ++ x3_2).size + 1) = False := eq_false (Nat.not_lt.2 c12)
            have c12z0 : (1 + x3_2.size) + 1 ≤ 9223372036854775807 := by have z_ := c12; simp only [ByteArray.size_append] at z_; exact z_
            try have c12z1 : (9223372036854775807 < (1 + x3_2.size) + 1) = False := eq_false (Nat.not_lt.2 c12z0)
            replace H := Option.bind_eq_some_iff.mp H
            obtain ⟨t203, A130, H⟩ := H
            replace H : (if (((⟨#[77]⟩ : ByteArray) ++ x3_2) ++ (⟨#[46]⟩ : ByteArray)).size + t203.size ≤ 9223372036854775807 then (if ((((⟨#[77]⟩ : ByteArray) ++ x3_2) ++ (⟨#[46]⟩ : ByteArray)) ++ t203).size + 1 ≤ 9223372036854775807 then ((longcaseref08_number.f kj2 a0_3).bind fun t204 => (if (((((⟨#[77]⟩ : ByteArray) ++ x3_2) ++ (⟨#[46]⟩ : ByteArray)) ++ t203) ++ (⟨#[46]⟩ : ByteArray)).size + t204.size ≤ 9223372036854775807 then (if a0_4 = 7200 then (some ((((((⟨#[77]⟩ : ByteArray) ++ x3_2) ++ (⟨#[46]⟩ : ByteArray)) ++ t203) ++ (⟨#[46]⟩ : ByteArray)) ++ t204)) else (if ((((((⟨#[77]⟩ : ByteArray) ++ x3_2) ++ (⟨#[46]⟩ : ByteArray)) ++ t203) ++ (⟨#[46]⟩ : ByteArray)) ++ t204).size + 1 ≤ 9223372036854775807 then ((longcaseref08_hours.f kj2 a0_4).bind fun t205 => (if (((((((⟨#[77]⟩ : ByteArray) ++ x3_2) ++ (⟨#[46]⟩ : ByteArray)) ++ t203) ++ (⟨#[46]⟩ : ByteArray)) ++ t204) ++ (⟨#[47]⟩ : ByteArray)).size + t205.size ≤ 9223372036854775807 then (some ((((((((⟨#[77]⟩ : ByteArray) ++ x3_2) ++ (⟨#[46]⟩ : ByteArray)) ++ t203) ++ (⟨#[46]⟩ : ByteArray)) ++ t204) ++ (⟨#[47]⟩ : ByteArray)) ++ t205)) else (none))) else (none))) else (none))) else (none)) else (none)) = some r := H
            have A13 := Aside0.mk A130
            clear A130
            by_cases c14 : (((⟨#[77]⟩ : ByteArray) ++ x3_2) ++ (⟨#[46]⟩ : ByteArray)).size + t203.size ≤ 9223372036854775807
            · rw [if_pos c14] at H
              have c14b0 := eq_true c14
              have c14b1 : decide ((((⟨#[77]⟩ : ByteArray) ++ x3_2) ++ (⟨#[46]⟩ : ByteArray)).size + t203.size ≤ 9223372036854775807) = true := decide_eq_true c14
              try have c14b2 : (9223372036854775807 < (((⟨#[77]⟩ : ByteArray) ++ x3_2) ++ (⟨#[46]⟩ : ByteArray)).size + t203.size) = False := eq_false (Nat.not_lt.2 c14)
              have c14z0 : ((1 + x3_2.size) + 1) + t203.size ≤ 9223372036854775807 := by have z_ := c14; simp only [ByteArray.size_append] at z_; exact z_
              try have c14z1 : (9223372036854775807 < ((1 + x3_2.size) + 1) + t203.size) = False := eq_false (Nat.not_lt.2 c14z0)
              by_cases c15 : ((((⟨#[77]⟩ : ByteArray) ++ x3_2) ++ (⟨#[46]⟩ : ByteArray)) ++ t203).size + 1 ≤ 9223372036854775807
              · rw [if_pos c15] at H
                have c15b0 := eq_true c15
                have c15b1 : decide (((((⟨#[77]⟩ : ByteArray) ++ x3_2) ++ (⟨#[46]⟩ : ByteArray)) ++ t203).size + 1 ≤ 9223372036854775807) = true := decide_eq_true c15
                try have c15b2 : (9223372036854775807 < ((((⟨#[77]⟩ : ByteArray) ++ x3_2) ++ (⟨#[46]⟩ : ByteArray)) ++ t203).size + 1) = False := eq_false (Nat.not_lt.2 c15)
                have c15z0 : (((1 + x3_2.size) + 1) + t203.size) + 1 ≤ 9223372036854775807 := by have z_ := c15; simp only [ByteArray.size_append] at z_; exact z_
                try have c15z1 : (9223372036854775807 < (((1 + x3_2.size) + 1) + t203.size) + 1) = False := eq_false (Nat.not_lt.2 c15z0)
                replace H := Option.bind_eq_some_iff.mp H
                obtain ⟨t204, A160, H⟩ := H
                replace H : (if (((((⟨#[77]⟩ : ByteArray) ++ x3_2) ++ (⟨#[46]⟩ : ByteArray)) ++ t203) ++ (⟨#[46]⟩ : ByteArray)).size + t204.size ≤ 9223372036854775807 then (if a0_4 = 7200 then (some ((((((⟨#[77]⟩ : ByteArray) ++ x3_2) ++ (⟨#[46]⟩ : ByteArray)) ++ t203) ++ (⟨#[46]⟩ : ByteArray)) ++ t204)) else (if ((((((⟨#[77]⟩ : ByteArray) ++ x3_2) ++ (⟨#[46]⟩ : ByteArray)) ++ t203) ++ (⟨#[46]⟩ : ByteArray)) ++ t204).size + 1 ≤ 9223372036854775807 then ((longcaseref08_hours.f kj2 a0_4).bind fun t205 => (if (((((((⟨#[77]⟩ : ByteArray) ++ x3_2) ++ (⟨#[46]⟩ : ByteArray)) ++ t203) ++ (⟨#[46]⟩ : ByteArray)) ++ t204) ++ (⟨#[47]⟩ : ByteArray)).size + t205.size ≤ 9223372036854775807 then (some ((((((((⟨#[77]⟩ : ByteArray) ++ x3_2) ++ (⟨#[46]⟩ : ByteArray)) ++ t203) ++ (⟨#[46]⟩ : ByteArray)) ++ t204) ++ (⟨#[47]⟩ : ByteArray)) ++ t205)) else (none))) else (none))) else (none)) = some r := H
                have A16 := Aside0.mk A160
                clear A160
                by_cases c17 : (((((⟨#[77]⟩ : ByteArray) ++ x3_2) ++ (⟨#[46]⟩ : ByteArray)) ++ t203) ++ (⟨#[46]⟩ : ByteArray)).size + t204.size ≤ 9223372036854775807
                · rw [if_pos c17] at H
                  have c17b0 := eq_true c17
                  have c17b1 : decide ((((((⟨#[77]⟩ : ByteArray) ++ x3_2) ++ (⟨#[46]⟩ : ByteArray)) ++ t203) ++ (⟨#[46]⟩ : ByteArray)).size + t204.size ≤ 9223372036854775807) = true := decide_eq_true c17
                  try have c17b2 : (9223372036854775807 < (((((⟨#[77]⟩ : ByteArray) ++ x3_2) ++ (⟨#[46]⟩ : ByteArray)) ++ t203) ++ (⟨#[46]⟩ : ByteArray)).size + t204.size) = False := eq_false (Nat.not_lt.2 c17)
                  have c17z0 : ((((1 + x3_2.size) + 1) + t203.size) + 1) + t204.size ≤ 9223372036854775807 := by have z_ := c17; simp only [ByteArray.size_append] at z_; exact z_
                  try have c17z1 : (9223372036854775807 < ((((1 + x3_2.size) + 1) + t203.size) + 1) + t204.size) = False := eq_false (Nat.not_lt.2 c17z0)
                  by_cases c18 : a0_4 = 7200
                  · rw [if_pos c18] at H
                    have c18b0 : (a0_4 == 7200) = true := beq_iff_eq.mpr c18
                    have c18b1 : (a0_4 != 7200) = false := bne_eq_false_iff_eq.mpr c18
                    clear c18
                    obtain rfl := Option.some.inj H
                    have hcz19_0 : wc.cell? ⟨gb201, 0, none⟩ = some (.int .i64 a0_0) := (blk_cell BK201.out 0).trans rfl
                    have hcz19_1 : wc.cell? ⟨gb201, 1, none⟩ = some (.int .i64 a0_1) := (blk_cell BK201.out 1).trans rfl
                    have hcz19_2 : wc.cell? ⟨gb201, 2, none⟩ = some (.int .i64 a0_2) := (blk_cell BK201.out 2).trans rfl
                    have hcz19_3 : wc.cell? ⟨gb201, 3, none⟩ = some (.int .i64 a0_3) := (blk_cell BK201.out 3).trans rfl
                    have hcz19_4 : wc.cell? ⟨gb201, 4, none⟩ = some (.int .i64 a0_4) := (blk_cell BK201.out 4).trans rfl
                    have hfz19_0 := blk_frozen BK201.out 0
                    have hfz19_1 := blk_frozen BK201.out 1
                    have hfz19_2 := blk_frozen BK201.out 2
                    have hfz19_3 := blk_frozen BK201.out 3
                    have hfz19_4 := blk_frozen BK201.out 4
                    try go_wp2
                    have n0_ := Aside0.mk (blk_drew BK201.out)
                    have n1_ := Aside0.mk (below_drew1 HB.out)
                    clear BK201
                    clear HB
                    have BK201 := n0_
                    have HB := n1_
                    clear n0_ n1_
                    refine start_ (n := 13) (S := fun w' => w'.cell? ⟨gb201, 0, none⟩ = some (.int .i64 a0_0) ∧ w'.cell? ⟨gb201, 1, none⟩ = some (.int .i64 a0_1) ∧ w'.cell? ⟨gb201, 2, none⟩ = some (.int .i64 a0_2) ∧ w'.cell? ⟨gb201, 3, none⟩ = some (.int .i64 a0_3) ∧ w'.cell? ⟨gb201, 4, none⟩ = some (.int .i64 a0_4)) (ds := []) #[false, false, false, false, false, false, false, false, false, false, false, false, false] (by kernel_rfl) rfl rfl ⟨(blk_cell BK201.out 0).trans rfl, (blk_cell BK201.out 1).trans rfl, (blk_cell BK201.out 2).trans rfl, (blk_cell BK201.out 3).trans rfl, (blk_cell BK201.out 4).trans rfl⟩ (fun hHeld => ?_); refine with_tabW longcaseref08_change.tab5 longcaseref08_change.bits5 (fun HT_ HW_ => ?_)
                    generalize wc.drew = w20 at BK201 HB hHeld ⊢
                    refine pure_ (i := 0) (N := some 15) (v := ?_) (a' := ?_) #[true, false, false, false, false, false, false, false, false, false, false, false, false] rfl rfl (any_of HT_.out (by kernel_rfl)) (fun _ _ _ h => h) (Or.inl ⟨by rfl, ?_⟩) ?_ ?_
                    rotate_left
                    · intro w'
                      go_simp
                      with_reducible rfl
                    rotate_left
                    · simp only [Act.put, List.setIfInBounds_toArray, List.set_cons_zero, List.set_cons_succ, i64_w, i32_w]
                      rfl
                    refine pure_ (i := 1) (N := some 16) (v := ?_) (a' := ?_) #[true, true, false, false, false, false, false, false, false, false, false, false, false] rfl rfl (any_of HT_.out (by kernel_rfl)) (fun _ _ _ h => h) (Or.inl ⟨by rfl, ?_⟩) ?_ ?_
                    rotate_left
                    · intro w'
                      go_simp
                      with_reducible rfl
                    rotate_left
                    · simp only [Act.put, List.setIfInBounds_toArray, List.set_cons_zero, List.set_cons_succ, i64_w, i32_w]
                      rfl
                    refine pure_ (i := 2) (N := some 17) (v := ?_) (a' := ?_) #[true, true, true, false, false, false, false, false, false, false, false, false, false] rfl rfl (any_of HT_.out (by kernel_rfl)) (fun _ _ _ h => h) (Or.inl ⟨by rfl, ?_⟩) ?_ ?_
                    rotate_left
                    · intro w'
                      go_simp
                      with_reducible rfl
                    rotate_left
                    · simp only [Act.put, List.setIfInBounds_toArray, List.set_cons_zero, List.set_cons_succ, i64_w, i32_w]
                      rfl
                    refine pure_ (i := 3) (N := some 18) (v := ?_) (a' := ?_) #[true, true, true, true, false, false, false, false, false, false, false, false, false] rfl rfl (any_of HT_.out (by kernel_rfl)) (fun _ _ _ h => h) (Or.inl ⟨by rfl, ?_⟩) ?_ ?_
                    rotate_left
                    · intro w'
                      go_simp
                      with_reducible rfl
                    rotate_left
                    · simp only [Act.put, List.setIfInBounds_toArray, List.set_cons_zero, List.set_cons_succ, i64_w, i32_w]
                      rfl
                    refine pure_ (i := 8) (N := some 23) (v := ?_) (a' := ?_) #[true, true, true, true, false, false, false, false, true, false, false, false, false] rfl rfl (any_of HT_.out (by kernel_rfl)) (fun _ _ _ h => h) (Or.inl ⟨by rfl, ?_⟩) ?_ ?_
                    rotate_left
                    · intro w'
                      go_simp
                      with_reducible rfl
                    rotate_left
                    · simp only [Act.put, List.setIfInBounds_toArray, List.set_cons_zero, List.set_cons_succ, i64_w, i32_w]
                      rfl
                    refine take_ (i := 4) (N := some 19) (v := ?_) (a' := ?_) #[true, true, true, true, true, false, false, false, true, false, false, false, false] rfl rfl (take_ofW HT_.out HW_.out (by kernel_rfl)) (fun _ _ _ h => h) (Or.inl ⟨by rfl, ?_⟩) hHeld ?_ ?_
                    rotate_left
                    · rintro w' ⟨s0, s1, s2, s3, s4⟩
                      go_simp
                      with_reducible rfl
                    rotate_left
                    · simp only [Act.put, List.setIfInBounds_toArray, List.set_cons_zero, List.set_cons_succ, i64_w, i32_w]
                      rfl
                    refine take_ (i := 9) (N := some 24) (v := ?_) (a' := ?_) #[true, true, true, true, true, false, false, false, true, true, false, false, false] rfl rfl (take_ofW HT_.out HW_.out (by kernel_rfl)) (fun _ _ _ h => h) (Or.inl ⟨by rfl, ?_⟩) hHeld ?_ ?_
                    rotate_left
                    · rintro w' ⟨s0, s1, s2, s3, s4⟩
                      go_simp
                      with_reducible rfl
                    rotate_left
                    · simp only [Act.put, List.setIfInBounds_toArray, List.set_cons_zero, List.set_cons_succ, i64_w, i32_w]
                      rfl
                    refine one_ (i := 5) (N := some 20) #[true, true, true, true, true, true, false, false, true, true, false, false, false] rfl rfl (one_of HT_.out (by kernel_rfl)) (by decide) (fun K hK => ?_)
                    refine goes_ Tryd.func50 (by kernel_rfl) rfl #[.int .i64 a0_2] (by rfl) rfl rfl (by (try simp only [List.map_toArray, List.map_cons, List.map_nil]); first | done | rfl | (simp only [List.length_drop, List.length_take]; rfl)) ?_
                    with_reducible refine (longcaseref08_number.calls kj2 a0_2 t203 _ A13.out).mono ?_
                    rintro e w21 ⟨rfl, hb⟩
                    refine ⟨_, rfl, ?_⟩
                    have n0_ := Aside0.mk (blk_below (g := gb201) (o := .cells #[.int .i64 a0_0, .int .i64 a0_1, .int .i64 a0_2, .int .i64 a0_3, .int .i64 a0_4] 25 (0, 0)) (by (with_reducible repeat (first | refine blk_drewN ?_ _ | refine blk_drew ?_ | refine blk_alloc ?_ _)); exact BK201.out) hb)
                    have n1_ := Aside0.mk (below_step (by repeat (first | (with_reducible first | exact HB.out | apply below_alloc | apply pw_below_drewN | apply below_drew1 | refine below_set ?_ GE201.out) | exact HB.out)) hb)
                    clear BK201
                    clear HB
                    have BK201 := n0_
                    have HB := n1_
                    clear n0_ n1_
                    (try clear hb)
                    (try clear hb2)
                    (try clear hk)
                    (try clear hi)
                    refine hK.out _ _ ⟨(blk_cell BK201.out 0).trans rfl, (blk_cell BK201.out 1).trans rfl, (blk_cell BK201.out 2).trans rfl, (blk_cell BK201.out 3).trans rfl, (blk_cell BK201.out 4).trans rfl⟩ (fun hHeld => ?_)
                    clear hK K
                    refine norm_ (a' := ?_) ?_ ?_
                    rotate_left
                    · show Act.put _ (some 20) _ = _
                      simp only [Act.put, List.setIfInBounds_toArray, List.set_cons_zero, List.set_cons_succ, i64_w, i32_w]
                      rfl
                    refine pure_ (i := 6) (N := some 21) (v := ?_) (a' := ?_) #[true, true, true, true, true, true, true, false, true, true, false, false, false] rfl rfl (any_of HT_.out (by kernel_rfl)) (fun _ _ _ h => h) (Or.inl ⟨by rfl, ?_⟩) ?_ ?_
                    rotate_left
                    · intro w'
                      go_simp
                      with_reducible rfl
                    rotate_left
                    · simp only [Act.put, List.setIfInBounds_toArray, List.set_cons_zero, List.set_cons_succ, i64_w, i32_w]
                      rfl
                    refine pure_ (i := 7) (N := some 22) (v := ?_) (a' := ?_) #[true, true, true, true, true, true, true, true, true, true, false, false, false] rfl rfl (any_of HT_.out (by kernel_rfl)) (fun _ _ _ h => h) (Or.inl ⟨by rfl, ?_⟩) ?_ ?_
                    rotate_left
                    · intro w'
                      go_simp
                      with_reducible rfl
                    rotate_left
                    · simp only [Act.put, List.setIfInBounds_toArray, List.set_cons_zero, List.set_cons_succ, i64_w, i32_w]
                      rfl
                    refine one_ (i := 10) (N := some 25) #[true, true, true, true, true, true, true, true, true, true, true, false, false] rfl rfl (one_of HT_.out (by kernel_rfl)) (by decide) (fun K hK => ?_)
                    refine goes_ Tryd.func50 (by kernel_rfl) rfl #[.int .i64 a0_3] (by rfl) rfl rfl (by (try simp only [List.map_toArray, List.map_cons, List.map_nil]); first | done | rfl | (simp only [List.length_drop, List.length_take]; rfl)) ?_
                    with_reducible refine (longcaseref08_number.calls kj2 a0_3 t204 _ A16.out).mono ?_
                    rintro e w22 ⟨rfl, hb⟩
                    refine ⟨_, rfl, ?_⟩
                    have n0_ := Aside0.mk (blk_below (g := gb201) (o := .cells #[.int .i64 a0_0, .int .i64 a0_1, .int .i64 a0_2, .int .i64 a0_3, .int .i64 a0_4] 25 (0, 0)) (by (with_reducible repeat (first | refine blk_drewN ?_ _ | refine blk_drew ?_ | refine blk_alloc ?_ _)); exact BK201.out) hb)
                    have n1_ := Aside0.mk (below_step (by repeat (first | (with_reducible first | exact HB.out | apply below_alloc | apply pw_below_drewN | apply below_drew1 | refine below_set ?_ GE201.out) | exact HB.out)) hb)
                    clear BK201
                    clear HB
                    have BK201 := n0_
                    have HB := n1_
                    clear n0_ n1_
                    (try clear hb)
                    (try clear hb2)
                    (try clear hk)
                    (try clear hi)
                    refine hK.out _ _ ⟨(blk_cell BK201.out 0).trans rfl, (blk_cell BK201.out 1).trans rfl, (blk_cell BK201.out 2).trans rfl, (blk_cell BK201.out 3).trans rfl, (blk_cell BK201.out 4).trans rfl⟩ (fun hHeld => ?_)
                    clear hK K
                    refine norm_ (a' := ?_) ?_ ?_
                    rotate_left
                    · show Act.put _ (some 25) _ = _
                      simp only [Act.put, List.setIfInBounds_toArray, List.set_cons_zero, List.set_cons_succ, i64_w, i32_w]
                      rfl
                    refine pure_ (i := 11) (N := some 26) (v := ?_) (a' := ?_) #[true, true, true, true, true, true, true, true, true, true, true, true, false] rfl rfl (any_of HT_.out (by kernel_rfl)) (fun _ _ _ h => h) (Or.inl ⟨by rfl, ?_⟩) ?_ ?_
                    rotate_left
                    · intro w'
                      go_simp
                      with_reducible rfl
                    rotate_left
                    · simp only [Act.put, List.setIfInBounds_toArray, List.set_cons_zero, List.set_cons_succ, i64_w, i32_w]
                      rfl
                    refine pure_ (i := 12) (N := some 3) (v := ?_) (a' := ?_) #[true, true, true, true, true, true, true, true, true, true, true, true, true] rfl rfl (any_of HT_.out (by kernel_rfl)) (fun _ _ _ h => h) (Or.inl ⟨by rfl, ?_⟩) ?_ ?_
                    rotate_left
                    · intro w'
                      go_simp
                      with_reducible rfl
                    rotate_left
                    · simp only [Act.put, List.setIfInBounds_toArray, List.set_cons_zero, List.set_cons_succ, i64_w, i32_w]
                      rfl
                    refine done_ (done_of HT_.out (by kernel_rfl)) ?_
                    have hcz23_0 : w22.cell? ⟨gb201, 0, none⟩ = some (.int .i64 a0_0) := (blk_cell BK201.out 0).trans rfl
                    have hcz23_1 : w22.cell? ⟨gb201, 1, none⟩ = some (.int .i64 a0_1) := (blk_cell BK201.out 1).trans rfl
                    have hcz23_2 : w22.cell? ⟨gb201, 2, none⟩ = some (.int .i64 a0_2) := (blk_cell BK201.out 2).trans rfl
                    have hcz23_3 : w22.cell? ⟨gb201, 3, none⟩ = some (.int .i64 a0_3) := (blk_cell BK201.out 3).trans rfl
                    have hcz23_4 : w22.cell? ⟨gb201, 4, none⟩ = some (.int .i64 a0_4) := (blk_cell BK201.out 4).trans rfl
                    have hfz23_0 := blk_frozen BK201.out 0
                    have hfz23_1 := blk_frozen BK201.out 1
                    have hfz23_2 := blk_frozen BK201.out 2
                    have hfz23_3 := blk_frozen BK201.out 3
                    have hfz23_4 := blk_frozen BK201.out 4
                    try go_wp2
                    go_ret
                    exact ⟨by first | rfl | (simp [errW_none, errW_some] <;> rfl) | (simp [*, errW_none, errW_some] <;> rfl), by repeat (first | (with_reducible first | exact HB.out | apply below_alloc | apply pw_below_drewN | apply below_drew1 | refine below_set ?_ GE201.out) | exact HB.out)⟩
                  · rw [if_neg c18] at H
                    have c18b0 : (a0_4 == 7200) = false := beq_eq_false_iff_ne.mpr c18
                    have c18b1 : (a0_4 != 7200) = true := bne_iff_ne.mpr c18
                    by_cases c24 : ((((((⟨#[77]⟩ : ByteArray) ++ x3_2) ++ (⟨#[46]⟩ : ByteArray)) ++ t203) ++ (⟨#[46]⟩ : ByteArray)) ++ t204).size + 1 ≤ 9223372036854775807
                    · rw [if_pos c24] at H
                      have c24b0 := eq_true c24
                      have c24b1 : decide (((((((⟨#[77]⟩ : ByteArray) ++ x3_2) ++ (⟨#[46]⟩ : ByteArray)) ++ t203) ++ (⟨#[46]⟩ : ByteArray)) ++ t204).size + 1 ≤ 9223372036854775807) = true := decide_eq_true c24
                      try have c24b2 : (9223372036854775807 < ((((((⟨#[77]⟩ : ByteArray) ++ x3_2) ++ (⟨#[46]⟩ : ByteArray)) ++ t203) ++ (⟨#[46]⟩ : ByteArray)) ++ t204).size + 1) = False := eq_false (Nat.not_lt.2 c24)
                      have c24z0 : (((((1 + x3_2.size) + 1) + t203.size) + 1) + t204.size) + 1 ≤ 9223372036854775807 := by have z_ := c24; simp only [ByteArray.size_append] at z_; exact z_
                      try have c24z1 : (9223372036854775807 < (((((1 + x3_2.size) + 1) + t203.size) + 1) + t204.size) + 1) = False := eq_false (Nat.not_lt.2 c24z0)
                      replace H := Option.bind_eq_some_iff.mp H
                      obtain ⟨t205, A250, H⟩ := H
                      replace H : (if (((((((⟨#[77]⟩ : ByteArray) ++ x3_2) ++ (⟨#[46]⟩ : ByteArray)) ++ t203) ++ (⟨#[46]⟩ : ByteArray)) ++ t204) ++ (⟨#[47]⟩ : ByteArray)).size + t205.size ≤ 9223372036854775807 then (some ((((((((⟨#[77]⟩ : ByteArray) ++ x3_2) ++ (⟨#[46]⟩ : ByteArray)) ++ t203) ++ (⟨#[46]⟩ : ByteArray)) ++ t204) ++ (⟨#[47]⟩ : ByteArray)) ++ t205)) else (none)) = some r := H
                      have A25 := Aside0.mk A250
                      clear A250
                      by_cases c26 : (((((((⟨#[77]⟩ : ByteArray) ++ x3_2) ++ (⟨#[46]⟩ : ByteArray)) ++ t203) ++ (⟨#[46]⟩ : ByteArray)) ++ t204) ++ (⟨#[47]⟩ : ByteArray)).size + t205.size ≤ 9223372036854775807
                      · rw [if_pos c26] at H
                        have c26b0 := eq_true c26
                        have c26b1 : decide ((((((((⟨#[77]⟩ : ByteArray) ++ x3_2) ++ (⟨#[46]⟩ : ByteArray)) ++ t203) ++ (⟨#[46]⟩ : ByteArray)) ++ t204) ++ (⟨#[47]⟩ : ByteArray)).size + t205.size ≤ 9223372036854775807) = true := decide_eq_true c26
                        try have c26b2 : (9223372036854775807 < (((((((⟨#[77]⟩ : ByteArray) ++ x3_2) ++ (⟨#[46]⟩ : ByteArray)) ++ t203) ++ (⟨#[46]⟩ : ByteArray)) ++ t204) ++ (⟨#[47]⟩ : ByteArray)).size + t205.size) = False := eq_false (Nat.not_lt.2 c26)
                        have c26z0 : ((((((1 + x3_2.size) + 1) + t203.size) + 1) + t204.size) + 1) + t205.size ≤ 9223372036854775807 := by have z_ := c26; simp only [ByteArray.size_append] at z_; exact z_
                        try have c26z1 : (9223372036854775807 < ((((((1 + x3_2.size) + 1) + t203.size) + 1) + t204.size) + 1) + t205.size) = False := eq_false (Nat.not_lt.2 c26z0)
                        obtain rfl := Option.some.inj H
                        have hcz27_0 : wc.cell? ⟨gb201, 0, none⟩ = some (.int .i64 a0_0) := (blk_cell BK201.out 0).trans rfl
                        have hcz27_1 : wc.cell? ⟨gb201, 1, none⟩ = some (.int .i64 a0_1) := (blk_cell BK201.out 1).trans rfl
                        have hcz27_2 : wc.cell? ⟨gb201, 2, none⟩ = some (.int .i64 a0_2) := (blk_cell BK201.out 2).trans rfl
                        have hcz27_3 : wc.cell? ⟨gb201, 3, none⟩ = some (.int .i64 a0_3) := (blk_cell BK201.out 3).trans rfl
                        have hcz27_4 : wc.cell? ⟨gb201, 4, none⟩ = some (.int .i64 a0_4) := (blk_cell BK201.out 4).trans rfl
                        have hfz27_0 := blk_frozen BK201.out 0
                        have hfz27_1 := blk_frozen BK201.out 1
                        have hfz27_2 := blk_frozen BK201.out 2
                        have hfz27_3 := blk_frozen BK201.out 3
                        have hfz27_4 := blk_frozen BK201.out 4
                        try go_wp2
                        have n0_ := Aside0.mk (blk_drew BK201.out)
                        have n1_ := Aside0.mk (below_drew1 HB.out)
                        clear BK201
                        clear HB
                        have BK201 := n0_
                        have HB := n1_
                        clear n0_ n1_
                        refine start_ (n := 13) (S := fun w' => w'.cell? ⟨gb201, 0, none⟩ = some (.int .i64 a0_0) ∧ w'.cell? ⟨gb201, 1, none⟩ = some (.int .i64 a0_1) ∧ w'.cell? ⟨gb201, 2, none⟩ = some (.int .i64 a0_2) ∧ w'.cell? ⟨gb201, 3, none⟩ = some (.int .i64 a0_3) ∧ w'.cell? ⟨gb201, 4, none⟩ = some (.int .i64 a0_4)) (ds := []) #[false, false, false, false, false, false, false, false, false, false, false, false, false] (by kernel_rfl) rfl rfl ⟨(blk_cell BK201.out 0).trans rfl, (blk_cell BK201.out 1).trans rfl, (blk_cell BK201.out 2).trans rfl, (blk_cell BK201.out 3).trans rfl, (blk_cell BK201.out 4).trans rfl⟩ (fun hHeld => ?_); refine with_tabW longcaseref08_change.tab5 longcaseref08_change.bits5 (fun HT_ HW_ => ?_)
                        generalize wc.drew = w28 at BK201 HB hHeld ⊢
                        refine pure_ (i := 0) (N := some 15) (v := ?_) (a' := ?_) #[true, false, false, false, false, false, false, false, false, false, false, false, false] rfl rfl (any_of HT_.out (by kernel_rfl)) (fun _ _ _ h => h) (Or.inl ⟨by rfl, ?_⟩) ?_ ?_
                        rotate_left
                        · intro w'
                          go_simp
                          with_reducible rfl
                        rotate_left
                        · simp only [Act.put, List.setIfInBounds_toArray, List.set_cons_zero, List.set_cons_succ, i64_w, i32_w]
                          rfl
                        refine pure_ (i := 1) (N := some 16) (v := ?_) (a' := ?_) #[true, true, false, false, false, false, false, false, false, false, false, false, false] rfl rfl (any_of HT_.out (by kernel_rfl)) (fun _ _ _ h => h) (Or.inl ⟨by rfl, ?_⟩) ?_ ?_
                        rotate_left
                        · intro w'
                          go_simp
                          with_reducible rfl
                        rotate_left
                        · simp only [Act.put, List.setIfInBounds_toArray, List.set_cons_zero, List.set_cons_succ, i64_w, i32_w]
                          rfl
                        refine pure_ (i := 2) (N := some 17) (v := ?_) (a' := ?_) #[true, true, true, false, false, false, false, false, false, false, false, false, false] rfl rfl (any_of HT_.out (by kernel_rfl)) (fun _ _ _ h => h) (Or.inl ⟨by rfl, ?_⟩) ?_ ?_
                        rotate_left
                        · intro w'
                          go_simp
                          with_reducible rfl
                        rotate_left
                        · simp only [Act.put, List.setIfInBounds_toArray, List.set_cons_zero, List.set_cons_succ, i64_w, i32_w]
                          rfl
                        refine pure_ (i := 3) (N := some 18) (v := ?_) (a' := ?_) #[true, true, true, true, false, false, false, false, false, false, false, false, false] rfl rfl (any_of HT_.out (by kernel_rfl)) (fun _ _ _ h => h) (Or.inl ⟨by rfl, ?_⟩) ?_ ?_
                        rotate_left
                        · intro w'
                          go_simp
                          with_reducible rfl
                        rotate_left
                        · simp only [Act.put, List.setIfInBounds_toArray, List.set_cons_zero, List.set_cons_succ, i64_w, i32_w]
                          rfl
                        refine pure_ (i := 8) (N := some 23) (v := ?_) (a' := ?_) #[true, true, true, true, false, false, false, false, true, false, false, false, false] rfl rfl (any_of HT_.out (by kernel_rfl)) (fun _ _ _ h => h) (Or.inl ⟨by rfl, ?_⟩) ?_ ?_
                        rotate_left
                        · intro w'
                          go_simp
                          with_reducible rfl
                        rotate_left
                        · simp only [Act.put, List.setIfInBounds_toArray, List.set_cons_zero, List.set_cons_succ, i64_w, i32_w]
                          rfl
                        refine take_ (i := 4) (N := some 19) (v := ?_) (a' := ?_) #[true, true, true, true, true, false, false, false, true, false, false, false, false] rfl rfl (take_ofW HT_.out HW_.out (by kernel_rfl)) (fun _ _ _ h => h) (Or.inl ⟨by rfl, ?_⟩) hHeld ?_ ?_
                        rotate_left
                        · rintro w' ⟨s0, s1, s2, s3, s4⟩
                          go_simp
                          with_reducible rfl
                        rotate_left
                        · simp only [Act.put, List.setIfInBounds_toArray, List.set_cons_zero, List.set_cons_succ, i64_w, i32_w]
                          rfl
                        refine take_ (i := 9) (N := some 24) (v := ?_) (a' := ?_) #[true, true, true, true, true, false, false, false, true, true, false, false, false] rfl rfl (take_ofW HT_.out HW_.out (by kernel_rfl)) (fun _ _ _ h => h) (Or.inl ⟨by rfl, ?_⟩) hHeld ?_ ?_
                        rotate_left
                        · rintro w' ⟨s0, s1, s2, s3, s4⟩
                          go_simp
                          with_reducible rfl
                        rotate_left
                        · simp only [Act.put, List.setIfInBounds_toArray, List.set_cons_zero, List.set_cons_succ, i64_w, i32_w]
                          rfl
                        refine one_ (i := 5) (N := some 20) #[true, true, true, true, true, true, false, false, true, true, false, false, false] rfl rfl (one_of HT_.out (by kernel_rfl)) (by decide) (fun K hK => ?_)
                        refine goes_ Tryd.func50 (by kernel_rfl) rfl #[.int .i64 a0_2] (by rfl) rfl rfl (by (try simp only [List.map_toArray, List.map_cons, List.map_nil]); first | done | rfl | (simp only [List.length_drop, List.length_take]; rfl)) ?_
                        with_reducible refine (longcaseref08_number.calls kj2 a0_2 t203 _ A13.out).mono ?_
                        rintro e w29 ⟨rfl, hb⟩
                        refine ⟨_, rfl, ?_⟩
                        have n0_ := Aside0.mk (blk_below (g := gb201) (o := .cells #[.int .i64 a0_0, .int .i64 a0_1, .int .i64 a0_2, .int .i64 a0_3, .int .i64 a0_4] 25 (0, 0)) (by (with_reducible repeat (first | refine blk_drewN ?_ _ | refine blk_drew ?_ | refine blk_alloc ?_ _)); exact BK201.out) hb)
                        have n1_ := Aside0.mk (below_step (by repeat (first | (with_reducible first | exact HB.out | apply below_alloc | apply pw_below_drewN | apply below_drew1 | refine below_set ?_ GE201.out) | exact HB.out)) hb)
                        clear BK201
                        clear HB
                        have BK201 := n0_
                        have HB := n1_
                        clear n0_ n1_
                        (try clear hb)
                        (try clear hb2)
                        (try clear hk)
                        (try clear hi)
                        refine hK.out _ _ ⟨(blk_cell BK201.out 0).trans rfl, (blk_cell BK201.out 1).trans rfl, (blk_cell BK201.out 2).trans rfl, (blk_cell BK201.out 3).trans rfl, (blk_cell BK201.out 4).trans rfl⟩ (fun hHeld => ?_)
                        clear hK K
                        refine norm_ (a' := ?_) ?_ ?_
                        rotate_left
                        · show Act.put _ (some 20) _ = _
                          simp only [Act.put, List.setIfInBounds_toArray, List.set_cons_zero, List.set_cons_succ, i64_w, i32_w]
                          rfl
                        refine pure_ (i := 6) (N := some 21) (v := ?_) (a' := ?_) #[true, true, true, true, true, true, true, false, true, true, false, false, false] rfl rfl (any_of HT_.out (by kernel_rfl)) (fun _ _ _ h => h) (Or.inl ⟨by rfl, ?_⟩) ?_ ?_
                        rotate_left
                        · intro w'
                          go_simp
                          with_reducible rfl
                        rotate_left
                        · simp only [Act.put, List.setIfInBounds_toArray, List.set_cons_zero, List.set_cons_succ, i64_w, i32_w]
                          rfl
                        refine pure_ (i := 7) (N := some 22) (v := ?_) (a' := ?_) #[true, true, true, true, true, true, true, true, true, true, false, false, false] rfl rfl (any_of HT_.out (by kernel_rfl)) (fun _ _ _ h => h) (Or.inl ⟨by rfl, ?_⟩) ?_ ?_
                        rotate_left
                        · intro w'
                          go_simp
                          with_reducible rfl
                        rotate_left
                        · simp only [Act.put, List.setIfInBounds_toArray, List.set_cons_zero, List.set_cons_succ, i64_w, i32_w]
                          rfl
                        refine one_ (i := 10) (N := some 25) #[true, true, true, true, true, true, true, true, true, true, true, false, false] rfl rfl (one_of HT_.out (by kernel_rfl)) (by decide) (fun K hK => ?_)
                        refine goes_ Tryd.func50 (by kernel_rfl) rfl #[.int .i64 a0_3] (by rfl) rfl rfl (by (try simp only [List.map_toArray, List.map_cons, List.map_nil]); first | done | rfl | (simp only [List.length_drop, List.length_take]; rfl)) ?_
                        with_reducible refine (longcaseref08_number.calls kj2 a0_3 t204 _ A16.out).mono ?_
                        rintro e w30 ⟨rfl, hb⟩
                        refine ⟨_, rfl, ?_⟩
                        have n0_ := Aside0.mk (blk_below (g := gb201) (o := .cells #[.int .i64 a0_0, .int .i64 a0_1, .int .i64 a0_2, .int .i64 a0_3, .int .i64 a0_4] 25 (0, 0)) (by (with_reducible repeat (first | refine blk_drewN ?_ _ | refine blk_drew ?_ | refine blk_alloc ?_ _)); exact BK201.out) hb)
                        have n1_ := Aside0.mk (below_step (by repeat (first | (with_reducible first | exact HB.out | apply below_alloc | apply pw_below_drewN | apply below_drew1 | refine below_set ?_ GE201.out) | exact HB.out)) hb)
                        clear BK201
                        clear HB
                        have BK201 := n0_
                        have HB := n1_
                        clear n0_ n1_
                        (try clear hb)
                        (try clear hb2)
                        (try clear hk)
                        (try clear hi)
                        refine hK.out _ _ ⟨(blk_cell BK201.out 0).trans rfl, (blk_cell BK201.out 1).trans rfl, (blk_cell BK201.out 2).trans rfl, (blk_cell BK201.out 3).trans rfl, (blk_cell BK201.out 4).trans rfl⟩ (fun hHeld => ?_)
                        clear hK K
                        refine norm_ (a' := ?_) ?_ ?_
                        rotate_left
                        · show Act.put _ (some 25) _ = _
                          simp only [Act.put, List.setIfInBounds_toArray, List.set_cons_zero, List.set_cons_succ, i64_w, i32_w]
                          rfl
                        refine pure_ (i := 11) (N := some 26) (v := ?_) (a' := ?_) #[true, true, true, true, true, true, true, true, true, true, true, true, false] rfl rfl (any_of HT_.out (by kernel_rfl)) (fun _ _ _ h => h) (Or.inl ⟨by rfl, ?_⟩) ?_ ?_
                        rotate_left
                        · intro w'
                          go_simp
                          with_reducible rfl
                        rotate_left
                        · simp only [Act.put, List.setIfInBounds_toArray, List.set_cons_zero, List.set_cons_succ, i64_w, i32_w]
                          rfl
                        refine pure_ (i := 12) (N := some 3) (v := ?_) (a' := ?_) #[true, true, true, true, true, true, true, true, true, true, true, true, true] rfl rfl (any_of HT_.out (by kernel_rfl)) (fun _ _ _ h => h) (Or.inl ⟨by rfl, ?_⟩) ?_ ?_
                        rotate_left
                        · intro w'
                          go_simp
                          with_reducible rfl
                        rotate_left
                        · simp only [Act.put, List.setIfInBounds_toArray, List.set_cons_zero, List.set_cons_succ, i64_w, i32_w]
                          rfl
                        refine done_ (done_of HT_.out (by kernel_rfl)) ?_
                        have hcz31_0 : w30.cell? ⟨gb201, 0, none⟩ = some (.int .i64 a0_0) := (blk_cell BK201.out 0).trans rfl
                        have hcz31_1 : w30.cell? ⟨gb201, 1, none⟩ = some (.int .i64 a0_1) := (blk_cell BK201.out 1).trans rfl
                        have hcz31_2 : w30.cell? ⟨gb201, 2, none⟩ = some (.int .i64 a0_2) := (blk_cell BK201.out 2).trans rfl
                        have hcz31_3 : w30.cell? ⟨gb201, 3, none⟩ = some (.int .i64 a0_3) := (blk_cell BK201.out 3).trans rfl
                        have hcz31_4 : w30.cell? ⟨gb201, 4, none⟩ = some (.int .i64 a0_4) := (blk_cell BK201.out 4).trans rfl
                        have hfz31_0 := blk_frozen BK201.out 0
                        have hfz31_1 := blk_frozen BK201.out 1
                        have hfz31_2 := blk_frozen BK201.out 2
                        have hfz31_3 := blk_frozen BK201.out 3
                        have hfz31_4 := blk_frozen BK201.out 4
                        try go_wp2_with (first | ((with_reducible refine gate_callee (f := 33) rfl ?_); refine goesL_ (some 34) rfl rfl Tryd.func33 (by kernel_rfl) rfl #[.int .i64 a0_4] rfl (by (try simp only [List.map_toArray, List.map_cons, List.map_nil]); first | done | rfl | (simp only [List.length_drop, List.length_take]; rfl)) ?_; (with_reducible refine (longcaseref08_hours.calls kj2 a0_4 t205 _ A25.out).mono ?_); rintro e w32 ⟨rfl, hb⟩; refine ⟨_, rfl, ?_⟩; have n0_ := Aside0.mk (blk_below (g := gb201) (o := .cells #[.int .i64 a0_0, .int .i64 a0_1, .int .i64 a0_2, .int .i64 a0_3, .int .i64 a0_4] 25 (0, 0)) (by (with_reducible repeat (first | refine blk_drewN ?_ _ | refine blk_drew ?_ | refine blk_alloc ?_ _)); exact BK201.out) hb); have n1_ := Aside0.mk (below_step (by repeat (first | (with_reducible first | exact HB.out | apply below_alloc | apply pw_below_drewN | apply below_drew1 | refine below_set ?_ GE201.out) | exact HB.out)) hb); clear BK201; clear HB; have BK201 := n0_; have HB := n1_; clear n0_ n1_; (try clear hb); (try clear hb2); (try clear hk); (try clear hi)))
                        go_ret
                        exact ⟨by first | rfl | (simp [errW_none, errW_some] <;> rfl) | (simp [*, errW_none, errW_some] <;> rfl), by repeat (first | (with_reducible first | exact HB.out | apply below_alloc | apply pw_below_drewN | apply below_drew1 | refine below_set ?_ GE201.out) | exact HB.out)⟩
                      · rw [if_neg c26] at H
                        exact absurd H (by simp)
                    · rw [if_neg c24] at H
                      exact absurd H (by simp)
                · rw [if_neg c17] at H
                  exact absurd H (by simp)
              · rw [if_neg c15] at H
                exact absurd H (by simp)
            · rw [if_neg c14] at H
              exact absurd H (by simp)
          · rw [if_neg c12] at H
            exact absurd H (by simp)
        · rw [if_neg c11] at H
          exact absurd H (by simp)
      · rw [if_neg c10] at H
        have c10b0 : (a0_0 == 3) = false := beq_eq_false_iff_ne.mpr c10
        have c10b1 : (a0_0 != 3) = true := bne_iff_ne.mpr c10
        by_cases c33 : a0_4 = 7200
        · rw [if_pos c33] at H
          have c33b0 : (a0_4 == 7200) = true := beq_iff_eq.mpr c33
          have c33b1 : (a0_4 != 7200) = false := bne_eq_false_iff_eq.mpr c33
          clear c33
          obtain rfl := Option.some.inj H
          have hcz34_0 : wc.cell? ⟨gb201, 0, none⟩ = some (.int .i64 a0_0) := (blk_cell BK201.out 0).trans rfl
          have hcz34_1 : wc.cell? ⟨gb201, 1, none⟩ = some (.int .i64 a0_1) := (blk_cell BK201.out 1).trans rfl
          have hcz34_2 : wc.cell? ⟨gb201, 2, none⟩ = some (.int .i64 a0_2) := (blk_cell BK201.out 2).trans rfl
          have hcz34_3 : wc.cell? ⟨gb201, 3, none⟩ = some (.int .i64 a0_3) := (blk_cell BK201.out 3).trans rfl
          have hcz34_4 : wc.cell? ⟨gb201, 4, none⟩ = some (.int .i64 a0_4) := (blk_cell BK201.out 4).trans rfl
          have hfz34_0 := blk_frozen BK201.out 0
          have hfz34_1 := blk_frozen BK201.out 1
          have hfz34_2 := blk_frozen BK201.out 2
          have hfz34_3 := blk_frozen BK201.out 3
          have hfz34_4 := blk_frozen BK201.out 4
          go_wp2
          go_ret
          exact ⟨by first | rfl | (simp [errW_none, errW_some] <;> rfl) | (simp [*, errW_none, errW_some] <;> rfl), by repeat (first | (with_reducible first | exact HB.out | apply below_alloc | apply pw_below_drewN | apply below_drew1 | refine below_set ?_ GE201.out) | exact HB.out)⟩
        · rw [if_neg c33] at H
          have c33b0 : (a0_4 == 7200) = false := beq_eq_false_iff_ne.mpr c33
          have c33b1 : (a0_4 != 7200) = true := bne_iff_ne.mpr c33
          by_cases c35 : x3_2.size + 1 ≤ 9223372036854775807
          · rw [if_pos c35] at H
            have c35b0 := eq_true c35
            have c35b1 : decide (x3_2.size + 1 ≤ 9223372036854775807) = true := decide_eq_true c35
            try have c35b2 : (9223372036854775807 < x3_2.size + 1) = False := eq_false (Nat.not_lt.2 c35)
            replace H := Option.bind_eq_some_iff.mp H
            obtain ⟨t206, A360, H⟩ := H
            replace H : (if (x3_2 ++ (⟨#[47]⟩ : ByteArray)).size + t206.size ≤ 9223372036854775807 then (some ((x3_2 ++ (⟨#[47]⟩ : ByteArray)) ++ t206)) else (none)) = some r := H
            have A36 := Aside0.mk A360
            clear A360
            by_cases c37 : (x3_2 ++ (⟨#[47]⟩ : ByteArray)).size + t206.size ≤ 9223372036854775807
            · rw [if_pos c37] at H
              have c37b0 := eq_true c37
              have c37b1 : decide ((x3_2 ++ (⟨#[47]⟩ : ByteArray)).size + t206.size ≤ 9223372036854775807) = true := decide_eq_true c37
              try have c37b2 : (9223372036854775807 < (x3_2 ++ (⟨#[47]⟩ : ByteArray)).size + t206.size) = False := eq_false (Nat.not_lt.2 c37)
              have c37z0 : (x3_2.size + 1) + t206.size ≤ 9223372036854775807 := by have z_ := c37; simp only [ByteArray.size_append] at z_; exact z_
              try have c37z1 : (9223372036854775807 < (x3_2.size + 1) + t206.size) = False := eq_false (Nat.not_lt.2 c37z0)
              obtain rfl := Option.some.inj H
              have hcz38_0 : wc.cell? ⟨gb201, 0, none⟩ = some (.int .i64 a0_0) := (blk_cell BK201.out 0).trans rfl
              have hcz38_1 : wc.cell? ⟨gb201, 1, none⟩ = some (.int .i64 a0_1) := (blk_cell BK201.out 1).trans rfl
              have hcz38_2 : wc.cell? ⟨gb201, 2, none⟩ = some (.int .i64 a0_2) := (blk_cell BK201.out 2).trans rfl
              have hcz38_3 : wc.cell? ⟨gb201, 3, none⟩ = some (.int .i64 a0_3) := (blk_cell BK201.out 3).trans rfl
              have hcz38_4 : wc.cell? ⟨gb201, 4, none⟩ = some (.int .i64 a0_4) := (blk_cell BK201.out 4).trans rfl
              have hfz38_0 := blk_frozen BK201.out 0
              have hfz38_1 := blk_frozen BK201.out 1
              have hfz38_2 := blk_frozen BK201.out 2
              have hfz38_3 := blk_frozen BK201.out 3
              have hfz38_4 := blk_frozen BK201.out 4
              go_wp2_with (first | ((with_reducible refine gate_callee (f := 33) rfl ?_); refine goesL_ (some 34) rfl rfl Tryd.func33 (by kernel_rfl) rfl #[.int .i64 a0_4] rfl (by (try simp only [List.map_toArray, List.map_cons, List.map_nil]); first | done | rfl | (simp only [List.length_drop, List.length_take]; rfl)) ?_; (with_reducible refine (longcaseref08_hours.calls kj2 a0_4 t206 _ A36.out).mono ?_); rintro e w39 ⟨rfl, hb⟩; refine ⟨_, rfl, ?_⟩; have n0_ := Aside0.mk (blk_below (g := gb201) (o := .cells #[.int .i64 a0_0, .int .i64 a0_1, .int .i64 a0_2, .int .i64 a0_3, .int .i64 a0_4] 25 (0, 0)) (by (with_reducible repeat (first | refine blk_drewN ?_ _ | refine blk_drew ?_ | refine blk_alloc ?_ _)); exact BK201.out) hb); have n1_ := Aside0.mk (below_step (by repeat (first | (with_reducible first | exact HB.out | apply below_alloc | apply pw_below_drewN | apply below_drew1 | refine below_set ?_ GE201.out) | exact HB.out)) hb); clear BK201; clear HB; have BK201 := n0_; have HB := n1_; clear n0_ n1_; (try clear hb); (try clear hb2); (try clear hk); (try clear hi)))
              go_ret
              exact ⟨by first | rfl | (simp [errW_none, errW_some] <;> rfl) | (simp [*, errW_none, errW_some] <;> rfl), by repeat (first | (with_reducible first | exact HB.out | apply below_alloc | apply pw_below_drewN | apply below_drew1 | refine below_set ?_ GE201.out) | exact HB.out)⟩
            · rw [if_neg c37] at H
              exact absurd H (by simp)
          · rw [if_neg c35] at H
            exact absurd H (by simp)
end Go.Proofs.YtnbjneknicppcaaDoor.Fn

namespace Go.Proofs.YtnbjneknicppcaaDoor.Fn
open Go.RowKit Go.Proofs.YtnbjneknicppcaaDoorW.PrintWords Go.Proofs.YtnbjneknicppcaaDoorW.PrintLast Go.Proofs.YtnbjneknicppcaaDoorW.PrintMore
attribute [local go_sem] min2_int min_two
set_option linter.unusedVariables false
set_option linter.unusedSimpArgs false
/-! ### longcaseref08_plain: function 49 -/
def longcaseref08_plain.l0 : Nat → ByteArray → Int → Option (Bool)
  | 0, _, _ => none
  | k + 1, x0, x3 => if x3 < (x0.size : Int) then (if 0 ≤ x3 then ((longcaseref08_letter.f (bt x0 x3)).bind fun t188 => (if t188 = true then (longcaseref08_plain.l0 k x0 (wrap64 (x3 + 1))) else (some false))) else (none)) else (some true)
def longcaseref08_plain.f (k : Nat) (a0 : ByteArray) : Option (Bool) := longcaseref08_plain.l0 k a0 0
theorem longcaseref08_plain.mono_l : ∀ k, (∀ y0 y1, LeO (longcaseref08_plain.l0 k y0 y1) (longcaseref08_plain.l0 (k + 1) y0 y1))
  | 0 => fun _ _ r h => by simp [longcaseref08_plain.l0] at h
  | k + 1 => by
    have ih0 := longcaseref08_plain.mono_l k
    · intro y0 y1
      unfold longcaseref08_plain.l0
      repeat' first
      | (with_reducible exact ih0 _ _)
      | (with_reducible exact LeO.refl _)
      | (with_reducible exact LeO.none _)
      | (with_reducible refine LeO.ite ?_ ?_)
      | (with_reducible refine LeO.bind ?_ (fun _ => ?_))
      | exact ih0 _ _
      | exact LeO.none _
      | refine LeO.ite ?_ ?_
      | refine LeO.bind ?_ (fun _ => ?_)
theorem longcaseref08_plain.mono : ∀ a0 k, LeO (longcaseref08_plain.f k a0) (longcaseref08_plain.f (k + 1) a0) := by
  intro a0 k
  have ih0 := longcaseref08_plain.mono_l k
  unfold longcaseref08_plain.f
  repeat' first
      | (with_reducible exact ih0 _ _)
      | (with_reducible exact LeO.refl _)
      | (with_reducible exact LeO.none _)
      | (with_reducible refine LeO.ite ?_ ?_)
      | (with_reducible refine LeO.bind ?_ (fun _ => ?_))
      | exact ih0 _ _
      | exact LeO.none _
      | refine LeO.ite ?_ ?_
      | refine LeO.bind ?_ (fun _ => ?_)
set_option maxHeartbeats 8000000 in
set_option maxRecDepth 100000 in
theorem longcaseref08_plain.calls (k : Nat) (a0 : ByteArray) (r : Bool) (w : World) (h : longcaseref08_plain.f k a0 = some r) :
    Calls Tryd.prog 49 #[.string a0] w fun e w' => e = .returned (.bool r) ∧ Drawn0 w w' := by
  have H : (longcaseref08_plain.l0 k a0 0) = some r := h
  clear h
  have H' := Aside0.mk H
  clear H
  go_enter Tryd.func49, Tryd.ntmps49
  go_wp2
  go_loopg [3] k (fun kq v3 w' => ∃ (x3_1 : Int), v3 = .int .i64 x3_1 ∧ Aside0 (longcaseref08_plain.l0 kq a0 x3_1 = some r) ∧ Aside0 (kq ≤ k) ∧ Drawn0 w w')
  case atStart => exact ⟨(0), (by first | rfl | (simp; done) | (simp [*]; done)), H', ⟨Nat.le_refl _⟩, by repeat (first | exact Drawn0.refl _ | apply Drawn0.step)⟩
  case round =>
    clear H'
    obtain ⟨x3_1, rfl, HA, HK1, ⟨m1, rfl⟩⟩ := hrel
    cases gk with
    | zero => exact absurd HA.out (by simp [longcaseref08_plain.l0])
    | succ k1 =>
      have H := HA.out
      clear HA
      simp only [longcaseref08_plain.l0] at H
      by_cases c2 : x3_1 < (a0.size : Int)
      · rw [if_pos c2] at H
        have c2b0 : decide (x3_1 < (a0.size : Int)) = true := decide_eq_true c2
        clear c2
        by_cases c3 : 0 ≤ x3_1
        · rw [if_pos c3] at H
          have c3b0 : decide (0 ≤ x3_1) = true := decide_eq_true c3
          clear c3
          replace H := Option.bind_eq_some_iff.mp H
          obtain ⟨t188, A50, H⟩ := H
          replace H : (if t188 = true then (longcaseref08_plain.l0 k1 a0 (wrap64 (x3_1 + 1))) else (some false)) = some r := H
          have A5 := Aside0.mk A50
          clear A50
          by_cases c6 : t188 = true
          · subst c6
            have H1 : (longcaseref08_plain.l0 k1 a0 (wrap64 (x3_1 + 1))) = some r := by rw [if_pos rfl] at H; exact H
            clear H
            have H := H1
            clear H1
            have H' := Aside0.mk H
            clear H
            have p4 : 0 ≤ (x3_1 : Int) := of_decide_eq_true (by first | (with_reducible assumption) | assumption)
            have q4 : x3_1 < (a0.size : Int) := of_decide_eq_true (by first | (with_reducible assumption) | assumption)
            have hx4 := bt_at a0 x3_1
            replace p4 := eq_true p4
            replace q4 := eq_true q4
            go_wp2_with (first | ((with_reducible refine gate_callee (f := 40) rfl ?_); refine goesL_ (some 13) rfl rfl Tryd.func40 (by kernel_rfl) rfl #[.int .u8 (bt a0 x3_1)] rfl (by (try simp only [List.map_toArray, List.map_cons, List.map_nil]); first | done | rfl | (simp only [List.length_drop, List.length_take]; rfl)) ?_; (with_reducible refine (longcaseref08_letter.calls (bt a0 x3_1) true _ A5.out).mono ?_); rintro e w' ⟨rfl, ⟨nd, rfl⟩⟩; refine ⟨_, rfl, ?_⟩))
            go_roundg k1
            case measure => have := HK1.out; omega
            case rel => exact ⟨(wrap64 (x3_1 + 1)), (by first | rfl | (simp; done) | (simp [*]; done)), H', ⟨by have := HK1.out; omega⟩, by repeat (first | exact Drawn0.refl _ | apply Drawn0.step)⟩
          · replace c6 := Bool.eq_false_iff.mpr c6
            subst c6
            have H1 : (some false) = some r := by rw [if_neg (show ¬ (false = true) by decide)] at H; exact H
            clear H
            have H := H1
            clear H1
            obtain rfl := Option.some.inj H
            have p4 : 0 ≤ (x3_1 : Int) := of_decide_eq_true (by first | (with_reducible assumption) | assumption)
            have q4 : x3_1 < (a0.size : Int) := of_decide_eq_true (by first | (with_reducible assumption) | assumption)
            have hx4 := bt_at a0 x3_1
            replace p4 := eq_true p4
            replace q4 := eq_true q4
            go_wp2_with (first | ((with_reducible refine gate_callee (f := 40) rfl ?_); refine goesL_ (some 13) rfl rfl Tryd.func40 (by kernel_rfl) rfl #[.int .u8 (bt a0 x3_1)] rfl (by (try simp only [List.map_toArray, List.map_cons, List.map_nil]); first | done | rfl | (simp only [List.length_drop, List.length_take]; rfl)) ?_; (with_reducible refine (longcaseref08_letter.calls (bt a0 x3_1) false _ A5.out).mono ?_); rintro e w' ⟨rfl, ⟨nd, rfl⟩⟩; refine ⟨_, rfl, ?_⟩))
            go_ret
            exact ⟨by first | rfl | (simp; done) | (simp [*]; done), by repeat (first | exact Drawn0.refl _ | apply Drawn0.step)⟩
        · rw [if_neg c3] at H
          exact absurd H (by simp)
      · rw [if_neg c2] at H
        have c2b0 : decide (x3_1 < (a0.size : Int)) = false := decide_eq_false c2
        clear c2
        obtain rfl := Option.some.inj H
        go_wp2
        go_ret
        exact ⟨by first | rfl | (simp; done) | (simp [*]; done), by repeat (first | exact Drawn0.refl _ | apply Drawn0.step)⟩
end Go.Proofs.YtnbjneknicppcaaDoor.Fn

namespace Go.Proofs.YtnbjneknicppcaaDoor.Fn
open Go.RowKit Go.Proofs.YtnbjneknicppcaaDoorW.PrintWords Go.Proofs.YtnbjneknicppcaaDoorW.PrintLast Go.Proofs.YtnbjneknicppcaaDoorW.PrintMore
attribute [local go_sem] min2_int min_two
set_option linter.unusedVariables false
set_option linter.unusedSimpArgs false
/-! ### longcaseref08_named: function 32 -/
def longcaseref08_named.f (k : Nat) (a0 : ByteArray) : Option (ByteArray) := (longcaseref08_plain.f k a0).bind fun t189 => (if t189 = true then (some a0) else (if 1 + a0.size ≤ 9223372036854775807 then (if ((⟨#[60]⟩ : ByteArray) ++ a0).size + 1 ≤ 9223372036854775807 then (some (((⟨#[60]⟩ : ByteArray) ++ a0) ++ (⟨#[62]⟩ : ByteArray))) else (none)) else (none)))
theorem longcaseref08_named.mono : ∀ a0 k, LeO (longcaseref08_named.f k a0) (longcaseref08_named.f (k + 1) a0) := by
  intro a0 k
  unfold longcaseref08_named.f
  repeat' first
      | (with_reducible exact longcaseref08_plain.mono _ _)
      | (with_reducible exact LeO.refl _)
      | (with_reducible exact LeO.none _)
      | (with_reducible refine LeO.ite ?_ ?_)
      | (with_reducible refine LeO.bind ?_ (fun _ => ?_))
      | exact longcaseref08_plain.mono _ _
      | exact LeO.none _
      | refine LeO.ite ?_ ?_
      | refine LeO.bind ?_ (fun _ => ?_)
set_option maxHeartbeats 8000000 in
set_option maxRecDepth 100000 in
theorem longcaseref08_named.calls (k : Nat) (a0 : ByteArray) (r : ByteArray) (w : World) (h : longcaseref08_named.f k a0 = some r) :
    Calls Tryd.prog 32 #[.string a0] w fun e w' => e = .returned (.string r) ∧ Drawn0 w w' := by
  have H : ((longcaseref08_plain.f k a0).bind fun t189 => (if t189 = true then (some a0) else (if 1 + a0.size ≤ 9223372036854775807 then (if ((⟨#[60]⟩ : ByteArray) ++ a0).size + 1 ≤ 9223372036854775807 then (some (((⟨#[60]⟩ : ByteArray) ++ a0) ++ (⟨#[62]⟩ : ByteArray))) else (none)) else (none)))) = some r := h
  clear h
  replace H := Option.bind_eq_some_iff.mp H
  obtain ⟨t189, A20, H⟩ := H
  replace H : (if t189 = true then (some a0) else (if 1 + a0.size ≤ 9223372036854775807 then (if ((⟨#[60]⟩ : ByteArray) ++ a0).size + 1 ≤ 9223372036854775807 then (some (((⟨#[60]⟩ : ByteArray) ++ a0) ++ (⟨#[62]⟩ : ByteArray))) else (none)) else (none))) = some r := H
  have A2 := Aside0.mk A20
  clear A20
  by_cases c3 : t189 = true
  · subst c3
    have H1 : (some a0) = some r := by rw [if_pos rfl] at H; exact H
    clear H
    have H := H1
    clear H1
    obtain rfl := Option.some.inj H
    go_enter Tryd.func32, Tryd.ntmps32
    go_wp2_with (first | ((with_reducible refine gate_callee (f := 49) rfl ?_); refine goesL_ (some 5) rfl rfl Tryd.func49 (by kernel_rfl) rfl #[.string a0] rfl (by (try simp only [List.map_toArray, List.map_cons, List.map_nil]); first | done | rfl | (simp only [List.length_drop, List.length_take]; rfl)) ?_; (with_reducible refine (longcaseref08_plain.calls k a0 true _ A2.out).mono ?_); rintro e w' ⟨rfl, ⟨nd, rfl⟩⟩; refine ⟨_, rfl, ?_⟩))
    go_ret
    exact ⟨by first | rfl | (simp; done) | (simp [*]; done), by repeat (first | exact Drawn0.refl _ | apply Drawn0.step)⟩
  · replace c3 := Bool.eq_false_iff.mpr c3
    subst c3
    have H1 : (if 1 + a0.size ≤ 9223372036854775807 then (if ((⟨#[60]⟩ : ByteArray) ++ a0).size + 1 ≤ 9223372036854775807 then (some (((⟨#[60]⟩ : ByteArray) ++ a0) ++ (⟨#[62]⟩ : ByteArray))) else (none)) else (none)) = some r := by rw [if_neg (show ¬ (false = true) by decide)] at H; exact H
    clear H
    have H := H1
    clear H1
    by_cases c4 : 1 + a0.size ≤ 9223372036854775807
    · rw [if_pos c4] at H
      have c4b0 := eq_true c4
      have c4b1 : decide (1 + a0.size ≤ 9223372036854775807) = true := decide_eq_true c4
      try have c4b2 : (9223372036854775807 < 1 + a0.size) = False := eq_false (Nat.not_lt.2 c4)
      by_cases c5 : ((⟨#[60]⟩ : ByteArray) ++ a0).size + 1 ≤ 9223372036854775807
      · rw [if_pos c5] at H
        have c5b0 := eq_true c5
        have c5b1 : decide (((⟨#[60]⟩ : ByteArray) ++ a0).size + 1 ≤ 9223372036854775807) = true := decide_eq_true c5
        try have c5b2 : (9223372036854775807 < ((⟨#[60]⟩ : ByteArray) ++ a0).size + 1) = False := eq_false (Nat.not_lt.2 c5)
        have c5z0 : (1 + a0.size) + 1 ≤ 9223372036854775807 := by have z_ := c5; simp only [ByteArray.size_append] at z_; exact z_
        try have c5z1 : (9223372036854775807 < (1 + a0.size) + 1) = False := eq_false (Nat.not_lt.2 c5z0)
        obtain rfl := Option.some.inj H
        go_enter Tryd.func32, Tryd.ntmps32
        go_wp2_with (first | ((with_reducible refine gate_callee (f := 49) rfl ?_); refine goesL_ (some 5) rfl rfl Tryd.func49 (by kernel_rfl) rfl #[.string a0] rfl (by (try simp only [List.map_toArray, List.map_cons, List.map_nil]); first | done | rfl | (simp only [List.length_drop, List.length_take]; rfl)) ?_; (with_reducible refine (longcaseref08_plain.calls k a0 false _ A2.out).mono ?_); rintro e w' ⟨rfl, ⟨nd, rfl⟩⟩; refine ⟨_, rfl, ?_⟩))
        go_ret
        exact ⟨by first | rfl | (simp; done) | (simp [*]; done), by repeat (first | exact Drawn0.refl _ | apply Drawn0.step)⟩
      · rw [if_neg c5] at H
        exact absurd H (by simp)
    · rw [if_neg c4] at H
      exact absurd H (by simp)
end Go.Proofs.YtnbjneknicppcaaDoor.Fn

namespace Go.Proofs.YtnbjneknicppcaaDoor.Fn
open Go.RowKit Go.Proofs.YtnbjneknicppcaaDoorW.PrintWords Go.Proofs.YtnbjneknicppcaaDoorW.PrintLast Go.Proofs.YtnbjneknicppcaaDoorW.PrintMore
attribute [local go_sem] min2_int min_two
set_option linter.unusedVariables false
set_option linter.unusedSimpArgs false
/-! ### longcaseref08_Print: function 17 -/
def longcaseref08_Print.f (k : Nat) (a0_0 : Int) (a0_1 : Bool) (a0_2 : ByteArray) (a0_3 : Int) (a0_4 : Bool) (a0_5 : ByteArray) (a0_6 : Bool) (a0_7 : Int) (a0_8 : Int) (a0_9 : Int) (a0_10 : Int) (a0_11 : Int) (a0_12 : Int) (a0_13 : Int) (a0_14 : Int) (a0_15 : Int) (a0_16 : Int) : Option (ByteArray) := (longcaseref08_named.f k a0_2).bind fun t208 => ((longcaseref08_hours.f k (wrap64 (-a0_0))).bind fun t209 => (if t208.size + t209.size ≤ 9223372036854775807 then (if a0_6 = true then ((longcaseref08_named.f k a0_5).bind fun t210 => (if (t208 ++ t209).size + t210.size ≤ 9223372036854775807 then (if a0_3 = (wrap64 (a0_0 + 3600)) then (if ((t208 ++ t209) ++ t210).size + 1 ≤ 9223372036854775807 then ((longcaseref08_change.f k a0_7 a0_8 a0_9 a0_10 a0_11).bind fun t211 => (if (((t208 ++ t209) ++ t210) ++ (⟨#[44]⟩ : ByteArray)).size + t211.size ≤ 9223372036854775807 then (if ((((t208 ++ t209) ++ t210) ++ (⟨#[44]⟩ : ByteArray)) ++ t211).size + 1 ≤ 9223372036854775807 then ((longcaseref08_change.f k a0_12 a0_13 a0_14 a0_15 a0_16).bind fun t212 => (if (((((t208 ++ t209) ++ t210) ++ (⟨#[44]⟩ : ByteArray)) ++ t211) ++ (⟨#[44]⟩ : ByteArray)).size + t212.size ≤ 9223372036854775807 then (some ((((((t208 ++ t209) ++ t210) ++ (⟨#[44]⟩ : ByteArray)) ++ t211) ++ (⟨#[44]⟩ : ByteArray)) ++ t212)) else (none))) else (none)) else (none))) else (none)) else ((longcaseref08_hours.f k (wrap64 (-a0_3))).bind fun t213 => (if ((t208 ++ t209) ++ t210).size + t213.size ≤ 9223372036854775807 then (if (((t208 ++ t209) ++ t210) ++ t213).size + 1 ≤ 9223372036854775807 then ((longcaseref08_change.f k a0_7 a0_8 a0_9 a0_10 a0_11).bind fun t214 => (if ((((t208 ++ t209) ++ t210) ++ t213) ++ (⟨#[44]⟩ : ByteArray)).size + t214.size ≤ 9223372036854775807 then (if (((((t208 ++ t209) ++ t210) ++ t213) ++ (⟨#[44]⟩ : ByteArray)) ++ t214).size + 1 ≤ 9223372036854775807 then ((longcaseref08_change.f k a0_12 a0_13 a0_14 a0_15 a0_16).bind fun t215 => (if ((((((t208 ++ t209) ++ t210) ++ t213) ++ (⟨#[44]⟩ : ByteArray)) ++ t214) ++ (⟨#[44]⟩ : ByteArray)).size + t215.size ≤ 9223372036854775807 then (some (((((((t208 ++ t209) ++ t210) ++ t213) ++ (⟨#[44]⟩ : ByteArray)) ++ t214) ++ (⟨#[44]⟩ : ByteArray)) ++ t215)) else (none))) else (none)) else (none))) else (none)) else (none)))) else (none))) else (some (t208 ++ t209))) else (none)))
theorem longcaseref08_Print.mono : ∀ a0 a1 a2 a3 a4 a5 a6 a7 a8 a9 a10 a11 a12 a13 a14 a15 a16 k, LeO (longcaseref08_Print.f k a0 a1 a2 a3 a4 a5 a6 a7 a8 a9 a10 a11 a12 a13 a14 a15 a16) (longcaseref08_Print.f (k + 1) a0 a1 a2 a3 a4 a5 a6 a7 a8 a9 a10 a11 a12 a13 a14 a15 a16) := by
  intro a0 a1 a2 a3 a4 a5 a6 a7 a8 a9 a10 a11 a12 a13 a14 a15 a16 k
  unfold longcaseref08_Print.f
  repeat' first
      | (with_reducible exact longcaseref08_change.mono _ _ _ _ _ _)
      | (with_reducible exact longcaseref08_hours.mono _ _)
      | (with_reducible exact longcaseref08_named.mono _ _)
      | (with_reducible exact LeO.refl _)
      | (with_reducible exact LeO.none _)
      | (with_reducible refine LeO.ite ?_ ?_)
      | (with_reducible refine LeO.bind ?_ (fun _ => ?_))
      | exact longcaseref08_change.mono _ _ _ _ _ _
      | exact longcaseref08_hours.mono _ _
      | exact longcaseref08_named.mono _ _
      | exact LeO.none _
      | refine LeO.ite ?_ ?_
      | refine LeO.bind ?_ (fun _ => ?_)
def longcaseref08_Print.T1 : Bool × List (List Nat × List Nat) := (true, [([], []), ([0], [0]), ([1], [1]), ([2], [2]), ([], []), ([4], [4]), ([5], [5]), ([6], [6]), ([7, 3], [7]), ([3, 8], [3, 8]), ([9, 8, 0, 1, 2, 3, 4, 5, 6, 7, 8, 9], [9])])
def longcaseref08_Print.B1 : List Nat := [0, 1, 3, 7, 0, 16, 48, 112, 255, 511, 1023]
theorem longcaseref08_Print.tab1 : rtab .any (opsOf Tryd.f17 1) = longcaseref08_Print.T1 := by kernel_rfl
theorem longcaseref08_Print.bits1 : waitsOk longcaseref08_Print.T1.2 longcaseref08_Print.B1 = true := by kernel_rfl
def longcaseref08_Print.T7 : Bool × List (List Nat × List Nat) := (true, [([], []), ([0], [0]), ([], []), ([2], [2]), ([3], [3]), ([1, 4], [1, 4]), ([5], [5]), ([], []), ([7], [7]), ([8, 4], [8]), ([6, 9], [6, 9]), ([10, 9, 0, 1, 2, 3, 4, 5, 6, 7, 8, 9, 10], [10])])
def longcaseref08_Print.B7 : List Nat := [0, 1, 0, 4, 12, 31, 63, 0, 128, 412, 1023, 2047]
theorem longcaseref08_Print.tab7 : rtab .any (opsOf Tryd.f17 7) = longcaseref08_Print.T7 := by kernel_rfl
theorem longcaseref08_Print.bits7 : waitsOk longcaseref08_Print.T7.2 longcaseref08_Print.B7 = true := by kernel_rfl
set_option maxHeartbeats 8000000 in
set_option maxRecDepth 100000 in
theorem longcaseref08_Print.calls (k : Nat) (a0_0 : Int) (a0_1 : Bool) (a0_2 : ByteArray) (a0_3 : Int) (a0_4 : Bool) (a0_5 : ByteArray) (a0_6 : Bool) (a0_7 : Int) (a0_8 : Int) (a0_9 : Int) (a0_10 : Int) (a0_11 : Int) (a0_12 : Int) (a0_13 : Int) (a0_14 : Int) (a0_15 : Int) (a0_16 : Int) (r : ByteArray) (w : World) (h : longcaseref08_Print.f k a0_0 a0_1 a0_2 a0_3 a0_4 a0_5 a0_6 a0_7 a0_8 a0_9 a0_10 a0_11 a0_12 a0_13 a0_14 a0_15 a0_16 = some r) :
    Calls Tryd.prog 17 #[.agg #[.int .i64 a0_0, .bool a0_1, .string a0_2, .int .i64 a0_3, .bool a0_4, .string a0_5, .bool a0_6, .int .i64 a0_7, .int .i64 a0_8, .int .i64 a0_9, .int .i64 a0_10, .int .i64 a0_11, .int .i64 a0_12, .int .i64 a0_13, .int .i64 a0_14, .int .i64 a0_15, .int .i64 a0_16]] w fun e w' => e = .returned (.string r) ∧ Below w.heap.size w w' := by
  have hu27 := Tryd.underlying27
  have hu25 := Tryd.underlying25
  have HB := Aside0.mk (Below.refl w.heap.size w)
  have H : ((longcaseref08_named.f k a0_2).bind fun t208 => ((longcaseref08_hours.f k (wrap64 (-a0_0))).bind fun t209 => (if t208.size + t209.size ≤ 9223372036854775807 then (if a0_6 = true then ((longcaseref08_named.f k a0_5).bind fun t210 => (if (t208 ++ t209).size + t210.size ≤ 9223372036854775807 then (if a0_3 = (wrap64 (a0_0 + 3600)) then (if ((t208 ++ t209) ++ t210).size + 1 ≤ 9223372036854775807 then ((longcaseref08_change.f k a0_7 a0_8 a0_9 a0_10 a0_11).bind fun t211 => (if (((t208 ++ t209) ++ t210) ++ (⟨#[44]⟩ : ByteArray)).size + t211.size ≤ 9223372036854775807 then (if ((((t208 ++ t209) ++ t210) ++ (⟨#[44]⟩ : ByteArray)) ++ t211).size + 1 ≤ 9223372036854775807 then ((longcaseref08_change.f k a0_12 a0_13 a0_14 a0_15 a0_16).bind fun t212 => (if (((((t208 ++ t209) ++ t210) ++ (⟨#[44]⟩ : ByteArray)) ++ t211) ++ (⟨#[44]⟩ : ByteArray)).size + t212.size ≤ 9223372036854775807 then (some ((((((t208 ++ t209) ++ t210) ++ (⟨#[44]⟩ : ByteArray)) ++ t211) ++ (⟨#[44]⟩ : ByteArray)) ++ t212)) else (none))) else (none)) else (none))) else (none)) else ((longcaseref08_hours.f k (wrap64 (-a0_3))).bind fun t213 => (if ((t208 ++ t209) ++ t210).size + t213.size ≤ 9223372036854775807 then (if (((t208 ++ t209) ++ t210) ++ t213).size + 1 ≤ 9223372036854775807 then ((longcaseref08_change.f k a0_7 a0_8 a0_9 a0_10 a0_11).bind fun t214 => (if ((((t208 ++ t209) ++ t210) ++ t213) ++ (⟨#[44]⟩ : ByteArray)).size + t214.size ≤ 9223372036854775807 then (if (((((t208 ++ t209) ++ t210) ++ t213) ++ (⟨#[44]⟩ : ByteArray)) ++ t214).size + 1 ≤ 9223372036854775807 then ((longcaseref08_change.f k a0_12 a0_13 a0_14 a0_15 a0_16).bind fun t215 => (if ((((((t208 ++ t209) ++ t210) ++ t213) ++ (⟨#[44]⟩ : ByteArray)) ++ t214) ++ (⟨#[44]⟩ : ByteArray)).size + t215.size ≤ 9223372036854775807 then (some (((((((t208 ++ t209) ++ t210) ++ t213) ++ (⟨#[44]⟩ : ByteArray)) ++ t214) ++ (⟨#[44]⟩ : ByteArray)) ++ t215)) else (none))) else (none)) else (none))) else (none)) else (none)))) else (none))) else (some (t208 ++ t209))) else (none)))) = some r := h
  clear h
  replace H := Option.bind_eq_some_iff.mp H
  obtain ⟨t208, A20, H⟩ := H
  replace H : ((longcaseref08_hours.f k (wrap64 (-a0_0))).bind fun t209 => (if t208.size + t209.size ≤ 9223372036854775807 then (if a0_6 = true then ((longcaseref08_named.f k a0_5).bind fun t210 => (if (t208 ++ t209).size + t210.size ≤ 9223372036854775807 then (if a0_3 = (wrap64 (a0_0 + 3600)) then (if ((t208 ++ t209) ++ t210).size + 1 ≤ 9223372036854775807 then ((longcaseref08_change.f k a0_7 a0_8 a0_9 a0_10 a0_11).bind fun t211 => (if (((t208 ++ t209) ++ t210) ++ (⟨#[44]⟩ : ByteArray)).size + t211.size ≤ 9223372036854775807 then (if ((((t208 ++ t209) ++ t210) ++ (⟨#[44]⟩ : ByteArray)) ++ t211).size + 1 ≤ 9223372036854775807 then ((longcaseref08_change.f k a0_12 a0_13 a0_14 a0_15 a0_16).bind fun t212 => (if (((((t208 ++ t209) ++ t210) ++ (⟨#[44]⟩ : ByteArray)) ++ t211) ++ (⟨#[44]⟩ : ByteArray)).size + t212.size ≤ 9223372036854775807 then (some ((((((t208 ++ t209) ++ t210) ++ (⟨#[44]⟩ : ByteArray)) ++ t211) ++ (⟨#[44]⟩ : ByteArray)) ++ t212)) else (none))) else (none)) else (none))) else (none)) else ((longcaseref08_hours.f k (wrap64 (-a0_3))).bind fun t213 => (if ((t208 ++ t209) ++ t210).size + t213.size ≤ 9223372036854775807 then (if (((t208 ++ t209) ++ t210) ++ t213).size + 1 ≤ 9223372036854775807 then ((longcaseref08_change.f k a0_7 a0_8 a0_9 a0_10 a0_11).bind fun t214 => (if ((((t208 ++ t209) ++ t210) ++ t213) ++ (⟨#[44]⟩ : ByteArray)).size + t214.size ≤ 9223372036854775807 then (if (((((t208 ++ t209) ++ t210) ++ t213) ++ (⟨#[44]⟩ : ByteArray)) ++ t214).size + 1 ≤ 9223372036854775807 then ((longcaseref08_change.f k a0_12 a0_13 a0_14 a0_15 a0_16).bind fun t215 => (if ((((((t208 ++ t209) ++ t210) ++ t213) ++ (⟨#[44]⟩ : ByteArray)) ++ t214) ++ (⟨#[44]⟩ : ByteArray)).size + t215.size ≤ 9223372036854775807 then (some (((((((t208 ++ t209) ++ t210) ++ t213) ++ (⟨#[44]⟩ : ByteArray)) ++ t214) ++ (⟨#[44]⟩ : ByteArray)) ++ t215)) else (none))) else (none)) else (none))) else (none)) else (none)))) else (none))) else (some (t208 ++ t209))) else (none))) = some r := H
  have A2 := Aside0.mk A20
  clear A20
  replace H := Option.bind_eq_some_iff.mp H
  obtain ⟨t209, A30, H⟩ := H
  replace H : (if t208.size + t209.size ≤ 9223372036854775807 then (if a0_6 = true then ((longcaseref08_named.f k a0_5).bind fun t210 => (if (t208 ++ t209).size + t210.size ≤ 9223372036854775807 then (if a0_3 = (wrap64 (a0_0 + 3600)) then (if ((t208 ++ t209) ++ t210).size + 1 ≤ 9223372036854775807 then ((longcaseref08_change.f k a0_7 a0_8 a0_9 a0_10 a0_11).bind fun t211 => (if (((t208 ++ t209) ++ t210) ++ (⟨#[44]⟩ : ByteArray)).size + t211.size ≤ 9223372036854775807 then (if ((((t208 ++ t209) ++ t210) ++ (⟨#[44]⟩ : ByteArray)) ++ t211).size + 1 ≤ 9223372036854775807 then ((longcaseref08_change.f k a0_12 a0_13 a0_14 a0_15 a0_16).bind fun t212 => (if (((((t208 ++ t209) ++ t210) ++ (⟨#[44]⟩ : ByteArray)) ++ t211) ++ (⟨#[44]⟩ : ByteArray)).size + t212.size ≤ 9223372036854775807 then (some ((((((t208 ++ t209) ++ t210) ++ (⟨#[44]⟩ : ByteArray)) ++ t211) ++ (⟨#[44]⟩ : ByteArray)) ++ t212)) else (none))) else (none)) else (none))) else (none)) else ((longcaseref08_hours.f k (wrap64 (-a0_3))).bind fun t213 => (if ((t208 ++ t209) ++ t210).size + t213.size ≤ 9223372036854775807 then (if (((t208 ++ t209) ++ t210) ++ t213).size + 1 ≤ 9223372036854775807 then ((longcaseref08_change.f k a0_7 a0_8 a0_9 a0_10 a0_11).bind fun t214 => (if ((((t208 ++ t209) ++ t210) ++ t213) ++ (⟨#[44]⟩ : ByteArray)).size + t214.size ≤ 9223372036854775807 then (if (((((t208 ++ t209) ++ t210) ++ t213) ++ (⟨#[44]⟩ : ByteArray)) ++ t214).size + 1 ≤ 9223372036854775807 then ((longcaseref08_change.f k a0_12 a0_13 a0_14 a0_15 a0_16).bind fun t215 => (if ((((((t208 ++ t209) ++ t210) ++ t213) ++ (⟨#[44]⟩ : ByteArray)) ++ t214) ++ (⟨#[44]⟩ : ByteArray)).size + t215.size ≤ 9223372036854775807 then (some (((((((t208 ++ t209) ++ t210) ++ t213) ++ (⟨#[44]⟩ : ByteArray)) ++ t214) ++ (⟨#[44]⟩ : ByteArray)) ++ t215)) else (none))) else (none)) else (none))) else (none)) else (none)))) else (none))) else (some (t208 ++ t209))) else (none)) = some r := H
  have A3 := Aside0.mk A30
  clear A30
  by_cases c4 : t208.size + t209.size ≤ 9223372036854775807
  · rw [if_pos c4] at H
    have c4b0 := eq_true c4
    have c4b1 : decide (t208.size + t209.size ≤ 9223372036854775807) = true := decide_eq_true c4
    try have c4b2 : (9223372036854775807 < t208.size + t209.size) = False := eq_false (Nat.not_lt.2 c4)
    by_cases c5 : a0_6 = true
    · subst c5
      have H1 : ((longcaseref08_named.f k a0_5).bind fun t210 => (if (t208 ++ t209).size + t210.size ≤ 9223372036854775807 then (if a0_3 = (wrap64 (a0_0 + 3600)) then (if ((t208 ++ t209) ++ t210).size + 1 ≤ 9223372036854775807 then ((longcaseref08_change.f k a0_7 a0_8 a0_9 a0_10 a0_11).bind fun t211 => (if (((t208 ++ t209) ++ t210) ++ (⟨#[44]⟩ : ByteArray)).size + t211.size ≤ 9223372036854775807 then (if ((((t208 ++ t209) ++ t210) ++ (⟨#[44]⟩ : ByteArray)) ++ t211).size + 1 ≤ 9223372036854775807 then ((longcaseref08_change.f k a0_12 a0_13 a0_14 a0_15 a0_16).bind fun t212 => (if (((((t208 ++ t209) ++ t210) ++ (⟨#[44]⟩ : ByteArray)) ++ t211) ++ (⟨#[44]⟩ : ByteArray)).size + t212.size ≤ 9223372036854775807 then (some ((((((t208 ++ t209) ++ t210) ++ (⟨#[44]⟩ : ByteArray)) ++ t211) ++ (⟨#[44]⟩ : ByteArray)) ++ t212)) else (none))) else (none)) else (none))) else (none)) else ((longcaseref08_hours.f k (wrap64 (-a0_3))).bind fun t213 => (if ((t208 ++ t209) ++ t210).size + t213.size ≤ 9223372036854775807 then (if (((t208 ++ t209) ++ t210) ++ t213).size + 1 ≤ 9223372036854775807 then ((longcaseref08_change.f k a0_7 a0_8 a0_9 a0_10 a0_11).bind fun t214 => (if ((((t208 ++ t209) ++ t210) ++ t213) ++ (⟨#[44]⟩ : ByteArray)).size + t214.size ≤ 9223372036854775807 then (if (((((t208 ++ t209) ++ t210) ++ t213) ++ (⟨#[44]⟩ : ByteArray)) ++ t214).size + 1 ≤ 9223372036854775807 then ((longcaseref08_change.f k a0_12 a0_13 a0_14 a0_15 a0_16).bind fun t215 => (if ((((((t208 ++ t209) ++ t210) ++ t213) ++ (⟨#[44]⟩ : ByteArray)) ++ t214) ++ (⟨#[44]⟩ : ByteArray)).size + t215.size ≤ 9223372036854775807 then (some (((((((t208 ++ t209) ++ t210) ++ t213) ++ (⟨#[44]⟩ : ByteArray)) ++ t214) ++ (⟨#[44]⟩ : ByteArray)) ++ t215)) else (none))) else (none)) else (none))) else (none)) else (none)))) else (none))) = some r := by rw [if_pos rfl] at H; exact H
      clear H
      have H := H1
      clear H1
      replace H := Option.bind_eq_some_iff.mp H
      obtain ⟨t210, A60, H⟩ := H
      replace H : (if (t208 ++ t209).size + t210.size ≤ 9223372036854775807 then (if a0_3 = (wrap64 (a0_0 + 3600)) then (if ((t208 ++ t209) ++ t210).size + 1 ≤ 9223372036854775807 then ((longcaseref08_change.f k a0_7 a0_8 a0_9 a0_10 a0_11).bind fun t211 => (if (((t208 ++ t209) ++ t210) ++ (⟨#[44]⟩ : ByteArray)).size + t211.size ≤ 9223372036854775807 then (if ((((t208 ++ t209) ++ t210) ++ (⟨#[44]⟩ : ByteArray)) ++ t211).size + 1 ≤ 9223372036854775807 then ((longcaseref08_change.f k a0_12 a0_13 a0_14 a0_15 a0_16).bind fun t212 => (if (((((t208 ++ t209) ++ t210) ++ (⟨#[44]⟩ : ByteArray)) ++ t211) ++ (⟨#[44]⟩ : ByteArray)).size + t212.size ≤ 9223372036854775807 then (some ((((((t208 ++ t209) ++ t210) ++ (⟨#[44]⟩ : ByteArray)) ++ t211) ++ (⟨#[44]⟩ : ByteArray)) ++ t212)) else (none))) else (none)) else (none))) else (none)) else ((longcaseref08_hours.f k (wrap64 (-a0_3))).bind fun t213 => (if ((t208 ++ t209) ++ t210).size + t213.size ≤ 9223372036854775807 then (if (((t208 ++ t209) ++ t210) ++ t213).size + 1 ≤ 9223372036854775807 then ((longcaseref08_change.f k a0_7 a0_8 a0_9 a0_10 a0_11).bind fun t214 => (if ((((t208 ++ t209) ++ t210) ++ t213) ++ (⟨#[44]⟩ : ByteArray)).size + t214.size ≤ 9223372036854775807 then (if (((((t208 ++ t209) ++ t210) ++ t213) ++ (⟨#[44]⟩ : ByteArray)) ++ t214).size + 1 ≤ 9223372036854775807 then ((longcaseref08_change.f k a0_12 a0_13 a0_14 a0_15 a0_16).bind fun t215 => (if ((((((t208 ++ t209) ++ t210) ++ t213) ++ (⟨#[44]⟩ : ByteArray)) ++ t214) ++ (⟨#[44]⟩ : ByteArray)).size + t215.size ≤ 9223372036854775807 then (some (((((((t208 ++ t209) ++ t210) ++ t213) ++ (⟨#[44]⟩ : ByteArray)) ++ t214) ++ (⟨#[44]⟩ : ByteArray)) ++ t215)) else (none))) else (none)) else (none))) else (none)) else (none)))) else (none)) = some r := H
      have A6 := Aside0.mk A60
      clear A60
      by_cases c7 : (t208 ++ t209).size + t210.size ≤ 9223372036854775807
      · rw [if_pos c7] at H
        have c7b0 := eq_true c7
        have c7b1 : decide ((t208 ++ t209).size + t210.size ≤ 9223372036854775807) = true := decide_eq_true c7
        try have c7b2 : (9223372036854775807 < (t208 ++ t209).size + t210.size) = False := eq_false (Nat.not_lt.2 c7)
        have c7z0 : (t208.size + t209.size) + t210.size ≤ 9223372036854775807 := by have z_ := c7; simp only [ByteArray.size_append] at z_; exact z_
        try have c7z1 : (9223372036854775807 < (t208.size + t209.size) + t210.size) = False := eq_false (Nat.not_lt.2 c7z0)
        by_cases c8 : a0_3 = (wrap64 (a0_0 + 3600))
        · rw [if_pos c8] at H
          have c8b0 : (a0_3 == (wrap64 (a0_0 + 3600))) = true := beq_iff_eq.mpr c8
          have c8b1 : (a0_3 != (wrap64 (a0_0 + 3600))) = false := bne_eq_false_iff_eq.mpr c8
          clear c8
          by_cases c9 : ((t208 ++ t209) ++ t210).size + 1 ≤ 9223372036854775807
          · rw [if_pos c9] at H
            have c9b0 := eq_true c9
            have c9b1 : decide (((t208 ++ t209) ++ t210).size + 1 ≤ 9223372036854775807) = true := decide_eq_true c9
            try have c9b2 : (9223372036854775807 < ((t208 ++ t209) ++ t210).size + 1) = False := eq_false (Nat.not_lt.2 c9)
            have c9z0 : ((t208.size + t209.size) + t210.size) + 1 ≤ 9223372036854775807 := by have z_ := c9; simp only [ByteArray.size_append] at z_; exact z_
            try have c9z1 : (9223372036854775807 < ((t208.size + t209.size) + t210.size) + 1) = False := eq_false (Nat.not_lt.2 c9z0)
            replace H := Option.bind_eq_some_iff.mp H
            obtain ⟨t211, A100, H⟩ := H
            replace H : (if (((t208 ++ t209) ++ t210) ++ (⟨#[44]⟩ : ByteArray)).size + t211.size ≤ 9223372036854775807 then (if ((((t208 ++ t209) ++ t210) ++ (⟨#[44]⟩ : ByteArray)) ++ t211).size + 1 ≤ 9223372036854775807 then ((longcaseref08_change.f k a0_12 a0_13 a0_14 a0_15 a0_16).bind fun t212 => (if (((((t208 ++ t209) ++ t210) ++ (⟨#[44]⟩ : ByteArray)) ++ t211) ++ (⟨#[44]⟩ : ByteArray)).size + t212.size ≤ 9223372036854775807 then (some ((((((t208 ++ t209) ++ t210) ++ (⟨#[44]⟩ : ByteArray)) ++ t211) ++ (⟨#[44]⟩ : ByteArray)) ++ t212)) else (none))) else (none)) else (none)) = some r := H
            have A10 := Aside0.mk A100
            clear A100
            by_cases c11 : (((t208 ++ t209) ++ t210) ++ (⟨#[44]⟩ : ByteArray)).size + t211.size ≤ 9223372036854775807
            · rw [if_pos c11] at H
              have c11b0 := eq_true c11
              have c11b1 : decide ((((t208 ++ t209) ++ t210) ++ (⟨#[44]⟩ : ByteArray)).size + t211.size ≤ 9223372036854775807) = true := decide_eq_true c11
              try have c11b2 : (9223372036854775807 < (((t208 ++ t209) ++ t210) ++ (⟨#[44]⟩ : ByteArray)).size + t211.size) = False := eq_false (Nat.not_lt.2 c11)
              have c11z0 : (((t208.size + t209.size) + t210.size) + 1) + t211.size ≤ 9223372036854775807 := by have z_ := c11; simp only [ByteArray.size_append] at z_; exact z_
              try have c11z1 : (9223372036854775807 < (((t208.size + t209.size) + t210.size) + 1) + t211.size) = False := eq_false (Nat.not_lt.2 c11z0)
              by_cases c12 : ((((t208 ++ t209) ++ t210) ++ (⟨#[44]⟩ : ByteArray)) ++ t211).size + 1 ≤ 9223372036854775807
              · rw [if_pos c12] at H
                have c12b0 := eq_true c12
                have c12b1 : decide (((((t208 ++ t209) ++ t210) ++ (⟨#[44]⟩ : ByteArray)) ++ t211).size + 1 ≤ 9223372036854775807) = true := decide_eq_true c12
                try have c12b2 : (9223372036854775807 < ((((t208 ++ t209) ++ t210) ++ (⟨#[44]⟩ : ByteArray)) ++ t211).size + 1) = False := eq_false (Nat.not_lt.2 c12)
                have c12z0 : ((((t208.size + t209.size) + t210.size) + 1) + t211.size) + 1 ≤ 9223372036854775807 := by have z_ := c12; simp only [ByteArray.size_append] at z_; exact z_
                try have c12z1 : (9223372036854775807 < ((((t208.size + t209.size) + t210.size) + 1) + t211.size) + 1) = False := eq_false (Nat.not_lt.2 c12z0)
                replace H := Option.bind_eq_some_iff.mp H
                obtain ⟨t212, A130, H⟩ := H
                replace H : (if (((((t208 ++ t209) ++ t210) ++ (⟨#[44]⟩ : ByteArray)) ++ t211) ++ (⟨#[44]⟩ : ByteArray)).size + t212.size ≤ 9223372036854775807 then (some ((((((t208 ++ t209) ++ t210) ++ (⟨#[44]⟩ : ByteArray)) ++ t211) ++ (⟨#[44]⟩ : ByteArray)) ++ t212)) else (none)) = some r := H
                have A13 := Aside0.mk A130
                clear A130
                by_cases c14 : (((((t208 ++ t209) ++ t210) ++ (⟨#[44]⟩ : ByteArray)) ++ t211) ++ (⟨#[44]⟩ : ByteArray)).size + t212.size ≤ 9223372036854775807
                · rw [if_pos c14] at H
                  have c14b0 := eq_true c14
                  have c14b1 : decide ((((((t208 ++ t209) ++ t210) ++ (⟨#[44]⟩ : ByteArray)) ++ t211) ++ (⟨#[44]⟩ : ByteArray)).size + t212.size ≤ 9223372036854775807) = true := decide_eq_true c14
                  try have c14b2 : (9223372036854775807 < (((((t208 ++ t209) ++ t210) ++ (⟨#[44]⟩ : ByteArray)) ++ t211) ++ (⟨#[44]⟩ : ByteArray)).size + t212.size) = False := eq_false (Nat.not_lt.2 c14)
                  have c14z0 : (((((t208.size + t209.size) + t210.size) + 1) + t211.size) + 1) + t212.size ≤ 9223372036854775807 := by have z_ := c14; simp only [ByteArray.size_append] at z_; exact z_
                  try have c14z1 : (9223372036854775807 < (((((t208.size + t209.size) + t210.size) + 1) + t211.size) + 1) + t212.size) = False := eq_false (Nat.not_lt.2 c14z0)
                  obtain rfl := Option.some.inj H
                  go_enter Tryd.func17, Tryd.ntmps17
                  try go_wp2_with (first | ((with_reducible refine gate_dst (N := 1) rfl ?_); refine box_event ?hg (N := 1) ?hd (cs := #[.int .i64 a0_0, .bool a0_1, .string a0_2, .int .i64 a0_3, .bool a0_4, .string a0_5, .bool true, .int .i64 a0_7, .int .i64 a0_8, .int .i64 a0_9, .int .i64 a0_10, .int .i64 a0_11, .int .i64 a0_12, .int .i64 a0_13, .int .i64 a0_14, .int .i64 a0_15, .int .i64 a0_16]) (t := 27) ?hr ?_; (case hd => rfl); (case hg => rfl); (case hr => first | (go_simp; done) | (go_simp; rfl)); intro gb207 hg w15 hbox hb; have n0_ := Aside0.mk (below_step (by repeat (first | (with_reducible first | exact HB.out | apply below_alloc | apply pw_below_drewN | apply below_drew1) | exact HB.out)) hb); have n1_ := Aside0.mk (hbox); have n2_ := Aside0.mk ((by rw [hg]; exact (below_size (by repeat (first | (with_reducible first | exact HB.out | apply below_alloc | apply pw_below_drewN | apply below_drew1) | exact HB.out))) : w.heap.size ≤ gb207)); have n3_ := Aside0.mk ((by rw [hg]; exact (below_size (by repeat (first | (with_reducible first | exact HB.out | apply below_alloc | apply pw_below_drewN | apply below_drew1) | exact HB.out))) : w.heap.size ≤ gb207)); clear HB; have HB := n0_; have BK207 := n1_; have GW207 := n2_; have GE207 := n3_; clear n0_ n1_ n2_ n3_; clear hb hbox hg))
                  have n0_ := Aside0.mk (blk_drew BK207.out)
                  have n1_ := Aside0.mk (below_drew1 HB.out)
                  clear BK207
                  clear HB
                  have BK207 := n0_
                  have HB := n1_
                  clear n0_ n1_
                  refine start_ (n := 11) (S := fun w' => w'.cell? ⟨gb207, 0, none⟩ = some (.int .i64 a0_0) ∧ w'.cell? ⟨gb207, 1, none⟩ = some (.bool a0_1) ∧ w'.cell? ⟨gb207, 2, none⟩ = some (.string a0_2) ∧ w'.cell? ⟨gb207, 3, none⟩ = some (.int .i64 a0_3) ∧ w'.cell? ⟨gb207, 4, none⟩ = some (.bool a0_4) ∧ w'.cell? ⟨gb207, 5, none⟩ = some (.string a0_5) ∧ w'.cell? ⟨gb207, 6, none⟩ = some (.bool true) ∧ w'.cell? ⟨gb207, 7, none⟩ = some (.int .i64 a0_7) ∧ w'.cell? ⟨gb207, 8, none⟩ = some (.int .i64 a0_8) ∧ w'.cell? ⟨gb207, 9, none⟩ = some (.int .i64 a0_9) ∧ w'.cell? ⟨gb207, 10, none⟩ = some (.int .i64 a0_10) ∧ w'.cell? ⟨gb207, 11, none⟩ = some (.int .i64 a0_11) ∧ w'.cell? ⟨gb207, 12, none⟩ = some (.int .i64 a0_12) ∧ w'.cell? ⟨gb207, 13, none⟩ = some (.int .i64 a0_13) ∧ w'.cell? ⟨gb207, 14, none⟩ = some (.int .i64 a0_14) ∧ w'.cell? ⟨gb207, 15, none⟩ = some (.int .i64 a0_15) ∧ w'.cell? ⟨gb207, 16, none⟩ = some (.int .i64 a0_16)) (ds := []) #[false, false, false, false, false, false, false, false, false, false, false] (by kernel_rfl) rfl rfl ⟨(blk_cell BK207.out 0).trans rfl, (blk_cell BK207.out 1).trans rfl, (blk_cell BK207.out 2).trans rfl, (blk_cell BK207.out 3).trans rfl, (blk_cell BK207.out 4).trans rfl, (blk_cell BK207.out 5).trans rfl, (blk_cell BK207.out 6).trans rfl, (blk_cell BK207.out 7).trans rfl, (blk_cell BK207.out 8).trans rfl, (blk_cell BK207.out 9).trans rfl, (blk_cell BK207.out 10).trans rfl, (blk_cell BK207.out 11).trans rfl, (blk_cell BK207.out 12).trans rfl, (blk_cell BK207.out 13).trans rfl, (blk_cell BK207.out 14).trans rfl, (blk_cell BK207.out 15).trans rfl, (blk_cell BK207.out 16).trans rfl⟩ (fun hHeld => ?_); refine with_tabW longcaseref08_Print.tab1 longcaseref08_Print.bits1 (fun HT_ HW_ => ?_)
                  generalize w15.drew = w16 at BK207 HB hHeld ⊢
                  refine pure_ (i := 0) (N := some 4) (v := ?_) (a' := ?_) #[true, false, false, false, false, false, false, false, false, false, false] rfl rfl (any_of HT_.out (by kernel_rfl)) (fun _ _ _ h => h) (Or.inl ⟨by rfl, ?_⟩) ?_ ?_
                  rotate_left
                  · intro w'
                    go_simp
                    with_reducible rfl
                  rotate_left
                  · simp only [Act.put, List.setIfInBounds_toArray, List.set_cons_zero, List.set_cons_succ, i64_w, i32_w]
                    rfl
                  refine pure_ (i := 1) (N := some 5) (v := ?_) (a' := ?_) #[true, true, false, false, false, false, false, false, false, false, false] rfl rfl (any_of HT_.out (by kernel_rfl)) (fun _ _ _ h => h) (Or.inl ⟨by rfl, ?_⟩) ?_ ?_
                  rotate_left
                  · intro w'
                    go_simp
                    with_reducible rfl
                  rotate_left
                  · simp only [Act.put, List.setIfInBounds_toArray, List.set_cons_zero, List.set_cons_succ, i64_w, i32_w]
                    rfl
                  refine pure_ (i := 4) (N := some 8) (v := ?_) (a' := ?_) #[true, true, false, false, true, false, false, false, false, false, false] rfl rfl (any_of HT_.out (by kernel_rfl)) (fun _ _ _ h => h) (Or.inl ⟨by rfl, ?_⟩) ?_ ?_
                  rotate_left
                  · intro w'
                    go_simp
                    with_reducible rfl
                  rotate_left
                  · simp only [Act.put, List.setIfInBounds_toArray, List.set_cons_zero, List.set_cons_succ, i64_w, i32_w]
                    rfl
                  refine pure_ (i := 5) (N := some 9) (v := ?_) (a' := ?_) #[true, true, false, false, true, true, false, false, false, false, false] rfl rfl (any_of HT_.out (by kernel_rfl)) (fun _ _ _ h => h) (Or.inl ⟨by rfl, ?_⟩) ?_ ?_
                  rotate_left
                  · intro w'
                    go_simp
                    with_reducible rfl
                  rotate_left
                  · simp only [Act.put, List.setIfInBounds_toArray, List.set_cons_zero, List.set_cons_succ, i64_w, i32_w]
                    rfl
                  refine take_ (i := 2) (N := some 6) (v := ?_) (a' := ?_) #[true, true, true, false, true, true, false, false, false, false, false] rfl rfl (take_ofW HT_.out HW_.out (by kernel_rfl)) (fun _ _ _ h => h) (Or.inl ⟨by rfl, ?_⟩) hHeld ?_ ?_
                  rotate_left
                  · rintro w' ⟨s0, s1, s2, s3, s4, s5, s6, s7, s8, s9, s10, s11, s12, s13, s14, s15, s16⟩
                    go_simp
                    with_reducible rfl
                  rotate_left
                  · simp only [Act.put, List.setIfInBounds_toArray, List.set_cons_zero, List.set_cons_succ, i64_w, i32_w]
                    rfl
                  refine take_ (i := 6) (N := some 10) (v := ?_) (a' := ?_) #[true, true, true, false, true, true, true, false, false, false, false] rfl rfl (take_ofW HT_.out HW_.out (by kernel_rfl)) (fun _ _ _ h => h) (Or.inl ⟨by rfl, ?_⟩) hHeld ?_ ?_
                  rotate_left
                  · rintro w' ⟨s0, s1, s2, s3, s4, s5, s6, s7, s8, s9, s10, s11, s12, s13, s14, s15, s16⟩
                    go_simp
                    with_reducible rfl
                  rotate_left
                  · simp only [Act.put, List.setIfInBounds_toArray, List.set_cons_zero, List.set_cons_succ, i64_w, i32_w]
                    rfl
                  refine pure_ (i := 7) (N := some 11) (v := ?_) (a' := ?_) #[true, true, true, false, true, true, true, true, false, false, false] rfl rfl (any_of HT_.out (by kernel_rfl)) (fun _ _ _ h => h) (Or.inl ⟨by rfl, ?_⟩) ?_ ?_
                  rotate_left
                  · intro w'
                    go_simp
                    with_reducible rfl
                  rotate_left
                  · simp only [Act.put, List.setIfInBounds_toArray, List.set_cons_zero, List.set_cons_succ, i64_w, i32_w]
                    rfl
                  refine one_ (i := 3) (N := some 7) #[true, true, true, true, true, true, true, true, false, false, false] rfl rfl (one_of HT_.out (by kernel_rfl)) (by decide) (fun K hK => ?_)
                  refine goes_ Tryd.func32 (by kernel_rfl) rfl #[.string a0_2] (by rfl) rfl rfl (by (try simp only [List.map_toArray, List.map_cons, List.map_nil]); first | done | rfl | (simp only [List.length_drop, List.length_take]; rfl)) ?_
                  with_reducible refine (longcaseref08_named.calls k a0_2 t208 _ A2.out).mono ?_
                  rintro e w' ⟨rfl, ⟨nd, rfl⟩⟩
                  refine ⟨_, rfl, ?_⟩
                  refine hK.out _ _ ⟨(blk_cell BK207.out 0).trans rfl, (blk_cell BK207.out 1).trans rfl, (blk_cell BK207.out 2).trans rfl, (blk_cell BK207.out 3).trans rfl, (blk_cell BK207.out 4).trans rfl, (blk_cell BK207.out 5).trans rfl, (blk_cell BK207.out 6).trans rfl, (blk_cell BK207.out 7).trans rfl, (blk_cell BK207.out 8).trans rfl, (blk_cell BK207.out 9).trans rfl, (blk_cell BK207.out 10).trans rfl, (blk_cell BK207.out 11).trans rfl, (blk_cell BK207.out 12).trans rfl, (blk_cell BK207.out 13).trans rfl, (blk_cell BK207.out 14).trans rfl, (blk_cell BK207.out 15).trans rfl, (blk_cell BK207.out 16).trans rfl⟩ (fun hHeld => ?_)
                  clear hK K
                  refine norm_ (a' := ?_) ?_ ?_
                  rotate_left
                  · show Act.put _ (some 7) _ = _
                    simp only [Act.put, List.setIfInBounds_toArray, List.set_cons_zero, List.set_cons_succ, i64_w, i32_w]
                    rfl
                  refine one_ (i := 8) (N := some 12) #[true, true, true, true, true, true, true, true, true, false, false] rfl rfl (one_of HT_.out (by kernel_rfl)) (by decide) (fun K hK => ?_)
                  refine goes_ Tryd.func33 (by kernel_rfl) rfl #[.int .i64 (wrap64 (-a0_0))] (by rfl) rfl rfl (by (try simp only [List.map_toArray, List.map_cons, List.map_nil]); first | done | rfl | (simp only [List.length_drop, List.length_take]; rfl)) ?_
                  with_reducible refine (longcaseref08_hours.calls k (wrap64 (-a0_0)) t209 _ A3.out).mono ?_
                  rintro e w17 ⟨rfl, hb⟩
                  refine ⟨_, rfl, ?_⟩
                  have n0_ := Aside0.mk (blk_below (g := gb207) (o := .cells #[.int .i64 a0_0, .bool a0_1, .string a0_2, .int .i64 a0_3, .bool a0_4, .string a0_5, .bool true, .int .i64 a0_7, .int .i64 a0_8, .int .i64 a0_9, .int .i64 a0_10, .int .i64 a0_11, .int .i64 a0_12, .int .i64 a0_13, .int .i64 a0_14, .int .i64 a0_15, .int .i64 a0_16] 27 (0, 0)) (by (with_reducible repeat (first | refine blk_drewN ?_ _ | refine blk_drew ?_ | refine blk_alloc ?_ _)); exact BK207.out) hb)
                  have n1_ := Aside0.mk (below_step (by repeat (first | (with_reducible first | exact HB.out | apply below_alloc | apply pw_below_drewN | apply below_drew1 | refine below_set ?_ GE207.out) | exact HB.out)) hb)
                  clear BK207
                  clear HB
                  have BK207 := n0_
                  have HB := n1_
                  clear n0_ n1_
                  (try clear hb)
                  (try clear hb2)
                  (try clear hk)
                  (try clear hi)
                  refine hK.out _ _ ⟨(blk_cell BK207.out 0).trans rfl, (blk_cell BK207.out 1).trans rfl, (blk_cell BK207.out 2).trans rfl, (blk_cell BK207.out 3).trans rfl, (blk_cell BK207.out 4).trans rfl, (blk_cell BK207.out 5).trans rfl, (blk_cell BK207.out 6).trans rfl, (blk_cell BK207.out 7).trans rfl, (blk_cell BK207.out 8).trans rfl, (blk_cell BK207.out 9).trans rfl, (blk_cell BK207.out 10).trans rfl, (blk_cell BK207.out 11).trans rfl, (blk_cell BK207.out 12).trans rfl, (blk_cell BK207.out 13).trans rfl, (blk_cell BK207.out 14).trans rfl, (blk_cell BK207.out 15).trans rfl, (blk_cell BK207.out 16).trans rfl⟩ (fun hHeld => ?_)
                  clear hK K
                  refine norm_ (a' := ?_) ?_ ?_
                  rotate_left
                  · show Act.put _ (some 12) _ = _
                    simp only [Act.put, List.setIfInBounds_toArray, List.set_cons_zero, List.set_cons_succ, i64_w, i32_w]
                    rfl
                  refine pure_ (i := 9) (N := some 13) (v := ?_) (a' := ?_) #[true, true, true, true, true, true, true, true, true, true, false] rfl rfl (any_of HT_.out (by kernel_rfl)) (fun _ _ _ h => h) (Or.inl ⟨by rfl, ?_⟩) ?_ ?_
                  rotate_left
                  · intro w'
                    go_simp
                    with_reducible rfl
                  rotate_left
                  · simp only [Act.put, List.setIfInBounds_toArray, List.set_cons_zero, List.set_cons_succ, i64_w, i32_w]
                    rfl
                  refine pure_ (i := 10) (N := some 3) (v := ?_) (a' := ?_) #[true, true, true, true, true, true, true, true, true, true, true] rfl rfl (any_of HT_.out (by kernel_rfl)) (fun _ _ _ h => h) (Or.inl ⟨by rfl, ?_⟩) ?_ ?_
                  rotate_left
                  · intro w'
                    go_simp
                    with_reducible rfl
                  rotate_left
                  · simp only [Act.put, List.setIfInBounds_toArray, List.set_cons_zero, List.set_cons_succ, i64_w, i32_w]
                    rfl
                  refine done_ (done_of HT_.out (by kernel_rfl)) ?_
                  have hcz18_0 : w17.cell? ⟨gb207, 0, none⟩ = some (.int .i64 a0_0) := (blk_cell BK207.out 0).trans rfl
                  have hcz18_1 : w17.cell? ⟨gb207, 1, none⟩ = some (.bool a0_1) := (blk_cell BK207.out 1).trans rfl
                  have hcz18_2 : w17.cell? ⟨gb207, 2, none⟩ = some (.string a0_2) := (blk_cell BK207.out 2).trans rfl
                  have hcz18_3 : w17.cell? ⟨gb207, 3, none⟩ = some (.int .i64 a0_3) := (blk_cell BK207.out 3).trans rfl
                  have hcz18_4 : w17.cell? ⟨gb207, 4, none⟩ = some (.bool a0_4) := (blk_cell BK207.out 4).trans rfl
                  have hcz18_5 : w17.cell? ⟨gb207, 5, none⟩ = some (.string a0_5) := (blk_cell BK207.out 5).trans rfl
                  have hcz18_6 : w17.cell? ⟨gb207, 6, none⟩ = some (.bool true) := (blk_cell BK207.out 6).trans rfl
                  have hcz18_7 : w17.cell? ⟨gb207, 7, none⟩ = some (.int .i64 a0_7) := (blk_cell BK207.out 7).trans rfl
                  have hcz18_8 : w17.cell? ⟨gb207, 8, none⟩ = some (.int .i64 a0_8) := (blk_cell BK207.out 8).trans rfl
                  have hcz18_9 : w17.cell? ⟨gb207, 9, none⟩ = some (.int .i64 a0_9) := (blk_cell BK207.out 9).trans rfl
                  have hcz18_10 : w17.cell? ⟨gb207, 10, none⟩ = some (.int .i64 a0_10) := (blk_cell BK207.out 10).trans rfl
                  have hcz18_11 : w17.cell? ⟨gb207, 11, none⟩ = some (.int .i64 a0_11) := (blk_cell BK207.out 11).trans rfl
                  have hcz18_12 : w17.cell? ⟨gb207, 12, none⟩ = some (.int .i64 a0_12) := (blk_cell BK207.out 12).trans rfl
                  have hcz18_13 : w17.cell? ⟨gb207, 13, none⟩ = some (.int .i64 a0_13) := (blk_cell BK207.out 13).trans rfl
                  have hcz18_14 : w17.cell? ⟨gb207, 14, none⟩ = some (.int .i64 a0_14) := (blk_cell BK207.out 14).trans rfl
                  have hcz18_15 : w17.cell? ⟨gb207, 15, none⟩ = some (.int .i64 a0_15) := (blk_cell BK207.out 15).trans rfl
                  have hcz18_16 : w17.cell? ⟨gb207, 16, none⟩ = some (.int .i64 a0_16) := (blk_cell BK207.out 16).trans rfl
                  have hfz18_0 := blk_frozen BK207.out 0
                  have hfz18_1 := blk_frozen BK207.out 1
                  have hfz18_2 := blk_frozen BK207.out 2
                  have hfz18_3 := blk_frozen BK207.out 3
                  have hfz18_4 := blk_frozen BK207.out 4
                  have hfz18_5 := blk_frozen BK207.out 5
                  have hfz18_6 := blk_frozen BK207.out 6
                  have hfz18_7 := blk_frozen BK207.out 7
                  have hfz18_8 := blk_frozen BK207.out 8
                  have hfz18_9 := blk_frozen BK207.out 9
                  have hfz18_10 := blk_frozen BK207.out 10
                  have hfz18_11 := blk_frozen BK207.out 11
                  have hfz18_12 := blk_frozen BK207.out 12
                  have hfz18_13 := blk_frozen BK207.out 13
                  have hfz18_14 := blk_frozen BK207.out 14
                  have hfz18_15 := blk_frozen BK207.out 15
                  have hfz18_16 := blk_frozen BK207.out 16
                  try go_wp2_with (first | ((with_reducible refine gate_callee (f := 32) rfl ?_); refine goesL_ (some 22) rfl rfl Tryd.func32 (by kernel_rfl) rfl #[.string a0_5] rfl (by (try simp only [List.map_toArray, List.map_cons, List.map_nil]); first | done | rfl | (simp only [List.length_drop, List.length_take]; rfl)) ?_; (with_reducible refine (longcaseref08_named.calls k a0_5 t210 _ A6.out).mono ?_); rintro e w' ⟨rfl, ⟨nd, rfl⟩⟩; refine ⟨_, rfl, ?_⟩))
                  (try (rw [drewN_self w17]; generalize hq_ : World.drewN w17 _ = w17; have n0_ : Aside0 (w17.heap[gb207]? = some (.cells #[.int .i64 a0_0, .bool a0_1, .string a0_2, .int .i64 a0_3, .bool a0_4, .string a0_5, .bool true, .int .i64 a0_7, .int .i64 a0_8, .int .i64 a0_9, .int .i64 a0_10, .int .i64 a0_11, .int .i64 a0_12, .int .i64 a0_13, .int .i64 a0_14, .int .i64 a0_15, .int .i64 a0_16] 27 (0, 0))) := ⟨by rw [← hq_]; exact (by (with_reducible repeat (first | refine blk_drewN ?_ _ | refine blk_drew ?_ | refine blk_alloc ?_ _)); exact BK207.out)⟩; have n1_ : Aside0 (Below w.heap.size w w17) := ⟨by rw [← hq_]; exact (by repeat (first | (with_reducible first | exact HB.out | apply below_alloc | apply pw_below_drewN | apply below_drew1 | refine below_set ?_ GE207.out) | exact HB.out))⟩; clear BK207 HB hq_; have BK207 := n0_; have HB := n1_; clear n0_ n1_))
                  have n0_ := Aside0.mk (blk_drew BK207.out)
                  have n1_ := Aside0.mk (below_drew1 HB.out)
                  clear BK207
                  clear HB
                  have BK207 := n0_
                  have HB := n1_
                  clear n0_ n1_
                  refine start_ (n := 12) (S := fun w' => w'.cell? ⟨gb207, 0, none⟩ = some (.int .i64 a0_0) ∧ w'.cell? ⟨gb207, 1, none⟩ = some (.bool a0_1) ∧ w'.cell? ⟨gb207, 2, none⟩ = some (.string a0_2) ∧ w'.cell? ⟨gb207, 3, none⟩ = some (.int .i64 a0_3) ∧ w'.cell? ⟨gb207, 4, none⟩ = some (.bool a0_4) ∧ w'.cell? ⟨gb207, 5, none⟩ = some (.string a0_5) ∧ w'.cell? ⟨gb207, 6, none⟩ = some (.bool true) ∧ w'.cell? ⟨gb207, 7, none⟩ = some (.int .i64 a0_7) ∧ w'.cell? ⟨gb207, 8, none⟩ = some (.int .i64 a0_8) ∧ w'.cell? ⟨gb207, 9, none⟩ = some (.int .i64 a0_9) ∧ w'.cell? ⟨gb207, 10, none⟩ = some (.int .i64 a0_10) ∧ w'.cell? ⟨gb207, 11, none⟩ = some (.int .i64 a0_11) ∧ w'.cell? ⟨gb207, 12, none⟩ = some (.int .i64 a0_12) ∧ w'.cell? ⟨gb207, 13, none⟩ = some (.int .i64 a0_13) ∧ w'.cell? ⟨gb207, 14, none⟩ = some (.int .i64 a0_14) ∧ w'.cell? ⟨gb207, 15, none⟩ = some (.int .i64 a0_15) ∧ w'.cell? ⟨gb207, 16, none⟩ = some (.int .i64 a0_16)) (ds := []) #[false, false, false, false, false, false, false, false, false, false, false, false] (by kernel_rfl) rfl rfl ⟨(blk_cell BK207.out 0).trans rfl, (blk_cell BK207.out 1).trans rfl, (blk_cell BK207.out 2).trans rfl, (blk_cell BK207.out 3).trans rfl, (blk_cell BK207.out 4).trans rfl, (blk_cell BK207.out 5).trans rfl, (blk_cell BK207.out 6).trans rfl, (blk_cell BK207.out 7).trans rfl, (blk_cell BK207.out 8).trans rfl, (blk_cell BK207.out 9).trans rfl, (blk_cell BK207.out 10).trans rfl, (blk_cell BK207.out 11).trans rfl, (blk_cell BK207.out 12).trans rfl, (blk_cell BK207.out 13).trans rfl, (blk_cell BK207.out 14).trans rfl, (blk_cell BK207.out 15).trans rfl, (blk_cell BK207.out 16).trans rfl⟩ (fun hHeld => ?_); refine with_tabW longcaseref08_Print.tab7 longcaseref08_Print.bits7 (fun HT_ HW_ => ?_)
                  generalize w17.drew = w19 at BK207 HB hHeld ⊢
                  refine pure_ (i := 0) (N := some 39) (v := ?_) (a' := ?_) #[true, false, false, false, false, false, false, false, false, false, false, false] rfl rfl (any_of HT_.out (by kernel_rfl)) (fun _ _ _ h => h) (Or.inl ⟨by rfl, ?_⟩) ?_ ?_
                  rotate_left
                  · intro w'
                    go_simp
                    with_reducible rfl
                  rotate_left
                  · simp only [Act.put, List.setIfInBounds_toArray, List.set_cons_zero, List.set_cons_succ, i64_w, i32_w]
                    rfl
                  refine pure_ (i := 1) (N := some 40) (v := ?_) (a' := ?_) #[true, true, false, false, false, false, false, false, false, false, false, false] rfl rfl (any_of HT_.out (by kernel_rfl)) (fun _ _ _ h => h) (Or.inl ⟨by rfl, ?_⟩) ?_ ?_
                  rotate_left
                  · intro w'
                    go_simp
                    with_reducible rfl
                  rotate_left
                  · simp only [Act.put, List.setIfInBounds_toArray, List.set_cons_zero, List.set_cons_succ, i64_w, i32_w]
                    rfl
                  refine pure_ (i := 2) (N := some 41) (v := ?_) (a' := ?_) #[true, true, true, false, false, false, false, false, false, false, false, false] rfl rfl (any_of HT_.out (by kernel_rfl)) (fun _ _ _ h => h) (Or.inl ⟨by rfl, ?_⟩) ?_ ?_
                  rotate_left
                  · intro w'
                    go_simp
                    with_reducible rfl
                  rotate_left
                  · simp only [Act.put, List.setIfInBounds_toArray, List.set_cons_zero, List.set_cons_succ, i64_w, i32_w]
                    rfl
                  refine pure_ (i := 7) (N := some 46) (v := ?_) (a' := ?_) #[true, true, true, false, false, false, false, true, false, false, false, false] rfl rfl (any_of HT_.out (by kernel_rfl)) (fun _ _ _ h => h) (Or.inl ⟨by rfl, ?_⟩) ?_ ?_
                  rotate_left
                  · intro w'
                    go_simp
                    with_reducible rfl
                  rotate_left
                  · simp only [Act.put, List.setIfInBounds_toArray, List.set_cons_zero, List.set_cons_succ, i64_w, i32_w]
                    rfl
                  refine take_ (i := 3) (N := some 42) (v := ?_) (a' := ?_) #[true, true, true, true, false, false, false, true, false, false, false, false] rfl rfl (take_ofW HT_.out HW_.out (by kernel_rfl)) (fun _ _ _ h => h) (Or.inl ⟨by rfl, ?_⟩) hHeld ?_ ?_
                  rotate_left
                  · rintro w' ⟨s0, s1, s2, s3, s4, s5, s6, s7, s8, s9, s10, s11, s12, s13, s14, s15, s16⟩
                    go_simp
                    with_reducible rfl
                  rotate_left
                  · simp only [Act.put, List.setIfInBounds_toArray, List.set_cons_zero, List.set_cons_succ, i64_w, i32_w]
                    rfl
                  refine take_ (i := 8) (N := some 47) (v := ?_) (a' := ?_) #[true, true, true, true, false, false, false, true, true, false, false, false] rfl rfl (take_ofW HT_.out HW_.out (by kernel_rfl)) (fun _ _ _ h => h) (Or.inl ⟨by rfl, ?_⟩) hHeld ?_ ?_
                  rotate_left
                  · rintro w' ⟨s0, s1, s2, s3, s4, s5, s6, s7, s8, s9, s10, s11, s12, s13, s14, s15, s16⟩
                    go_simp
                    with_reducible rfl
                  rotate_left
                  · simp only [Act.put, List.setIfInBounds_toArray, List.set_cons_zero, List.set_cons_succ, i64_w, i32_w]
                    rfl
                  refine one_ (i := 4) (N := some 43) #[true, true, true, true, true, false, false, true, true, false, false, false] rfl rfl (one_of HT_.out (by kernel_rfl)) (by decide) (fun K hK => ?_)
                  refine goes_ Tryd.func34 (by kernel_rfl) rfl #[.agg #[.int .i64 a0_7, .int .i64 a0_8, .int .i64 a0_9, .int .i64 a0_10, .int .i64 a0_11]] (by rfl) rfl rfl (by (try simp only [List.map_toArray, List.map_cons, List.map_nil]); first | done | rfl | (simp only [List.length_drop, List.length_take]; rfl)) ?_
                  with_reducible refine (longcaseref08_change.calls k a0_7 a0_8 a0_9 a0_10 a0_11 t211 _ A10.out).mono ?_
                  rintro e w20 ⟨rfl, hb⟩
                  refine ⟨_, rfl, ?_⟩
                  have n0_ := Aside0.mk (blk_below (g := gb207) (o := .cells #[.int .i64 a0_0, .bool a0_1, .string a0_2, .int .i64 a0_3, .bool a0_4, .string a0_5, .bool true, .int .i64 a0_7, .int .i64 a0_8, .int .i64 a0_9, .int .i64 a0_10, .int .i64 a0_11, .int .i64 a0_12, .int .i64 a0_13, .int .i64 a0_14, .int .i64 a0_15, .int .i64 a0_16] 27 (0, 0)) (by (with_reducible repeat (first | refine blk_drewN ?_ _ | refine blk_drew ?_ | refine blk_alloc ?_ _)); exact BK207.out) hb)
                  have n1_ := Aside0.mk (below_step (by repeat (first | (with_reducible first | exact HB.out | apply below_alloc | apply pw_below_drewN | apply below_drew1 | refine below_set ?_ GE207.out) | exact HB.out)) hb)
                  clear BK207
                  clear HB
                  have BK207 := n0_
                  have HB := n1_
                  clear n0_ n1_
                  (try clear hb)
                  (try clear hb2)
                  (try clear hk)
                  (try clear hi)
                  refine hK.out _ _ ⟨(blk_cell BK207.out 0).trans rfl, (blk_cell BK207.out 1).trans rfl, (blk_cell BK207.out 2).trans rfl, (blk_cell BK207.out 3).trans rfl, (blk_cell BK207.out 4).trans rfl, (blk_cell BK207.out 5).trans rfl, (blk_cell BK207.out 6).trans rfl, (blk_cell BK207.out 7).trans rfl, (blk_cell BK207.out 8).trans rfl, (blk_cell BK207.out 9).trans rfl, (blk_cell BK207.out 10).trans rfl, (blk_cell BK207.out 11).trans rfl, (blk_cell BK207.out 12).trans rfl, (blk_cell BK207.out 13).trans rfl, (blk_cell BK207.out 14).trans rfl, (blk_cell BK207.out 15).trans rfl, (blk_cell BK207.out 16).trans rfl⟩ (fun hHeld => ?_)
                  clear hK K
                  refine norm_ (a' := ?_) ?_ ?_
                  rotate_left
                  · show Act.put _ (some 43) _ = _
                    simp only [Act.put, List.setIfInBounds_toArray, List.set_cons_zero, List.set_cons_succ, i64_w, i32_w]
                    rfl
                  refine pure_ (i := 5) (N := some 44) (v := ?_) (a' := ?_) #[true, true, true, true, true, true, false, true, true, false, false, false] rfl rfl (any_of HT_.out (by kernel_rfl)) (fun _ _ _ h => h) (Or.inl ⟨by rfl, ?_⟩) ?_ ?_
                  rotate_left
                  · intro w'
                    go_simp
                    with_reducible rfl
                  rotate_left
                  · simp only [Act.put, List.setIfInBounds_toArray, List.set_cons_zero, List.set_cons_succ, i64_w, i32_w]
                    rfl
                  refine pure_ (i := 6) (N := some 45) (v := ?_) (a' := ?_) #[true, true, true, true, true, true, true, true, true, false, false, false] rfl rfl (any_of HT_.out (by kernel_rfl)) (fun _ _ _ h => h) (Or.inl ⟨by rfl, ?_⟩) ?_ ?_
                  rotate_left
                  · intro w'
                    go_simp
                    with_reducible rfl
                  rotate_left
                  · simp only [Act.put, List.setIfInBounds_toArray, List.set_cons_zero, List.set_cons_succ, i64_w, i32_w]
                    rfl
                  refine one_ (i := 9) (N := some 48) #[true, true, true, true, true, true, true, true, true, true, false, false] rfl rfl (one_of HT_.out (by kernel_rfl)) (by decide) (fun K hK => ?_)
                  refine goes_ Tryd.func34 (by kernel_rfl) rfl #[.agg #[.int .i64 a0_12, .int .i64 a0_13, .int .i64 a0_14, .int .i64 a0_15, .int .i64 a0_16]] (by rfl) rfl rfl (by (try simp only [List.map_toArray, List.map_cons, List.map_nil]); first | done | rfl | (simp only [List.length_drop, List.length_take]; rfl)) ?_
                  with_reducible refine (longcaseref08_change.calls k a0_12 a0_13 a0_14 a0_15 a0_16 t212 _ A13.out).mono ?_
                  rintro e w21 ⟨rfl, hb⟩
                  refine ⟨_, rfl, ?_⟩
                  have n0_ := Aside0.mk (blk_below (g := gb207) (o := .cells #[.int .i64 a0_0, .bool a0_1, .string a0_2, .int .i64 a0_3, .bool a0_4, .string a0_5, .bool true, .int .i64 a0_7, .int .i64 a0_8, .int .i64 a0_9, .int .i64 a0_10, .int .i64 a0_11, .int .i64 a0_12, .int .i64 a0_13, .int .i64 a0_14, .int .i64 a0_15, .int .i64 a0_16] 27 (0, 0)) (by (with_reducible repeat (first | refine blk_drewN ?_ _ | refine blk_drew ?_ | refine blk_alloc ?_ _)); exact BK207.out) hb)
                  have n1_ := Aside0.mk (below_step (by repeat (first | (with_reducible first | exact HB.out | apply below_alloc | apply pw_below_drewN | apply below_drew1 | refine below_set ?_ GE207.out) | exact HB.out)) hb)
                  clear BK207
                  clear HB
                  have BK207 := n0_
                  have HB := n1_
                  clear n0_ n1_
                  (try clear hb)
                  (try clear hb2)
                  (try clear hk)
                  (try clear hi)
                  refine hK.out _ _ ⟨(blk_cell BK207.out 0).trans rfl, (blk_cell BK207.out 1).trans rfl, (blk_cell BK207.out 2).trans rfl, (blk_cell BK207.out 3).trans rfl, (blk_cell BK207.out 4).trans rfl, (blk_cell BK207.out 5).trans rfl, (blk_cell BK207.out 6).trans rfl, (blk_cell BK207.out 7).trans rfl, (blk_cell BK207.out 8).trans rfl, (blk_cell BK207.out 9).trans rfl, (blk_cell BK207.out 10).trans rfl, (blk_cell BK207.out 11).trans rfl, (blk_cell BK207.out 12).trans rfl, (blk_cell BK207.out 13).trans rfl, (blk_cell BK207.out 14).trans rfl, (blk_cell BK207.out 15).trans rfl, (blk_cell BK207.out 16).trans rfl⟩ (fun hHeld => ?_)
                  clear hK K
                  refine norm_ (a' := ?_) ?_ ?_
                  rotate_left
                  · show Act.put _ (some 48) _ = _
                    simp only [Act.put, List.setIfInBounds_toArray, List.set_cons_zero, List.set_cons_succ, i64_w, i32_w]
                    rfl
                  refine pure_ (i := 10) (N := some 49) (v := ?_) (a' := ?_) #[true, true, true, true, true, true, true, true, true, true, true, false] rfl rfl (any_of HT_.out (by kernel_rfl)) (fun _ _ _ h => h) (Or.inl ⟨by rfl, ?_⟩) ?_ ?_
                  rotate_left
                  · intro w'
                    go_simp
                    with_reducible rfl
                  rotate_left
                  · simp only [Act.put, List.setIfInBounds_toArray, List.set_cons_zero, List.set_cons_succ, i64_w, i32_w]
                    rfl
                  refine pure_ (i := 11) (N := some 2) (v := ?_) (a' := ?_) #[true, true, true, true, true, true, true, true, true, true, true, true] rfl rfl (any_of HT_.out (by kernel_rfl)) (fun _ _ _ h => h) (Or.inl ⟨by rfl, ?_⟩) ?_ ?_
                  rotate_left
                  · intro w'
                    go_simp
                    with_reducible rfl
                  rotate_left
                  · simp only [Act.put, List.setIfInBounds_toArray, List.set_cons_zero, List.set_cons_succ, i64_w, i32_w]
                    rfl
                  refine done_ (done_of HT_.out (by kernel_rfl)) ?_
                  try go_wp2
                  go_ret
                  exact ⟨by first | rfl | (simp [errW_none, errW_some] <;> rfl) | (simp [*, errW_none, errW_some] <;> rfl), by repeat (first | (with_reducible first | exact HB.out | apply below_alloc | apply pw_below_drewN | apply below_drew1 | refine below_set ?_ GE207.out) | exact HB.out)⟩
                · rw [if_neg c14] at H
                  exact absurd H (by simp)
              · rw [if_neg c12] at H
                exact absurd H (by simp)
            · rw [if_neg c11] at H
              exact absurd H (by simp)
          · rw [if_neg c9] at H
            exact absurd H (by simp)
        · rw [if_neg c8] at H
          have c8b0 : (a0_3 == (wrap64 (a0_0 + 3600))) = false := beq_eq_false_iff_ne.mpr c8
          have c8b1 : (a0_3 != (wrap64 (a0_0 + 3600))) = true := bne_iff_ne.mpr c8
          replace H := Option.bind_eq_some_iff.mp H
          obtain ⟨t213, A220, H⟩ := H
          replace H : (if ((t208 ++ t209) ++ t210).size + t213.size ≤ 9223372036854775807 then (if (((t208 ++ t209) ++ t210) ++ t213).size + 1 ≤ 9223372036854775807 then ((longcaseref08_change.f k a0_7 a0_8 a0_9 a0_10 a0_11).bind fun t214 => (if ((((t208 ++ t209) ++ t210) ++ t213) ++ (⟨#[44]⟩ : ByteArray)).size + t214.size ≤ 9223372036854775807 then (if (((((t208 ++ t209) ++ t210) ++ t213) ++ (⟨#[44]⟩ : ByteArray)) ++ t214).size + 1 ≤ 9223372036854775807 then ((longcaseref08_change.f k a0_12 a0_13 a0_14 a0_15 a0_16).bind fun t215 => (if ((((((t208 ++ t209) ++ t210) ++ t213) ++ (⟨#[44]⟩ : ByteArray)) ++ t214) ++ (⟨#[44]⟩ : ByteArray)).size + t215.size ≤ 9223372036854775807 then (some (((((((t208 ++ t209) ++ t210) ++ t213) ++ (⟨#[44]⟩ : ByteArray)) ++ t214) ++ (⟨#[44]⟩ : ByteArray)) ++ t215)) else (none))) else (none)) else (none))) else (none)) else (none)) = some r := H
          have A22 := Aside0.mk A220
          clear A220
          by_cases c23 : ((t208 ++ t209) ++ t210).size + t213.size ≤ 9223372036854775807
          · rw [if_pos c23] at H
            have c23b0 := eq_true c23
            have c23b1 : decide (((t208 ++ t209) ++ t210).size + t213.size ≤ 9223372036854775807) = true := decide_eq_true c23
            try have c23b2 : (9223372036854775807 < ((t208 ++ t209) ++ t210).size + t213.size) = False := eq_false (Nat.not_lt.2 c23)
            have c23z0 : ((t208.size + t209.size) + t210.size) + t213.size ≤ 9223372036854775807 := by have z_ := c23; simp only [ByteArray.size_append] at z_; exact z_
            try have c23z1 : (9223372036854775807 < ((t208.size + t209.size) + t210.size) + t213.size) = False := eq_false (Nat.not_lt.2 c23z0)
            by_cases c24 : (((t208 ++ t209) ++ t210) ++ t213).size + 1 ≤ 9223372036854775807
            · rw [if_pos c24] at H
              have c24b0 := eq_true c24
              have c24b1 : decide ((((t208 ++ t209) ++ t210) ++ t213).size + 1 ≤ 9223372036854775807) = true := decide_eq_true c24
              try have c24b2 : (9223372036854775807 < (((t208 ++ t209) ++ t210) ++ t213).size + 1) = False := eq_false (Nat.not_lt.2 c24)
              have c24z0 : (((t208.size + t209.size) + t210.size) + t213.size) + 1 ≤ 9223372036854775807 := by have z_ := c24; simp only [ByteArray.size_append] at z_; exact z_
              try have c24z1 : (9223372036854775807 < (((t208.size + t209.size) + t210.size) + t213.size) + 1) = False := eq_false (Nat.not_lt.2 c24z0)
              replace H := Option.bind_eq_some_iff.mp H
              obtain ⟨t214, A250, H⟩ := H
              replace H : (if ((((t208 ++ t209) ++ t210) ++ t213) ++ (⟨#[44]⟩ : ByteArray)).size + t214.size ≤ 9223372036854775807 then (if (((((t208 ++ t209) ++ t210) ++ t213) ++ (⟨#[44]⟩ : ByteArray)) ++ t214).size + 1 ≤ 9223372036854775807 then ((longcaseref08_change.f k a0_12 a0_13 a0_14 a0_15 a0_16).bind fun t215 => (if ((((((t208 ++ t209) ++ t210) ++ t213) ++ (⟨#[44]⟩ : ByteArray)) ++ t214) ++ (⟨#[44]⟩ : ByteArray)).size + t215.size ≤ 9223372036854775807 then (some (((((((t208 ++ t209) ++ t210) ++ t213) ++ (⟨#[44]⟩ : ByteArray)) ++ t214) ++ (⟨#[44]⟩ : ByteArray)) ++ t215)) else (none))) else (none)) else (none)) = some r := H
              have A25 := Aside0.mk A250
              clear A250
              by_cases c26 : ((((t208 ++ t209) ++ t210) ++ t213) ++ (⟨#[44]⟩ : ByteArray)).size + t214.size ≤ 9223372036854775807
              · rw [if_pos c26] at H
                have c26b0 := eq_true c26
                have c26b1 : decide (((((t208 ++ t209) ++ t210) ++ t213) ++ (⟨#[44]⟩ : ByteArray)).size + t214.size ≤ 9223372036854775807) = true := decide_eq_true c26
                try have c26b2 : (9223372036854775807 < ((((t208 ++ t209) ++ t210) ++ t213) ++ (⟨#[44]⟩ : ByteArray)).size + t214.size) = False := eq_false (Nat.not_lt.2 c26)
                have c26z0 : ((((t208.size + t209.size) + t210.size) + t213.size) + 1) + t214.size ≤ 9223372036854775807 := by have z_ := c26; simp only [ByteArray.size_append] at z_; exact z_
                try have c26z1 : (9223372036854775807 < ((((t208.size + t209.size) + t210.size) + t213.size) + 1) + t214.size) = False := eq_false (Nat.not_lt.2 c26z0)
                by_cases c27 : (((((t208 ++ t209) ++ t210) ++ t213) ++ (⟨#[44]⟩ : ByteArray)) ++ t214).size + 1 ≤ 9223372036854775807
                · rw [if_pos c27] at H
                  have c27b0 := eq_true c27
                  have c27b1 : decide ((((((t208 ++ t209) ++ t210) ++ t213) ++ (⟨#[44]⟩ : ByteArray)) ++ t214).size + 1 ≤ 9223372036854775807) = true := decide_eq_true c27
                  try have c27b2 : (9223372036854775807 < (((((t208 ++ t209) ++ t210) ++ t213) ++ (⟨#[44]⟩ : ByteArray)) ++ t214).size + 1) = False := eq_false (Nat.not_lt.2 c27)
                  have c27z0 : (((((t208.size + t209.size) + t210.size) + t213.size) + 1) + t214.size) + 1 ≤ 9223372036854775807 := by have z_ := c27; simp only [ByteArray.size_append] at z_; exact z_
                  try have c27z1 : (9223372036854775807 < (((((t208.size + t209.size) + t210.size) + t213.size) + 1) + t214.size) + 1) = False := eq_false (Nat.not_lt.2 c27z0)
                  replace H := Option.bind_eq_some_iff.mp H
                  obtain ⟨t215, A280, H⟩ := H
                  replace H : (if ((((((t208 ++ t209) ++ t210) ++ t213) ++ (⟨#[44]⟩ : ByteArray)) ++ t214) ++ (⟨#[44]⟩ : ByteArray)).size + t215.size ≤ 9223372036854775807 then (some (((((((t208 ++ t209) ++ t210) ++ t213) ++ (⟨#[44]⟩ : ByteArray)) ++ t214) ++ (⟨#[44]⟩ : ByteArray)) ++ t215)) else (none)) = some r := H
                  have A28 := Aside0.mk A280
                  clear A280
                  by_cases c29 : ((((((t208 ++ t209) ++ t210) ++ t213) ++ (⟨#[44]⟩ : ByteArray)) ++ t214) ++ (⟨#[44]⟩ : ByteArray)).size + t215.size ≤ 9223372036854775807
                  · rw [if_pos c29] at H
                    have c29b0 := eq_true c29
                    have c29b1 : decide (((((((t208 ++ t209) ++ t210) ++ t213) ++ (⟨#[44]⟩ : ByteArray)) ++ t214) ++ (⟨#[44]⟩ : ByteArray)).size + t215.size ≤ 9223372036854775807) = true := decide_eq_true c29
                    try have c29b2 : (9223372036854775807 < ((((((t208 ++ t209) ++ t210) ++ t213) ++ (⟨#[44]⟩ : ByteArray)) ++ t214) ++ (⟨#[44]⟩ : ByteArray)).size + t215.size) = False := eq_false (Nat.not_lt.2 c29)
                    have c29z0 : ((((((t208.size + t209.size) + t210.size) + t213.size) + 1) + t214.size) + 1) + t215.size ≤ 9223372036854775807 := by have z_ := c29; simp only [ByteArray.size_append] at z_; exact z_
                    try have c29z1 : (9223372036854775807 < ((((((t208.size + t209.size) + t210.size) + t213.size) + 1) + t214.size) + 1) + t215.size) = False := eq_false (Nat.not_lt.2 c29z0)
                    obtain rfl := Option.some.inj H
                    go_enter Tryd.func17, Tryd.ntmps17
                    try go_wp2_with (first | ((with_reducible refine gate_dst (N := 1) rfl ?_); refine box_event ?hg (N := 1) ?hd (cs := #[.int .i64 a0_0, .bool a0_1, .string a0_2, .int .i64 a0_3, .bool a0_4, .string a0_5, .bool true, .int .i64 a0_7, .int .i64 a0_8, .int .i64 a0_9, .int .i64 a0_10, .int .i64 a0_11, .int .i64 a0_12, .int .i64 a0_13, .int .i64 a0_14, .int .i64 a0_15, .int .i64 a0_16]) (t := 27) ?hr ?_; (case hd => rfl); (case hg => rfl); (case hr => first | (go_simp; done) | (go_simp; rfl)); intro gb207 hg w30 hbox hb; have n0_ := Aside0.mk (below_step (by repeat (first | (with_reducible first | exact HB.out | apply below_alloc | apply pw_below_drewN | apply below_drew1) | exact HB.out)) hb); have n1_ := Aside0.mk (hbox); have n2_ := Aside0.mk ((by rw [hg]; exact (below_size (by repeat (first | (with_reducible first | exact HB.out | apply below_alloc | apply pw_below_drewN | apply below_drew1) | exact HB.out))) : w.heap.size ≤ gb207)); have n3_ := Aside0.mk ((by rw [hg]; exact (below_size (by repeat (first | (with_reducible first | exact HB.out | apply below_alloc | apply pw_below_drewN | apply below_drew1) | exact HB.out))) : w.heap.size ≤ gb207)); clear HB; have HB := n0_; have BK207 := n1_; have GW207 := n2_; have GE207 := n3_; clear n0_ n1_ n2_ n3_; clear hb hbox hg))
                    have n0_ := Aside0.mk (blk_drew BK207.out)
                    have n1_ := Aside0.mk (below_drew1 HB.out)
                    clear BK207
                    clear HB
                    have BK207 := n0_
                    have HB := n1_
                    clear n0_ n1_
                    refine start_ (n := 11) (S := fun w' => w'.cell? ⟨gb207, 0, none⟩ = some (.int .i64 a0_0) ∧ w'.cell? ⟨gb207, 1, none⟩ = some (.bool a0_1) ∧ w'.cell? ⟨gb207, 2, none⟩ = some (.string a0_2) ∧ w'.cell? ⟨gb207, 3, none⟩ = some (.int .i64 a0_3) ∧ w'.cell? ⟨gb207, 4, none⟩ = some (.bool a0_4) ∧ w'.cell? ⟨gb207, 5, none⟩ = some (.string a0_5) ∧ w'.cell? ⟨gb207, 6, none⟩ = some (.bool true) ∧ w'.cell? ⟨gb207, 7, none⟩ = some (.int .i64 a0_7) ∧ w'.cell? ⟨gb207, 8, none⟩ = some (.int .i64 a0_8) ∧ w'.cell? ⟨gb207, 9, none⟩ = some (.int .i64 a0_9) ∧ w'.cell? ⟨gb207, 10, none⟩ = some (.int .i64 a0_10) ∧ w'.cell? ⟨gb207, 11, none⟩ = some (.int .i64 a0_11) ∧ w'.cell? ⟨gb207, 12, none⟩ = some (.int .i64 a0_12) ∧ w'.cell? ⟨gb207, 13, none⟩ = some (.int .i64 a0_13) ∧ w'.cell? ⟨gb207, 14, none⟩ = some (.int .i64 a0_14) ∧ w'.cell? ⟨gb207, 15, none⟩ = some (.int .i64 a0_15) ∧ w'.cell? ⟨gb207, 16, none⟩ = some (.int .i64 a0_16)) (ds := []) #[false, false, false, false, false, false, false, false, false, false, false] (by kernel_rfl) rfl rfl ⟨(blk_cell BK207.out 0).trans rfl, (blk_cell BK207.out 1).trans rfl, (blk_cell BK207.out 2).trans rfl, (blk_cell BK207.out 3).trans rfl, (blk_cell BK207.out 4).trans rfl, (blk_cell BK207.out 5).trans rfl, (blk_cell BK207.out 6).trans rfl, (blk_cell BK207.out 7).trans rfl, (blk_cell BK207.out 8).trans rfl, (blk_cell BK207.out 9).trans rfl, (blk_cell BK207.out 10).trans rfl, (blk_cell BK207.out 11).trans rfl, (blk_cell BK207.out 12).trans rfl, (blk_cell BK207.out 13).trans rfl, (blk_cell BK207.out 14).trans rfl, (blk_cell BK207.out 15).trans rfl, (blk_cell BK207.out 16).trans rfl⟩ (fun hHeld => ?_); refine with_tabW longcaseref08_Print.tab1 longcaseref08_Print.bits1 (fun HT_ HW_ => ?_)
                    generalize w30.drew = w31 at BK207 HB hHeld ⊢
                    refine pure_ (i := 0) (N := some 4) (v := ?_) (a' := ?_) #[true, false, false, false, false, false, false, false, false, false, false] rfl rfl (any_of HT_.out (by kernel_rfl)) (fun _ _ _ h => h) (Or.inl ⟨by rfl, ?_⟩) ?_ ?_
                    rotate_left
                    · intro w'
                      go_simp
                      with_reducible rfl
                    rotate_left
                    · simp only [Act.put, List.setIfInBounds_toArray, List.set_cons_zero, List.set_cons_succ, i64_w, i32_w]
                      rfl
                    refine pure_ (i := 1) (N := some 5) (v := ?_) (a' := ?_) #[true, true, false, false, false, false, false, false, false, false, false] rfl rfl (any_of HT_.out (by kernel_rfl)) (fun _ _ _ h => h) (Or.inl ⟨by rfl, ?_⟩) ?_ ?_
                    rotate_left
                    · intro w'
                      go_simp
                      with_reducible rfl
                    rotate_left
                    · simp only [Act.put, List.setIfInBounds_toArray, List.set_cons_zero, List.set_cons_succ, i64_w, i32_w]
                      rfl
                    refine pure_ (i := 4) (N := some 8) (v := ?_) (a' := ?_) #[true, true, false, false, true, false, false, false, false, false, false] rfl rfl (any_of HT_.out (by kernel_rfl)) (fun _ _ _ h => h) (Or.inl ⟨by rfl, ?_⟩) ?_ ?_
                    rotate_left
                    · intro w'
                      go_simp
                      with_reducible rfl
                    rotate_left
                    · simp only [Act.put, List.setIfInBounds_toArray, List.set_cons_zero, List.set_cons_succ, i64_w, i32_w]
                      rfl
                    refine pure_ (i := 5) (N := some 9) (v := ?_) (a' := ?_) #[true, true, false, false, true, true, false, false, false, false, false] rfl rfl (any_of HT_.out (by kernel_rfl)) (fun _ _ _ h => h) (Or.inl ⟨by rfl, ?_⟩) ?_ ?_
                    rotate_left
                    · intro w'
                      go_simp
                      with_reducible rfl
                    rotate_left
                    · simp only [Act.put, List.setIfInBounds_toArray, List.set_cons_zero, List.set_cons_succ, i64_w, i32_w]
                      rfl
                    refine take_ (i := 2) (N := some 6) (v := ?_) (a' := ?_) #[true, true, true, false, true, true, false, false, false, false, false] rfl rfl (take_ofW HT_.out HW_.out (by kernel_rfl)) (fun _ _ _ h => h) (Or.inl ⟨by rfl, ?_⟩) hHeld ?_ ?_
                    rotate_left
                    · rintro w' ⟨s0, s1, s2, s3, s4, s5, s6, s7, s8, s9, s10, s11, s12, s13, s14, s15, s16⟩
                      go_simp
                      with_reducible rfl
                    rotate_left
                    · simp only [Act.put, List.setIfInBounds_toArray, List.set_cons_zero, List.set_cons_succ, i64_w, i32_w]
                      rfl
                    refine take_ (i := 6) (N := some 10) (v := ?_) (a' := ?_) #[true, true, true, false, true, true, true, false, false, false, false] rfl rfl (take_ofW HT_.out HW_.out (by kernel_rfl)) (fun _ _ _ h => h) (Or.inl ⟨by rfl, ?_⟩) hHeld ?_ ?_
                    rotate_left
                    · rintro w' ⟨s0, s1, s2, s3, s4, s5, s6, s7, s8, s9, s10, s11, s12, s13, s14, s15, s16⟩
                      go_simp
                      with_reducible rfl
                    rotate_left
                    · simp only [Act.put, List.setIfInBounds_toArray, List.set_cons_zero, List.set_cons_succ, i64_w, i32_w]
                      rfl
                    refine pure_ (i := 7) (N := some 11) (v := ?_) (a' := ?_) #[true, true, true, false, true, true, true, true, false, false, false] rfl rfl (any_of HT_.out (by kernel_rfl)) (fun _ _ _ h => h) (Or.inl ⟨by rfl, ?_⟩) ?_ ?_
                    rotate_left
                    · intro w'
                      go_simp
                      with_reducible rfl
                    rotate_left
                    · simp only [Act.put, List.setIfInBounds_toArray, List.set_cons_zero, List.set_cons_succ, i64_w, i32_w]
                      rfl
                    refine one_ (i := 3) (N := some 7) #[true, true, true, true, true, true, true, true, false, false, false] rfl rfl (one_of HT_.out (by kernel_rfl)) (by decide) (fun K hK => ?_)
                    refine goes_ Tryd.func32 (by kernel_rfl) rfl #[.string a0_2] (by rfl) rfl rfl (by (try simp only [List.map_toArray, List.map_cons, List.map_nil]); first | done | rfl | (simp only [List.length_drop, List.length_take]; rfl)) ?_
                    with_reducible refine (longcaseref08_named.calls k a0_2 t208 _ A2.out).mono ?_
                    rintro e w' ⟨rfl, ⟨nd, rfl⟩⟩
                    refine ⟨_, rfl, ?_⟩
                    refine hK.out _ _ ⟨(blk_cell BK207.out 0).trans rfl, (blk_cell BK207.out 1).trans rfl, (blk_cell BK207.out 2).trans rfl, (blk_cell BK207.out 3).trans rfl, (blk_cell BK207.out 4).trans rfl, (blk_cell BK207.out 5).trans rfl, (blk_cell BK207.out 6).trans rfl, (blk_cell BK207.out 7).trans rfl, (blk_cell BK207.out 8).trans rfl, (blk_cell BK207.out 9).trans rfl, (blk_cell BK207.out 10).trans rfl, (blk_cell BK207.out 11).trans rfl, (blk_cell BK207.out 12).trans rfl, (blk_cell BK207.out 13).trans rfl, (blk_cell BK207.out 14).trans rfl, (blk_cell BK207.out 15).trans rfl, (blk_cell BK207.out 16).trans rfl⟩ (fun hHeld => ?_)
                    clear hK K
                    refine norm_ (a' := ?_) ?_ ?_
                    rotate_left
                    · show Act.put _ (some 7) _ = _
                      simp only [Act.put, List.setIfInBounds_toArray, List.set_cons_zero, List.set_cons_succ, i64_w, i32_w]
                      rfl
                    refine one_ (i := 8) (N := some 12) #[true, true, true, true, true, true, true, true, true, false, false] rfl rfl (one_of HT_.out (by kernel_rfl)) (by decide) (fun K hK => ?_)
                    refine goes_ Tryd.func33 (by kernel_rfl) rfl #[.int .i64 (wrap64 (-a0_0))] (by rfl) rfl rfl (by (try simp only [List.map_toArray, List.map_cons, List.map_nil]); first | done | rfl | (simp only [List.length_drop, List.length_take]; rfl)) ?_
                    with_reducible refine (longcaseref08_hours.calls k (wrap64 (-a0_0)) t209 _ A3.out).mono ?_
                    rintro e w32 ⟨rfl, hb⟩
                    refine ⟨_, rfl, ?_⟩
                    have n0_ := Aside0.mk (blk_below (g := gb207) (o := .cells #[.int .i64 a0_0, .bool a0_1, .string a0_2, .int .i64 a0_3, .bool a0_4, .string a0_5, .bool true, .int .i64 a0_7, .int .i64 a0_8, .int .i64 a0_9, .int .i64 a0_10, .int .i64 a0_11, .int .i64 a0_12, .int .i64 a0_13, .int .i64 a0_14, .int .i64 a0_15, .int .i64 a0_16] 27 (0, 0)) (by (with_reducible repeat (first | refine blk_drewN ?_ _ | refine blk_drew ?_ | refine blk_alloc ?_ _)); exact BK207.out) hb)
                    have n1_ := Aside0.mk (below_step (by repeat (first | (with_reducible first | exact HB.out | apply below_alloc | apply pw_below_drewN | apply below_drew1 | refine below_set ?_ GE207.out) | exact HB.out)) hb)
                    clear BK207
                    clear HB
                    have BK207 := n0_
                    have HB := n1_
                    clear n0_ n1_
                    (try clear hb)
                    (try clear hb2)
                    (try clear hk)
                    (try clear hi)
                    refine hK.out _ _ ⟨(blk_cell BK207.out 0).trans rfl, (blk_cell BK207.out 1).trans rfl, (blk_cell BK207.out 2).trans rfl, (blk_cell BK207.out 3).trans rfl, (blk_cell BK207.out 4).trans rfl, (blk_cell BK207.out 5).trans rfl, (blk_cell BK207.out 6).trans rfl, (blk_cell BK207.out 7).trans rfl, (blk_cell BK207.out 8).trans rfl, (blk_cell BK207.out 9).trans rfl, (blk_cell BK207.out 10).trans rfl, (blk_cell BK207.out 11).trans rfl, (blk_cell BK207.out 12).trans rfl, (blk_cell BK207.out 13).trans rfl, (blk_cell BK207.out 14).trans rfl, (blk_cell BK207.out 15).trans rfl, (blk_cell BK207.out 16).trans rfl⟩ (fun hHeld => ?_)
                    clear hK K
                    refine norm_ (a' := ?_) ?_ ?_
                    rotate_left
                    · show Act.put _ (some 12) _ = _
                      simp only [Act.put, List.setIfInBounds_toArray, List.set_cons_zero, List.set_cons_succ, i64_w, i32_w]
                      rfl
                    refine pure_ (i := 9) (N := some 13) (v := ?_) (a' := ?_) #[true, true, true, true, true, true, true, true, true, true, false] rfl rfl (any_of HT_.out (by kernel_rfl)) (fun _ _ _ h => h) (Or.inl ⟨by rfl, ?_⟩) ?_ ?_
                    rotate_left
                    · intro w'
                      go_simp
                      with_reducible rfl
                    rotate_left
                    · simp only [Act.put, List.setIfInBounds_toArray, List.set_cons_zero, List.set_cons_succ, i64_w, i32_w]
                      rfl
                    refine pure_ (i := 10) (N := some 3) (v := ?_) (a' := ?_) #[true, true, true, true, true, true, true, true, true, true, true] rfl rfl (any_of HT_.out (by kernel_rfl)) (fun _ _ _ h => h) (Or.inl ⟨by rfl, ?_⟩) ?_ ?_
                    rotate_left
                    · intro w'
                      go_simp
                      with_reducible rfl
                    rotate_left
                    · simp only [Act.put, List.setIfInBounds_toArray, List.set_cons_zero, List.set_cons_succ, i64_w, i32_w]
                      rfl
                    refine done_ (done_of HT_.out (by kernel_rfl)) ?_
                    have hcz33_0 : w32.cell? ⟨gb207, 0, none⟩ = some (.int .i64 a0_0) := (blk_cell BK207.out 0).trans rfl
                    have hcz33_1 : w32.cell? ⟨gb207, 1, none⟩ = some (.bool a0_1) := (blk_cell BK207.out 1).trans rfl
                    have hcz33_2 : w32.cell? ⟨gb207, 2, none⟩ = some (.string a0_2) := (blk_cell BK207.out 2).trans rfl
                    have hcz33_3 : w32.cell? ⟨gb207, 3, none⟩ = some (.int .i64 a0_3) := (blk_cell BK207.out 3).trans rfl
                    have hcz33_4 : w32.cell? ⟨gb207, 4, none⟩ = some (.bool a0_4) := (blk_cell BK207.out 4).trans rfl
                    have hcz33_5 : w32.cell? ⟨gb207, 5, none⟩ = some (.string a0_5) := (blk_cell BK207.out 5).trans rfl
                    have hcz33_6 : w32.cell? ⟨gb207, 6, none⟩ = some (.bool true) := (blk_cell BK207.out 6).trans rfl
                    have hcz33_7 : w32.cell? ⟨gb207, 7, none⟩ = some (.int .i64 a0_7) := (blk_cell BK207.out 7).trans rfl
                    have hcz33_8 : w32.cell? ⟨gb207, 8, none⟩ = some (.int .i64 a0_8) := (blk_cell BK207.out 8).trans rfl
                    have hcz33_9 : w32.cell? ⟨gb207, 9, none⟩ = some (.int .i64 a0_9) := (blk_cell BK207.out 9).trans rfl
                    have hcz33_10 : w32.cell? ⟨gb207, 10, none⟩ = some (.int .i64 a0_10) := (blk_cell BK207.out 10).trans rfl
                    have hcz33_11 : w32.cell? ⟨gb207, 11, none⟩ = some (.int .i64 a0_11) := (blk_cell BK207.out 11).trans rfl
                    have hcz33_12 : w32.cell? ⟨gb207, 12, none⟩ = some (.int .i64 a0_12) := (blk_cell BK207.out 12).trans rfl
                    have hcz33_13 : w32.cell? ⟨gb207, 13, none⟩ = some (.int .i64 a0_13) := (blk_cell BK207.out 13).trans rfl
                    have hcz33_14 : w32.cell? ⟨gb207, 14, none⟩ = some (.int .i64 a0_14) := (blk_cell BK207.out 14).trans rfl
                    have hcz33_15 : w32.cell? ⟨gb207, 15, none⟩ = some (.int .i64 a0_15) := (blk_cell BK207.out 15).trans rfl
                    have hcz33_16 : w32.cell? ⟨gb207, 16, none⟩ = some (.int .i64 a0_16) := (blk_cell BK207.out 16).trans rfl
                    have hfz33_0 := blk_frozen BK207.out 0
                    have hfz33_1 := blk_frozen BK207.out 1
                    have hfz33_2 := blk_frozen BK207.out 2
                    have hfz33_3 := blk_frozen BK207.out 3
                    have hfz33_4 := blk_frozen BK207.out 4
                    have hfz33_5 := blk_frozen BK207.out 5
                    have hfz33_6 := blk_frozen BK207.out 6
                    have hfz33_7 := blk_frozen BK207.out 7
                    have hfz33_8 := blk_frozen BK207.out 8
                    have hfz33_9 := blk_frozen BK207.out 9
                    have hfz33_10 := blk_frozen BK207.out 10
                    have hfz33_11 := blk_frozen BK207.out 11
                    have hfz33_12 := blk_frozen BK207.out 12
                    have hfz33_13 := blk_frozen BK207.out 13
                    have hfz33_14 := blk_frozen BK207.out 14
                    have hfz33_15 := blk_frozen BK207.out 15
                    have hfz33_16 := blk_frozen BK207.out 16
                    try go_wp2_with (first | ((with_reducible refine gate_callee (f := 32) rfl ?_); refine goesL_ (some 22) rfl rfl Tryd.func32 (by kernel_rfl) rfl #[.string a0_5] rfl (by (try simp only [List.map_toArray, List.map_cons, List.map_nil]); first | done | rfl | (simp only [List.length_drop, List.length_take]; rfl)) ?_; (with_reducible refine (longcaseref08_named.calls k a0_5 t210 _ A6.out).mono ?_); rintro e w' ⟨rfl, ⟨nd, rfl⟩⟩; refine ⟨_, rfl, ?_⟩) | ((with_reducible refine gate_callee (f := 33) rfl ?_); refine goesL_ (some 37) rfl rfl Tryd.func33 (by kernel_rfl) rfl #[.int .i64 (wrap64 (-a0_3))] rfl (by (try simp only [List.map_toArray, List.map_cons, List.map_nil]); first | done | rfl | (simp only [List.length_drop, List.length_take]; rfl)) ?_; (with_reducible refine (longcaseref08_hours.calls k (wrap64 (-a0_3)) t213 _ A22.out).mono ?_); rintro e w34 ⟨rfl, hb⟩; refine ⟨_, rfl, ?_⟩; have n0_ := Aside0.mk (blk_below (g := gb207) (o := .cells #[.int .i64 a0_0, .bool a0_1, .string a0_2, .int .i64 a0_3, .bool a0_4, .string a0_5, .bool true, .int .i64 a0_7, .int .i64 a0_8, .int .i64 a0_9, .int .i64 a0_10, .int .i64 a0_11, .int .i64 a0_12, .int .i64 a0_13, .int .i64 a0_14, .int .i64 a0_15, .int .i64 a0_16] 27 (0, 0)) (by (with_reducible repeat (first | refine blk_drewN ?_ _ | refine blk_drew ?_ | refine blk_alloc ?_ _)); exact BK207.out) hb); have n1_ := Aside0.mk (below_step (by repeat (first | (with_reducible first | exact HB.out | apply below_alloc | apply pw_below_drewN | apply below_drew1 | refine below_set ?_ GE207.out) | exact HB.out)) hb); clear BK207; clear HB; have BK207 := n0_; have HB := n1_; clear n0_ n1_; (try clear hb); (try clear hb2); (try clear hk); (try clear hi)))
                    have n0_ := Aside0.mk (blk_drew BK207.out)
                    have n1_ := Aside0.mk (below_drew1 HB.out)
                    clear BK207
                    clear HB
                    have BK207 := n0_
                    have HB := n1_
                    clear n0_ n1_
                    refine start_ (n := 12) (S := fun w' => w'.cell? ⟨gb207, 0, none⟩ = some (.int .i64 a0_0) ∧ w'.cell? ⟨gb207, 1, none⟩ = some (.bool a0_1) ∧ w'.cell? ⟨gb207, 2, none⟩ = some (.string a0_2) ∧ w'.cell? ⟨gb207, 3, none⟩ = some (.int .i64 a0_3) ∧ w'.cell? ⟨gb207, 4, none⟩ = some (.bool a0_4) ∧ w'.cell? ⟨gb207, 5, none⟩ = some (.string a0_5) ∧ w'.cell? ⟨gb207, 6, none⟩ = some (.bool true) ∧ w'.cell? ⟨gb207, 7, none⟩ = some (.int .i64 a0_7) ∧ w'.cell? ⟨gb207, 8, none⟩ = some (.int .i64 a0_8) ∧ w'.cell? ⟨gb207, 9, none⟩ = some (.int .i64 a0_9) ∧ w'.cell? ⟨gb207, 10, none⟩ = some (.int .i64 a0_10) ∧ w'.cell? ⟨gb207, 11, none⟩ = some (.int .i64 a0_11) ∧ w'.cell? ⟨gb207, 12, none⟩ = some (.int .i64 a0_12) ∧ w'.cell? ⟨gb207, 13, none⟩ = some (.int .i64 a0_13) ∧ w'.cell? ⟨gb207, 14, none⟩ = some (.int .i64 a0_14) ∧ w'.cell? ⟨gb207, 15, none⟩ = some (.int .i64 a0_15) ∧ w'.cell? ⟨gb207, 16, none⟩ = some (.int .i64 a0_16)) (ds := []) #[false, false, false, false, false, false, false, false, false, false, false, false] (by kernel_rfl) rfl rfl ⟨(blk_cell BK207.out 0).trans rfl, (blk_cell BK207.out 1).trans rfl, (blk_cell BK207.out 2).trans rfl, (blk_cell BK207.out 3).trans rfl, (blk_cell BK207.out 4).trans rfl, (blk_cell BK207.out 5).trans rfl, (blk_cell BK207.out 6).trans rfl, (blk_cell BK207.out 7).trans rfl, (blk_cell BK207.out 8).trans rfl, (blk_cell BK207.out 9).trans rfl, (blk_cell BK207.out 10).trans rfl, (blk_cell BK207.out 11).trans rfl, (blk_cell BK207.out 12).trans rfl, (blk_cell BK207.out 13).trans rfl, (blk_cell BK207.out 14).trans rfl, (blk_cell BK207.out 15).trans rfl, (blk_cell BK207.out 16).trans rfl⟩ (fun hHeld => ?_); refine with_tabW longcaseref08_Print.tab7 longcaseref08_Print.bits7 (fun HT_ HW_ => ?_)
                    generalize w34.drew = w35 at BK207 HB hHeld ⊢
                    refine pure_ (i := 0) (N := some 39) (v := ?_) (a' := ?_) #[true, false, false, false, false, false, false, false, false, false, false, false] rfl rfl (any_of HT_.out (by kernel_rfl)) (fun _ _ _ h => h) (Or.inl ⟨by rfl, ?_⟩) ?_ ?_
                    rotate_left
                    · intro w'
                      go_simp
                      with_reducible rfl
                    rotate_left
                    · simp only [Act.put, List.setIfInBounds_toArray, List.set_cons_zero, List.set_cons_succ, i64_w, i32_w]
                      rfl
                    refine pure_ (i := 1) (N := some 40) (v := ?_) (a' := ?_) #[true, true, false, false, false, false, false, false, false, false, false, false] rfl rfl (any_of HT_.out (by kernel_rfl)) (fun _ _ _ h => h) (Or.inl ⟨by rfl, ?_⟩) ?_ ?_
                    rotate_left
                    · intro w'
                      go_simp
                      with_reducible rfl
                    rotate_left
                    · simp only [Act.put, List.setIfInBounds_toArray, List.set_cons_zero, List.set_cons_succ, i64_w, i32_w]
                      rfl
                    refine pure_ (i := 2) (N := some 41) (v := ?_) (a' := ?_) #[true, true, true, false, false, false, false, false, false, false, false, false] rfl rfl (any_of HT_.out (by kernel_rfl)) (fun _ _ _ h => h) (Or.inl ⟨by rfl, ?_⟩) ?_ ?_
                    rotate_left
                    · intro w'
                      go_simp
                      with_reducible rfl
                    rotate_left
                    · simp only [Act.put, List.setIfInBounds_toArray, List.set_cons_zero, List.set_cons_succ, i64_w, i32_w]
                      rfl
                    refine pure_ (i := 7) (N := some 46) (v := ?_) (a' := ?_) #[true, true, true, false, false, false, false, true, false, false, false, false] rfl rfl (any_of HT_.out (by kernel_rfl)) (fun _ _ _ h => h) (Or.inl ⟨by rfl, ?_⟩) ?_ ?_
                    rotate_left
                    · intro w'
                      go_simp
                      with_reducible rfl
                    rotate_left
                    · simp only [Act.put, List.setIfInBounds_toArray, List.set_cons_zero, List.set_cons_succ, i64_w, i32_w]
                      rfl
                    refine take_ (i := 3) (N := some 42) (v := ?_) (a' := ?_) #[true, true, true, true, false, false, false, true, false, false, false, false] rfl rfl (take_ofW HT_.out HW_.out (by kernel_rfl)) (fun _ _ _ h => h) (Or.inl ⟨by rfl, ?_⟩) hHeld ?_ ?_
                    rotate_left
                    · rintro w' ⟨s0, s1, s2, s3, s4, s5, s6, s7, s8, s9, s10, s11, s12, s13, s14, s15, s16⟩
                      go_simp
                      with_reducible rfl
                    rotate_left
                    · simp only [Act.put, List.setIfInBounds_toArray, List.set_cons_zero, List.set_cons_succ, i64_w, i32_w]
                      rfl
                    refine take_ (i := 8) (N := some 47) (v := ?_) (a' := ?_) #[true, true, true, true, false, false, false, true, true, false, false, false] rfl rfl (take_ofW HT_.out HW_.out (by kernel_rfl)) (fun _ _ _ h => h) (Or.inl ⟨by rfl, ?_⟩) hHeld ?_ ?_
                    rotate_left
                    · rintro w' ⟨s0, s1, s2, s3, s4, s5, s6, s7, s8, s9, s10, s11, s12, s13, s14, s15, s16⟩
                      go_simp
                      with_reducible rfl
                    rotate_left
                    · simp only [Act.put, List.setIfInBounds_toArray, List.set_cons_zero, List.set_cons_succ, i64_w, i32_w]
                      rfl
                    refine one_ (i := 4) (N := some 43) #[true, true, true, true, true, false, false, true, true, false, false, false] rfl rfl (one_of HT_.out (by kernel_rfl)) (by decide) (fun K hK => ?_)
                    refine goes_ Tryd.func34 (by kernel_rfl) rfl #[.agg #[.int .i64 a0_7, .int .i64 a0_8, .int .i64 a0_9, .int .i64 a0_10, .int .i64 a0_11]] (by rfl) rfl rfl (by (try simp only [List.map_toArray, List.map_cons, List.map_nil]); first | done | rfl | (simp only [List.length_drop, List.length_take]; rfl)) ?_
                    with_reducible refine (longcaseref08_change.calls k a0_7 a0_8 a0_9 a0_10 a0_11 t214 _ A25.out).mono ?_
                    rintro e w36 ⟨rfl, hb⟩
                    refine ⟨_, rfl, ?_⟩
                    have n0_ := Aside0.mk (blk_below (g := gb207) (o := .cells #[.int .i64 a0_0, .bool a0_1, .string a0_2, .int .i64 a0_3, .bool a0_4, .string a0_5, .bool true, .int .i64 a0_7, .int .i64 a0_8, .int .i64 a0_9, .int .i64 a0_10, .int .i64 a0_11, .int .i64 a0_12, .int .i64 a0_13, .int .i64 a0_14, .int .i64 a0_15, .int .i64 a0_16] 27 (0, 0)) (by (with_reducible repeat (first | refine blk_drewN ?_ _ | refine blk_drew ?_ | refine blk_alloc ?_ _)); exact BK207.out) hb)
                    have n1_ := Aside0.mk (below_step (by repeat (first | (with_reducible first | exact HB.out | apply below_alloc | apply pw_below_drewN | apply below_drew1 | refine below_set ?_ GE207.out) | exact HB.out)) hb)
                    clear BK207
                    clear HB
                    have BK207 := n0_
                    have HB := n1_
                    clear n0_ n1_
                    (try clear hb)
                    (try clear hb2)
                    (try clear hk)
                    (try clear hi)
                    refine hK.out _ _ ⟨(blk_cell BK207.out 0).trans rfl, (blk_cell BK207.out 1).trans rfl, (blk_cell BK207.out 2).trans rfl, (blk_cell BK207.out 3).trans rfl, (blk_cell BK207.out 4).trans rfl, (blk_cell BK207.out 5).trans rfl, (blk_cell BK207.out 6).trans rfl, (blk_cell BK207.out 7).trans rfl, (blk_cell BK207.out 8).trans rfl, (blk_cell BK207.out 9).trans rfl, (blk_cell BK207.out 10).trans rfl, (blk_cell BK207.out 11).trans rfl, (blk_cell BK207.out 12).trans rfl, (blk_cell BK207.out 13).trans rfl, (blk_cell BK207.out 14).trans rfl, (blk_cell BK207.out 15).trans rfl, (blk_cell BK207.out 16).trans rfl⟩ (fun hHeld => ?_)
                    clear hK K
                    refine norm_ (a' := ?_) ?_ ?_
                    rotate_left
                    · show Act.put _ (some 43) _ = _
                      simp only [Act.put, List.setIfInBounds_toArray, List.set_cons_zero, List.set_cons_succ, i64_w, i32_w]
                      rfl
                    refine pure_ (i := 5) (N := some 44) (v := ?_) (a' := ?_) #[true, true, true, true, true, true, false, true, true, false, false, false] rfl rfl (any_of HT_.out (by kernel_rfl)) (fun _ _ _ h => h) (Or.inl ⟨by rfl, ?_⟩) ?_ ?_
                    rotate_left
                    · intro w'
                      go_simp
                      with_reducible rfl
                    rotate_left
                    · simp only [Act.put, List.setIfInBounds_toArray, List.set_cons_zero, List.set_cons_succ, i64_w, i32_w]
                      rfl
                    refine pure_ (i := 6) (N := some 45) (v := ?_) (a' := ?_) #[true, true, true, true, true, true, true, true, true, false, false, false] rfl rfl (any_of HT_.out (by kernel_rfl)) (fun _ _ _ h => h) (Or.inl ⟨by rfl, ?_⟩) ?_ ?_
                    rotate_left
                    · intro w'
                      go_simp
                      with_reducible rfl
                    rotate_left
                    · simp only [Act.put, List.setIfInBounds_toArray, List.set_cons_zero, List.set_cons_succ, i64_w, i32_w]
                      rfl
                    refine one_ (i := 9) (N := some 48) #[true, true, true, true, true, true, true, true, true, true, false, false] rfl rfl (one_of HT_.out (by kernel_rfl)) (by decide) (fun K hK => ?_)
                    refine goes_ Tryd.func34 (by kernel_rfl) rfl #[.agg #[.int .i64 a0_12, .int .i64 a0_13, .int .i64 a0_14, .int .i64 a0_15, .int .i64 a0_16]] (by rfl) rfl rfl (by (try simp only [List.map_toArray, List.map_cons, List.map_nil]); first | done | rfl | (simp only [List.length_drop, List.length_take]; rfl)) ?_
                    with_reducible refine (longcaseref08_change.calls k a0_12 a0_13 a0_14 a0_15 a0_16 t215 _ A28.out).mono ?_
                    rintro e w37 ⟨rfl, hb⟩
                    refine ⟨_, rfl, ?_⟩
                    have n0_ := Aside0.mk (blk_below (g := gb207) (o := .cells #[.int .i64 a0_0, .bool a0_1, .string a0_2, .int .i64 a0_3, .bool a0_4, .string a0_5, .bool true, .int .i64 a0_7, .int .i64 a0_8, .int .i64 a0_9, .int .i64 a0_10, .int .i64 a0_11, .int .i64 a0_12, .int .i64 a0_13, .int .i64 a0_14, .int .i64 a0_15, .int .i64 a0_16] 27 (0, 0)) (by (with_reducible repeat (first | refine blk_drewN ?_ _ | refine blk_drew ?_ | refine blk_alloc ?_ _)); exact BK207.out) hb)
                    have n1_ := Aside0.mk (below_step (by repeat (first | (with_reducible first | exact HB.out | apply below_alloc | apply pw_below_drewN | apply below_drew1 | refine below_set ?_ GE207.out) | exact HB.out)) hb)
                    clear BK207
                    clear HB
                    have BK207 := n0_
                    have HB := n1_
                    clear n0_ n1_
                    (try clear hb)
                    (try clear hb2)
                    (try clear hk)
                    (try clear hi)
                    refine hK.out _ _ ⟨(blk_cell BK207.out 0).trans rfl, (blk_cell BK207.out 1).trans rfl, (blk_cell BK207.out 2).trans rfl, (blk_cell BK207.out 3).trans rfl, (blk_cell BK207.out 4).trans rfl, (blk_cell BK207.out 5).trans rfl, (blk_cell BK207.out 6).trans rfl, (blk_cell BK207.out 7).trans rfl, (blk_cell BK207.out 8).trans rfl, (blk_cell BK207.out 9).trans rfl, (blk_cell BK207.out 10).trans rfl, (blk_cell BK207.out 11).trans rfl, (blk_cell BK207.out 12).trans rfl, (blk_cell BK207.out 13).trans rfl, (blk_cell BK207.out 14).trans rfl, (blk_cell BK207.out 15).trans rfl, (blk_cell BK207.out 16).trans rfl⟩ (fun hHeld => ?_)
                    clear hK K
                    refine norm_ (a' := ?_) ?_ ?_
                    rotate_left
                    · show Act.put _ (some 48) _ = _
                      simp only [Act.put, List.setIfInBounds_toArray, List.set_cons_zero, List.set_cons_succ, i64_w, i32_w]
                      rfl
                    refine pure_ (i := 10) (N := some 49) (v := ?_) (a' := ?_) #[true, true, true, true, true, true, true, true, true, true, true, false] rfl rfl (any_of HT_.out (by kernel_rfl)) (fun _ _ _ h => h) (Or.inl ⟨by rfl, ?_⟩) ?_ ?_
                    rotate_left
                    · intro w'
                      go_simp
                      with_reducible rfl
                    rotate_left
                    · simp only [Act.put, List.setIfInBounds_toArray, List.set_cons_zero, List.set_cons_succ, i64_w, i32_w]
                      rfl
                    refine pure_ (i := 11) (N := some 2) (v := ?_) (a' := ?_) #[true, true, true, true, true, true, true, true, true, true, true, true] rfl rfl (any_of HT_.out (by kernel_rfl)) (fun _ _ _ h => h) (Or.inl ⟨by rfl, ?_⟩) ?_ ?_
                    rotate_left
                    · intro w'
                      go_simp
                      with_reducible rfl
                    rotate_left
                    · simp only [Act.put, List.setIfInBounds_toArray, List.set_cons_zero, List.set_cons_succ, i64_w, i32_w]
                      rfl
                    refine done_ (done_of HT_.out (by kernel_rfl)) ?_
                    try go_wp2
                    go_ret
                    exact ⟨by first | rfl | (simp [errW_none, errW_some] <;> rfl) | (simp [*, errW_none, errW_some] <;> rfl), by repeat (first | (with_reducible first | exact HB.out | apply below_alloc | apply pw_below_drewN | apply below_drew1 | refine below_set ?_ GE207.out) | exact HB.out)⟩
                  · rw [if_neg c29] at H
                    exact absurd H (by simp)
                · rw [if_neg c27] at H
                  exact absurd H (by simp)
              · rw [if_neg c26] at H
                exact absurd H (by simp)
            · rw [if_neg c24] at H
              exact absurd H (by simp)
          · rw [if_neg c23] at H
            exact absurd H (by simp)
      · rw [if_neg c7] at H
        exact absurd H (by simp)
    · replace c5 := Bool.eq_false_iff.mpr c5
      subst c5
      have H1 : (some (t208 ++ t209)) = some r := by rw [if_neg (show ¬ (false = true) by decide)] at H; exact H
      clear H
      have H := H1
      clear H1
      obtain rfl := Option.some.inj H
      go_enter Tryd.func17, Tryd.ntmps17
      try go_wp2_with (first | ((with_reducible refine gate_dst (N := 1) rfl ?_); refine box_event ?hg (N := 1) ?hd (cs := #[.int .i64 a0_0, .bool a0_1, .string a0_2, .int .i64 a0_3, .bool a0_4, .string a0_5, .bool false, .int .i64 a0_7, .int .i64 a0_8, .int .i64 a0_9, .int .i64 a0_10, .int .i64 a0_11, .int .i64 a0_12, .int .i64 a0_13, .int .i64 a0_14, .int .i64 a0_15, .int .i64 a0_16]) (t := 27) ?hr ?_; (case hd => rfl); (case hg => rfl); (case hr => first | (go_simp; done) | (go_simp; rfl)); intro gb207 hg w38 hbox hb; have n0_ := Aside0.mk (below_step (by repeat (first | (with_reducible first | exact HB.out | apply below_alloc | apply pw_below_drewN | apply below_drew1) | exact HB.out)) hb); have n1_ := Aside0.mk (hbox); have n2_ := Aside0.mk ((by rw [hg]; exact (below_size (by repeat (first | (with_reducible first | exact HB.out | apply below_alloc | apply pw_below_drewN | apply below_drew1) | exact HB.out))) : w.heap.size ≤ gb207)); have n3_ := Aside0.mk ((by rw [hg]; exact (below_size (by repeat (first | (with_reducible first | exact HB.out | apply below_alloc | apply pw_below_drewN | apply below_drew1) | exact HB.out))) : w.heap.size ≤ gb207)); clear HB; have HB := n0_; have BK207 := n1_; have GW207 := n2_; have GE207 := n3_; clear n0_ n1_ n2_ n3_; clear hb hbox hg))
      have n0_ := Aside0.mk (blk_drew BK207.out)
      have n1_ := Aside0.mk (below_drew1 HB.out)
      clear BK207
      clear HB
      have BK207 := n0_
      have HB := n1_
      clear n0_ n1_
      refine start_ (n := 11) (S := fun w' => w'.cell? ⟨gb207, 0, none⟩ = some (.int .i64 a0_0) ∧ w'.cell? ⟨gb207, 1, none⟩ = some (.bool a0_1) ∧ w'.cell? ⟨gb207, 2, none⟩ = some (.string a0_2) ∧ w'.cell? ⟨gb207, 3, none⟩ = some (.int .i64 a0_3) ∧ w'.cell? ⟨gb207, 4, none⟩ = some (.bool a0_4) ∧ w'.cell? ⟨gb207, 5, none⟩ = some (.string a0_5) ∧ w'.cell? ⟨gb207, 6, none⟩ = some (.bool false) ∧ w'.cell? ⟨gb207, 7, none⟩ = some (.int .i64 a0_7) ∧ w'.cell? ⟨gb207, 8, none⟩ = some (.int .i64 a0_8) ∧ w'.cell? ⟨gb207, 9, none⟩ = some (.int .i64 a0_9) ∧ w'.cell? ⟨gb207, 10, none⟩ = some (.int .i64 a0_10) ∧ w'.cell? ⟨gb207, 11, none⟩ = some (.int .i64 a0_11) ∧ w'.cell? ⟨gb207, 12, none⟩ = some (.int .i64 a0_12) ∧ w'.cell? ⟨gb207, 13, none⟩ = some (.int .i64 a0_13) ∧ w'.cell? ⟨gb207, 14, none⟩ = some (.int .i64 a0_14) ∧ w'.cell? ⟨gb207, 15, none⟩ = some (.int .i64 a0_15) ∧ w'.cell? ⟨gb207, 16, none⟩ = some (.int .i64 a0_16)) (ds := []) #[false, false, false, false, false, false, false, false, false, false, false] (by kernel_rfl) rfl rfl ⟨(blk_cell BK207.out 0).trans rfl, (blk_cell BK207.out 1).trans rfl, (blk_cell BK207.out 2).trans rfl, (blk_cell BK207.out 3).trans rfl, (blk_cell BK207.out 4).trans rfl, (blk_cell BK207.out 5).trans rfl, (blk_cell BK207.out 6).trans rfl, (blk_cell BK207.out 7).trans rfl, (blk_cell BK207.out 8).trans rfl, (blk_cell BK207.out 9).trans rfl, (blk_cell BK207.out 10).trans rfl, (blk_cell BK207.out 11).trans rfl, (blk_cell BK207.out 12).trans rfl, (blk_cell BK207.out 13).trans rfl, (blk_cell BK207.out 14).trans rfl, (blk_cell BK207.out 15).trans rfl, (blk_cell BK207.out 16).trans rfl⟩ (fun hHeld => ?_); refine with_tabW longcaseref08_Print.tab1 longcaseref08_Print.bits1 (fun HT_ HW_ => ?_)
      generalize w38.drew = w39 at BK207 HB hHeld ⊢
      refine pure_ (i := 0) (N := some 4) (v := ?_) (a' := ?_) #[true, false, false, false, false, false, false, false, false, false, false] rfl rfl (any_of HT_.out (by kernel_rfl)) (fun _ _ _ h => h) (Or.inl ⟨by rfl, ?_⟩) ?_ ?_
      rotate_left
      · intro w'
        go_simp
        with_reducible rfl
      rotate_left
      · simp only [Act.put, List.setIfInBounds_toArray, List.set_cons_zero, List.set_cons_succ, i64_w, i32_w]
        rfl
      refine pure_ (i := 1) (N := some 5) (v := ?_) (a' := ?_) #[true, true, false, false, false, false, false, false, false, false, false] rfl rfl (any_of HT_.out (by kernel_rfl)) (fun _ _ _ h => h) (Or.inl ⟨by rfl, ?_⟩) ?_ ?_
      rotate_left
      · intro w'
        go_simp
        with_reducible rfl
      rotate_left
      · simp only [Act.put, List.setIfInBounds_toArray, List.set_cons_zero, List.set_cons_succ, i64_w, i32_w]
        rfl
      refine pure_ (i := 4) (N := some 8) (v := ?_) (a' := ?_) #[true, true, false, false, true, false, false, false, false, false, false] rfl rfl (any_of HT_.out (by kernel_rfl)) (fun _ _ _ h => h) (Or.inl ⟨by rfl, ?_⟩) ?_ ?_
      rotate_left
      · intro w'
        go_simp
        with_reducible rfl
      rotate_left
      · simp only [Act.put, List.setIfInBounds_toArray, List.set_cons_zero, List.set_cons_succ, i64_w, i32_w]
        rfl
      refine pure_ (i := 5) (N := some 9) (v := ?_) (a' := ?_) #[true, true, false, false, true, true, false, false, false, false, false] rfl rfl (any_of HT_.out (by kernel_rfl)) (fun _ _ _ h => h) (Or.inl ⟨by rfl, ?_⟩) ?_ ?_
      rotate_left
      · intro w'
        go_simp
        with_reducible rfl
      rotate_left
      · simp only [Act.put, List.setIfInBounds_toArray, List.set_cons_zero, List.set_cons_succ, i64_w, i32_w]
        rfl
      refine take_ (i := 2) (N := some 6) (v := ?_) (a' := ?_) #[true, true, true, false, true, true, false, false, false, false, false] rfl rfl (take_ofW HT_.out HW_.out (by kernel_rfl)) (fun _ _ _ h => h) (Or.inl ⟨by rfl, ?_⟩) hHeld ?_ ?_
      rotate_left
      · rintro w' ⟨s0, s1, s2, s3, s4, s5, s6, s7, s8, s9, s10, s11, s12, s13, s14, s15, s16⟩
        go_simp
        with_reducible rfl
      rotate_left
      · simp only [Act.put, List.setIfInBounds_toArray, List.set_cons_zero, List.set_cons_succ, i64_w, i32_w]
        rfl
      refine take_ (i := 6) (N := some 10) (v := ?_) (a' := ?_) #[true, true, true, false, true, true, true, false, false, false, false] rfl rfl (take_ofW HT_.out HW_.out (by kernel_rfl)) (fun _ _ _ h => h) (Or.inl ⟨by rfl, ?_⟩) hHeld ?_ ?_
      rotate_left
      · rintro w' ⟨s0, s1, s2, s3, s4, s5, s6, s7, s8, s9, s10, s11, s12, s13, s14, s15, s16⟩
        go_simp
        with_reducible rfl
      rotate_left
      · simp only [Act.put, List.setIfInBounds_toArray, List.set_cons_zero, List.set_cons_succ, i64_w, i32_w]
        rfl
      refine pure_ (i := 7) (N := some 11) (v := ?_) (a' := ?_) #[true, true, true, false, true, true, true, true, false, false, false] rfl rfl (any_of HT_.out (by kernel_rfl)) (fun _ _ _ h => h) (Or.inl ⟨by rfl, ?_⟩) ?_ ?_
      rotate_left
      · intro w'
        go_simp
        with_reducible rfl
      rotate_left
      · simp only [Act.put, List.setIfInBounds_toArray, List.set_cons_zero, List.set_cons_succ, i64_w, i32_w]
        rfl
      refine one_ (i := 3) (N := some 7) #[true, true, true, true, true, true, true, true, false, false, false] rfl rfl (one_of HT_.out (by kernel_rfl)) (by decide) (fun K hK => ?_)
      refine goes_ Tryd.func32 (by kernel_rfl) rfl #[.string a0_2] (by rfl) rfl rfl (by (try simp only [List.map_toArray, List.map_cons, List.map_nil]); first | done | rfl | (simp only [List.length_drop, List.length_take]; rfl)) ?_
      with_reducible refine (longcaseref08_named.calls k a0_2 t208 _ A2.out).mono ?_
      rintro e w' ⟨rfl, ⟨nd, rfl⟩⟩
      refine ⟨_, rfl, ?_⟩
      refine hK.out _ _ ⟨(blk_cell BK207.out 0).trans rfl, (blk_cell BK207.out 1).trans rfl, (blk_cell BK207.out 2).trans rfl, (blk_cell BK207.out 3).trans rfl, (blk_cell BK207.out 4).trans rfl, (blk_cell BK207.out 5).trans rfl, (blk_cell BK207.out 6).trans rfl, (blk_cell BK207.out 7).trans rfl, (blk_cell BK207.out 8).trans rfl, (blk_cell BK207.out 9).trans rfl, (blk_cell BK207.out 10).trans rfl, (blk_cell BK207.out 11).trans rfl, (blk_cell BK207.out 12).trans rfl, (blk_cell BK207.out 13).trans rfl, (blk_cell BK207.out 14).trans rfl, (blk_cell BK207.out 15).trans rfl, (blk_cell BK207.out 16).trans rfl⟩ (fun hHeld => ?_)
      clear hK K
      refine norm_ (a' := ?_) ?_ ?_
      rotate_left
      · show Act.put _ (some 7) _ = _
        simp only [Act.put, List.setIfInBounds_toArray, List.set_cons_zero, List.set_cons_succ, i64_w, i32_w]
        rfl
      refine one_ (i := 8) (N := some 12) #[true, true, true, true, true, true, true, true, true, false, false] rfl rfl (one_of HT_.out (by kernel_rfl)) (by decide) (fun K hK => ?_)
      refine goes_ Tryd.func33 (by kernel_rfl) rfl #[.int .i64 (wrap64 (-a0_0))] (by rfl) rfl rfl (by (try simp only [List.map_toArray, List.map_cons, List.map_nil]); first | done | rfl | (simp only [List.length_drop, List.length_take]; rfl)) ?_
      with_reducible refine (longcaseref08_hours.calls k (wrap64 (-a0_0)) t209 _ A3.out).mono ?_
      rintro e w40 ⟨rfl, hb⟩
      refine ⟨_, rfl, ?_⟩
      have n0_ := Aside0.mk (blk_below (g := gb207) (o := .cells #[.int .i64 a0_0, .bool a0_1, .string a0_2, .int .i64 a0_3, .bool a0_4, .string a0_5, .bool false, .int .i64 a0_7, .int .i64 a0_8, .int .i64 a0_9, .int .i64 a0_10, .int .i64 a0_11, .int .i64 a0_12, .int .i64 a0_13, .int .i64 a0_14, .int .i64 a0_15, .int .i64 a0_16] 27 (0, 0)) (by (with_reducible repeat (first | refine blk_drewN ?_ _ | refine blk_drew ?_ | refine blk_alloc ?_ _)); exact BK207.out) hb)
      have n1_ := Aside0.mk (below_step (by repeat (first | (with_reducible first | exact HB.out | apply below_alloc | apply pw_below_drewN | apply below_drew1 | refine below_set ?_ GE207.out) | exact HB.out)) hb)
      clear BK207
      clear HB
      have BK207 := n0_
      have HB := n1_
      clear n0_ n1_
      (try clear hb)
      (try clear hb2)
      (try clear hk)
      (try clear hi)
      refine hK.out _ _ ⟨(blk_cell BK207.out 0).trans rfl, (blk_cell BK207.out 1).trans rfl, (blk_cell BK207.out 2).trans rfl, (blk_cell BK207.out 3).trans rfl, (blk_cell BK207.out 4).trans rfl, (blk_cell BK207.out 5).trans rfl, (blk_cell BK207.out 6).trans rfl, (blk_cell BK207.out 7).trans rfl, (blk_cell BK207.out 8).trans rfl, (blk_cell BK207.out 9).trans rfl, (blk_cell BK207.out 10).trans rfl, (blk_cell BK207.out 11).trans rfl, (blk_cell BK207.out 12).trans rfl, (blk_cell BK207.out 13).trans rfl, (blk_cell BK207.out 14).trans rfl, (blk_cell BK207.out 15).trans rfl, (blk_cell BK207.out 16).trans rfl⟩ (fun hHeld => ?_)
      clear hK K
      refine norm_ (a' := ?_) ?_ ?_
      rotate_left
      · show Act.put _ (some 12) _ = _
        simp only [Act.put, List.setIfInBounds_toArray, List.set_cons_zero, List.set_cons_succ, i64_w, i32_w]
        rfl
      refine pure_ (i := 9) (N := some 13) (v := ?_) (a' := ?_) #[true, true, true, true, true, true, true, true, true, true, false] rfl rfl (any_of HT_.out (by kernel_rfl)) (fun _ _ _ h => h) (Or.inl ⟨by rfl, ?_⟩) ?_ ?_
      rotate_left
      · intro w'
        go_simp
        with_reducible rfl
      rotate_left
      · simp only [Act.put, List.setIfInBounds_toArray, List.set_cons_zero, List.set_cons_succ, i64_w, i32_w]
        rfl
      refine pure_ (i := 10) (N := some 3) (v := ?_) (a' := ?_) #[true, true, true, true, true, true, true, true, true, true, true] rfl rfl (any_of HT_.out (by kernel_rfl)) (fun _ _ _ h => h) (Or.inl ⟨by rfl, ?_⟩) ?_ ?_
      rotate_left
      · intro w'
        go_simp
        with_reducible rfl
      rotate_left
      · simp only [Act.put, List.setIfInBounds_toArray, List.set_cons_zero, List.set_cons_succ, i64_w, i32_w]
        rfl
      refine done_ (done_of HT_.out (by kernel_rfl)) ?_
      have hcz41_0 : w40.cell? ⟨gb207, 0, none⟩ = some (.int .i64 a0_0) := (blk_cell BK207.out 0).trans rfl
      have hcz41_1 : w40.cell? ⟨gb207, 1, none⟩ = some (.bool a0_1) := (blk_cell BK207.out 1).trans rfl
      have hcz41_2 : w40.cell? ⟨gb207, 2, none⟩ = some (.string a0_2) := (blk_cell BK207.out 2).trans rfl
      have hcz41_3 : w40.cell? ⟨gb207, 3, none⟩ = some (.int .i64 a0_3) := (blk_cell BK207.out 3).trans rfl
      have hcz41_4 : w40.cell? ⟨gb207, 4, none⟩ = some (.bool a0_4) := (blk_cell BK207.out 4).trans rfl
      have hcz41_5 : w40.cell? ⟨gb207, 5, none⟩ = some (.string a0_5) := (blk_cell BK207.out 5).trans rfl
      have hcz41_6 : w40.cell? ⟨gb207, 6, none⟩ = some (.bool false) := (blk_cell BK207.out 6).trans rfl
      have hcz41_7 : w40.cell? ⟨gb207, 7, none⟩ = some (.int .i64 a0_7) := (blk_cell BK207.out 7).trans rfl
      have hcz41_8 : w40.cell? ⟨gb207, 8, none⟩ = some (.int .i64 a0_8) := (blk_cell BK207.out 8).trans rfl
      have hcz41_9 : w40.cell? ⟨gb207, 9, none⟩ = some (.int .i64 a0_9) := (blk_cell BK207.out 9).trans rfl
      have hcz41_10 : w40.cell? ⟨gb207, 10, none⟩ = some (.int .i64 a0_10) := (blk_cell BK207.out 10).trans rfl
      have hcz41_11 : w40.cell? ⟨gb207, 11, none⟩ = some (.int .i64 a0_11) := (blk_cell BK207.out 11).trans rfl
      have hcz41_12 : w40.cell? ⟨gb207, 12, none⟩ = some (.int .i64 a0_12) := (blk_cell BK207.out 12).trans rfl
      have hcz41_13 : w40.cell? ⟨gb207, 13, none⟩ = some (.int .i64 a0_13) := (blk_cell BK207.out 13).trans rfl
      have hcz41_14 : w40.cell? ⟨gb207, 14, none⟩ = some (.int .i64 a0_14) := (blk_cell BK207.out 14).trans rfl
      have hcz41_15 : w40.cell? ⟨gb207, 15, none⟩ = some (.int .i64 a0_15) := (blk_cell BK207.out 15).trans rfl
      have hcz41_16 : w40.cell? ⟨gb207, 16, none⟩ = some (.int .i64 a0_16) := (blk_cell BK207.out 16).trans rfl
      have hfz41_0 := blk_frozen BK207.out 0
      have hfz41_1 := blk_frozen BK207.out 1
      have hfz41_2 := blk_frozen BK207.out 2
      have hfz41_3 := blk_frozen BK207.out 3
      have hfz41_4 := blk_frozen BK207.out 4
      have hfz41_5 := blk_frozen BK207.out 5
      have hfz41_6 := blk_frozen BK207.out 6
      have hfz41_7 := blk_frozen BK207.out 7
      have hfz41_8 := blk_frozen BK207.out 8
      have hfz41_9 := blk_frozen BK207.out 9
      have hfz41_10 := blk_frozen BK207.out 10
      have hfz41_11 := blk_frozen BK207.out 11
      have hfz41_12 := blk_frozen BK207.out 12
      have hfz41_13 := blk_frozen BK207.out 13
      have hfz41_14 := blk_frozen BK207.out 14
      have hfz41_15 := blk_frozen BK207.out 15
      have hfz41_16 := blk_frozen BK207.out 16
      try go_wp2
      go_ret
      exact ⟨by first | rfl | (simp [errW_none, errW_some] <;> rfl) | (simp [*, errW_none, errW_some] <;> rfl), by repeat (first | (with_reducible first | exact HB.out | apply below_alloc | apply pw_below_drewN | apply below_drew1 | refine below_set ?_ GE207.out) | exact HB.out)⟩
  · rw [if_neg c4] at H
    exact absurd H (by simp)
end Go.Proofs.YtnbjneknicppcaaDoor.Fn

namespace Go.Proofs.YtnbjneknicppcaaDoor.Fn
set_option linter.unusedVariables false
set_option linter.unusedSimpArgs false
open Go.RowKit Go.Proofs.YtnbjneknicppcaaDoorW.PrintWords Go.Proofs.YtnbjneknicppcaaDoorW.PrintLast Go.Proofs.YtnbjneknicppcaaDoorW.PrintMore
theorem Tx_app (a b : List UInt8) : Tx a ++ Tx b = Tx (a ++ b) := by
  apply ByteArray.ext
  simp
theorem Tx1 (c : UInt8) : (⟨#[c]⟩ : ByteArray) = Tx [c] := rfl
theorem nums1 (n : Nat) (h : n < 10) : strOfNums [(wrap64 (48 + (n : Int))) % 256] = Tx [dig1 n] := by
  rw [w64 ⟨by omega, by omega⟩]
  unfold strOfNums dig1
  simp only [List.map_cons, List.map_nil]
  have : ((48 + (n : Int)) % 256).toNat = 48 + n := by omega
  rw [this]
theorem refNumber_eq (k : Nat) (n : Nat) (h : n < 1000) : longcaseref08_number.f (k + 3) (n : Int) = some (Tx (dec3 n)) := by
  have hd : ∀ m : Nat, m < 1000 → wrap64 (Int.tdiv (m : Int) 10) = ((m / 10 : Nat) : Int) := fun m hm => by
    rw [Int.tdiv_eq_ediv_of_nonneg (by omega), w64 ⟨by omega, by omega⟩]; omega
  have hm : ∀ m : Nat, Int.tmod (m : Int) 10 = ((m % 10 : Nat) : Int) := fun m => by rw [Int.tmod_eq_emod_of_nonneg (by omega)]; omega
  have hstep : ∀ (j m : Nat), longcaseref08_number.f (j + 1) (m : Int) = if (m : Int) < 10 then some (Tx [dig1 (m % 10)]) else (longcaseref08_number.f j (wrap64 (Int.tdiv (m : Int) 10))).bind fun t193 => if t193.size + (Tx [dig1 (m % 10)]).size ≤ 9223372036854775807 then some (t193 ++ Tx [dig1 (m % 10)]) else none := fun j m => by
    rw [longcaseref08_number.f, hm, Option.bind_some, nums1 _ (by omega)]
  unfold dec3
  rw [hstep]
  by_cases h1 : n < 10
  · rw [if_pos (by omega), if_pos h1, Nat.mod_eq_of_lt h1]
  · rw [if_neg (by omega), if_neg h1, hd n h, hstep]
    by_cases h2 : n < 100
    · rw [if_pos (by omega), if_pos h2]
      simp only [Option.bind_some]
      rw [if_pos (by simp only [Tx_size]; simp), Tx_app, show n / 10 % 10 = n / 10 by omega]
      rfl
    · rw [if_neg (by omega), if_neg h2, hd _ (by omega), hstep, if_pos (by omega)]
      simp only [Option.bind_some]
      rw [if_pos (by simp only [Tx_size]; simp), Tx_app, Option.bind_some, if_pos (by simp only [Tx_size]; simp), Tx_app, show n / 10 / 10 % 10 = n / 100 by omega]
      rfl
theorem refTwo_eq (n : Nat) (h : n < 100) : longcaseref08_two.f (n : Int) = some (Tx (two n)) := by
  unfold longcaseref08_two.f
  rw [Int.tdiv_eq_ediv_of_nonneg (by omega), w64 (a := (n : Int) / 10) ⟨by omega, by omega⟩, Int.tmod_eq_emod_of_nonneg (by omega), w64 ⟨by omega, by omega⟩, w64 ⟨by omega, by omega⟩]
  unfold strOfNums two dig1
  simp only [List.map_cons, List.map_nil]
  have h1 : ((48 + (n : Int) / 10) % 256).toNat = 48 + n / 10 := by omega
  have h2 : ((48 + (n : Int) % 10) % 256).toNat = 48 + n % 10 := by omega
  rw [h1, h2]
theorem dec3_len3 (n : Nat) : (dec3 n).length ≤ 3 := by unfold dec3; split <;> (try split) <;> simp
theorem two_len (n : Nat) : (two n).length = 2 := rfl
theorem refHours_j0 (k n : Nat) (p : List UInt8) (hp : p.length ≤ 100) (h : n / 3600 < 1000) :
    longcaseref08_hours.j0 (k + 4) (n : Int) (Tx p) = some (Tx (p ++ (dec3 (n / 3600) ++ ((if n % 3600 ≠ 0 then 58 :: two (n / 60 % 60) else []) ++ (if n % 60 ≠ 0 then 58 :: two (n % 60) else []))))) := by
  have e1 : wrap64 (Int.tdiv (n : Int) 3600) = ((n / 3600 : Nat) : Int) := by rw [Int.tdiv_eq_ediv_of_nonneg (by omega), w64 ⟨by omega, by omega⟩]; omega
  have e2 : Int.tmod (n : Int) 3600 = ((n % 3600 : Nat) : Int) := by rw [Int.tmod_eq_emod_of_nonneg (by omega)]; omega
  have e3 : Int.tmod (n : Int) 60 = ((n % 60 : Nat) : Int) := by rw [Int.tmod_eq_emod_of_nonneg (by omega)]; omega
  have e4 : Int.tmod (wrap64 (Int.tdiv (n : Int) 60)) 60 = ((n / 60 % 60 : Nat) : Int) := by rw [Int.tdiv_eq_ediv_of_nonneg (by omega), w64 ⟨by omega, by omega⟩, Int.tmod_eq_emod_of_nonneg (by omega)]; omega
  have hl := dec3_len3 (n / 3600)
  have cond : ∀ m : Nat, m ≤ 1000 → m ≤ 9223372036854775807 := fun m hm => by omega
  rw [longcaseref08_hours.j0, e1, refNumber_eq k _ h, Option.bind_some, e2, e3, e4, refTwo_eq _ (by omega), refTwo_eq _ (by omega)]
  simp only [Tx1, Tx_app, Tx_size, Option.bind_some, List.length_append, List.length_cons, List.length_nil, two_len]
  rw [if_pos (by omega)]
  by_cases h36 : n % 3600 = 0
  · have h60 : n % 60 = 0 := by omega
    rw [if_pos (by omega), if_pos (by omega)]
    simp [h36, h60]
  · rw [if_neg (by omega), if_pos (by omega), if_pos (by omega)]
    by_cases h60 : n % 60 = 0
    · rw [if_pos (by omega)]
      simp [h36, h60]
    · rw [if_neg (by omega), if_pos (by omega), if_pos (by omega)]
      simp [h36, h60]
theorem refHours_eq (k : Nat) (n : Int) (h : n.natAbs / 3600 < 1000) : longcaseref08_hours.f (k + 4) n = some (Tx (prTime n)) := by
  unfold longcaseref08_hours.f prTime
  by_cases hn : n < 0
  · rw [if_pos hn, if_pos hn, w64 ⟨by omega, by omega⟩]
    have := refHours_j0 k n.natAbs [45] (by decide) h
    rw [show ((n.natAbs : Nat) : Int) = -n by omega] at this
    exact this
  · rw [if_neg hn, if_neg hn]
    have := refHours_j0 k n.natAbs [] (by decide) h
    rw [show ((n.natAbs : Nat) : Int) = n by omega] at this
    exact this
theorem refPlain_l0 (s : ByteArray) (hs : s.size ≤ 1000) : ∀ (d k i : Nat), s.size - i ≤ d → i ≤ s.size → longcaseref08_plain.l0 (k + d + 1) s i = some ((s.data.toList.drop i).all ltrB)
  | d, k, i, hd, hi => by
    rw [longcaseref08_plain.l0]
    by_cases h : i < s.size
    · obtain ⟨d, rfl⟩ : ∃ e, d = e + 1 := ⟨d - 1, by omega⟩
      have ih := refPlain_l0 s hs d k (i + 1) (by omega) (by omega)
      have hb : bt s i = (((s[i]'h).toNat : Nat) : Int) := (bt_at s i (by simpa using h)).symm
      have hl : letB (((s[i]'h).toNat : Nat) : Int) = ltrB (s[i]'h) := by unfold letB ltrB; rw [Bool.eq_iff_iff]; simp; omega
      rw [if_pos (by omega), if_pos (by omega), refLetter_eq, all_drop _ s i h, hb, hl]
      have hw : wrap64 ((i : Int) + 1) = ((i + 1 : Nat) : Int) := by rw [w64 ⟨by omega, by omega⟩]; omega
      rw [hw, show k + (d + 1) = k + d + 1 by omega, ih]
      simp only [Option.bind_some]
      cases ltrB (s[i]'h) <;> rfl
    · rw [if_neg (by omega), List.drop_of_length_le (by simp; omega)]
      rfl
theorem refNamed_eq (k : Nat) (s : ByteArray) (hs : s.size ≤ 20) : longcaseref08_named.f (k + 21) s = some (Tx (prName s.data.toList)) := by
  unfold longcaseref08_named.f longcaseref08_plain.f prName
  have := refPlain_l0 s (by omega) 20 k 0 (by omega) (by omega)
  rw [show k + 21 = k + 20 + 1 from rfl, show ((0 : Nat) : Int) = 0 from rfl] at *
  rw [this, List.drop_zero, Option.bind_some]
  cases hp : s.data.toList.all ltrB
  · have hsz : s.data.toList.length = s.size := Array.length_toList ..
    have hT := Tx_of s
    generalize s.data.toList = l at hT hsz hp
    subst hT
    simp only [Tx1, Tx_app, Tx_size, List.length_append, List.length_cons, List.length_nil, Bool.false_eq_true, if_false]
    rw [if_pos (by omega), if_pos (by omega)]
    rfl
  · rw [if_pos rfl, if_pos rfl, Tx_of]
theorem refChange_j (k : Nat) (p : List UInt8) (hp : p.length ≤ 100) (h w d t : Int) (hw : 0 ≤ w ∧ w < 1000) (hd : 0 ≤ d ∧ d < 1000) (n : Int) (ht : t.natAbs / 3600 < 1000) (q : List UInt8) (hq : (prTime t).length ≤ 100) :
    longcaseref08_change.j0 (k + 5) (Tx p) h n w d t = some (Tx ((if h = 3 then 77 :: (p ++ (46 :: (dec3 w.toNat ++ (46 :: dec3 d.toNat)))) else p) ++ (if t ≠ 7200 then 47 :: prTime t else []))) := by
  have h1 := refNumber_eq (k + 1) w.toNat (by omega)
  have h2 := refNumber_eq (k + 1) d.toNat (by omega)
  rw [show ((w.toNat : Nat) : Int) = w by omega] at h1
  rw [show ((d.toNat : Nat) : Int) = d by omega] at h2
  have hl1 := dec3_len3 w.toNat
  have hl2 := dec3_len3 d.toNat
  rw [longcaseref08_change.j0, show k + 4 = k + 1 + 3 from rfl, h1, h2, show k + 1 + 3 = k + 4 from rfl, refHours_eq k t ht]
  simp only [Tx1, Tx_app, Tx_size, Option.bind_some, List.length_append, List.length_cons, List.length_nil]
  by_cases h3 : h = 3
  · rw [if_pos h3, if_pos h3, if_pos (by omega), if_pos (by omega), if_pos (by omega), if_pos (by omega), if_pos (by omega)]
    by_cases ht7 : t = 7200
    · rw [if_pos ht7]; simp [ht7]
    · rw [if_neg ht7, if_pos (by omega), if_pos (by omega)]; simp [ht7]
  · rw [if_neg h3, if_neg h3]
    by_cases ht7 : t = 7200
    · rw [if_pos ht7]; simp [ht7]
    · rw [if_neg ht7, if_pos (by omega), if_pos (by omega)]; simp [ht7]
theorem refChange_pr (k : Nat) (c : Chg) (wide : Bool) (hc : chgB c.how c.n c.week c.wday c.time wide = true) :
    longcaseref08_change.f (k + 6) c.how c.n c.week c.wday c.time = some (Tx (prDay c ++ (if c.time ≠ 7200 then 47 :: prTime c.time else []))) := by
  obtain ⟨h, n, w, d, t⟩ := c
  simp only at hc ⊢
  have hpart : (0 ≤ n ∧ n < 1000) ∧ (0 ≤ w ∧ w < 1000) ∧ (0 ≤ d ∧ d < 1000) ∧ (h = 1 ∨ h = 2 ∨ h = 3) ∧ -604799 ≤ t ∧ t ≤ 604799 := by
    unfold chgB dateB inB at hc
    split at hc
    · simp at hc; omega
    · split at hc
      · simp at hc; omega
      · split at hc
        · simp at hc; omega
        · simp at hc
  have ht : t.natAbs / 3600 < 1000 := by omega
  have hq : (prTime t).length ≤ 100 := by
    have := prTime_len4 t 3 (dec3_len3 _)
    omega
  have h1 := refNumber_eq (k + 3) n.toNat (by omega)
  rw [show ((n.toNat : Nat) : Int) = n by omega] at h1
  have hl := dec3_len3 n.toNat
  unfold longcaseref08_change.f prDay
  simp only
  rw [show k + 6 = k + 3 + 3 from rfl, h1, Option.bind_some, show k + 3 + 3 = k + 1 + 5 from rfl]
  by_cases he : h = 1
  · rw [if_pos he, if_pos (by simp only [Tx_size]; omega), Tx1, Tx_app, refChange_j (k + 1) _ (by simp; omega) h w d t hpart.2.1 hpart.2.2.1 n ht [] hq, if_neg (by omega), if_pos he]
    rfl
  · rw [if_neg he, refChange_j (k + 1) _ (by omega) h w d t hpart.2.1 hpart.2.2.1 n ht [] hq, if_neg he]
theorem refPrint_eq (k : Nat) (r : Rul) (wide : Bool) (h : r.right wide = true) :
    longcaseref08_Print.f (k + 30) r.std.off r.std.dst r.std.name r.dst.off r.dst.dst r.dst.name r.both r.st.how r.st.n r.st.week r.st.wday r.st.time r.en.how r.en.n r.en.week r.en.wday r.en.time = some (Tx (prRule r)) := by
  have hsh := h
  unfold Rul.right rightB at h
  simp only [Bool.and_eq_true] at h
  obtain ⟨_, hn1, ho1, hrest⟩ := h
  rw [inB_iff] at ho1
  have hsz : ∀ s : ByteArray, namedB s = true → s.size ≤ 20 := fun s hs => by unfold namedB at hs; simp at hs; omega
  have hnl : ∀ s : ByteArray, namedB s = true → (prName s.data.toList).length ≤ 22 := fun s hs => prName_len4 _ (by rw [← namedL_eq]; exact hs)
  have htl : ∀ n : Int, (prTime n).length ≤ 10 := fun n => prTime_len4 n 3 (dec3_len3 _)
  have l1 := hnl _ hn1
  have l2 := htl (-r.std.off)
  unfold longcaseref08_Print.f prRule
  rw [show k + 30 = k + 9 + 21 from rfl, refNamed_eq (k + 9) _ (hsz _ hn1), Option.bind_some, w64 ⟨by omega, by omega⟩, show k + 9 + 21 = k + 26 + 4 from rfl, refHours_eq (k + 26) _ (by omega), Option.bind_some]
  cases hb : r.both
  · simp only [Tx_app, Tx_size, List.length_append, Bool.false_eq_true, if_false]
    rw [if_pos (by omega)]
    simp
  · rw [hb, if_pos rfl] at hrest
    simp only [Bool.and_eq_true] at hrest
    obtain ⟨_, hn2, ho2, hc1, hc2⟩ := hrest
    rw [inB_iff] at ho2
    have l3 := hnl _ hn2
    have l4 := htl (-r.dst.off)
    have q1 := refChange_pr (k + 24) r.st wide hc1
    have q2 := refChange_pr (k + 24) r.en wide hc2
    have l5 := prChg_len4 r.st wide hc1
    have l6 := prChg_len4 r.en wide hc2
    rw [show k + 26 + 4 = k + 24 + 6 from rfl, q1, q2, show k + 24 + 6 = k + 9 + 21 from rfl, refNamed_eq (k + 9) _ (hsz _ hn2), w64 ⟨by omega, by omega⟩, w64 (a := -r.dst.off) ⟨by omega, by omega⟩, show k + 9 + 21 = k + 26 + 4 from rfl, refHours_eq (k + 26) _ (by omega)]
    unfold prChg at l5 l6 ⊢
    generalize (prDay r.st ++ if r.st.time ≠ 7200 then 47 :: prTime r.st.time else []) = z1 at l5 ⊢
    generalize (prDay r.en ++ if r.en.time ≠ 7200 then 47 :: prTime r.en.time else []) = z2 at l6 ⊢
    rw [List.length_cons] at l5 l6
    simp only [Tx1, Tx_app, Tx_size, Option.bind_some, List.length_append, List.length_cons, List.length_nil, if_true]
    rw [if_pos (by omega), if_pos (by omega)]
    by_cases hd : r.dst.off = r.std.off + 3600
    · rw [if_pos hd, if_pos (by omega), if_pos (by omega), if_pos (by omega), if_pos (by omega)]
      simp [hd]
    · rw [if_neg hd, if_pos (by omega), if_pos (by omega), if_pos (by omega), if_pos (by omega), if_pos (by omega)]
      simp [hd]
end Go.Proofs.YtnbjneknicppcaaDoor.Fn
