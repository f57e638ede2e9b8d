/- Part 7 of the texts for KT: contracts and plain laws that it leans on. -/
import Derived.Test.YtnbjneknicppcaaDoorK2
import Derived.Test.YtnbjneknicppcaaDoorK6
import Derived.Test.YtnbjneknicppcaaDoorK5
namespace Go.Proofs.YtnbjneknicppcaaDoor.Fn
open Go.RowKit Go.Proofs.YtnbjneknicppcaaDoorW.PrintWords Go.Proofs.YtnbjneknicppcaaDoorW.PrintLast Go.Proofs.YtnbjneknicppcaaDoorW.PrintMore
attribute [local go_sem] max2_int min2_int max_two min_two max_three min_three max_four min_four
set_option linter.unusedVariables false
set_option linter.unusedSimpArgs false
/-! ### longcaseref08_change: function 34 -/
def longcaseref08_change.j0 : Nat → ByteArray → Int → Int → Int → Int → Int → Option (ByteArray)
  | 0, _, _, _, _, _, _ => none
  | k + 1, x3, x202000, x202001, x202002, x202003, x202004 => if x202000 = 3 then (if 1 + x3.size ≤ 9223372036854775807 then (if ((⟨#[77]⟩ : ByteArray) ++ x3).size + 1 ≤ 9223372036854775807 then ((longcaseref08_number.f k x202002).bind fun t203 => (if (((⟨#[77]⟩ : ByteArray) ++ x3) ++ (⟨#[46]⟩ : ByteArray)).size + t203.size ≤ 9223372036854775807 then (if ((((⟨#[77]⟩ : ByteArray) ++ x3) ++ (⟨#[46]⟩ : ByteArray)) ++ t203).size + 1 ≤ 9223372036854775807 then ((longcaseref08_number.f k x202003).bind fun t204 => (if (((((⟨#[77]⟩ : ByteArray) ++ x3) ++ (⟨#[46]⟩ : ByteArray)) ++ t203) ++ (⟨#[46]⟩ : ByteArray)).size + t204.size ≤ 9223372036854775807 then (if x202004 = 7200 then (some ((((((⟨#[77]⟩ : ByteArray) ++ x3) ++ (⟨#[46]⟩ : ByteArray)) ++ t203) ++ (⟨#[46]⟩ : ByteArray)) ++ t204)) else (if ((((((⟨#[77]⟩ : ByteArray) ++ x3) ++ (⟨#[46]⟩ : ByteArray)) ++ t203) ++ (⟨#[46]⟩ : ByteArray)) ++ t204).size + 1 ≤ 9223372036854775807 then ((longcaseref08_hours.f k x202004).bind fun t205 => (if (((((((⟨#[77]⟩ : ByteArray) ++ x3) ++ (⟨#[46]⟩ : ByteArray)) ++ t203) ++ (⟨#[46]⟩ : ByteArray)) ++ t204) ++ (⟨#[47]⟩ : ByteArray)).size + t205.size ≤ 9223372036854775807 then (some ((((((((⟨#[77]⟩ : ByteArray) ++ x3) ++ (⟨#[46]⟩ : ByteArray)) ++ t203) ++ (⟨#[46]⟩ : ByteArray)) ++ t204) ++ (⟨#[47]⟩ : ByteArray)) ++ t205)) else (none))) else (none))) else (none))) else (none)) else (none))) else (none)) else (none)) else (if x202004 = 7200 then (some x3) else (if x3.size + 1 ≤ 9223372036854775807 then ((longcaseref08_hours.f k x202004).bind fun t206 => (if (x3 ++ (⟨#[47]⟩ : ByteArray)).size + t206.size ≤ 9223372036854775807 then (some ((x3 ++ (⟨#[47]⟩ : ByteArray)) ++ t206)) else (none))) else (none)))
def longcaseref08_change.f (k : Nat) (a0_0 : Int) (a0_1 : Int) (a0_2 : Int) (a0_3 : Int) (a0_4 : Int) : Option (ByteArray) := (longcaseref08_number.f k a0_1).bind fun t202 => (if a0_0 = 1 then (if 1 + t202.size ≤ 9223372036854775807 then (longcaseref08_change.j0 k ((⟨#[74]⟩ : ByteArray) ++ t202) a0_0 a0_1 a0_2 a0_3 a0_4) else (none)) else (longcaseref08_change.j0 k t202 a0_0 a0_1 a0_2 a0_3 a0_4))
theorem longcaseref08_change.mono_l : ∀ k, (∀ y0 y1 y2 y3 y4 y5, LeO (longcaseref08_change.j0 k y0 y1 y2 y3 y4 y5) (longcaseref08_change.j0 (k + 1) y0 y1 y2 y3 y4 y5))
  | 0 => fun _ _ _ _ _ _ r h => by simp [longcaseref08_change.j0] at h
  | k + 1 => by
    have ih0 := longcaseref08_change.mono_l k
    · intro y0 y1 y2 y3 y4 y5
      unfold longcaseref08_change.j0
      repeat' first
      | (with_reducible exact ih0 _ _ _ _ _ _)
      | (with_reducible exact longcaseref08_hours.mono _ _)
      | (with_reducible exact longcaseref08_number.mono _ _)
      | (with_reducible exact LeO.refl _)
      | (with_reducible exact LeO.none _)
      | (with_reducible refine LeO.ite ?_ ?_)
      | (with_reducible refine LeO.bind ?_ (fun _ => ?_))
      | exact ih0 _ _ _ _ _ _
      | exact longcaseref08_hours.mono _ _
      | exact longcaseref08_number.mono _ _
      | exact LeO.none _
      | refine LeO.ite ?_ ?_
      | refine LeO.bind ?_ (fun _ => ?_)
theorem longcaseref08_change.mono : ∀ a0 a1 a2 a3 a4 k, LeO (longcaseref08_change.f k a0 a1 a2 a3 a4) (longcaseref08_change.f (k + 1) a0 a1 a2 a3 a4) := by
  intro a0 a1 a2 a3 a4 k
  have ih0 := longcaseref08_change.mono_l k
  unfold longcaseref08_change.f
  repeat' first
      | (with_reducible exact ih0 _ _ _ _ _ _)
      | (with_reducible exact longcaseref08_hours.mono _ _)
      | (with_reducible exact longcaseref08_number.mono _ _)
      | (with_reducible exact LeO.refl _)
      | (with_reducible exact LeO.none _)
      | (with_reducible refine LeO.ite ?_ ?_)
      | (with_reducible refine LeO.bind ?_ (fun _ => ?_))
      | exact ih0 _ _ _ _ _ _
      | exact longcaseref08_hours.mono _ _
      | exact longcaseref08_number.mono _ _
      | exact LeO.none _
      | refine LeO.ite ?_ ?_
      | refine LeO.bind ?_ (fun _ => ?_)
def longcaseref08_change.T5 : Bool × List (List Nat × List Nat) := (true, [([], []), ([0], [0]), ([1], [1]), ([], []), ([3], [3]), ([4], [4]), ([2, 5], [2, 5]), ([6], [6]), ([], []), ([8], [8]), ([9, 5], [9]), ([7, 10], [7, 10]), ([11, 10, 0, 1, 2, 3, 4, 5, 6, 7, 8, 9, 10, 11], [0, 11])])
def longcaseref08_change.B5 : List Nat := [0, 1, 3, 0, 8, 24, 63, 127, 0, 256, 824, 2047, 4095]
theorem longcaseref08_change.tab5 : rtab .any (opsOf Tryd.f34 5) = longcaseref08_change.T5 := by kernel_rfl
theorem longcaseref08_change.bits5 : waitsOk longcaseref08_change.T5.2 longcaseref08_change.B5 = true := by kernel_rfl
set_option maxHeartbeats 8000000 in
set_option maxRecDepth 100000 in
theorem longcaseref08_change.calls (k : Nat) (a0_0 : Int) (a0_1 : Int) (a0_2 : Int) (a0_3 : Int) (a0_4 : Int) (r : ByteArray) (w : World) (h : longcaseref08_change.f k a0_0 a0_1 a0_2 a0_3 a0_4 = some r) :
    Calls Tryd.prog 34 #[.agg #[.int .i64 a0_0, .int .i64 a0_1, .int .i64 a0_2, .int .i64 a0_3, .int .i64 a0_4]] w fun e w' => e = .returned (.string r) ∧ Below w.heap.size w w' := by
  have hu25 := Tryd.underlying25
  have HB := Aside0.mk (Below.refl w.heap.size w)
  have H : ((longcaseref08_number.f k a0_1).bind fun t202 => (if a0_0 = 1 then (if 1 + t202.size ≤ 9223372036854775807 then (longcaseref08_change.j0 k ((⟨#[74]⟩ : ByteArray) ++ t202) a0_0 a0_1 a0_2 a0_3 a0_4) else (none)) else (longcaseref08_change.j0 k t202 a0_0 a0_1 a0_2 a0_3 a0_4))) = some r := h
  clear h
  replace H := Option.bind_eq_some_iff.mp H
  obtain ⟨t202, A20, H⟩ := H
  replace H : (if a0_0 = 1 then (if 1 + t202.size ≤ 9223372036854775807 then (longcaseref08_change.j0 k ((⟨#[74]⟩ : ByteArray) ++ t202) a0_0 a0_1 a0_2 a0_3 a0_4) else (none)) else (longcaseref08_change.j0 k t202 a0_0 a0_1 a0_2 a0_3 a0_4)) = some r := H
  have A2 := Aside0.mk A20
  clear A20
  have HC3 := Aside0.mk H
  clear H
  go_enter Tryd.func34, Tryd.ntmps34
  go_upto_if 9 with (first | ((with_reducible refine gate_dst (N := 1) rfl ?_); refine box_event ?hg (N := 1) ?hd (cs := #[.int .i64 a0_0, .int .i64 a0_1, .int .i64 a0_2, .int .i64 a0_3, .int .i64 a0_4]) (t := 25) ?hr ?_; (case hd => rfl); (case hg => rfl); (case hr => first | (go_simp; done) | (go_simp; rfl)); intro gb201 hg w4 hbox hb; have n0_ := Aside0.mk (below_step (by repeat (first | (with_reducible first | exact HB.out | apply below_alloc | apply pw_below_drewN | apply below_drew1) | exact HB.out)) hb); have n1_ := Aside0.mk (hbox); have n2_ := Aside0.mk ((by rw [hg]; exact (below_size (by repeat (first | (with_reducible first | exact HB.out | apply below_alloc | apply pw_below_drewN | apply below_drew1) | exact HB.out))) : w.heap.size ≤ gb201)); have n3_ := Aside0.mk ((by rw [hg]; exact (below_size (by repeat (first | (with_reducible first | exact HB.out | apply below_alloc | apply pw_below_drewN | apply below_drew1) | exact HB.out))) : w.heap.size ≤ gb201)); clear HB; have HB := n0_; have BK201 := n1_; have GW201 := n2_; have GE201 := n3_; clear n0_ n1_ n2_ n3_; clear hb hbox hg; have hcz5_0 : w4.cell? ⟨gb201, 0, none⟩ = some (.int .i64 a0_0) := (blk_cell BK201.out 0).trans rfl; have hcz5_1 : w4.cell? ⟨gb201, 1, none⟩ = some (.int .i64 a0_1) := (blk_cell BK201.out 1).trans rfl; have hcz5_2 : w4.cell? ⟨gb201, 2, none⟩ = some (.int .i64 a0_2) := (blk_cell BK201.out 2).trans rfl; have hcz5_3 : w4.cell? ⟨gb201, 3, none⟩ = some (.int .i64 a0_3) := (blk_cell BK201.out 3).trans rfl; have hcz5_4 : w4.cell? ⟨gb201, 4, none⟩ = some (.int .i64 a0_4) := (blk_cell BK201.out 4).trans rfl; have hfz5_0 := blk_frozen BK201.out 0; have hfz5_1 := blk_frozen BK201.out 1; have hfz5_2 := blk_frozen BK201.out 2; have hfz5_3 := blk_frozen BK201.out 3; have hfz5_4 := blk_frozen BK201.out 4) | ((with_reducible refine gate_callee (f := 50) rfl ?_); refine goesL_ (some 6) rfl rfl Tryd.func50 (by kernel_rfl) rfl #[.int .i64 a0_1] rfl (by (try simp only [List.map_toArray, List.map_cons, List.map_nil]); first | done | rfl | (simp only [List.length_drop, List.length_take]; rfl)) ?_; (with_reducible refine (longcaseref08_number.calls k a0_1 t202 _ A2.out).mono ?_); rintro e w6 ⟨rfl, hb⟩; refine ⟨_, rfl, ?_⟩; have n0_ := Aside0.mk (blk_below (g := gb201) (o := .cells #[.int .i64 a0_0, .int .i64 a0_1, .int .i64 a0_2, .int .i64 a0_3, .int .i64 a0_4] 25 (0, 0)) (by (with_reducible repeat (first | refine blk_drewN ?_ _ | refine blk_drew ?_ | refine blk_alloc ?_ _)); exact BK201.out) hb); have n1_ := Aside0.mk (below_step (by repeat (first | (with_reducible first | exact HB.out | apply below_alloc | apply pw_below_drewN | apply below_drew1 | refine below_set ?_ GE201.out) | exact HB.out)) hb); clear BK201; clear HB; have BK201 := n0_; have HB := n1_; clear n0_ n1_; (try clear hb); (try clear hb2); (try clear hk); (try clear hi); have hcz7_0 : w6.cell? ⟨gb201, 0, none⟩ = some (.int .i64 a0_0) := (blk_cell BK201.out 0).trans rfl; have hcz7_1 : w6.cell? ⟨gb201, 1, none⟩ = some (.int .i64 a0_1) := (blk_cell BK201.out 1).trans rfl; have hcz7_2 : w6.cell? ⟨gb201, 2, none⟩ = some (.int .i64 a0_2) := (blk_cell BK201.out 2).trans rfl; have hcz7_3 : w6.cell? ⟨gb201, 3, none⟩ = some (.int .i64 a0_3) := (blk_cell BK201.out 3).trans rfl; have hcz7_4 : w6.cell? ⟨gb201, 4, none⟩ = some (.int .i64 a0_4) := (blk_cell BK201.out 4).trans rfl; have hfz7_0 := blk_frozen BK201.out 0; have hfz7_1 := blk_frozen BK201.out 1; have hfz7_2 := blk_frozen BK201.out 2; have hfz7_3 := blk_frozen BK201.out 3; have hfz7_4 := blk_frozen BK201.out 4))
  (try simp only [Act.put, List.setIfInBounds_toArray, List.set_cons_zero, List.set_cons_succ])
  go_cut [3] (fun v3 wc => ∃ (kq : Nat) (x3_2 : ByteArray), v3 = .string x3_2 ∧ Aside0 (longcaseref08_change.j0 kq x3_2 a0_0 a0_1 a0_2 a0_3 a0_4 = some r) ∧ Aside0 (kq ≤ k) ∧ Aside0 (wc.heap[gb201]? = some (.cells #[.int .i64 a0_0, .int .i64 a0_1, .int .i64 a0_2, .int .i64 a0_3, .int .i64 a0_4] 25 (0, 0))) ∧ Aside0 (Below w.heap.size w wc))
  case first =>
    have H := HC3.out
    clear HC3
    by_cases c8 : a0_0 = 1
    · rw [if_pos c8] at H
      have c8b0 : (a0_0 == 1) = true := beq_iff_eq.mpr c8
      have c8b1 : (a0_0 != 1) = false := bne_eq_false_iff_eq.mpr c8
      clear c8
      (first | rw [c8b0] | (simp only [i64_w, i32_w]; rw [c8b0]) | skip)
      by_cases c9 : 1 + t202.size ≤ 9223372036854775807
      · rw [if_pos c9] at H
        have c9b0 := eq_true c9
        have c9b1 : decide (1 + t202.size ≤ 9223372036854775807) = true := decide_eq_true c9
        try have c9b2 : (9223372036854775807 < 1 + t202.size) = False := eq_false (Nat.not_lt.2 c9)
        have H' := Aside0.mk H
        clear H
        go_wp2
        go_meet
        case rel => exact ⟨_, ((⟨#[74]⟩ : ByteArray) ++ t202), (by first | rfl | (simp; done) | (simp [*]; done)), H', ⟨by first | omega | exact Nat.le_refl _⟩, ⟨by (with_reducible repeat (first | refine blk_drewN ?_ _ | refine blk_drew ?_ | refine blk_alloc ?_ _)); exact BK201.out⟩, ⟨by repeat (first | (with_reducible first | exact HB.out | apply below_alloc | apply pw_below_drewN | apply below_drew1 | refine below_set ?_ GE201.out) | exact HB.out)⟩⟩
      · rw [if_neg c9] at H
        exact absurd H (by simp)
    · rw [if_neg c8] at H
      have c8b0 : (a0_0 == 1) = false := beq_eq_false_iff_ne.mpr c8
      have c8b1 : (a0_0 != 1) = true := bne_iff_ne.mpr c8
      (first | rw [c8b0] | (simp only [i64_w, i32_w]; rw [c8b0]) | skip)
      have H' := Aside0.mk H
      clear H
      go_wp2
      go_meet
      case rel => exact ⟨_, (t202), (by first | rfl | (simp; done) | (simp [*]; done)), H', ⟨by first | omega | exact Nat.le_refl _⟩, ⟨by (with_reducible repeat (first | refine blk_drewN ?_ _ | refine blk_drew ?_ | refine blk_alloc ?_ _)); exact BK201.out⟩, ⟨by repeat (first | (with_reducible first | exact HB.out | apply below_alloc | apply pw_below_drewN | apply below_drew1 | refine below_set ?_ GE201.out) | exact HB.out)⟩⟩
  case rest =>
    clear HC3
    try clear p2
    try clear c3
    try clear c5
    try clear c8
    try clear c8b0
    try clear c8b1
    try clear c9
    try clear c9b0
    try clear c9b1
    try clear c9b2
    try clear hcz5_0
    try clear hcz5_1
    try clear hcz5_2
    try clear hcz5_3
    try clear hcz5_4
    try clear hcz7_0
    try clear hcz7_1
    try clear hcz7_2
    try clear hcz7_3
    try clear hcz7_4
    try clear hfz5_0
    try clear hfz5_1
    try clear hfz5_2
    try clear hfz5_3
    try clear hfz5_4
    try clear hfz7_0
    try clear hfz7_1
    try clear hfz7_2
    try clear hfz7_3
    try clear hfz7_4
    obtain ⟨kq, x3_2, rfl, HA, HJ2, BK201, HB⟩ := hcut
    cases kq with
    | zero => exact absurd HA.out (by simp [longcaseref08_change.j0])
    | succ kj2 =>
      have H := HA.out
      clear HA
      simp only [longcaseref08_change.j0] at H
      by_cases c10 : a0_0 = 3
      · rw [if_pos c10] at H
        have c10b0 : (a0_0 == 3) = true := beq_iff_eq.mpr c10
        have c10b1 : (a0_0 != 3) = false := bne_eq_false_iff_eq.mpr c10
        clear c10
        by_cases c11 : 1 + x3_2.size ≤ 9223372036854775807
        · rw [if_pos c11] at H
          have c11b0 := eq_true c11
          have c11b1 : decide (1 + x3_2.size ≤ 9223372036854775807) = true := decide_eq_true c11
          try have c11b2 : (9223372036854775807 < 1 + x3_2.size) = False := eq_false (Nat.not_lt.2 c11)
          by_cases c12 : ((⟨#[77]⟩ : ByteArray) ++ x3_2).size + 1 ≤ 9223372036854775807
          · rw [if_pos c12] at H
            have c12b0 := eq_true c12
            have c12b1 : decide (((⟨#[77]⟩ : ByteArray) ++ x3_2).size + 1 ≤ 9223372036854775807) = true := decide_eq_true c12
            try have c12b2 : (9223372036854775807 < ((⟨#[77]⟩ : ByteArray) ++ x3_2).size + 1) = False := eq_false (Nat.not_lt.2 c12)
            have c12z0 : (1 + x3_2.size) + 1 ≤ 9223372036854775807 := by have z_ := c12; simp only [ByteArray.size_append] at z_; exact z_
            try have c12z1 : (9223372036854775807 < (1 + x3_2.size) + 1) = False := eq_false (Nat.not_lt.2 c12z0)
            replace H := Option.bind_eq_some_iff.mp H
            obtain ⟨t203, A130, H⟩ := H
            replace H : (if (((⟨#[77]⟩ : ByteArray) ++ x3_2) ++ (⟨#[46]⟩ : ByteArray)).size + t203.size ≤ 9223372036854775807 then (if ((((⟨#[77]⟩ : ByteArray) ++ x3_2) ++ (⟨#[46]⟩ : ByteArray)) ++ t203).size + 1 ≤ 9223372036854775807 then ((longcaseref08_number.f kj2 a0_3).bind fun t204 => (if (((((⟨#[77]⟩ : ByteArray) ++ x3_2) ++ (⟨#[46]⟩ : ByteArray)) ++ t203) ++ (⟨#[46]⟩ : ByteArray)).size + t204.size ≤ 9223372036854775807 then (if a0_4 = 7200 then (some ((((((⟨#[77]⟩ : ByteArray) ++ x3_2) ++ (⟨#[46]⟩ : ByteArray)) ++ t203) ++ (⟨#[46]⟩ : ByteArray)) ++ t204)) else (if ((((((⟨#[77]⟩ : ByteArray) ++ x3_2) ++ (⟨#[46]⟩ : ByteArray)) ++ t203) ++ (⟨#[46]⟩ : ByteArray)) ++ t204).size + 1 ≤ 9223372036854775807 then ((longcaseref08_hours.f kj2 a0_4).bind fun t205 => (if (((((((⟨#[77]⟩ : ByteArray) ++ x3_2) ++ (⟨#[46]⟩ : ByteArray)) ++ t203) ++ (⟨#[46]⟩ : ByteArray)) ++ t204) ++ (⟨#[47]⟩ : ByteArray)).size + t205.size ≤ 9223372036854775807 then (some ((((((((⟨#[77]⟩ : ByteArray) ++ x3_2) ++ (⟨#[46]⟩ : ByteArray)) ++ t203) ++ (⟨#[46]⟩ : ByteArray)) ++ t204) ++ (⟨#[47]⟩ : ByteArray)) ++ t205)) else (none))) else (none))) else (none))) else (none)) else (none)) = some r := H
            have A13 := Aside0.mk A130
            clear A130
            by_cases c14 : (((⟨#[77]⟩ : ByteArray) ++ x3_2) ++ (⟨#[46]⟩ : ByteArray)).size + t203.size ≤ 9223372036854775807
            · rw [if_pos c14] at H
              have c14b0 := eq_true c14
              have c14b1 : decide ((((⟨#[77]⟩ : ByteArray) ++ x3_2) ++ (⟨#[46]⟩ : ByteArray)).size + t203.size ≤ 9223372036854775807) = true := decide_eq_true c14
              try have c14b2 : (9223372036854775807 < (((⟨#[77]⟩ : ByteArray) ++ x3_2) ++ (⟨#[46]⟩ : ByteArray)).size + t203.size) = False := eq_false (Nat.not_lt.2 c14)
              have c14z0 : ((1 + x3_2.size) + 1) + t203.size ≤ 9223372036854775807 := by have z_ := c14; simp only [ByteArray.size_append] at z_; exact z_
              try have c14z1 : (9223372036854775807 < ((1 + x3_2.size) + 1) + t203.size) = False := eq_false (Nat.not_lt.2 c14z0)
              by_cases c15 : ((((⟨#[77]⟩ : ByteArray) ++ x3_2) ++ (⟨#[46]⟩ : ByteArray)) ++ t203).size + 1 ≤ 9223372036854775807
              · rw [if_pos c15] at H
                have c15b0 := eq_true c15
                have c15b1 : decide (((((⟨#[77]⟩ : ByteArray) ++ x3_2) ++ (⟨#[46]⟩ : ByteArray)) ++ t203).size + 1 ≤ 9223372036854775807) = true := decide_eq_true c15
                try have c15b2 : (9223372036854775807 < ((((⟨#[77]⟩ : ByteArray) ++ x3_2) ++ (⟨#[46]⟩ : ByteArray)) ++ t203).size + 1) = False := eq_false (Nat.not_lt.2 c15)
                have c15z0 : (((1 + x3_2.size) + 1) + t203.size) + 1 ≤ 9223372036854775807 := by have z_ := c15; simp only [ByteArray.size_append] at z_; exact z_
                try have c15z1 : (9223372036854775807 < (((1 + x3_2.size) + 1) + t203.size) + 1) = False := eq_false (Nat.not_lt.2 c15z0)
                replace H := Option.bind_eq_some_iff.mp H
                obtain ⟨t204, A160, H⟩ := H
                replace H : (if (((((⟨#[77]⟩ : ByteArray) ++ x3_2) ++ (⟨#[46]⟩ : ByteArray)) ++ t203) ++ (⟨#[46]⟩ : ByteArray)).size + t204.size ≤ 9223372036854775807 then (if a0_4 = 7200 then (some ((((((⟨#[77]⟩ : ByteArray) ++ x3_2) ++ (⟨#[46]⟩ : ByteArray)) ++ t203) ++ (⟨#[46]⟩ : ByteArray)) ++ t204)) else (if ((((((⟨#[77]⟩ : ByteArray) ++ x3_2) ++ (⟨#[46]⟩ : ByteArray)) ++ t203) ++ (⟨#[46]⟩ : ByteArray)) ++ t204).size + 1 ≤ 9223372036854775807 then ((longcaseref08_hours.f kj2 a0_4).bind fun t205 => (if (((((((⟨#[77]⟩ : ByteArray) ++ x3_2) ++ (⟨#[46]⟩ : ByteArray)) ++ t203) ++ (⟨#[46]⟩ : ByteArray)) ++ t204) ++ (⟨#[47]⟩ : ByteArray)).size + t205.size ≤ 9223372036854775807 then (some ((((((((⟨#[77]⟩ : ByteArray) ++ x3_2) ++ (⟨#[46]⟩ : ByteArray)) ++ t203) ++ (⟨#[46]⟩ : ByteArray)) ++ t204) ++ (⟨#[47]⟩ : ByteArray)) ++ t205)) else (none))) else (none))) else (none)) = some r := H
                have A16 := Aside0.mk A160
                clear A160
                by_cases c17 : (((((⟨#[77]⟩ : ByteArray) ++ x3_2) ++ (⟨#[46]⟩ : ByteArray)) ++ t203) ++ (⟨#[46]⟩ : ByteArray)).size + t204.size ≤ 9223372036854775807
                · rw [if_pos c17] at H
                  have c17b0 := eq_true c17
                  have c17b1 : decide ((((((⟨#[77]⟩ : ByteArray) ++ x3_2) ++ (⟨#[46]⟩ : ByteArray)) ++ t203) ++ (⟨#[46]⟩ : ByteArray)).size + t204.size ≤ 9223372036854775807) = true := decide_eq_true c17
                  try have c17b2 : (9223372036854775807 < (((((⟨#[77]⟩ : ByteArray) ++ x3_2) ++ (⟨#[46]⟩ : ByteArray)) ++ t203) ++ (⟨#[46]⟩ : ByteArray)).size + t204.size) = False := eq_false (Nat.not_lt.2 c17)
                  have c17z0 : ((((1 + x3_2.size) + 1) + t203.size) + 1) + t204.size ≤ 9223372036854775807 := by have z_ := c17; simp only [ByteArray.size_append] at z_; exact z_
                  try have c17z1 : (9223372036854775807 < ((((1 + x3_2.size) + 1) + t203.size) + 1) + t204.size) = False := eq_false (Nat.not_lt.2 c17z0)
                  by_cases c18 : a0_4 = 7200
                  · rw [if_pos c18] at H
                    have c18b0 : (a0_4 == 7200) = true := beq_iff_eq.mpr c18
                    have c18b1 : (a0_4 != 7200) = false := bne_eq_false_iff_eq.mpr c18
                    clear c18
                    obtain rfl := Option.some.inj H
                    have hcz19_0 : wc.cell? ⟨gb201, 0, none⟩ = some (.int .i64 a0_0) := (blk_cell BK201.out 0).trans rfl
                    have hcz19_1 : wc.cell? ⟨gb201, 1, none⟩ = some (.int .i64 a0_1) := (blk_cell BK201.out 1).trans rfl
                    have hcz19_2 : wc.cell? ⟨gb201, 2, none⟩ = some (.int .i64 a0_2) := (blk_cell BK201.out 2).trans rfl
                    have hcz19_3 : wc.cell? ⟨gb201, 3, none⟩ = some (.int .i64 a0_3) := (blk_cell BK201.out 3).trans rfl
                    have hcz19_4 : wc.cell? ⟨gb201, 4, none⟩ = some (.int .i64 a0_4) := (blk_cell BK201.out 4).trans rfl
                    have hfz19_0 := blk_frozen BK201.out 0
                    have hfz19_1 := blk_frozen BK201.out 1
                    have hfz19_2 := blk_frozen BK201.out 2
                    have hfz19_3 := blk_frozen BK201.out 3
                    have hfz19_4 := blk_frozen BK201.out 4
                    try go_wp2
                    have n0_ := Aside0.mk (blk_drew BK201.out)
                    have n1_ := Aside0.mk (below_drew1 HB.out)
                    clear BK201
                    clear HB
                    have BK201 := n0_
                    have HB := n1_
                    clear n0_ n1_
                    refine start_ (n := 13) (S := fun w' => w'.cell? ⟨gb201, 0, none⟩ = some (.int .i64 a0_0) ∧ w'.cell? ⟨gb201, 1, none⟩ = some (.int .i64 a0_1) ∧ w'.cell? ⟨gb201, 2, none⟩ = some (.int .i64 a0_2) ∧ w'.cell? ⟨gb201, 3, none⟩ = some (.int .i64 a0_3) ∧ w'.cell? ⟨gb201, 4, none⟩ = some (.int .i64 a0_4)) (ds := []) #[false, false, false, false, false, false, false, false, false, false, false, false, false] (by kernel_rfl) rfl rfl ⟨(blk_cell BK201.out 0).trans rfl, (blk_cell BK201.out 1).trans rfl, (blk_cell BK201.out 2).trans rfl, (blk_cell BK201.out 3).trans rfl, (blk_cell BK201.out 4).trans rfl⟩ (fun hHeld => ?_); refine with_tabW longcaseref08_change.tab5 longcaseref08_change.bits5 (fun HT_ HW_ => ?_)
                    generalize wc.drew = w20 at BK201 HB hHeld ⊢
                    refine pure_ (i := 0) (N := some 15) (v := ?_) (a' := ?_) #[true, false, false, false, false, false, false, false, false, false, false, false, false] rfl rfl (any_of HT_.out (by kernel_rfl)) (fun _ _ _ h => h) (Or.inl ⟨by rfl, ?_⟩) ?_ ?_
                    rotate_left
                    · intro w'
                      go_simp
                      with_reducible rfl
                    rotate_left
                    · simp only [Act.put, List.setIfInBounds_toArray, List.set_cons_zero, List.set_cons_succ, i64_w, i32_w]
                      rfl
                    refine pure_ (i := 1) (N := some 16) (v := ?_) (a' := ?_) #[true, true, false, false, false, false, false, false, false, false, false, false, false] rfl rfl (any_of HT_.out (by kernel_rfl)) (fun _ _ _ h => h) (Or.inl ⟨by rfl, ?_⟩) ?_ ?_
                    rotate_left
                    · intro w'
                      go_simp
                      with_reducible rfl
                    rotate_left
                    · simp only [Act.put, List.setIfInBounds_toArray, List.set_cons_zero, List.set_cons_succ, i64_w, i32_w]
                      rfl
                    refine pure_ (i := 2) (N := some 17) (v := ?_) (a' := ?_) #[true, true, true, false, false, false, false, false, false, false, false, false, false] rfl rfl (any_of HT_.out (by kernel_rfl)) (fun _ _ _ h => h) (Or.inl ⟨by rfl, ?_⟩) ?_ ?_
                    rotate_left
                    · intro w'
                      go_simp
                      with_reducible rfl
                    rotate_left
                    · simp only [Act.put, List.setIfInBounds_toArray, List.set_cons_zero, List.set_cons_succ, i64_w, i32_w]
                      rfl
                    refine pure_ (i := 3) (N := some 18) (v := ?_) (a' := ?_) #[true, true, true, true, false, false, false, false, false, false, false, false, false] rfl rfl (any_of HT_.out (by kernel_rfl)) (fun _ _ _ h => h) (Or.inl ⟨by rfl, ?_⟩) ?_ ?_
                    rotate_left
                    · intro w'
                      go_simp
                      with_reducible rfl
                    rotate_left
                    · simp only [Act.put, List.setIfInBounds_toArray, List.set_cons_zero, List.set_cons_succ, i64_w, i32_w]
                      rfl
                    refine pure_ (i := 8) (N := some 23) (v := ?_) (a' := ?_) #[true, true, true, true, false, false, false, false, true, false, false, false, false] rfl rfl (any_of HT_.out (by kernel_rfl)) (fun _ _ _ h => h) (Or.inl ⟨by rfl, ?_⟩) ?_ ?_
                    rotate_left
                    · intro w'
                      go_simp
                      with_reducible rfl
                    rotate_left
                    · simp only [Act.put, List.setIfInBounds_toArray, List.set_cons_zero, List.set_cons_succ, i64_w, i32_w]
                      rfl
                    refine take_ (i := 4) (N := some 19) (v := ?_) (a' := ?_) #[true, true, true, true, true, false, false, false, true, false, false, false, false] rfl rfl (take_ofW HT_.out HW_.out (by kernel_rfl)) (fun _ _ _ h => h) (Or.inl ⟨by rfl, ?_⟩) hHeld ?_ ?_
                    rotate_left
                    · rintro w' ⟨s0, s1, s2, s3, s4⟩
                      go_simp
                      with_reducible rfl
                    rotate_left
                    · simp only [Act.put, List.setIfInBounds_toArray, List.set_cons_zero, List.set_cons_succ, i64_w, i32_w]
                      rfl
                    refine take_ (i := 9) (N := some 24) (v := ?_) (a' := ?_) #[true, true, true, true, true, false, false, false, true, true, false, false, false] rfl rfl (take_ofW HT_.out HW_.out (by kernel_rfl)) (fun _ _ _ h => h) (Or.inl ⟨by rfl, ?_⟩) hHeld ?_ ?_
                    rotate_left
                    · rintro w' ⟨s0, s1, s2, s3, s4⟩
                      go_simp
                      with_reducible rfl
                    rotate_left
                    · simp only [Act.put, List.setIfInBounds_toArray, List.set_cons_zero, List.set_cons_succ, i64_w, i32_w]
                      rfl
                    refine one_ (i := 5) (N := some 20) #[true, true, true, true, true, true, false, false, true, true, false, false, false] rfl rfl (one_of HT_.out (by kernel_rfl)) (by decide) (fun K hK => ?_)
                    refine goes_ Tryd.func50 (by kernel_rfl) rfl #[.int .i64 a0_2] (by rfl) rfl rfl (by (try simp only [List.map_toArray, List.map_cons, List.map_nil]); first | done | rfl | (simp only [List.length_drop, List.length_take]; rfl)) ?_
                    with_reducible refine (longcaseref08_number.calls kj2 a0_2 t203 _ A13.out).mono ?_
                    rintro e w21 ⟨rfl, hb⟩
                    refine ⟨_, rfl, ?_⟩
                    have n0_ := Aside0.mk (blk_below (g := gb201) (o := .cells #[.int .i64 a0_0, .int .i64 a0_1, .int .i64 a0_2, .int .i64 a0_3, .int .i64 a0_4] 25 (0, 0)) (by (with_reducible repeat (first | refine blk_drewN ?_ _ | refine blk_drew ?_ | refine blk_alloc ?_ _)); exact BK201.out) hb)
                    have n1_ := Aside0.mk (below_step (by repeat (first | (with_reducible first | exact HB.out | apply below_alloc | apply pw_below_drewN | apply below_drew1 | refine below_set ?_ GE201.out) | exact HB.out)) hb)
                    clear BK201
                    clear HB
                    have BK201 := n0_
                    have HB := n1_
                    clear n0_ n1_
                    (try clear hb)
                    (try clear hb2)
                    (try clear hk)
                    (try clear hi)
                    refine hK.out _ _ ⟨(blk_cell BK201.out 0).trans rfl, (blk_cell BK201.out 1).trans rfl, (blk_cell BK201.out 2).trans rfl, (blk_cell BK201.out 3).trans rfl, (blk_cell BK201.out 4).trans rfl⟩ (fun hHeld => ?_)
                    clear hK K
                    refine norm_ (a' := ?_) ?_ ?_
                    rotate_left
                    · show Act.put _ (some 20) _ = _
                      simp only [Act.put, List.setIfInBounds_toArray, List.set_cons_zero, List.set_cons_succ, i64_w, i32_w]
                      rfl
                    refine pure_ (i := 6) (N := some 21) (v := ?_) (a' := ?_) #[true, true, true, true, true, true, true, false, true, true, false, false, false] rfl rfl (any_of HT_.out (by kernel_rfl)) (fun _ _ _ h => h) (Or.inl ⟨by rfl, ?_⟩) ?_ ?_
                    rotate_left
                    · intro w'
                      go_simp
                      with_reducible rfl
                    rotate_left
                    · simp only [Act.put, List.setIfInBounds_toArray, List.set_cons_zero, List.set_cons_succ, i64_w, i32_w]
                      rfl
                    refine pure_ (i := 7) (N := some 22) (v := ?_) (a' := ?_) #[true, true, true, true, true, true, true, true, true, true, false, false, false] rfl rfl (any_of HT_.out (by kernel_rfl)) (fun _ _ _ h => h) (Or.inl ⟨by rfl, ?_⟩) ?_ ?_
                    rotate_left
                    · intro w'
                      go_simp
                      with_reducible rfl
                    rotate_left
                    · simp only [Act.put, List.setIfInBounds_toArray, List.set_cons_zero, List.set_cons_succ, i64_w, i32_w]
                      rfl
                    refine one_ (i := 10) (N := some 25) #[true, true, true, true, true, true, true, true, true, true, true, false, false] rfl rfl (one_of HT_.out (by kernel_rfl)) (by decide) (fun K hK => ?_)
                    refine goes_ Tryd.func50 (by kernel_rfl) rfl #[.int .i64 a0_3] (by rfl) rfl rfl (by (try simp only [List.map_toArray, List.map_cons, List.map_nil]); first | done | rfl | (simp only [List.length_drop, List.length_take]; rfl)) ?_
                    with_reducible refine (longcaseref08_number.calls kj2 a0_3 t204 _ A16.out).mono ?_
                    rintro e w22 ⟨rfl, hb⟩
                    refine ⟨_, rfl, ?_⟩
                    have n0_ := Aside0.mk (blk_below (g := gb201) (o := .cells #[.int .i64 a0_0, .int .i64 a0_1, .int .i64 a0_2, .int .i64 a0_3, .int .i64 a0_4] 25 (0, 0)) (by (with_reducible repeat (first | refine blk_drewN ?_ _ | refine blk_drew ?_ | refine blk_alloc ?_ _)); exact BK201.out) hb)
                    have n1_ := Aside0.mk (below_step (by repeat (first | (with_reducible first | exact HB.out | apply below_alloc | apply pw_below_drewN | apply below_drew1 | refine below_set ?_ GE201.out) | exact HB.out)) hb)
                    clear BK201
                    clear HB
                    have BK201 := n0_
                    have HB := n1_
                    clear n0_ n1_
                    (try clear hb)
                    (try clear hb2)
                    (try clear hk)
                    (try clear hi)
                    refine hK.out _ _ ⟨(blk_cell BK201.out 0).trans rfl, (blk_cell BK201.out 1).trans rfl, (blk_cell BK201.out 2).trans rfl, (blk_cell BK201.out 3).trans rfl, (blk_cell BK201.out 4).trans rfl⟩ (fun hHeld => ?_)
                    clear hK K
                    refine norm_ (a' := ?_) ?_ ?_
                    rotate_left
                    · show Act.put _ (some 25) _ = _
                      simp only [Act.put, List.setIfInBounds_toArray, List.set_cons_zero, List.set_cons_succ, i64_w, i32_w]
                      rfl
                    refine pure_ (i := 11) (N := some 26) (v := ?_) (a' := ?_) #[true, true, true, true, true, true, true, true, true, true, true, true, false] rfl rfl (any_of HT_.out (by kernel_rfl)) (fun _ _ _ h => h) (Or.inl ⟨by rfl, ?_⟩) ?_ ?_
                    rotate_left
                    · intro w'
                      go_simp
                      with_reducible rfl
                    rotate_left
                    · simp only [Act.put, List.setIfInBounds_toArray, List.set_cons_zero, List.set_cons_succ, i64_w, i32_w]
                      rfl
                    refine pure_ (i := 12) (N := some 3) (v := ?_) (a' := ?_) #[true, true, true, true, true, true, true, true, true, true, true, true, true] rfl rfl (any_of HT_.out (by kernel_rfl)) (fun _ _ _ h => h) (Or.inl ⟨by rfl, ?_⟩) ?_ ?_
                    rotate_left
                    · intro w'
                      go_simp
                      with_reducible rfl
                    rotate_left
                    · simp only [Act.put, List.setIfInBounds_toArray, List.set_cons_zero, List.set_cons_succ, i64_w, i32_w]
                      rfl
                    refine done_ (done_of HT_.out (by kernel_rfl)) ?_
                    have hcz23_0 : w22.cell? ⟨gb201, 0, none⟩ = some (.int .i64 a0_0) := (blk_cell BK201.out 0).trans rfl
                    have hcz23_1 : w22.cell? ⟨gb201, 1, none⟩ = some (.int .i64 a0_1) := (blk_cell BK201.out 1).trans rfl
                    have hcz23_2 : w22.cell? ⟨gb201, 2, none⟩ = some (.int .i64 a0_2) := (blk_cell BK201.out 2).trans rfl
                    have hcz23_3 : w22.cell? ⟨gb201, 3, none⟩ = some (.int .i64 a0_3) := (blk_cell BK201.out 3).trans rfl
                    have hcz23_4 : w22.cell? ⟨gb201, 4, none⟩ = some (.int .i64 a0_4) := (blk_cell BK201.out 4).trans rfl
                    have hfz23_0 := blk_frozen BK201.out 0
                    have hfz23_1 := blk_frozen BK201.out 1
                    have hfz23_2 := blk_frozen BK201.out 2
                    have hfz23_3 := blk_frozen BK201.out 3
                    have hfz23_4 := blk_frozen BK201.out 4
                    try go_wp2
                    go_ret
                    exact ⟨by first | rfl | (simp [errW_none, errW_some] <;> rfl) | (simp [*, errW_none, errW_some] <;> rfl), by repeat (first | (with_reducible first | exact HB.out | apply below_alloc | apply pw_below_drewN | apply below_drew1 | refine below_set ?_ GE201.out) | exact HB.out)⟩
                  · rw [if_neg c18] at H
                    have c18b0 : (a0_4 == 7200) = false := beq_eq_false_iff_ne.mpr c18
                    have c18b1 : (a0_4 != 7200) = true := bne_iff_ne.mpr c18
                    by_cases c24 : ((((((⟨#[77]⟩ : ByteArray) ++ x3_2) ++ (⟨#[46]⟩ : ByteArray)) ++ t203) ++ (⟨#[46]⟩ : ByteArray)) ++ t204).size + 1 ≤ 9223372036854775807
                    · rw [if_pos c24] at H
                      have c24b0 := eq_true c24
                      have c24b1 : decide (((((((⟨#[77]⟩ : ByteArray) ++ x3_2) ++ (⟨#[46]⟩ : ByteArray)) ++ t203) ++ (⟨#[46]⟩ : ByteArray)) ++ t204).size + 1 ≤ 9223372036854775807) = true := decide_eq_true c24
                      try have c24b2 : (9223372036854775807 < ((((((⟨#[77]⟩ : ByteArray) ++ x3_2) ++ (⟨#[46]⟩ : ByteArray)) ++ t203) ++ (⟨#[46]⟩ : ByteArray)) ++ t204).size + 1) = False := eq_false (Nat.not_lt.2 c24)
                      have c24z0 : (((((1 + x3_2.size) + 1) + t203.size) + 1) + t204.size) + 1 ≤ 9223372036854775807 := by have z_ := c24; simp only [ByteArray.size_append] at z_; exact z_
                      try have c24z1 : (9223372036854775807 < (((((1 + x3_2.size) + 1) + t203.size) + 1) + t204.size) + 1) = False := eq_false (Nat.not_lt.2 c24z0)
                      replace H := Option.bind_eq_some_iff.mp H
                      obtain ⟨t205, A250, H⟩ := H
                      replace H : (if (((((((⟨#[77]⟩ : ByteArray) ++ x3_2) ++ (⟨#[46]⟩ : ByteArray)) ++ t203) ++ (⟨#[46]⟩ : ByteArray)) ++ t204) ++ (⟨#[47]⟩ : ByteArray)).size + t205.size ≤ 9223372036854775807 then (some ((((((((⟨#[77]⟩ : ByteArray) ++ x3_2) ++ (⟨#[46]⟩ : ByteArray)) ++ t203) ++ (⟨#[46]⟩ : ByteArray)) ++ t204) ++ (⟨#[47]⟩ : ByteArray)) ++ t205)) else (none)) = some r := H
                      have A25 := Aside0.mk A250
                      clear A250
                      by_cases c26 : (((((((⟨#[77]⟩ : ByteArray) ++ x3_2) ++ (⟨#[46]⟩ : ByteArray)) ++ t203) ++ (⟨#[46]⟩ : ByteArray)) ++ t204) ++ (⟨#[47]⟩ : ByteArray)).size + t205.size ≤ 9223372036854775807
                      · rw [if_pos c26] at H
                        have c26b0 := eq_true c26
                        have c26b1 : decide ((((((((⟨#[77]⟩ : ByteArray) ++ x3_2) ++ (⟨#[46]⟩ : ByteArray)) ++ t203) ++ (⟨#[46]⟩ : ByteArray)) ++ t204) ++ (⟨#[47]⟩ : ByteArray)).size + t205.size ≤ 9223372036854775807) = true := decide_eq_true c26
                        try have c26b2 : (9223372036854775807 < (((((((⟨#[77]⟩ : ByteArray) ++ x3_2) ++ (⟨#[46]⟩ : ByteArray)) ++ t203) ++ (⟨#[46]⟩ : ByteArray)) ++ t204) ++ (⟨#[47]⟩ : ByteArray)).size + t205.size) = False := eq_false (Nat.not_lt.2 c26)
                        have c26z0 : ((((((1 + x3_2.size) + 1) + t203.size) + 1) + t204.size) + 1) + t205.size ≤ 9223372036854775807 := by have z_ := c26; simp only [ByteArray.size_append] at z_; exact z_
                        try have c26z1 : (9223372036854775807 < ((((((1 + x3_2.size) + 1) + t203.size) + 1) + t204.size) + 1) + t205.size) = False := eq_false (Nat.not_lt.2 c26z0)
                        obtain rfl := Option.some.inj H
                        have hcz27_0 : wc.cell? ⟨gb201, 0, none⟩ = some (.int .i64 a0_0) := (blk_cell BK201.out 0).trans rfl
                        have hcz27_1 : wc.cell? ⟨gb201, 1, none⟩ = some (.int .i64 a0_1) := (blk_cell BK201.out 1).trans rfl
                        have hcz27_2 : wc.cell? ⟨gb201, 2, none⟩ = some (.int .i64 a0_2) := (blk_cell BK201.out 2).trans rfl
                        have hcz27_3 : wc.cell? ⟨gb201, 3, none⟩ = some (.int .i64 a0_3) := (blk_cell BK201.out 3).trans rfl
                        have hcz27_4 : wc.cell? ⟨gb201, 4, none⟩ = some (.int .i64 a0_4) := (blk_cell BK201.out 4).trans rfl
                        have hfz27_0 := blk_frozen BK201.out 0
                        have hfz27_1 := blk_frozen BK201.out 1
                        have hfz27_2 := blk_frozen BK201.out 2
                        have hfz27_3 := blk_frozen BK201.out 3
                        have hfz27_4 := blk_frozen BK201.out 4
                        try go_wp2
                        have n0_ := Aside0.mk (blk_drew BK201.out)
                        have n1_ := Aside0.mk (below_drew1 HB.out)
                        clear BK201
                        clear HB
                        have BK201 := n0_
                        have HB := n1_
                        clear n0_ n1_
                        refine start_ (n := 13) (S := fun w' => w'.cell? ⟨gb201, 0, none⟩ = some (.int .i64 a0_0) ∧ w'.cell? ⟨gb201, 1, none⟩ = some (.int .i64 a0_1) ∧ w'.cell? ⟨gb201, 2, none⟩ = some (.int .i64 a0_2) ∧ w'.cell? ⟨gb201, 3, none⟩ = some (.int .i64 a0_3) ∧ w'.cell? ⟨gb201, 4, none⟩ = some (.int .i64 a0_4)) (ds := []) #[false, false, false, false, false, false, false, false, false, false, false, false, false] (by kernel_rfl) rfl rfl ⟨(blk_cell BK201.out 0).trans rfl, (blk_cell BK201.out 1).trans rfl, (blk_cell BK201.out 2).trans rfl, (blk_cell BK201.out 3).trans rfl, (blk_cell BK201.out 4).trans rfl⟩ (fun hHeld => ?_); refine with_tabW longcaseref08_change.tab5 longcaseref08_change.bits5 (fun HT_ HW_ => ?_)
                        generalize wc.drew = w28 at BK201 HB hHeld ⊢
                        refine pure_ (i := 0) (N := some 15) (v := ?_) (a' := ?_) #[true, false, false, false, false, false, false, false, false, false, false, false, false] rfl rfl (any_of HT_.out (by kernel_rfl)) (fun _ _ _ h => h) (Or.inl ⟨by rfl, ?_⟩) ?_ ?_
                        rotate_left
                        · intro w'
                          go_simp
                          with_reducible rfl
                        rotate_left
                        · simp only [Act.put, List.setIfInBounds_toArray, List.set_cons_zero, List.set_cons_succ, i64_w, i32_w]
                          rfl
                        refine pure_ (i := 1) (N := some 16) (v := ?_) (a' := ?_) #[true, true, false, false, false, false, false, false, false, false, false, false, false] rfl rfl (any_of HT_.out (by kernel_rfl)) (fun _ _ _ h => h) (Or.inl ⟨by rfl, ?_⟩) ?_ ?_
                        rotate_left
                        · intro w'
                          go_simp
                          with_reducible rfl
                        rotate_left
                        · simp only [Act.put, List.setIfInBounds_toArray, List.set_cons_zero, List.set_cons_succ, i64_w, i32_w]
                          rfl
                        refine pure_ (i := 2) (N := some 17) (v := ?_) (a' := ?_) #[true, true, true, false, false, false, false, false, false, false, false, false, false] rfl rfl (any_of HT_.out (by kernel_rfl)) (fun _ _ _ h => h) (Or.inl ⟨by rfl, ?_⟩) ?_ ?_
                        rotate_left
                        · intro w'
                          go_simp
                          with_reducible rfl
                        rotate_left
                        · simp only [Act.put, List.setIfInBounds_toArray, List.set_cons_zero, List.set_cons_succ, i64_w, i32_w]
                          rfl
                        refine pure_ (i := 3) (N := some 18) (v := ?_) (a' := ?_) #[true, true, true, true, false, false, false, false, false, false, false, false, false] rfl rfl (any_of HT_.out (by kernel_rfl)) (fun _ _ _ h => h) (Or.inl ⟨by rfl, ?_⟩) ?_ ?_
                        rotate_left
                        · intro w'
                          go_simp
                          with_reducible rfl
                        rotate_left
                        · simp only [Act.put, List.setIfInBounds_toArray, List.set_cons_zero, List.set_cons_succ, i64_w, i32_w]
                          rfl
                        refine pure_ (i := 8) (N := some 23) (v := ?_) (a' := ?_) #[true, true, true, true, false, false, false, false, true, false, false, false, false] rfl rfl (any_of HT_.out (by kernel_rfl)) (fun _ _ _ h => h) (Or.inl ⟨by rfl, ?_⟩) ?_ ?_
                        rotate_left
                        · intro w'
                          go_simp
                          with_reducible rfl
                        rotate_left
                        · simp only [Act.put, List.setIfInBounds_toArray, List.set_cons_zero, List.set_cons_succ, i64_w, i32_w]
                          rfl
                        refine take_ (i := 4) (N := some 19) (v := ?_) (a' := ?_) #[true, true, true, true, true, false, false, false, true, false, false, false, false] rfl rfl (take_ofW HT_.out HW_.out (by kernel_rfl)) (fun _ _ _ h => h) (Or.inl ⟨by rfl, ?_⟩) hHeld ?_ ?_
                        rotate_left
                        · rintro w' ⟨s0, s1, s2, s3, s4⟩
                          go_simp
                          with_reducible rfl
                        rotate_left
                        · simp only [Act.put, List.setIfInBounds_toArray, List.set_cons_zero, List.set_cons_succ, i64_w, i32_w]
                          rfl
                        refine take_ (i := 9) (N := some 24) (v := ?_) (a' := ?_) #[true, true, true, true, true, false, false, false, true, true, false, false, false] rfl rfl (take_ofW HT_.out HW_.out (by kernel_rfl)) (fun _ _ _ h => h) (Or.inl ⟨by rfl, ?_⟩) hHeld ?_ ?_
                        rotate_left
                        · rintro w' ⟨s0, s1, s2, s3, s4⟩
                          go_simp
                          with_reducible rfl
                        rotate_left
                        · simp only [Act.put, List.setIfInBounds_toArray, List.set_cons_zero, List.set_cons_succ, i64_w, i32_w]
                          rfl
                        refine one_ (i := 5) (N := some 20) #[true, true, true, true, true, true, false, false, true, true, false, false, false] rfl rfl (one_of HT_.out (by kernel_rfl)) (by decide) (fun K hK => ?_)
                        refine goes_ Tryd.func50 (by kernel_rfl) rfl #[.int .i64 a0_2] (by rfl) rfl rfl (by (try simp only [List.map_toArray, List.map_cons, List.map_nil]); first | done | rfl | (simp only [List.length_drop, List.length_take]; rfl)) ?_
                        with_reducible refine (longcaseref08_number.calls kj2 a0_2 t203 _ A13.out).mono ?_
                        rintro e w29 ⟨rfl, hb⟩
                        refine ⟨_, rfl, ?_⟩
                        have n0_ := Aside0.mk (blk_below (g := gb201) (o := .cells #[.int .i64 a0_0, .int .i64 a0_1, .int .i64 a0_2, .int .i64 a0_3, .int .i64 a0_4] 25 (0, 0)) (by (with_reducible repeat (first | refine blk_drewN ?_ _ | refine blk_drew ?_ | refine blk_alloc ?_ _)); exact BK201.out) hb)
                        have n1_ := Aside0.mk (below_step (by repeat (first | (with_reducible first | exact HB.out | apply below_alloc | apply pw_below_drewN | apply below_drew1 | refine below_set ?_ GE201.out) | exact HB.out)) hb)
                        clear BK201
                        clear HB
                        have BK201 := n0_
                        have HB := n1_
                        clear n0_ n1_
                        (try clear hb)
                        (try clear hb2)
                        (try clear hk)
                        (try clear hi)
                        refine hK.out _ _ ⟨(blk_cell BK201.out 0).trans rfl, (blk_cell BK201.out 1).trans rfl, (blk_cell BK201.out 2).trans rfl, (blk_cell BK201.out 3).trans rfl, (blk_cell BK201.out 4).trans rfl⟩ (fun hHeld => ?_)
                        clear hK K
                        refine norm_ (a' := ?_) ?_ ?_
                        rotate_left
                        · show Act.put _ (some 20) _ = _
                          simp only [Act.put, List.setIfInBounds_toArray, List.set_cons_zero, List.set_cons_succ, i64_w, i32_w]
                          rfl
                        refine pure_ (i := 6) (N := some 21) (v := ?_) (a' := ?_) #[true, true, true, true, true, true, true, false, true, true, false, false, false] rfl rfl (any_of HT_.out (by kernel_rfl)) (fun _ _ _ h => h) (Or.inl ⟨by rfl, ?_⟩) ?_ ?_
                        rotate_left
                        · intro w'
                          go_simp
                          with_reducible rfl
                        rotate_left
                        · simp only [Act.put, List.setIfInBounds_toArray, List.set_cons_zero, List.set_cons_succ, i64_w, i32_w]
                          rfl
                        refine pure_ (i := 7) (N := some 22) (v := ?_) (a' := ?_) #[true, true, true, true, true, true, true, true, true, true, false, false, false] rfl rfl (any_of HT_.out (by kernel_rfl)) (fun _ _ _ h => h) (Or.inl ⟨by rfl, ?_⟩) ?_ ?_
                        rotate_left
                        · intro w'
                          go_simp
                          with_reducible rfl
                        rotate_left
                        · simp only [Act.put, List.setIfInBounds_toArray, List.set_cons_zero, List.set_cons_succ, i64_w, i32_w]
                          rfl
                        refine one_ (i := 10) (N := some 25) #[true, true, true, true, true, true, true, true, true, true, true, false, false] rfl rfl (one_of HT_.out (by kernel_rfl)) (by decide) (fun K hK => ?_)
                        refine goes_ Tryd.func50 (by kernel_rfl) rfl #[.int .i64 a0_3] (by rfl) rfl rfl (by (try simp only [List.map_toArray, List.map_cons, List.map_nil]); first | done | rfl | (simp only [List.length_drop, List.length_take]; rfl)) ?_
                        with_reducible refine (longcaseref08_number.calls kj2 a0_3 t204 _ A16.out).mono ?_
                        rintro e w30 ⟨rfl, hb⟩
                        refine ⟨_, rfl, ?_⟩
                        have n0_ := Aside0.mk (blk_below (g := gb201) (o := .cells #[.int .i64 a0_0, .int .i64 a0_1, .int .i64 a0_2, .int .i64 a0_3, .int .i64 a0_4] 25 (0, 0)) (by (with_reducible repeat (first | refine blk_drewN ?_ _ | refine blk_drew ?_ | refine blk_alloc ?_ _)); exact BK201.out) hb)
                        have n1_ := Aside0.mk (below_step (by repeat (first | (with_reducible first | exact HB.out | apply below_alloc | apply pw_below_drewN | apply below_drew1 | refine below_set ?_ GE201.out) | exact HB.out)) hb)
                        clear BK201
                        clear HB
                        have BK201 := n0_
                        have HB := n1_
                        clear n0_ n1_
                        (try clear hb)
                        (try clear hb2)
                        (try clear hk)
                        (try clear hi)
                        refine hK.out _ _ ⟨(blk_cell BK201.out 0).trans rfl, (blk_cell BK201.out 1).trans rfl, (blk_cell BK201.out 2).trans rfl, (blk_cell BK201.out 3).trans rfl, (blk_cell BK201.out 4).trans rfl⟩ (fun hHeld => ?_)
                        clear hK K
                        refine norm_ (a' := ?_) ?_ ?_
                        rotate_left
                        · show Act.put _ (some 25) _ = _
                          simp only [Act.put, List.setIfInBounds_toArray, List.set_cons_zero, List.set_cons_succ, i64_w, i32_w]
                          rfl
                        refine pure_ (i := 11) (N := some 26) (v := ?_) (a' := ?_) #[true, true, true, true, true, true, true, true, true, true, true, true, false] rfl rfl (any_of HT_.out (by kernel_rfl)) (fun _ _ _ h => h) (Or.inl ⟨by rfl, ?_⟩) ?_ ?_
                        rotate_left
                        · intro w'
                          go_simp
                          with_reducible rfl
                        rotate_left
                        · simp only [Act.put, List.setIfInBounds_toArray, List.set_cons_zero, List.set_cons_succ, i64_w, i32_w]
                          rfl
                        refine pure_ (i := 12) (N := some 3) (v := ?_) (a' := ?_) #[true, true, true, true, true, true, true, true, true, true, true, true, true] rfl rfl (any_of HT_.out (by kernel_rfl)) (fun _ _ _ h => h) (Or.inl ⟨by rfl, ?_⟩) ?_ ?_
                        rotate_left
                        · intro w'
                          go_simp
                          with_reducible rfl
                        rotate_left
                        · simp only [Act.put, List.setIfInBounds_toArray, List.set_cons_zero, List.set_cons_succ, i64_w, i32_w]
                          rfl
                        refine done_ (done_of HT_.out (by kernel_rfl)) ?_
                        have hcz31_0 : w30.cell? ⟨gb201, 0, none⟩ = some (.int .i64 a0_0) := (blk_cell BK201.out 0).trans rfl
                        have hcz31_1 : w30.cell? ⟨gb201, 1, none⟩ = some (.int .i64 a0_1) := (blk_cell BK201.out 1).trans rfl
                        have hcz31_2 : w30.cell? ⟨gb201, 2, none⟩ = some (.int .i64 a0_2) := (blk_cell BK201.out 2).trans rfl
                        have hcz31_3 : w30.cell? ⟨gb201, 3, none⟩ = some (.int .i64 a0_3) := (blk_cell BK201.out 3).trans rfl
                        have hcz31_4 : w30.cell? ⟨gb201, 4, none⟩ = some (.int .i64 a0_4) := (blk_cell BK201.out 4).trans rfl
                        have hfz31_0 := blk_frozen BK201.out 0
                        have hfz31_1 := blk_frozen BK201.out 1
                        have hfz31_2 := blk_frozen BK201.out 2
                        have hfz31_3 := blk_frozen BK201.out 3
                        have hfz31_4 := blk_frozen BK201.out 4
                        try go_wp2_with (first | ((with_reducible refine gate_callee (f := 33) rfl ?_); refine goesL_ (some 34) rfl rfl Tryd.func33 (by kernel_rfl) rfl #[.int .i64 a0_4] rfl (by (try simp only [List.map_toArray, List.map_cons, List.map_nil]); first | done | rfl | (simp only [List.length_drop, List.length_take]; rfl)) ?_; (with_reducible refine (longcaseref08_hours.calls kj2 a0_4 t205 _ A25.out).mono ?_); rintro e w32 ⟨rfl, hb⟩; refine ⟨_, rfl, ?_⟩; have n0_ := Aside0.mk (blk_below (g := gb201) (o := .cells #[.int .i64 a0_0, .int .i64 a0_1, .int .i64 a0_2, .int .i64 a0_3, .int .i64 a0_4] 25 (0, 0)) (by (with_reducible repeat (first | refine blk_drewN ?_ _ | refine blk_drew ?_ | refine blk_alloc ?_ _)); exact BK201.out) hb); have n1_ := Aside0.mk (below_step (by repeat (first | (with_reducible first | exact HB.out | apply below_alloc | apply pw_below_drewN | apply below_drew1 | refine below_set ?_ GE201.out) | exact HB.out)) hb); clear BK201; clear HB; have BK201 := n0_; have HB := n1_; clear n0_ n1_; (try clear hb); (try clear hb2); (try clear hk); (try clear hi)))
                        go_ret
                        exact ⟨by first | rfl | (simp [errW_none, errW_some] <;> rfl) | (simp [*, errW_none, errW_some] <;> rfl), by repeat (first | (with_reducible first | exact HB.out | apply below_alloc | apply pw_below_drewN | apply below_drew1 | refine below_set ?_ GE201.out) | exact HB.out)⟩
                      · rw [if_neg c26] at H
                        exact absurd H (by simp)
                    · rw [if_neg c24] at H
                      exact absurd H (by simp)
                · rw [if_neg c17] at H
                  exact absurd H (by simp)
              · rw [if_neg c15] at H
                exact absurd H (by simp)
            · rw [if_neg c14] at H
              exact absurd H (by simp)
          · rw [if_neg c12] at H
            exact absurd H (by simp)
        · rw [if_neg c11] at H
          exact absurd H (by simp)
      · rw [if_neg c10] at H
        have c10b0 : (a0_0 == 3) = false := beq_eq_false_iff_ne.mpr c10
        have c10b1 : (a0_0 != 3) = true := bne_iff_ne.mpr c10
        by_cases c33 : a0_4 = 7200
        · rw [if_pos c33] at H
          have c33b0 : (a0_4 == 7200) = true := beq_iff_eq.mpr c33
          have c33b1 : (a0_4 != 7200) = false := bne_eq_false_iff_eq.mpr c33
          clear c33
          obtain rfl := Option.some.inj H
          have hcz34_0 : wc.cell? ⟨gb201, 0, none⟩ = some (.int .i64 a0_0) := (blk_cell BK201.out 0).trans rfl
          have hcz34_1 : wc.cell? ⟨gb201, 1, none⟩ = some (.int .i64 a0_1) := (blk_cell BK201.out 1).trans rfl
          have hcz34_2 : wc.cell? ⟨gb201, 2, none⟩ = some (.int .i64 a0_2) := (blk_cell BK201.out 2).trans rfl
          have hcz34_3 : wc.cell? ⟨gb201, 3, none⟩ = some (.int .i64 a0_3) := (blk_cell BK201.out 3).trans rfl
          have hcz34_4 : wc.cell? ⟨gb201, 4, none⟩ = some (.int .i64 a0_4) := (blk_cell BK201.out 4).trans rfl
          have hfz34_0 := blk_frozen BK201.out 0
          have hfz34_1 := blk_frozen BK201.out 1
          have hfz34_2 := blk_frozen BK201.out 2
          have hfz34_3 := blk_frozen BK201.out 3
          have hfz34_4 := blk_frozen BK201.out 4
          go_wp2
          go_ret
          exact ⟨by first | rfl | (simp [errW_none, errW_some] <;> rfl) | (simp [*, errW_none, errW_some] <;> rfl), by repeat (first | (with_reducible first | exact HB.out | apply below_alloc | apply pw_below_drewN | apply below_drew1 | refine below_set ?_ GE201.out) | exact HB.out)⟩
        · rw [if_neg c33] at H
          have c33b0 : (a0_4 == 7200) = false := beq_eq_false_iff_ne.mpr c33
          have c33b1 : (a0_4 != 7200) = true := bne_iff_ne.mpr c33
          by_cases c35 : x3_2.size + 1 ≤ 9223372036854775807
          · rw [if_pos c35] at H
            have c35b0 := eq_true c35
            have c35b1 : decide (x3_2.size + 1 ≤ 9223372036854775807) = true := decide_eq_true c35
            try have c35b2 : (9223372036854775807 < x3_2.size + 1) = False := eq_false (Nat.not_lt.2 c35)
            replace H := Option.bind_eq_some_iff.mp H
            obtain ⟨t206, A360, H⟩ := H
            replace H : (if (x3_2 ++ (⟨#[47]⟩ : ByteArray)).size + t206.size ≤ 9223372036854775807 then (some ((x3_2 ++ (⟨#[47]⟩ : ByteArray)) ++ t206)) else (none)) = some r := H
            have A36 := Aside0.mk A360
            clear A360
            by_cases c37 : (x3_2 ++ (⟨#[47]⟩ : ByteArray)).size + t206.size ≤ 9223372036854775807
            · rw [if_pos c37] at H
              have c37b0 := eq_true c37
              have c37b1 : decide ((x3_2 ++ (⟨#[47]⟩ : ByteArray)).size + t206.size ≤ 9223372036854775807) = true := decide_eq_true c37
              try have c37b2 : (9223372036854775807 < (x3_2 ++ (⟨#[47]⟩ : ByteArray)).size + t206.size) = False := eq_false (Nat.not_lt.2 c37)
              have c37z0 : (x3_2.size + 1) + t206.size ≤ 9223372036854775807 := by have z_ := c37; simp only [ByteArray.size_append] at z_; exact z_
              try have c37z1 : (9223372036854775807 < (x3_2.size + 1) + t206.size) = False := eq_false (Nat.not_lt.2 c37z0)
              obtain rfl := Option.some.inj H
              have hcz38_0 : wc.cell? ⟨gb201, 0, none⟩ = some (.int .i64 a0_0) := (blk_cell BK201.out 0).trans rfl
              have hcz38_1 : wc.cell? ⟨gb201, 1, none⟩ = some (.int .i64 a0_1) := (blk_cell BK201.out 1).trans rfl
              have hcz38_2 : wc.cell? ⟨gb201, 2, none⟩ = some (.int .i64 a0_2) := (blk_cell BK201.out 2).trans rfl
              have hcz38_3 : wc.cell? ⟨gb201, 3, none⟩ = some (.int .i64 a0_3) := (blk_cell BK201.out 3).trans rfl
              have hcz38_4 : wc.cell? ⟨gb201, 4, none⟩ = some (.int .i64 a0_4) := (blk_cell BK201.out 4).trans rfl
              have hfz38_0 := blk_frozen BK201.out 0
              have hfz38_1 := blk_frozen BK201.out 1
              have hfz38_2 := blk_frozen BK201.out 2
              have hfz38_3 := blk_frozen BK201.out 3
              have hfz38_4 := blk_frozen BK201.out 4
              go_wp2_with (first | ((with_reducible refine gate_callee (f := 33) rfl ?_); refine goesL_ (some 34) rfl rfl Tryd.func33 (by kernel_rfl) rfl #[.int .i64 a0_4] rfl (by (try simp only [List.map_toArray, List.map_cons, List.map_nil]); first | done | rfl | (simp only [List.length_drop, List.length_take]; rfl)) ?_; (with_reducible refine (longcaseref08_hours.calls kj2 a0_4 t206 _ A36.out).mono ?_); rintro e w39 ⟨rfl, hb⟩; refine ⟨_, rfl, ?_⟩; have n0_ := Aside0.mk (blk_below (g := gb201) (o := .cells #[.int .i64 a0_0, .int .i64 a0_1, .int .i64 a0_2, .int .i64 a0_3, .int .i64 a0_4] 25 (0, 0)) (by (with_reducible repeat (first | refine blk_drewN ?_ _ | refine blk_drew ?_ | refine blk_alloc ?_ _)); exact BK201.out) hb); have n1_ := Aside0.mk (below_step (by repeat (first | (with_reducible first | exact HB.out | apply below_alloc | apply pw_below_drewN | apply below_drew1 | refine below_set ?_ GE201.out) | exact HB.out)) hb); clear BK201; clear HB; have BK201 := n0_; have HB := n1_; clear n0_ n1_; (try clear hb); (try clear hb2); (try clear hk); (try clear hi)))
              go_ret
              exact ⟨by first | rfl | (simp [errW_none, errW_some] <;> rfl) | (simp [*, errW_none, errW_some] <;> rfl), by repeat (first | (with_reducible first | exact HB.out | apply below_alloc | apply pw_below_drewN | apply below_drew1 | refine below_set ?_ GE201.out) | exact HB.out)⟩
            · rw [if_neg c37] at H
              exact absurd H (by simp)
          · rw [if_neg c35] at H
            exact absurd H (by simp)
end Go.Proofs.YtnbjneknicppcaaDoor.Fn

namespace Go.Proofs.YtnbjneknicppcaaDoor.Fn
open Go.RowKit Go.Proofs.YtnbjneknicppcaaDoorW.PrintWords Go.Proofs.YtnbjneknicppcaaDoorW.PrintLast Go.Proofs.YtnbjneknicppcaaDoorW.PrintMore
attribute [local go_sem] max2_int min2_int max_two min_two max_three min_three max_four min_four
set_option linter.unusedVariables false
set_option linter.unusedSimpArgs false
/-! ### longcaseref08_plain: function 49 -/
def longcaseref08_plain.l0 : Nat → ByteArray → Int → Option (Bool)
  | 0, _, _ => none
  | k + 1, x0, x3 => if x3 < (x0.size : Int) then (if 0 ≤ x3 then ((longcaseref08_letter.f (bt x0 x3)).bind fun t188 => (if t188 = true then (longcaseref08_plain.l0 k x0 (wrap64 (x3 + 1))) else (some false))) else (none)) else (some true)
def longcaseref08_plain.f (k : Nat) (a0 : ByteArray) : Option (Bool) := longcaseref08_plain.l0 k a0 0
theorem longcaseref08_plain.mono_l : ∀ k, (∀ y0 y1, LeO (longcaseref08_plain.l0 k y0 y1) (longcaseref08_plain.l0 (k + 1) y0 y1))
  | 0 => fun _ _ r h => by simp [longcaseref08_plain.l0] at h
  | k + 1 => by
    have ih0 := longcaseref08_plain.mono_l k
    · intro y0 y1
      unfold longcaseref08_plain.l0
      repeat' first
      | (with_reducible exact ih0 _ _)
      | (with_reducible exact LeO.refl _)
      | (with_reducible exact LeO.none _)
      | (with_reducible refine LeO.ite ?_ ?_)
      | (with_reducible refine LeO.bind ?_ (fun _ => ?_))
      | exact ih0 _ _
      | exact LeO.none _
      | refine LeO.ite ?_ ?_
      | refine LeO.bind ?_ (fun _ => ?_)
theorem longcaseref08_plain.mono : ∀ a0 k, LeO (longcaseref08_plain.f k a0) (longcaseref08_plain.f (k + 1) a0) := by
  intro a0 k
  have ih0 := longcaseref08_plain.mono_l k
  unfold longcaseref08_plain.f
  repeat' first
      | (with_reducible exact ih0 _ _)
      | (with_reducible exact LeO.refl _)
      | (with_reducible exact LeO.none _)
      | (with_reducible refine LeO.ite ?_ ?_)
      | (with_reducible refine LeO.bind ?_ (fun _ => ?_))
      | exact ih0 _ _
      | exact LeO.none _
      | refine LeO.ite ?_ ?_
      | refine LeO.bind ?_ (fun _ => ?_)
set_option maxHeartbeats 8000000 in
set_option maxRecDepth 100000 in
theorem longcaseref08_plain.calls (k : Nat) (a0 : ByteArray) (r : Bool) (w : World) (h : longcaseref08_plain.f k a0 = some r) :
    Calls Tryd.prog 49 #[.string a0] w fun e w' => e = .returned (.bool r) ∧ Drawn0 w w' := by
  have H : (longcaseref08_plain.l0 k a0 0) = some r := h
  clear h
  have H' := Aside0.mk H
  clear H
  go_enter Tryd.func49, Tryd.ntmps49
  go_wp2
  go_loopg [3] k (fun kq v3 w' => ∃ (x3_1 : Int), v3 = .int .i64 x3_1 ∧ Aside0 (longcaseref08_plain.l0 kq a0 x3_1 = some r) ∧ Aside0 (kq ≤ k) ∧ Drawn0 w w')
  case atStart => exact ⟨(0), (by first | rfl | (simp; done) | (simp [*]; done)), H', ⟨Nat.le_refl _⟩, by repeat (first | exact Drawn0.refl _ | apply Drawn0.step)⟩
  case round =>
    clear H'
    obtain ⟨x3_1, rfl, HA, HK1, ⟨m1, rfl⟩⟩ := hrel
    cases gk with
    | zero => exact absurd HA.out (by simp [longcaseref08_plain.l0])
    | succ k1 =>
      have H := HA.out
      clear HA
      simp only [longcaseref08_plain.l0] at H
      by_cases c2 : x3_1 < (a0.size : Int)
      · rw [if_pos c2] at H
        have c2b0 : decide (x3_1 < (a0.size : Int)) = true := decide_eq_true c2
        clear c2
        by_cases c3 : 0 ≤ x3_1
        · rw [if_pos c3] at H
          have c3b0 : decide (0 ≤ x3_1) = true := decide_eq_true c3
          clear c3
          replace H := Option.bind_eq_some_iff.mp H
          obtain ⟨t188, A50, H⟩ := H
          replace H : (if t188 = true then (longcaseref08_plain.l0 k1 a0 (wrap64 (x3_1 + 1))) else (some false)) = some r := H
          have A5 := Aside0.mk A50
          clear A50
          by_cases c6 : t188 = true
          · subst c6
            have H1 : (longcaseref08_plain.l0 k1 a0 (wrap64 (x3_1 + 1))) = some r := by rw [if_pos rfl] at H; exact H
            clear H
            have H := H1
            clear H1
            have H' := Aside0.mk H
            clear H
            have p4 : 0 ≤ (x3_1 : Int) := of_decide_eq_true (by first | (with_reducible assumption) | assumption)
            have q4 : x3_1 < (a0.size : Int) := of_decide_eq_true (by first | (with_reducible assumption) | assumption)
            have hx4 := bt_at a0 x3_1
            replace p4 := eq_true p4
            replace q4 := eq_true q4
            go_wp2_with (first | ((with_reducible refine gate_callee (f := 40) rfl ?_); refine goesL_ (some 13) rfl rfl Tryd.func40 (by kernel_rfl) rfl #[.int .u8 (bt a0 x3_1)] rfl (by (try simp only [List.map_toArray, List.map_cons, List.map_nil]); first | done | rfl | (simp only [List.length_drop, List.length_take]; rfl)) ?_; (with_reducible refine (longcaseref08_letter.calls (bt a0 x3_1) true _ A5.out).mono ?_); rintro e w' ⟨rfl, ⟨nd, rfl⟩⟩; refine ⟨_, rfl, ?_⟩))
            go_roundg k1
            case measure => have := HK1.out; omega
            case rel => exact ⟨(wrap64 (x3_1 + 1)), (by first | rfl | (simp; done) | (simp [*]; done)), H', ⟨by have := HK1.out; omega⟩, by repeat (first | exact Drawn0.refl _ | apply Drawn0.step)⟩
          · replace c6 := Bool.eq_false_iff.mpr c6
            subst c6
            have H1 : (some false) = some r := by rw [if_neg (show ¬ (false = true) by decide)] at H; exact H
            clear H
            have H := H1
            clear H1
            obtain rfl := Option.some.inj H
            have p4 : 0 ≤ (x3_1 : Int) := of_decide_eq_true (by first | (with_reducible assumption) | assumption)
            have q4 : x3_1 < (a0.size : Int) := of_decide_eq_true (by first | (with_reducible assumption) | assumption)
            have hx4 := bt_at a0 x3_1
            replace p4 := eq_true p4
            replace q4 := eq_true q4
            go_wp2_with (first | ((with_reducible refine gate_callee (f := 40) rfl ?_); refine goesL_ (some 13) rfl rfl Tryd.func40 (by kernel_rfl) rfl #[.int .u8 (bt a0 x3_1)] rfl (by (try simp only [List.map_toArray, List.map_cons, List.map_nil]); first | done | rfl | (simp only [List.length_drop, List.length_take]; rfl)) ?_; (with_reducible refine (longcaseref08_letter.calls (bt a0 x3_1) false _ A5.out).mono ?_); rintro e w' ⟨rfl, ⟨nd, rfl⟩⟩; refine ⟨_, rfl, ?_⟩))
            go_ret
            exact ⟨by first | rfl | (simp; done) | (simp [*]; done), by repeat (first | exact Drawn0.refl _ | apply Drawn0.step)⟩
        · rw [if_neg c3] at H
          exact absurd H (by simp)
      · rw [if_neg c2] at H
        have c2b0 : decide (x3_1 < (a0.size : Int)) = false := decide_eq_false c2
        clear c2
        obtain rfl := Option.some.inj H
        go_wp2
        go_ret
        exact ⟨by first | rfl | (simp; done) | (simp [*]; done), by repeat (first | exact Drawn0.refl _ | apply Drawn0.step)⟩
end Go.Proofs.YtnbjneknicppcaaDoor.Fn

namespace Go.Proofs.YtnbjneknicppcaaDoor.Fn
open Go.RowKit Go.Proofs.YtnbjneknicppcaaDoorW.PrintWords Go.Proofs.YtnbjneknicppcaaDoorW.PrintLast Go.Proofs.YtnbjneknicppcaaDoorW.PrintMore
attribute [local go_sem] max2_int min2_int max_two min_two max_three min_three max_four min_four
set_option linter.unusedVariables false
set_option linter.unusedSimpArgs false
/-! ### longcaseref08_named: function 32 -/
def longcaseref08_named.f (k : Nat) (a0 : ByteArray) : Option (ByteArray) := (longcaseref08_plain.f k a0).bind fun t189 => (if t189 = true then (some a0) else (if 1 + a0.size ≤ 9223372036854775807 then (if ((⟨#[60]⟩ : ByteArray) ++ a0).size + 1 ≤ 9223372036854775807 then (some (((⟨#[60]⟩ : ByteArray) ++ a0) ++ (⟨#[62]⟩ : ByteArray))) else (none)) else (none)))
theorem longcaseref08_named.mono : ∀ a0 k, LeO (longcaseref08_named.f k a0) (longcaseref08_named.f (k + 1) a0) := by
  intro a0 k
  unfold longcaseref08_named.f
  repeat' first
      | (with_reducible exact longcaseref08_plain.mono _ _)
      | (with_reducible exact LeO.refl _)
      | (with_reducible exact LeO.none _)
      | (with_reducible refine LeO.ite ?_ ?_)
      | (with_reducible refine LeO.bind ?_ (fun _ => ?_))
      | exact longcaseref08_plain.mono _ _
      | exact LeO.none _
      | refine LeO.ite ?_ ?_
      | refine LeO.bind ?_ (fun _ => ?_)
set_option maxHeartbeats 8000000 in
set_option maxRecDepth 100000 in
theorem longcaseref08_named.calls (k : Nat) (a0 : ByteArray) (r : ByteArray) (w : World) (h : longcaseref08_named.f k a0 = some r) :
    Calls Tryd.prog 32 #[.string a0] w fun e w' => e = .returned (.string r) ∧ Drawn0 w w' := by
  have H : ((longcaseref08_plain.f k a0).bind fun t189 => (if t189 = true then (some a0) else (if 1 + a0.size ≤ 9223372036854775807 then (if ((⟨#[60]⟩ : ByteArray) ++ a0).size + 1 ≤ 9223372036854775807 then (some (((⟨#[60]⟩ : ByteArray) ++ a0) ++ (⟨#[62]⟩ : ByteArray))) else (none)) else (none)))) = some r := h
  clear h
  replace H := Option.bind_eq_some_iff.mp H
  obtain ⟨t189, A20, H⟩ := H
  replace H : (if t189 = true then (some a0) else (if 1 + a0.size ≤ 9223372036854775807 then (if ((⟨#[60]⟩ : ByteArray) ++ a0).size + 1 ≤ 9223372036854775807 then (some (((⟨#[60]⟩ : ByteArray) ++ a0) ++ (⟨#[62]⟩ : ByteArray))) else (none)) else (none))) = some r := H
  have A2 := Aside0.mk A20
  clear A20
  by_cases c3 : t189 = true
  · subst c3
    have H1 : (some a0) = some r := by rw [if_pos rfl] at H; exact H
    clear H
    have H := H1
    clear H1
    obtain rfl := Option.some.inj H
    go_enter Tryd.func32, Tryd.ntmps32
    go_wp2_with (first | ((with_reducible refine gate_callee (f := 49) rfl ?_); refine goesL_ (some 5) rfl rfl Tryd.func49 (by kernel_rfl) rfl #[.string a0] rfl (by (try simp only [List.map_toArray, List.map_cons, List.map_nil]); first | done | rfl | (simp only [List.length_drop, List.length_take]; rfl)) ?_; (with_reducible refine (longcaseref08_plain.calls k a0 true _ A2.out).mono ?_); rintro e w' ⟨rfl, ⟨nd, rfl⟩⟩; refine ⟨_, rfl, ?_⟩))
    go_ret
    exact ⟨by first | rfl | (simp; done) | (simp [*]; done), by repeat (first | exact Drawn0.refl _ | apply Drawn0.step)⟩
  · replace c3 := Bool.eq_false_iff.mpr c3
    subst c3
    have H1 : (if 1 + a0.size ≤ 9223372036854775807 then (if ((⟨#[60]⟩ : ByteArray) ++ a0).size + 1 ≤ 9223372036854775807 then (some (((⟨#[60]⟩ : ByteArray) ++ a0) ++ (⟨#[62]⟩ : ByteArray))) else (none)) else (none)) = some r := by rw [if_neg (show ¬ (false = true) by decide)] at H; exact H
    clear H
    have H := H1
    clear H1
    by_cases c4 : 1 + a0.size ≤ 9223372036854775807
    · rw [if_pos c4] at H
      have c4b0 := eq_true c4
      have c4b1 : decide (1 + a0.size ≤ 9223372036854775807) = true := decide_eq_true c4
      try have c4b2 : (9223372036854775807 < 1 + a0.size) = False := eq_false (Nat.not_lt.2 c4)
      by_cases c5 : ((⟨#[60]⟩ : ByteArray) ++ a0).size + 1 ≤ 9223372036854775807
      · rw [if_pos c5] at H
        have c5b0 := eq_true c5
        have c5b1 : decide (((⟨#[60]⟩ : ByteArray) ++ a0).size + 1 ≤ 9223372036854775807) = true := decide_eq_true c5
        try have c5b2 : (9223372036854775807 < ((⟨#[60]⟩ : ByteArray) ++ a0).size + 1) = False := eq_false (Nat.not_lt.2 c5)
        have c5z0 : (1 + a0.size) + 1 ≤ 9223372036854775807 := by have z_ := c5; simp only [ByteArray.size_append] at z_; exact z_
        try have c5z1 : (9223372036854775807 < (1 + a0.size) + 1) = False := eq_false (Nat.not_lt.2 c5z0)
        obtain rfl := Option.some.inj H
        go_enter Tryd.func32, Tryd.ntmps32
        go_wp2_with (first | ((with_reducible refine gate_callee (f := 49) rfl ?_); refine goesL_ (some 5) rfl rfl Tryd.func49 (by kernel_rfl) rfl #[.string a0] rfl (by (try simp only [List.map_toArray, List.map_cons, List.map_nil]); first | done | rfl | (simp only [List.length_drop, List.length_take]; rfl)) ?_; (with_reducible refine (longcaseref08_plain.calls k a0 false _ A2.out).mono ?_); rintro e w' ⟨rfl, ⟨nd, rfl⟩⟩; refine ⟨_, rfl, ?_⟩))
        go_ret
        exact ⟨by first | rfl | (simp; done) | (simp [*]; done), by repeat (first | exact Drawn0.refl _ | apply Drawn0.step)⟩
      · rw [if_neg c5] at H
        exact absurd H (by simp)
    · rw [if_neg c4] at H
      exact absurd H (by simp)
end Go.Proofs.YtnbjneknicppcaaDoor.Fn
