/- Part 4 of the texts for LRuleTells: contracts and plain laws that it leans on. -/
import Derived.Test.YtgbehcahdgamoaaDoorZRuleTells2
import Derived.Test.YtgbehcahdgamoaaDoorZRuleTells3
import Derived.Shelf.SlSortCmp.InsertionK
import Derived.Shelf.SlicesQ.IndexFunc
import Derived.Ground.SlsfProg
import Derived.Ground.SlgfProg
import Derived.Test.YtgbehcahdgamoaaDoorProg
import Derived.Sort.LotA
import Derived.Lib.OwnBridge
import Derived.Lib.AppendIntMem
import Derived.Lib.SmallJoins
namespace Go.Proofs.YtgbehcahdgamoaaDoor.Fn
open Go.RowKit Go.Proofs.YtgbehcahdgamoaaDoorW.PrintWords Go.Proofs.YtgbehcahdgamoaaDoorW.PrintLast Go.Proofs.YtgbehcahdgamoaaDoorW.PrintMore
set_option linter.unusedVariables false
set_option linter.unusedSimpArgs false
/-! ### longcaseref08_Change: function 20 -/
def longcaseref08_Change.j0 : Nat → Bool → Int → Int → Int → Int → Int → Option (Bool)
  | 0, _, _, _, _, _, _ => none
  | k + 1, x29, x159000, x159001, x159002, x159003, x159004 => if x29 = true then (some false) else (if x159000 = 1 then (if x159001 ≥ 1 then (if x159001 ≤ 365 then (if x159002 = 0 then (some (x159003 == 0)) else (some false)) else (some false)) else (some false)) else (if x159000 = 2 then (if x159001 ≥ 0 then (if x159001 ≤ 365 then (if x159002 = 0 then (some (x159003 == 0)) else (some false)) else (some false)) else (some false)) else (if x159000 = 3 then (if x159001 ≥ 1 then (if x159001 ≤ 12 then (if x159002 ≥ 1 then (if x159002 ≤ 5 then (if x159003 ≥ 0 then (some (decide (x159003 ≤ 6))) else (some false)) else (some false)) else (some false)) else (some false)) else (some false)) else (some false))))
def longcaseref08_Change.f (k : Nat) (a0_0 : Int) (a0_1 : Int) (a0_2 : Int) (a0_3 : Int) (a0_4 : Int) (a1 : Bool) : Option (Bool) := if a1 = true then (if a0_4 < (-604799) then (longcaseref08_Change.j0 k true a0_0 a0_1 a0_2 a0_3 a0_4) else (if a0_4 > 604799 then (longcaseref08_Change.j0 k true a0_0 a0_1 a0_2 a0_3 a0_4) else (longcaseref08_Change.j0 k false a0_0 a0_1 a0_2 a0_3 a0_4))) else (if a0_4 < 0 then (longcaseref08_Change.j0 k true a0_0 a0_1 a0_2 a0_3 a0_4) else (longcaseref08_Change.j0 k (decide (a0_4 > 89999)) a0_0 a0_1 a0_2 a0_3 a0_4))
theorem longcaseref08_Change.mono_l : ∀ k, (∀ y0 y1 y2 y3 y4 y5, LeO (longcaseref08_Change.j0 k y0 y1 y2 y3 y4 y5) (longcaseref08_Change.j0 (k + 1) y0 y1 y2 y3 y4 y5))
  | 0 => fun _ _ _ _ _ _ r h => by simp [longcaseref08_Change.j0] at h
  | k + 1 => by
    have ih0 := longcaseref08_Change.mono_l k
    · intro y0 y1 y2 y3 y4 y5
      unfold longcaseref08_Change.j0
      repeat' first
      | (with_reducible exact ih0 _ _ _ _ _ _)
      | (with_reducible exact LeO.refl _)
      | (with_reducible exact LeO.none _)
      | (with_reducible refine LeO.ite ?_ ?_)
      | (with_reducible refine LeO.bind ?_ (fun _ => ?_))
      | exact ih0 _ _ _ _ _ _
      | exact LeO.none _
      | refine LeO.ite ?_ ?_
      | refine LeO.bind ?_ (fun _ => ?_)
theorem longcaseref08_Change.mono : ∀ a0 a1 a2 a3 a4 a5 k, LeO (longcaseref08_Change.f k a0 a1 a2 a3 a4 a5) (longcaseref08_Change.f (k + 1) a0 a1 a2 a3 a4 a5) := by
  intro a0 a1 a2 a3 a4 a5 k
  have ih0 := longcaseref08_Change.mono_l k
  unfold longcaseref08_Change.f
  repeat' first
      | (with_reducible exact ih0 _ _ _ _ _ _)
      | (with_reducible exact LeO.refl _)
      | (with_reducible exact LeO.none _)
      | (with_reducible refine LeO.ite ?_ ?_)
      | (with_reducible refine LeO.bind ?_ (fun _ => ?_))
      | exact ih0 _ _ _ _ _ _
      | exact LeO.none _
      | refine LeO.ite ?_ ?_
      | refine LeO.bind ?_ (fun _ => ?_)
set_option maxHeartbeats 8000000 in
set_option maxRecDepth 100000 in
theorem longcaseref08_Change.calls (k : Nat) (a0_0 : Int) (a0_1 : Int) (a0_2 : Int) (a0_3 : Int) (a0_4 : Int) (a1 : Bool) (r : Bool) (w : World) (h : longcaseref08_Change.f k a0_0 a0_1 a0_2 a0_3 a0_4 a1 = some r) :
    Calls Tryd.prog 20 #[.agg #[.int .i64 a0_0, .int .i64 a0_1, .int .i64 a0_2, .int .i64 a0_3, .int .i64 a0_4], .bool a1] w fun e w' => e = .returned (.bool r) ∧ Below w.heap.size w w' := by
  have hu25 := Tryd.underlying25
  have HB := Aside0.mk (Below.refl w.heap.size w)
  have H : (if a1 = true then (if a0_4 < (-604799) then (longcaseref08_Change.j0 k true a0_0 a0_1 a0_2 a0_3 a0_4) else (if a0_4 > 604799 then (longcaseref08_Change.j0 k true a0_0 a0_1 a0_2 a0_3 a0_4) else (longcaseref08_Change.j0 k false a0_0 a0_1 a0_2 a0_3 a0_4))) else (if a0_4 < 0 then (longcaseref08_Change.j0 k true a0_0 a0_1 a0_2 a0_3 a0_4) else (longcaseref08_Change.j0 k (decide (a0_4 > 89999)) a0_0 a0_1 a0_2 a0_3 a0_4))) = some r := h
  clear h
  have HC3 := Aside0.mk H
  clear H
  go_enter Tryd.func20, Tryd.ntmps20
  go_upto_region 1 with (first | ((with_reducible refine gate_dst (N := 2) rfl ?_); refine box_event ?hg (N := 2) ?hd (cs := #[.int .i64 a0_0, .int .i64 a0_1, .int .i64 a0_2, .int .i64 a0_3, .int .i64 a0_4]) (t := 25) ?hr ?_; (case hd => rfl); (case hg => rfl); (case hr => first | (go_simp; done) | (go_simp; rfl)); intro gb158 hg w4 hbox hb; have n0_ := Aside0.mk (below_step (by repeat (first | (with_reducible first | exact HB.out | apply below_alloc | apply pw_below_drewN | apply below_drew1) | exact HB.out)) hb); have n1_ := Aside0.mk (hbox); have n2_ := Aside0.mk ((by rw [hg]; exact (below_size (by repeat (first | (with_reducible first | exact HB.out | apply below_alloc | apply pw_below_drewN | apply below_drew1) | exact HB.out))) : w.heap.size ≤ gb158)); have n3_ := Aside0.mk ((by rw [hg]; exact (below_size (by repeat (first | (with_reducible first | exact HB.out | apply below_alloc | apply pw_below_drewN | apply below_drew1) | exact HB.out))) : w.heap.size ≤ gb158)); clear HB; have HB := n0_; have BK158 := n1_; have GW158 := n2_; have GE158 := n3_; clear n0_ n1_ n2_ n3_; clear hb hbox hg))
  (try simp only [Act.put, List.setIfInBounds_toArray, List.set_cons_zero, List.set_cons_succ])
  go_cut [29] (fun v29 wc => ∃ (kq : Nat) (x29_2 : Bool), v29 = .bool x29_2 ∧ Aside0 (longcaseref08_Change.j0 kq x29_2 a0_0 a0_1 a0_2 a0_3 a0_4 = some r) ∧ Aside0 (kq ≤ k) ∧ Aside0 (wc.heap[gb158]? = some (.cells #[.int .i64 a0_0, .int .i64 a0_1, .int .i64 a0_2, .int .i64 a0_3, .int .i64 a0_4] 25 (0, 0))) ∧ Aside0 (Below w.heap.size w wc))
  case first =>
    have H := HC3.out
    clear HC3
    by_cases c5 : a1 = true
    · subst c5
      have H1 : (if a0_4 < (-604799) then (longcaseref08_Change.j0 k true a0_0 a0_1 a0_2 a0_3 a0_4) else (if a0_4 > 604799 then (longcaseref08_Change.j0 k true a0_0 a0_1 a0_2 a0_3 a0_4) else (longcaseref08_Change.j0 k false a0_0 a0_1 a0_2 a0_3 a0_4))) = some r := by rw [if_pos rfl] at H; exact H
      clear H
      have H := H1
      clear H1
      by_cases c6 : a0_4 < (-604799)
      · rw [if_pos c6] at H
        have c6b0 : decide (a0_4 < (-604799)) = true := decide_eq_true c6
        clear c6
        (first | rw [c6b0] | (simp only [i64_w, i32_w]; rw [c6b0]) | skip)
        have H' := Aside0.mk H
        clear H
        have hcz7_0 : w4.cell? ⟨gb158, 0, none⟩ = some (.int .i64 a0_0) := (blk_cell BK158.out 0).trans rfl
        have hcz7_1 : w4.cell? ⟨gb158, 1, none⟩ = some (.int .i64 a0_1) := (blk_cell BK158.out 1).trans rfl
        have hcz7_2 : w4.cell? ⟨gb158, 2, none⟩ = some (.int .i64 a0_2) := (blk_cell BK158.out 2).trans rfl
        have hcz7_3 : w4.cell? ⟨gb158, 3, none⟩ = some (.int .i64 a0_3) := (blk_cell BK158.out 3).trans rfl
        have hcz7_4 : w4.cell? ⟨gb158, 4, none⟩ = some (.int .i64 a0_4) := (blk_cell BK158.out 4).trans rfl
        have hfz7_0 := blk_frozen BK158.out 0
        have hfz7_1 := blk_frozen BK158.out 1
        have hfz7_2 := blk_frozen BK158.out 2
        have hfz7_3 := blk_frozen BK158.out 3
        have hfz7_4 := blk_frozen BK158.out 4
        go_wp2
        go_meet
        case rel => exact ⟨_, (true), (by first | rfl | (simp; done) | (simp [*]; done)), H', ⟨by first | omega | exact Nat.le_refl _⟩, ⟨by (with_reducible repeat (first | refine blk_drewN ?_ _ | refine blk_drew ?_ | refine blk_alloc ?_ _)); exact BK158.out⟩, ⟨by repeat (first | (with_reducible first | exact HB.out | apply below_alloc | apply pw_below_drewN | apply below_drew1 | refine below_set ?_ GE158.out) | exact HB.out)⟩⟩
      · rw [if_neg c6] at H
        have c6b0 : decide (a0_4 < (-604799)) = false := decide_eq_false c6
        clear c6
        (first | rw [c6b0] | (simp only [i64_w, i32_w]; rw [c6b0]) | skip)
        by_cases c8 : a0_4 > 604799
        · rw [if_pos c8] at H
          have c8b0 : decide (604799 < a0_4) = true := decide_eq_true c8
          clear c8
          have H' := Aside0.mk H
          clear H
          have hcz9_0 : w4.cell? ⟨gb158, 0, none⟩ = some (.int .i64 a0_0) := (blk_cell BK158.out 0).trans rfl
          have hcz9_1 : w4.cell? ⟨gb158, 1, none⟩ = some (.int .i64 a0_1) := (blk_cell BK158.out 1).trans rfl
          have hcz9_2 : w4.cell? ⟨gb158, 2, none⟩ = some (.int .i64 a0_2) := (blk_cell BK158.out 2).trans rfl
          have hcz9_3 : w4.cell? ⟨gb158, 3, none⟩ = some (.int .i64 a0_3) := (blk_cell BK158.out 3).trans rfl
          have hcz9_4 : w4.cell? ⟨gb158, 4, none⟩ = some (.int .i64 a0_4) := (blk_cell BK158.out 4).trans rfl
          have hfz9_0 := blk_frozen BK158.out 0
          have hfz9_1 := blk_frozen BK158.out 1
          have hfz9_2 := blk_frozen BK158.out 2
          have hfz9_3 := blk_frozen BK158.out 3
          have hfz9_4 := blk_frozen BK158.out 4
          go_wp2
          go_meet
          case rel => exact ⟨_, (true), (by first | rfl | (simp; done) | (simp [*]; done)), H', ⟨by first | omega | exact Nat.le_refl _⟩, ⟨by (with_reducible repeat (first | refine blk_drewN ?_ _ | refine blk_drew ?_ | refine blk_alloc ?_ _)); exact BK158.out⟩, ⟨by repeat (first | (with_reducible first | exact HB.out | apply below_alloc | apply pw_below_drewN | apply below_drew1 | refine below_set ?_ GE158.out) | exact HB.out)⟩⟩
        · rw [if_neg c8] at H
          have c8b0 : decide (604799 < a0_4) = false := decide_eq_false c8
          clear c8
          have H' := Aside0.mk H
          clear H
          have hcz10_0 : w4.cell? ⟨gb158, 0, none⟩ = some (.int .i64 a0_0) := (blk_cell BK158.out 0).trans rfl
          have hcz10_1 : w4.cell? ⟨gb158, 1, none⟩ = some (.int .i64 a0_1) := (blk_cell BK158.out 1).trans rfl
          have hcz10_2 : w4.cell? ⟨gb158, 2, none⟩ = some (.int .i64 a0_2) := (blk_cell BK158.out 2).trans rfl
          have hcz10_3 : w4.cell? ⟨gb158, 3, none⟩ = some (.int .i64 a0_3) := (blk_cell BK158.out 3).trans rfl
          have hcz10_4 : w4.cell? ⟨gb158, 4, none⟩ = some (.int .i64 a0_4) := (blk_cell BK158.out 4).trans rfl
          have hfz10_0 := blk_frozen BK158.out 0
          have hfz10_1 := blk_frozen BK158.out 1
          have hfz10_2 := blk_frozen BK158.out 2
          have hfz10_3 := blk_frozen BK158.out 3
          have hfz10_4 := blk_frozen BK158.out 4
          go_wp2
          go_meet
          case rel => exact ⟨_, (false), (by first | rfl | (simp; done) | (simp [*]; done)), H', ⟨by first | omega | exact Nat.le_refl _⟩, ⟨by (with_reducible repeat (first | refine blk_drewN ?_ _ | refine blk_drew ?_ | refine blk_alloc ?_ _)); exact BK158.out⟩, ⟨by repeat (first | (with_reducible first | exact HB.out | apply below_alloc | apply pw_below_drewN | apply below_drew1 | refine below_set ?_ GE158.out) | exact HB.out)⟩⟩
    · replace c5 := Bool.eq_false_iff.mpr c5
      subst c5
      have H1 : (if a0_4 < 0 then (longcaseref08_Change.j0 k true a0_0 a0_1 a0_2 a0_3 a0_4) else (longcaseref08_Change.j0 k (decide (a0_4 > 89999)) a0_0 a0_1 a0_2 a0_3 a0_4)) = some r := by rw [if_neg (show ¬ (false = true) by decide)] at H; exact H
      clear H
      have H := H1
      clear H1
      by_cases c11 : a0_4 < 0
      · rw [if_pos c11] at H
        have c11b0 : decide (a0_4 < 0) = true := decide_eq_true c11
        clear c11
        have H' := Aside0.mk H
        clear H
        have hcz12_0 : w4.cell? ⟨gb158, 0, none⟩ = some (.int .i64 a0_0) := (blk_cell BK158.out 0).trans rfl
        have hcz12_1 : w4.cell? ⟨gb158, 1, none⟩ = some (.int .i64 a0_1) := (blk_cell BK158.out 1).trans rfl
        have hcz12_2 : w4.cell? ⟨gb158, 2, none⟩ = some (.int .i64 a0_2) := (blk_cell BK158.out 2).trans rfl
        have hcz12_3 : w4.cell? ⟨gb158, 3, none⟩ = some (.int .i64 a0_3) := (blk_cell BK158.out 3).trans rfl
        have hcz12_4 : w4.cell? ⟨gb158, 4, none⟩ = some (.int .i64 a0_4) := (blk_cell BK158.out 4).trans rfl
        have hfz12_0 := blk_frozen BK158.out 0
        have hfz12_1 := blk_frozen BK158.out 1
        have hfz12_2 := blk_frozen BK158.out 2
        have hfz12_3 := blk_frozen BK158.out 3
        have hfz12_4 := blk_frozen BK158.out 4
        go_wp2
        go_meet
        case rel => exact ⟨_, (true), (by first | rfl | (simp; done) | (simp [*]; done)), H', ⟨by first | omega | exact Nat.le_refl _⟩, ⟨by (with_reducible repeat (first | refine blk_drewN ?_ _ | refine blk_drew ?_ | refine blk_alloc ?_ _)); exact BK158.out⟩, ⟨by repeat (first | (with_reducible first | exact HB.out | apply below_alloc | apply pw_below_drewN | apply below_drew1 | refine below_set ?_ GE158.out) | exact HB.out)⟩⟩
      · rw [if_neg c11] at H
        have c11b0 : decide (a0_4 < 0) = false := decide_eq_false c11
        clear c11
        have H' := Aside0.mk H
        clear H
        have hcz13_0 : w4.cell? ⟨gb158, 0, none⟩ = some (.int .i64 a0_0) := (blk_cell BK158.out 0).trans rfl
        have hcz13_1 : w4.cell? ⟨gb158, 1, none⟩ = some (.int .i64 a0_1) := (blk_cell BK158.out 1).trans rfl
        have hcz13_2 : w4.cell? ⟨gb158, 2, none⟩ = some (.int .i64 a0_2) := (blk_cell BK158.out 2).trans rfl
        have hcz13_3 : w4.cell? ⟨gb158, 3, none⟩ = some (.int .i64 a0_3) := (blk_cell BK158.out 3).trans rfl
        have hcz13_4 : w4.cell? ⟨gb158, 4, none⟩ = some (.int .i64 a0_4) := (blk_cell BK158.out 4).trans rfl
        have hfz13_0 := blk_frozen BK158.out 0
        have hfz13_1 := blk_frozen BK158.out 1
        have hfz13_2 := blk_frozen BK158.out 2
        have hfz13_3 := blk_frozen BK158.out 3
        have hfz13_4 := blk_frozen BK158.out 4
        go_wp2
        go_meet
        case rel => exact ⟨_, (decide (a0_4 > 89999)), (by first | rfl | (simp; done) | (simp [*]; done)), H', ⟨by first | omega | exact Nat.le_refl _⟩, ⟨by (with_reducible repeat (first | refine blk_drewN ?_ _ | refine blk_drew ?_ | refine blk_alloc ?_ _)); exact BK158.out⟩, ⟨by repeat (first | (with_reducible first | exact HB.out | apply below_alloc | apply pw_below_drewN | apply below_drew1 | refine below_set ?_ GE158.out) | exact HB.out)⟩⟩
  case rest =>
    clear HC3
    try clear c1
    try clear c2
    try clear p2
    try clear c5
    try clear c6
    try clear c6b0
    try clear c8
    try clear c8b0
    try clear c11
    try clear c11b0
    try clear hcz10_0
    try clear hcz10_1
    try clear hcz10_2
    try clear hcz10_3
    try clear hcz10_4
    try clear hcz12_0
    try clear hcz12_1
    try clear hcz12_2
    try clear hcz12_3
    try clear hcz12_4
    try clear hcz13_0
    try clear hcz13_1
    try clear hcz13_2
    try clear hcz13_3
    try clear hcz13_4
    try clear hcz7_0
    try clear hcz7_1
    try clear hcz7_2
    try clear hcz7_3
    try clear hcz7_4
    try clear hcz9_0
    try clear hcz9_1
    try clear hcz9_2
    try clear hcz9_3
    try clear hcz9_4
    try clear hfz10_0
    try clear hfz10_1
    try clear hfz10_2
    try clear hfz10_3
    try clear hfz10_4
    try clear hfz12_0
    try clear hfz12_1
    try clear hfz12_2
    try clear hfz12_3
    try clear hfz12_4
    try clear hfz13_0
    try clear hfz13_1
    try clear hfz13_2
    try clear hfz13_3
    try clear hfz13_4
    try clear hfz7_0
    try clear hfz7_1
    try clear hfz7_2
    try clear hfz7_3
    try clear hfz7_4
    try clear hfz9_0
    try clear hfz9_1
    try clear hfz9_2
    try clear hfz9_3
    try clear hfz9_4
    obtain ⟨kq, x29_2, rfl, HA, HJ2, BK158, HB⟩ := hcut
    cases kq with
    | zero => exact absurd HA.out (by simp [longcaseref08_Change.j0])
    | succ kj2 =>
      have H := HA.out
      clear HA
      simp only [longcaseref08_Change.j0] at H
      by_cases c14 : x29_2 = true
      · subst c14
        have H1 : (some false) = some r := by rw [if_pos rfl] at H; exact H
        clear H
        have H := H1
        clear H1
        obtain rfl := Option.some.inj H
        go_wp2
        go_ret
        exact ⟨by first | rfl | (simp [errW_none, errW_some] <;> rfl) | (simp [*, errW_none, errW_some] <;> rfl), by repeat (first | (with_reducible first | exact HB.out | apply below_alloc | apply pw_below_drewN | apply below_drew1 | refine below_set ?_ GE158.out) | exact HB.out)⟩
      · replace c14 := Bool.eq_false_iff.mpr c14
        subst c14
        have H1 : (if a0_0 = 1 then (if a0_1 ≥ 1 then (if a0_1 ≤ 365 then (if a0_2 = 0 then (some (a0_3 == 0)) else (some false)) else (some false)) else (some false)) else (if a0_0 = 2 then (if a0_1 ≥ 0 then (if a0_1 ≤ 365 then (if a0_2 = 0 then (some (a0_3 == 0)) else (some false)) else (some false)) else (some false)) else (if a0_0 = 3 then (if a0_1 ≥ 1 then (if a0_1 ≤ 12 then (if a0_2 ≥ 1 then (if a0_2 ≤ 5 then (if a0_3 ≥ 0 then (some (decide (a0_3 ≤ 6))) else (some false)) else (some false)) else (some false)) else (some false)) else (some false)) else (some false)))) = some r := by rw [if_neg (show ¬ (false = true) by decide)] at H; exact H
        clear H
        have H := H1
        clear H1
        by_cases c15 : a0_0 = 1
        · rw [if_pos c15] at H
          have c15b0 : (a0_0 == 1) = true := beq_iff_eq.mpr c15
          have c15b1 : (a0_0 != 1) = false := bne_eq_false_iff_eq.mpr c15
          clear c15
          by_cases c16 : a0_1 ≥ 1
          · rw [if_pos c16] at H
            have c16b0 : decide (1 ≤ a0_1) = true := decide_eq_true c16
            clear c16
            by_cases c17 : a0_1 ≤ 365
            · rw [if_pos c17] at H
              have c17b0 : decide (a0_1 ≤ 365) = true := decide_eq_true c17
              clear c17
              by_cases c18 : a0_2 = 0
              · rw [if_pos c18] at H
                have c18b0 : (a0_2 == 0) = true := beq_iff_eq.mpr c18
                have c18b1 : (a0_2 != 0) = false := bne_eq_false_iff_eq.mpr c18
                clear c18
                obtain rfl := Option.some.inj H
                have hcz19_0 : wc.cell? ⟨gb158, 0, none⟩ = some (.int .i64 a0_0) := (blk_cell BK158.out 0).trans rfl
                have hcz19_1 : wc.cell? ⟨gb158, 1, none⟩ = some (.int .i64 a0_1) := (blk_cell BK158.out 1).trans rfl
                have hcz19_2 : wc.cell? ⟨gb158, 2, none⟩ = some (.int .i64 a0_2) := (blk_cell BK158.out 2).trans rfl
                have hcz19_3 : wc.cell? ⟨gb158, 3, none⟩ = some (.int .i64 a0_3) := (blk_cell BK158.out 3).trans rfl
                have hcz19_4 : wc.cell? ⟨gb158, 4, none⟩ = some (.int .i64 a0_4) := (blk_cell BK158.out 4).trans rfl
                have hfz19_0 := blk_frozen BK158.out 0
                have hfz19_1 := blk_frozen BK158.out 1
                have hfz19_2 := blk_frozen BK158.out 2
                have hfz19_3 := blk_frozen BK158.out 3
                have hfz19_4 := blk_frozen BK158.out 4
                go_wp2
                go_ret
                exact ⟨by first | rfl | (simp [errW_none, errW_some] <;> rfl) | (simp [*, errW_none, errW_some] <;> rfl), by repeat (first | (with_reducible first | exact HB.out | apply below_alloc | apply pw_below_drewN | apply below_drew1 | refine below_set ?_ GE158.out) | exact HB.out)⟩
              · rw [if_neg c18] at H
                have c18b0 : (a0_2 == 0) = false := beq_eq_false_iff_ne.mpr c18
                have c18b1 : (a0_2 != 0) = true := bne_iff_ne.mpr c18
                obtain rfl := Option.some.inj H
                have hcz20_0 : wc.cell? ⟨gb158, 0, none⟩ = some (.int .i64 a0_0) := (blk_cell BK158.out 0).trans rfl
                have hcz20_1 : wc.cell? ⟨gb158, 1, none⟩ = some (.int .i64 a0_1) := (blk_cell BK158.out 1).trans rfl
                have hcz20_2 : wc.cell? ⟨gb158, 2, none⟩ = some (.int .i64 a0_2) := (blk_cell BK158.out 2).trans rfl
                have hcz20_3 : wc.cell? ⟨gb158, 3, none⟩ = some (.int .i64 a0_3) := (blk_cell BK158.out 3).trans rfl
                have hcz20_4 : wc.cell? ⟨gb158, 4, none⟩ = some (.int .i64 a0_4) := (blk_cell BK158.out 4).trans rfl
                have hfz20_0 := blk_frozen BK158.out 0
                have hfz20_1 := blk_frozen BK158.out 1
                have hfz20_2 := blk_frozen BK158.out 2
                have hfz20_3 := blk_frozen BK158.out 3
                have hfz20_4 := blk_frozen BK158.out 4
                go_wp2
                go_ret
                exact ⟨by first | rfl | (simp [errW_none, errW_some] <;> rfl) | (simp [*, errW_none, errW_some] <;> rfl), by repeat (first | (with_reducible first | exact HB.out | apply below_alloc | apply pw_below_drewN | apply below_drew1 | refine below_set ?_ GE158.out) | exact HB.out)⟩
            · rw [if_neg c17] at H
              have c17b0 : decide (a0_1 ≤ 365) = false := decide_eq_false c17
              clear c17
              obtain rfl := Option.some.inj H
              have hcz21_0 : wc.cell? ⟨gb158, 0, none⟩ = some (.int .i64 a0_0) := (blk_cell BK158.out 0).trans rfl
              have hcz21_1 : wc.cell? ⟨gb158, 1, none⟩ = some (.int .i64 a0_1) := (blk_cell BK158.out 1).trans rfl
              have hcz21_2 : wc.cell? ⟨gb158, 2, none⟩ = some (.int .i64 a0_2) := (blk_cell BK158.out 2).trans rfl
              have hcz21_3 : wc.cell? ⟨gb158, 3, none⟩ = some (.int .i64 a0_3) := (blk_cell BK158.out 3).trans rfl
              have hcz21_4 : wc.cell? ⟨gb158, 4, none⟩ = some (.int .i64 a0_4) := (blk_cell BK158.out 4).trans rfl
              have hfz21_0 := blk_frozen BK158.out 0
              have hfz21_1 := blk_frozen BK158.out 1
              have hfz21_2 := blk_frozen BK158.out 2
              have hfz21_3 := blk_frozen BK158.out 3
              have hfz21_4 := blk_frozen BK158.out 4
              go_wp2
              go_ret
              exact ⟨by first | rfl | (simp [errW_none, errW_some] <;> rfl) | (simp [*, errW_none, errW_some] <;> rfl), by repeat (first | (with_reducible first | exact HB.out | apply below_alloc | apply pw_below_drewN | apply below_drew1 | refine below_set ?_ GE158.out) | exact HB.out)⟩
          · rw [if_neg c16] at H
            have c16b0 : decide (1 ≤ a0_1) = false := decide_eq_false c16
            clear c16
            obtain rfl := Option.some.inj H
            have hcz22_0 : wc.cell? ⟨gb158, 0, none⟩ = some (.int .i64 a0_0) := (blk_cell BK158.out 0).trans rfl
            have hcz22_1 : wc.cell? ⟨gb158, 1, none⟩ = some (.int .i64 a0_1) := (blk_cell BK158.out 1).trans rfl
            have hcz22_2 : wc.cell? ⟨gb158, 2, none⟩ = some (.int .i64 a0_2) := (blk_cell BK158.out 2).trans rfl
            have hcz22_3 : wc.cell? ⟨gb158, 3, none⟩ = some (.int .i64 a0_3) := (blk_cell BK158.out 3).trans rfl
            have hcz22_4 : wc.cell? ⟨gb158, 4, none⟩ = some (.int .i64 a0_4) := (blk_cell BK158.out 4).trans rfl
            have hfz22_0 := blk_frozen BK158.out 0
            have hfz22_1 := blk_frozen BK158.out 1
            have hfz22_2 := blk_frozen BK158.out 2
            have hfz22_3 := blk_frozen BK158.out 3
            have hfz22_4 := blk_frozen BK158.out 4
            go_wp2
            go_ret
            exact ⟨by first | rfl | (simp [errW_none, errW_some] <;> rfl) | (simp [*, errW_none, errW_some] <;> rfl), by repeat (first | (with_reducible first | exact HB.out | apply below_alloc | apply pw_below_drewN | apply below_drew1 | refine below_set ?_ GE158.out) | exact HB.out)⟩
        · rw [if_neg c15] at H
          have c15b0 : (a0_0 == 1) = false := beq_eq_false_iff_ne.mpr c15
          have c15b1 : (a0_0 != 1) = true := bne_iff_ne.mpr c15
          by_cases c23 : a0_0 = 2
          · rw [if_pos c23] at H
            have c23b0 : (a0_0 == 2) = true := beq_iff_eq.mpr c23
            have c23b1 : (a0_0 != 2) = false := bne_eq_false_iff_eq.mpr c23
            clear c23
            by_cases c24 : a0_1 ≥ 0
            · rw [if_pos c24] at H
              have c24b0 : decide (0 ≤ a0_1) = true := decide_eq_true c24
              clear c24
              by_cases c25 : a0_1 ≤ 365
              · rw [if_pos c25] at H
                have c25b0 : decide (a0_1 ≤ 365) = true := decide_eq_true c25
                clear c25
                by_cases c26 : a0_2 = 0
                · rw [if_pos c26] at H
                  have c26b0 : (a0_2 == 0) = true := beq_iff_eq.mpr c26
                  have c26b1 : (a0_2 != 0) = false := bne_eq_false_iff_eq.mpr c26
                  clear c26
                  obtain rfl := Option.some.inj H
                  have hcz27_0 : wc.cell? ⟨gb158, 0, none⟩ = some (.int .i64 a0_0) := (blk_cell BK158.out 0).trans rfl
                  have hcz27_1 : wc.cell? ⟨gb158, 1, none⟩ = some (.int .i64 a0_1) := (blk_cell BK158.out 1).trans rfl
                  have hcz27_2 : wc.cell? ⟨gb158, 2, none⟩ = some (.int .i64 a0_2) := (blk_cell BK158.out 2).trans rfl
                  have hcz27_3 : wc.cell? ⟨gb158, 3, none⟩ = some (.int .i64 a0_3) := (blk_cell BK158.out 3).trans rfl
                  have hcz27_4 : wc.cell? ⟨gb158, 4, none⟩ = some (.int .i64 a0_4) := (blk_cell BK158.out 4).trans rfl
                  have hfz27_0 := blk_frozen BK158.out 0
                  have hfz27_1 := blk_frozen BK158.out 1
                  have hfz27_2 := blk_frozen BK158.out 2
                  have hfz27_3 := blk_frozen BK158.out 3
                  have hfz27_4 := blk_frozen BK158.out 4
                  go_wp2
                  go_ret
                  exact ⟨by first | rfl | (simp [errW_none, errW_some] <;> rfl) | (simp [*, errW_none, errW_some] <;> rfl), by repeat (first | (with_reducible first | exact HB.out | apply below_alloc | apply pw_below_drewN | apply below_drew1 | refine below_set ?_ GE158.out) | exact HB.out)⟩
                · rw [if_neg c26] at H
                  have c26b0 : (a0_2 == 0) = false := beq_eq_false_iff_ne.mpr c26
                  have c26b1 : (a0_2 != 0) = true := bne_iff_ne.mpr c26
                  obtain rfl := Option.some.inj H
                  have hcz28_0 : wc.cell? ⟨gb158, 0, none⟩ = some (.int .i64 a0_0) := (blk_cell BK158.out 0).trans rfl
                  have hcz28_1 : wc.cell? ⟨gb158, 1, none⟩ = some (.int .i64 a0_1) := (blk_cell BK158.out 1).trans rfl
                  have hcz28_2 : wc.cell? ⟨gb158, 2, none⟩ = some (.int .i64 a0_2) := (blk_cell BK158.out 2).trans rfl
                  have hcz28_3 : wc.cell? ⟨gb158, 3, none⟩ = some (.int .i64 a0_3) := (blk_cell BK158.out 3).trans rfl
                  have hcz28_4 : wc.cell? ⟨gb158, 4, none⟩ = some (.int .i64 a0_4) := (blk_cell BK158.out 4).trans rfl
                  have hfz28_0 := blk_frozen BK158.out 0
                  have hfz28_1 := blk_frozen BK158.out 1
                  have hfz28_2 := blk_frozen BK158.out 2
                  have hfz28_3 := blk_frozen BK158.out 3
                  have hfz28_4 := blk_frozen BK158.out 4
                  go_wp2
                  go_ret
                  exact ⟨by first | rfl | (simp [errW_none, errW_some] <;> rfl) | (simp [*, errW_none, errW_some] <;> rfl), by repeat (first | (with_reducible first | exact HB.out | apply below_alloc | apply pw_below_drewN | apply below_drew1 | refine below_set ?_ GE158.out) | exact HB.out)⟩
              · rw [if_neg c25] at H
                have c25b0 : decide (a0_1 ≤ 365) = false := decide_eq_false c25
                clear c25
                obtain rfl := Option.some.inj H
                have hcz29_0 : wc.cell? ⟨gb158, 0, none⟩ = some (.int .i64 a0_0) := (blk_cell BK158.out 0).trans rfl
                have hcz29_1 : wc.cell? ⟨gb158, 1, none⟩ = some (.int .i64 a0_1) := (blk_cell BK158.out 1).trans rfl
                have hcz29_2 : wc.cell? ⟨gb158, 2, none⟩ = some (.int .i64 a0_2) := (blk_cell BK158.out 2).trans rfl
                have hcz29_3 : wc.cell? ⟨gb158, 3, none⟩ = some (.int .i64 a0_3) := (blk_cell BK158.out 3).trans rfl
                have hcz29_4 : wc.cell? ⟨gb158, 4, none⟩ = some (.int .i64 a0_4) := (blk_cell BK158.out 4).trans rfl
                have hfz29_0 := blk_frozen BK158.out 0
                have hfz29_1 := blk_frozen BK158.out 1
                have hfz29_2 := blk_frozen BK158.out 2
                have hfz29_3 := blk_frozen BK158.out 3
                have hfz29_4 := blk_frozen BK158.out 4
                go_wp2
                go_ret
                exact ⟨by first | rfl | (simp [errW_none, errW_some] <;> rfl) | (simp [*, errW_none, errW_some] <;> rfl), by repeat (first | (with_reducible first | exact HB.out | apply below_alloc | apply pw_below_drewN | apply below_drew1 | refine below_set ?_ GE158.out) | exact HB.out)⟩
            · rw [if_neg c24] at H
              have c24b0 : decide (0 ≤ a0_1) = false := decide_eq_false c24
              clear c24
              obtain rfl := Option.some.inj H
              have hcz30_0 : wc.cell? ⟨gb158, 0, none⟩ = some (.int .i64 a0_0) := (blk_cell BK158.out 0).trans rfl
              have hcz30_1 : wc.cell? ⟨gb158, 1, none⟩ = some (.int .i64 a0_1) := (blk_cell BK158.out 1).trans rfl
              have hcz30_2 : wc.cell? ⟨gb158, 2, none⟩ = some (.int .i64 a0_2) := (blk_cell BK158.out 2).trans rfl
              have hcz30_3 : wc.cell? ⟨gb158, 3, none⟩ = some (.int .i64 a0_3) := (blk_cell BK158.out 3).trans rfl
              have hcz30_4 : wc.cell? ⟨gb158, 4, none⟩ = some (.int .i64 a0_4) := (blk_cell BK158.out 4).trans rfl
              have hfz30_0 := blk_frozen BK158.out 0
              have hfz30_1 := blk_frozen BK158.out 1
              have hfz30_2 := blk_frozen BK158.out 2
              have hfz30_3 := blk_frozen BK158.out 3
              have hfz30_4 := blk_frozen BK158.out 4
              go_wp2
              go_ret
              exact ⟨by first | rfl | (simp [errW_none, errW_some] <;> rfl) | (simp [*, errW_none, errW_some] <;> rfl), by repeat (first | (with_reducible first | exact HB.out | apply below_alloc | apply pw_below_drewN | apply below_drew1 | refine below_set ?_ GE158.out) | exact HB.out)⟩
          · rw [if_neg c23] at H
            have c23b0 : (a0_0 == 2) = false := beq_eq_false_iff_ne.mpr c23
            have c23b1 : (a0_0 != 2) = true := bne_iff_ne.mpr c23
            by_cases c31 : a0_0 = 3
            · rw [if_pos c31] at H
              have c31b0 : (a0_0 == 3) = true := beq_iff_eq.mpr c31
              have c31b1 : (a0_0 != 3) = false := bne_eq_false_iff_eq.mpr c31
              clear c31
              by_cases c32 : a0_1 ≥ 1
              · rw [if_pos c32] at H
                have c32b0 : decide (1 ≤ a0_1) = true := decide_eq_true c32
                clear c32
                by_cases c33 : a0_1 ≤ 12
                · rw [if_pos c33] at H
                  have c33b0 : decide (a0_1 ≤ 12) = true := decide_eq_true c33
                  clear c33
                  by_cases c34 : a0_2 ≥ 1
                  · rw [if_pos c34] at H
                    have c34b0 : decide (1 ≤ a0_2) = true := decide_eq_true c34
                    clear c34
                    by_cases c35 : a0_2 ≤ 5
                    · rw [if_pos c35] at H
                      have c35b0 : decide (a0_2 ≤ 5) = true := decide_eq_true c35
                      clear c35
                      by_cases c36 : a0_3 ≥ 0
                      · rw [if_pos c36] at H
                        have c36b0 : decide (0 ≤ a0_3) = true := decide_eq_true c36
                        clear c36
                        obtain rfl := Option.some.inj H
                        have hcz37_0 : wc.cell? ⟨gb158, 0, none⟩ = some (.int .i64 a0_0) := (blk_cell BK158.out 0).trans rfl
                        have hcz37_1 : wc.cell? ⟨gb158, 1, none⟩ = some (.int .i64 a0_1) := (blk_cell BK158.out 1).trans rfl
                        have hcz37_2 : wc.cell? ⟨gb158, 2, none⟩ = some (.int .i64 a0_2) := (blk_cell BK158.out 2).trans rfl
                        have hcz37_3 : wc.cell? ⟨gb158, 3, none⟩ = some (.int .i64 a0_3) := (blk_cell BK158.out 3).trans rfl
                        have hcz37_4 : wc.cell? ⟨gb158, 4, none⟩ = some (.int .i64 a0_4) := (blk_cell BK158.out 4).trans rfl
                        have hfz37_0 := blk_frozen BK158.out 0
                        have hfz37_1 := blk_frozen BK158.out 1
                        have hfz37_2 := blk_frozen BK158.out 2
                        have hfz37_3 := blk_frozen BK158.out 3
                        have hfz37_4 := blk_frozen BK158.out 4
                        go_wp2
                        go_ret
                        exact ⟨by first | rfl | (simp [errW_none, errW_some] <;> rfl) | (simp [*, errW_none, errW_some] <;> rfl), by repeat (first | (with_reducible first | exact HB.out | apply below_alloc | apply pw_below_drewN | apply below_drew1 | refine below_set ?_ GE158.out) | exact HB.out)⟩
                      · rw [if_neg c36] at H
                        have c36b0 : decide (0 ≤ a0_3) = false := decide_eq_false c36
                        clear c36
                        obtain rfl := Option.some.inj H
                        have hcz38_0 : wc.cell? ⟨gb158, 0, none⟩ = some (.int .i64 a0_0) := (blk_cell BK158.out 0).trans rfl
                        have hcz38_1 : wc.cell? ⟨gb158, 1, none⟩ = some (.int .i64 a0_1) := (blk_cell BK158.out 1).trans rfl
                        have hcz38_2 : wc.cell? ⟨gb158, 2, none⟩ = some (.int .i64 a0_2) := (blk_cell BK158.out 2).trans rfl
                        have hcz38_3 : wc.cell? ⟨gb158, 3, none⟩ = some (.int .i64 a0_3) := (blk_cell BK158.out 3).trans rfl
                        have hcz38_4 : wc.cell? ⟨gb158, 4, none⟩ = some (.int .i64 a0_4) := (blk_cell BK158.out 4).trans rfl
                        have hfz38_0 := blk_frozen BK158.out 0
                        have hfz38_1 := blk_frozen BK158.out 1
                        have hfz38_2 := blk_frozen BK158.out 2
                        have hfz38_3 := blk_frozen BK158.out 3
                        have hfz38_4 := blk_frozen BK158.out 4
                        go_wp2
                        go_ret
                        exact ⟨by first | rfl | (simp [errW_none, errW_some] <;> rfl) | (simp [*, errW_none, errW_some] <;> rfl), by repeat (first | (with_reducible first | exact HB.out | apply below_alloc | apply pw_below_drewN | apply below_drew1 | refine below_set ?_ GE158.out) | exact HB.out)⟩
                    · rw [if_neg c35] at H
                      have c35b0 : decide (a0_2 ≤ 5) = false := decide_eq_false c35
                      clear c35
                      obtain rfl := Option.some.inj H
                      have hcz39_0 : wc.cell? ⟨gb158, 0, none⟩ = some (.int .i64 a0_0) := (blk_cell BK158.out 0).trans rfl
                      have hcz39_1 : wc.cell? ⟨gb158, 1, none⟩ = some (.int .i64 a0_1) := (blk_cell BK158.out 1).trans rfl
                      have hcz39_2 : wc.cell? ⟨gb158, 2, none⟩ = some (.int .i64 a0_2) := (blk_cell BK158.out 2).trans rfl
                      have hcz39_3 : wc.cell? ⟨gb158, 3, none⟩ = some (.int .i64 a0_3) := (blk_cell BK158.out 3).trans rfl
                      have hcz39_4 : wc.cell? ⟨gb158, 4, none⟩ = some (.int .i64 a0_4) := (blk_cell BK158.out 4).trans rfl
                      have hfz39_0 := blk_frozen BK158.out 0
                      have hfz39_1 := blk_frozen BK158.out 1
                      have hfz39_2 := blk_frozen BK158.out 2
                      have hfz39_3 := blk_frozen BK158.out 3
                      have hfz39_4 := blk_frozen BK158.out 4
                      go_wp2
                      go_ret
                      exact ⟨by first | rfl | (simp [errW_none, errW_some] <;> rfl) | (simp [*, errW_none, errW_some] <;> rfl), by repeat (first | (with_reducible first | exact HB.out | apply below_alloc | apply pw_below_drewN | apply below_drew1 | refine below_set ?_ GE158.out) | exact HB.out)⟩
                  · rw [if_neg c34] at H
                    have c34b0 : decide (1 ≤ a0_2) = false := decide_eq_false c34
                    clear c34
                    obtain rfl := Option.some.inj H
                    have hcz40_0 : wc.cell? ⟨gb158, 0, none⟩ = some (.int .i64 a0_0) := (blk_cell BK158.out 0).trans rfl
                    have hcz40_1 : wc.cell? ⟨gb158, 1, none⟩ = some (.int .i64 a0_1) := (blk_cell BK158.out 1).trans rfl
                    have hcz40_2 : wc.cell? ⟨gb158, 2, none⟩ = some (.int .i64 a0_2) := (blk_cell BK158.out 2).trans rfl
                    have hcz40_3 : wc.cell? ⟨gb158, 3, none⟩ = some (.int .i64 a0_3) := (blk_cell BK158.out 3).trans rfl
                    have hcz40_4 : wc.cell? ⟨gb158, 4, none⟩ = some (.int .i64 a0_4) := (blk_cell BK158.out 4).trans rfl
                    have hfz40_0 := blk_frozen BK158.out 0
                    have hfz40_1 := blk_frozen BK158.out 1
                    have hfz40_2 := blk_frozen BK158.out 2
                    have hfz40_3 := blk_frozen BK158.out 3
                    have hfz40_4 := blk_frozen BK158.out 4
                    go_wp2
                    go_ret
                    exact ⟨by first | rfl | (simp [errW_none, errW_some] <;> rfl) | (simp [*, errW_none, errW_some] <;> rfl), by repeat (first | (with_reducible first | exact HB.out | apply below_alloc | apply pw_below_drewN | apply below_drew1 | refine below_set ?_ GE158.out) | exact HB.out)⟩
                · rw [if_neg c33] at H
                  have c33b0 : decide (a0_1 ≤ 12) = false := decide_eq_false c33
                  clear c33
                  obtain rfl := Option.some.inj H
                  have hcz41_0 : wc.cell? ⟨gb158, 0, none⟩ = some (.int .i64 a0_0) := (blk_cell BK158.out 0).trans rfl
                  have hcz41_1 : wc.cell? ⟨gb158, 1, none⟩ = some (.int .i64 a0_1) := (blk_cell BK158.out 1).trans rfl
                  have hcz41_2 : wc.cell? ⟨gb158, 2, none⟩ = some (.int .i64 a0_2) := (blk_cell BK158.out 2).trans rfl
                  have hcz41_3 : wc.cell? ⟨gb158, 3, none⟩ = some (.int .i64 a0_3) := (blk_cell BK158.out 3).trans rfl
                  have hcz41_4 : wc.cell? ⟨gb158, 4, none⟩ = some (.int .i64 a0_4) := (blk_cell BK158.out 4).trans rfl
                  have hfz41_0 := blk_frozen BK158.out 0
                  have hfz41_1 := blk_frozen BK158.out 1
                  have hfz41_2 := blk_frozen BK158.out 2
                  have hfz41_3 := blk_frozen BK158.out 3
                  have hfz41_4 := blk_frozen BK158.out 4
                  go_wp2
                  go_ret
                  exact ⟨by first | rfl | (simp [errW_none, errW_some] <;> rfl) | (simp [*, errW_none, errW_some] <;> rfl), by repeat (first | (with_reducible first | exact HB.out | apply below_alloc | apply pw_below_drewN | apply below_drew1 | refine below_set ?_ GE158.out) | exact HB.out)⟩
              · rw [if_neg c32] at H
                have c32b0 : decide (1 ≤ a0_1) = false := decide_eq_false c32
                clear c32
                obtain rfl := Option.some.inj H
                have hcz42_0 : wc.cell? ⟨gb158, 0, none⟩ = some (.int .i64 a0_0) := (blk_cell BK158.out 0).trans rfl
                have hcz42_1 : wc.cell? ⟨gb158, 1, none⟩ = some (.int .i64 a0_1) := (blk_cell BK158.out 1).trans rfl
                have hcz42_2 : wc.cell? ⟨gb158, 2, none⟩ = some (.int .i64 a0_2) := (blk_cell BK158.out 2).trans rfl
                have hcz42_3 : wc.cell? ⟨gb158, 3, none⟩ = some (.int .i64 a0_3) := (blk_cell BK158.out 3).trans rfl
                have hcz42_4 : wc.cell? ⟨gb158, 4, none⟩ = some (.int .i64 a0_4) := (blk_cell BK158.out 4).trans rfl
                have hfz42_0 := blk_frozen BK158.out 0
                have hfz42_1 := blk_frozen BK158.out 1
                have hfz42_2 := blk_frozen BK158.out 2
                have hfz42_3 := blk_frozen BK158.out 3
                have hfz42_4 := blk_frozen BK158.out 4
                go_wp2
                go_ret
                exact ⟨by first | rfl | (simp [errW_none, errW_some] <;> rfl) | (simp [*, errW_none, errW_some] <;> rfl), by repeat (first | (with_reducible first | exact HB.out | apply below_alloc | apply pw_below_drewN | apply below_drew1 | refine below_set ?_ GE158.out) | exact HB.out)⟩
            · rw [if_neg c31] at H
              have c31b0 : (a0_0 == 3) = false := beq_eq_false_iff_ne.mpr c31
              have c31b1 : (a0_0 != 3) = true := bne_iff_ne.mpr c31
              obtain rfl := Option.some.inj H
              have hcz43_0 : wc.cell? ⟨gb158, 0, none⟩ = some (.int .i64 a0_0) := (blk_cell BK158.out 0).trans rfl
              have hcz43_1 : wc.cell? ⟨gb158, 1, none⟩ = some (.int .i64 a0_1) := (blk_cell BK158.out 1).trans rfl
              have hcz43_2 : wc.cell? ⟨gb158, 2, none⟩ = some (.int .i64 a0_2) := (blk_cell BK158.out 2).trans rfl
              have hcz43_3 : wc.cell? ⟨gb158, 3, none⟩ = some (.int .i64 a0_3) := (blk_cell BK158.out 3).trans rfl
              have hcz43_4 : wc.cell? ⟨gb158, 4, none⟩ = some (.int .i64 a0_4) := (blk_cell BK158.out 4).trans rfl
              have hfz43_0 := blk_frozen BK158.out 0
              have hfz43_1 := blk_frozen BK158.out 1
              have hfz43_2 := blk_frozen BK158.out 2
              have hfz43_3 := blk_frozen BK158.out 3
              have hfz43_4 := blk_frozen BK158.out 4
              go_wp2
              go_ret
              exact ⟨by first | rfl | (simp [errW_none, errW_some] <;> rfl) | (simp [*, errW_none, errW_some] <;> rfl), by repeat (first | (with_reducible first | exact HB.out | apply below_alloc | apply pw_below_drewN | apply below_drew1 | refine below_set ?_ GE158.out) | exact HB.out)⟩
end Go.Proofs.YtgbehcahdgamoaaDoor.Fn

namespace Go.Proofs.YtgbehcahdgamoaaDoor.Fn
open Go.RowKit Go.Proofs.YtgbehcahdgamoaaDoorW.PrintWords Go.Proofs.YtgbehcahdgamoaaDoorW.PrintLast Go.Proofs.YtgbehcahdgamoaaDoorW.PrintMore
set_option linter.unusedVariables false
set_option linter.unusedSimpArgs false
/-! ### longcaseref08_digit: function 54 -/
def longcaseref08_digit.f (a0 : Int) : Option (Bool) := if a0 ≥ 48 then (some (decide (a0 ≤ 57))) else (some false)
set_option maxHeartbeats 8000000 in
set_option maxRecDepth 100000 in
theorem longcaseref08_digit.calls (a0 : Int) (r : Bool) (w : World) (h : longcaseref08_digit.f a0 = some r) :
    Calls Tryd.prog 54 #[.int .u8 a0] w fun e w' => e = .returned (.bool r) ∧ Drawn0 w w' := by
  have H : (if a0 ≥ 48 then (some (decide (a0 ≤ 57))) else (some false)) = some r := h
  clear h
  by_cases c2 : a0 ≥ 48
  · rw [if_pos c2] at H
    have c2b0 : decide (48 ≤ a0) = true := decide_eq_true c2
    clear c2
    obtain rfl := Option.some.inj H
    go_enter Tryd.func54, Tryd.ntmps54
    go_wp2
    go_ret
    exact ⟨by first | rfl | (simp; done) | (simp [*]; done), by repeat (first | exact Drawn0.refl _ | apply Drawn0.step)⟩
  · rw [if_neg c2] at H
    have c2b0 : decide (48 ≤ a0) = false := decide_eq_false c2
    clear c2
    obtain rfl := Option.some.inj H
    go_enter Tryd.func54, Tryd.ntmps54
    go_wp2
    go_ret
    exact ⟨by first | rfl | (simp; done) | (simp [*]; done), by repeat (first | exact Drawn0.refl _ | apply Drawn0.step)⟩
end Go.Proofs.YtgbehcahdgamoaaDoor.Fn

namespace Go.Proofs.YtgbehcahdgamoaaDoor.Fn
open Go.RowKit Go.Proofs.YtgbehcahdgamoaaDoorW.PrintWords Go.Proofs.YtgbehcahdgamoaaDoorW.PrintLast Go.Proofs.YtgbehcahdgamoaaDoorW.PrintMore
set_option linter.unusedVariables false
set_option linter.unusedSimpArgs false
/-! ### longcaseref08_letter: function 53 -/
def longcaseref08_letter.f (a0 : Int) : Option (Bool) := if a0 ≥ 97 then (if a0 ≤ 122 then (some true) else (if a0 ≥ 65 then (some (decide (a0 ≤ 90))) else (some false))) else (if a0 ≥ 65 then (some (decide (a0 ≤ 90))) else (some false))
set_option maxHeartbeats 8000000 in
set_option maxRecDepth 100000 in
theorem longcaseref08_letter.calls (a0 : Int) (r : Bool) (w : World) (h : longcaseref08_letter.f a0 = some r) :
    Calls Tryd.prog 53 #[.int .u8 a0] w fun e w' => e = .returned (.bool r) ∧ Drawn0 w w' := by
  have H : (if a0 ≥ 97 then (if a0 ≤ 122 then (some true) else (if a0 ≥ 65 then (some (decide (a0 ≤ 90))) else (some false))) else (if a0 ≥ 65 then (some (decide (a0 ≤ 90))) else (some false))) = some r := h
  clear h
  by_cases c2 : a0 ≥ 97
  · rw [if_pos c2] at H
    have c2b0 : decide (97 ≤ a0) = true := decide_eq_true c2
    clear c2
    by_cases c3 : a0 ≤ 122
    · rw [if_pos c3] at H
      have c3b0 : decide (a0 ≤ 122) = true := decide_eq_true c3
      clear c3
      obtain rfl := Option.some.inj H
      go_enter Tryd.func53, Tryd.ntmps53
      go_wp2
      go_ret
      exact ⟨by first | rfl | (simp; done) | (simp [*]; done), by repeat (first | exact Drawn0.refl _ | apply Drawn0.step)⟩
    · rw [if_neg c3] at H
      have c3b0 : decide (a0 ≤ 122) = false := decide_eq_false c3
      clear c3
      by_cases c4 : a0 ≥ 65
      · rw [if_pos c4] at H
        have c4b0 : decide (65 ≤ a0) = true := decide_eq_true c4
        clear c4
        obtain rfl := Option.some.inj H
        go_enter Tryd.func53, Tryd.ntmps53
        go_wp2
        go_ret
        exact ⟨by first | rfl | (simp; done) | (simp [*]; done), by repeat (first | exact Drawn0.refl _ | apply Drawn0.step)⟩
      · rw [if_neg c4] at H
        have c4b0 : decide (65 ≤ a0) = false := decide_eq_false c4
        clear c4
        obtain rfl := Option.some.inj H
        go_enter Tryd.func53, Tryd.ntmps53
        go_wp2
        go_ret
        exact ⟨by first | rfl | (simp; done) | (simp [*]; done), by repeat (first | exact Drawn0.refl _ | apply Drawn0.step)⟩
  · rw [if_neg c2] at H
    have c2b0 : decide (97 ≤ a0) = false := decide_eq_false c2
    clear c2
    by_cases c5 : a0 ≥ 65
    · rw [if_pos c5] at H
      have c5b0 : decide (65 ≤ a0) = true := decide_eq_true c5
      clear c5
      obtain rfl := Option.some.inj H
      go_enter Tryd.func53, Tryd.ntmps53
      go_wp2
      go_ret
      exact ⟨by first | rfl | (simp; done) | (simp [*]; done), by repeat (first | exact Drawn0.refl _ | apply Drawn0.step)⟩
    · rw [if_neg c5] at H
      have c5b0 : decide (65 ≤ a0) = false := decide_eq_false c5
      clear c5
      obtain rfl := Option.some.inj H
      go_enter Tryd.func53, Tryd.ntmps53
      go_wp2
      go_ret
      exact ⟨by first | rfl | (simp; done) | (simp [*]; done), by repeat (first | exact Drawn0.refl _ | apply Drawn0.step)⟩
end Go.Proofs.YtgbehcahdgamoaaDoor.Fn

namespace Go.Proofs.YtgbehcahdgamoaaDoor.Fn
open Go.RowKit Go.Proofs.YtgbehcahdgamoaaDoorW.PrintWords Go.Proofs.YtgbehcahdgamoaaDoorW.PrintLast Go.Proofs.YtgbehcahdgamoaaDoorW.PrintMore
set_option linter.unusedVariables false
set_option linter.unusedSimpArgs false
/-! ### longcaseref08_name: function 40 -/
mutual
def longcaseref08_name.j0 : Nat → ByteArray → Bool → Option (Bool)
  | 0, _, _ => none
  | k + 1, x0, x11 => if x11 = true then (some false) else (longcaseref08_name.l0 k x0 0)
def longcaseref08_name.l0 : Nat → ByteArray → Int → Option (Bool)
  | 0, _, _ => none
  | k + 1, x0, x3 => if x3 < (x0.size : Int) then (if 0 ≤ x3 then ((longcaseref08_letter.f (bt x0 x3)).bind fun t184 => (if t184 = true then (longcaseref08_name.l0 k x0 (wrap64 (x3 + 1))) else ((longcaseref08_digit.f (bt x0 x3)).bind fun t185 => (if t185 = true then (longcaseref08_name.l0 k x0 (wrap64 (x3 + 1))) else (if (bt x0 x3) = 43 then (longcaseref08_name.l0 k x0 (wrap64 (x3 + 1))) else (if (bt x0 x3) = 45 then (longcaseref08_name.l0 k x0 (wrap64 (x3 + 1))) else (some false))))))) else (none)) else (some true)
end
def longcaseref08_name.f (k : Nat) (a0 : ByteArray) : Option (Bool) := if (a0.size : Int) < 3 then (longcaseref08_name.j0 k a0 true) else (longcaseref08_name.j0 k a0 (decide ((a0.size : Int) > 20)))
theorem longcaseref08_name.mono_l : ∀ k, (∀ y0 y1, LeO (longcaseref08_name.j0 k y0 y1) (longcaseref08_name.j0 (k + 1) y0 y1)) ∧ (∀ y0 y1, LeO (longcaseref08_name.l0 k y0 y1) (longcaseref08_name.l0 (k + 1) y0 y1))
  | 0 => ⟨fun _ _ r h => by simp [longcaseref08_name.j0] at h, fun _ _ r h => by simp [longcaseref08_name.l0] at h⟩
  | k + 1 => by
    obtain ⟨ih0, ih1⟩ := longcaseref08_name.mono_l k
    refine ⟨?_, ?_⟩
    · intro y0 y1
      unfold longcaseref08_name.j0
      repeat' first
      | (with_reducible exact ih0 _ _)
      | (with_reducible exact ih1 _ _)
      | (with_reducible exact LeO.refl _)
      | (with_reducible exact LeO.none _)
      | (with_reducible refine LeO.ite ?_ ?_)
      | (with_reducible refine LeO.bind ?_ (fun _ => ?_))
      | exact ih0 _ _
      | exact ih1 _ _
      | exact LeO.none _
      | refine LeO.ite ?_ ?_
      | refine LeO.bind ?_ (fun _ => ?_)
    · intro y0 y1
      unfold longcaseref08_name.l0
      repeat' first
      | (with_reducible exact ih0 _ _)
      | (with_reducible exact ih1 _ _)
      | (with_reducible exact LeO.refl _)
      | (with_reducible exact LeO.none _)
      | (with_reducible refine LeO.ite ?_ ?_)
      | (with_reducible refine LeO.bind ?_ (fun _ => ?_))
      | exact ih0 _ _
      | exact ih1 _ _
      | exact LeO.none _
      | refine LeO.ite ?_ ?_
      | refine LeO.bind ?_ (fun _ => ?_)
theorem longcaseref08_name.mono : ∀ a0 k, LeO (longcaseref08_name.f k a0) (longcaseref08_name.f (k + 1) a0) := by
  intro a0 k
  obtain ⟨ih0, ih1⟩ := longcaseref08_name.mono_l k
  unfold longcaseref08_name.f
  repeat' first
      | (with_reducible exact ih0 _ _)
      | (with_reducible exact ih1 _ _)
      | (with_reducible exact LeO.refl _)
      | (with_reducible exact LeO.none _)
      | (with_reducible refine LeO.ite ?_ ?_)
      | (with_reducible refine LeO.bind ?_ (fun _ => ?_))
      | exact ih0 _ _
      | exact ih1 _ _
      | exact LeO.none _
      | refine LeO.ite ?_ ?_
      | refine LeO.bind ?_ (fun _ => ?_)
set_option maxHeartbeats 8000000 in
set_option maxRecDepth 100000 in
theorem longcaseref08_name.calls (k : Nat) (a0 : ByteArray) (r : Bool) (w : World) (h : longcaseref08_name.f k a0 = some r) :
    Calls Tryd.prog 40 #[.string a0] w fun e w' => e = .returned (.bool r) ∧ Drawn0 w w' := by
  have H : (if (a0.size : Int) < 3 then (longcaseref08_name.j0 k a0 true) else (longcaseref08_name.j0 k a0 (decide ((a0.size : Int) > 20)))) = some r := h
  clear h
  have HC2 := Aside0.mk H
  clear H
  go_enter Tryd.func40, Tryd.ntmps40
  go_upto_region 1 with (fail)
  go_cut [11] (fun v11 wc => ∃ (kq : Nat) (x11_1 : Bool), v11 = .bool x11_1 ∧ Aside0 (longcaseref08_name.j0 kq a0 x11_1 = some r) ∧ Aside0 (kq ≤ k) ∧ Drawn0 w wc)
  case first =>
    have H := HC2.out
    clear HC2
    by_cases c3 : (a0.size : Int) < 3
    · rw [if_pos c3] at H
      have c3b0 : decide ((a0.size : Int) < 3) = true := decide_eq_true c3
      have c3b1 : decide (a0.size < 3) = true := decide_eq_true (by omega)
      clear c3
      (first | rw [c3b0] | (simp only [i64_w, i32_w]; rw [c3b0]) | skip)
      have H' := Aside0.mk H
      clear H
      go_wp2
      go_meet
      case rel => exact ⟨_, (true), (by first | rfl | (simp; done) | (simp [*]; done)), H', ⟨by first | omega | exact Nat.le_refl _⟩, by repeat (first | exact Drawn0.refl _ | apply Drawn0.step)⟩
    · rw [if_neg c3] at H
      have c3b0 : decide ((a0.size : Int) < 3) = false := decide_eq_false c3
      have c3b1 : decide (a0.size < 3) = false := decide_eq_false (by omega)
      clear c3
      (first | rw [c3b0] | (simp only [i64_w, i32_w]; rw [c3b0]) | skip)
      have H' := Aside0.mk H
      clear H
      go_wp2
      go_meet
      case rel => exact ⟨_, (decide ((a0.size : Int) > 20)), (by first | rfl | (simp; done) | (simp [*]; done)), H', ⟨by first | omega | exact Nat.le_refl _⟩, by repeat (first | exact Drawn0.refl _ | apply Drawn0.step)⟩
  case rest =>
    clear HC2
    try clear p2
    try clear c3
    try clear c3b0
    try clear c3b1
    obtain ⟨kq, x11_1, rfl, HA, HJ1, ⟨mc1, rfl⟩⟩ := hcut
    cases kq with
    | zero => exact absurd HA.out (by simp [longcaseref08_name.j0])
    | succ kj1 =>
      have H := HA.out
      clear HA
      simp only [longcaseref08_name.j0] at H
      by_cases c4 : x11_1 = true
      · subst c4
        have H1 : (some false) = some r := by rw [if_pos rfl] at H; exact H
        clear H
        have H := H1
        clear H1
        obtain rfl := Option.some.inj H
        go_wp2
        go_ret
        exact ⟨by first | rfl | (simp; done) | (simp [*]; done), by repeat (first | exact Drawn0.refl _ | apply Drawn0.step)⟩
      · replace c4 := Bool.eq_false_iff.mpr c4
        subst c4
        have H1 : (longcaseref08_name.l0 kj1 a0 0) = some r := by rw [if_neg (show ¬ (false = true) by decide)] at H; exact H
        clear H
        have H := H1
        clear H1
        have H' := Aside0.mk H
        clear H
        go_wp2
        go_loopg [3] kj1 (fun kq v3 w' => ∃ (x3_2 : Int), v3 = .int .i64 x3_2 ∧ Aside0 (longcaseref08_name.l0 kq a0 x3_2 = some r) ∧ Aside0 (kq ≤ kj1) ∧ Drawn0 w w')
        case atStart => exact ⟨(0), (by first | rfl | (simp; done) | (simp [*]; done)), H', ⟨Nat.le_refl _⟩, by repeat (first | exact Drawn0.refl _ | apply Drawn0.step)⟩
        case round =>
          clear H'
          try clear c1
          try clear p2
          try clear c3
          try clear c3b0
          try clear c3b1
          try clear c4
          try clear p2
          obtain ⟨x3_2, rfl, HA, HK2, ⟨m2, rfl⟩⟩ := hrel
          cases gk with
          | zero => exact absurd HA.out (by simp [longcaseref08_name.l0])
          | succ k2 =>
            have H := HA.out
            clear HA
            simp only [longcaseref08_name.l0] at H
            by_cases c5 : x3_2 < (a0.size : Int)
            · rw [if_pos c5] at H
              have c5b0 : decide (x3_2 < (a0.size : Int)) = true := decide_eq_true c5
              clear c5
              by_cases c6 : 0 ≤ x3_2
              · rw [if_pos c6] at H
                have c6b0 : decide (0 ≤ x3_2) = true := decide_eq_true c6
                clear c6
                replace H := Option.bind_eq_some_iff.mp H
                obtain ⟨t184, A80, H⟩ := H
                replace H : (if t184 = true then (longcaseref08_name.l0 k2 a0 (wrap64 (x3_2 + 1))) else ((longcaseref08_digit.f (bt a0 x3_2)).bind fun t185 => (if t185 = true then (longcaseref08_name.l0 k2 a0 (wrap64 (x3_2 + 1))) else (if (bt a0 x3_2) = 43 then (longcaseref08_name.l0 k2 a0 (wrap64 (x3_2 + 1))) else (if (bt a0 x3_2) = 45 then (longcaseref08_name.l0 k2 a0 (wrap64 (x3_2 + 1))) else (some false)))))) = some r := H
                have A8 := Aside0.mk A80
                clear A80
                by_cases c9 : t184 = true
                · subst c9
                  have H1 : (longcaseref08_name.l0 k2 a0 (wrap64 (x3_2 + 1))) = some r := by rw [if_pos rfl] at H; exact H
                  clear H
                  have H := H1
                  clear H1
                  have H' := Aside0.mk H
                  clear H
                  have p7 : 0 ≤ (x3_2 : Int) := of_decide_eq_true (by first | (with_reducible assumption) | assumption)
                  have q7 : x3_2 < (a0.size : Int) := of_decide_eq_true (by first | (with_reducible assumption) | assumption)
                  have hx7 := bt_at a0 x3_2
                  replace p7 := eq_true p7
                  replace q7 := eq_true q7
                  go_wp2_with (first | ((with_reducible refine gate_callee (f := 53) rfl ?_); refine goesL_ (some 21) rfl rfl Tryd.func53 (by kernel_rfl) rfl #[.int .u8 (bt a0 x3_2)] rfl (by (try simp only [List.map_toArray, List.map_cons, List.map_nil]); first | done | rfl | (simp only [List.length_drop, List.length_take]; rfl)) ?_; (with_reducible refine (longcaseref08_letter.calls (bt a0 x3_2) true _ A8.out).mono ?_); rintro e w' ⟨rfl, ⟨nd, rfl⟩⟩; refine ⟨_, rfl, ?_⟩))
                  go_roundg k2
                  case measure => have := HJ1.out; have := HK2.out; omega
                  case rel => exact ⟨(wrap64 (x3_2 + 1)), (by first | rfl | (simp; done) | (simp [*]; done)), H', ⟨by have := HJ1.out; have := HK2.out; omega⟩, by repeat (first | exact Drawn0.refl _ | apply Drawn0.step)⟩
                · replace c9 := Bool.eq_false_iff.mpr c9
                  subst c9
                  have H1 : ((longcaseref08_digit.f (bt a0 x3_2)).bind fun t185 => (if t185 = true then (longcaseref08_name.l0 k2 a0 (wrap64 (x3_2 + 1))) else (if (bt a0 x3_2) = 43 then (longcaseref08_name.l0 k2 a0 (wrap64 (x3_2 + 1))) else (if (bt a0 x3_2) = 45 then (longcaseref08_name.l0 k2 a0 (wrap64 (x3_2 + 1))) else (some false))))) = some r := by rw [if_neg (show ¬ (false = true) by decide)] at H; exact H
                  clear H
                  have H := H1
                  clear H1
                  replace H := Option.bind_eq_some_iff.mp H
                  obtain ⟨t185, A110, H⟩ := H
                  replace H : (if t185 = true then (longcaseref08_name.l0 k2 a0 (wrap64 (x3_2 + 1))) else (if (bt a0 x3_2) = 43 then (longcaseref08_name.l0 k2 a0 (wrap64 (x3_2 + 1))) else (if (bt a0 x3_2) = 45 then (longcaseref08_name.l0 k2 a0 (wrap64 (x3_2 + 1))) else (some false)))) = some r := H
                  have A11 := Aside0.mk A110
                  clear A110
                  by_cases c12 : t185 = true
                  · subst c12
                    have H1 : (longcaseref08_name.l0 k2 a0 (wrap64 (x3_2 + 1))) = some r := by rw [if_pos rfl] at H; exact H
                    clear H
                    have H := H1
                    clear H1
                    have H' := Aside0.mk H
                    clear H
                    have p7 : 0 ≤ (x3_2 : Int) := of_decide_eq_true (by first | (with_reducible assumption) | assumption)
                    have q7 : x3_2 < (a0.size : Int) := of_decide_eq_true (by first | (with_reducible assumption) | assumption)
                    have hx7 := bt_at a0 x3_2
                    replace p7 := eq_true p7
                    replace q7 := eq_true q7
                    go_wp2_with (first | ((with_reducible refine gate_callee (f := 53) rfl ?_); refine goesL_ (some 21) rfl rfl Tryd.func53 (by kernel_rfl) rfl #[.int .u8 (bt a0 x3_2)] rfl (by (try simp only [List.map_toArray, List.map_cons, List.map_nil]); first | done | rfl | (simp only [List.length_drop, List.length_take]; rfl)) ?_; (with_reducible refine (longcaseref08_letter.calls (bt a0 x3_2) false _ A8.out).mono ?_); rintro e w' ⟨rfl, ⟨nd, rfl⟩⟩; refine ⟨_, rfl, ?_⟩; have p10 : 0 ≤ (x3_2 : Int) := of_decide_eq_true (by first | (with_reducible assumption) | assumption); have q10 : x3_2 < (a0.size : Int) := of_decide_eq_true (by first | (with_reducible assumption) | assumption); have hx10 := bt_at a0 x3_2; replace p10 := eq_true p10; replace q10 := eq_true q10) | (go_at_call 54; (with_reducible refine (longcaseref08_digit.calls (bt a0 x3_2) true _ A11.out).mono ?_); rintro e w' ⟨rfl, ⟨nd, rfl⟩⟩))
                    go_roundg k2
                    case measure => have := HJ1.out; have := HK2.out; omega
                    case rel => exact ⟨(wrap64 (x3_2 + 1)), (by first | rfl | (simp; done) | (simp [*]; done)), H', ⟨by have := HJ1.out; have := HK2.out; omega⟩, by repeat (first | exact Drawn0.refl _ | apply Drawn0.step)⟩
                  · replace c12 := Bool.eq_false_iff.mpr c12
                    subst c12
                    have H1 : (if (bt a0 x3_2) = 43 then (longcaseref08_name.l0 k2 a0 (wrap64 (x3_2 + 1))) else (if (bt a0 x3_2) = 45 then (longcaseref08_name.l0 k2 a0 (wrap64 (x3_2 + 1))) else (some false))) = some r := by rw [if_neg (show ¬ (false = true) by decide)] at H; exact H
                    clear H
                    have H := H1
                    clear H1
                    by_cases c14 : (bt a0 x3_2) = 43
                    · rw [if_pos c14] at H
                      have c14b0 : ((bt a0 x3_2) == 43) = true := beq_iff_eq.mpr c14
                      have c14b1 : ((bt a0 x3_2) != 43) = false := bne_eq_false_iff_eq.mpr c14
                      clear c14
                      have H' := Aside0.mk H
                      clear H
                      have p7 : 0 ≤ (x3_2 : Int) := of_decide_eq_true (by first | (with_reducible assumption) | assumption)
                      have q7 : x3_2 < (a0.size : Int) := of_decide_eq_true (by first | (with_reducible assumption) | assumption)
                      have hx7 := bt_at a0 x3_2
                      replace p7 := eq_true p7
                      replace q7 := eq_true q7
                      go_wp2_with (first | ((with_reducible refine gate_callee (f := 53) rfl ?_); refine goesL_ (some 21) rfl rfl Tryd.func53 (by kernel_rfl) rfl #[.int .u8 (bt a0 x3_2)] rfl (by (try simp only [List.map_toArray, List.map_cons, List.map_nil]); first | done | rfl | (simp only [List.length_drop, List.length_take]; rfl)) ?_; (with_reducible refine (longcaseref08_letter.calls (bt a0 x3_2) false _ A8.out).mono ?_); rintro e w' ⟨rfl, ⟨nd, rfl⟩⟩; refine ⟨_, rfl, ?_⟩; have p10 : 0 ≤ (x3_2 : Int) := of_decide_eq_true (by first | (with_reducible assumption) | assumption); have q10 : x3_2 < (a0.size : Int) := of_decide_eq_true (by first | (with_reducible assumption) | assumption); have hx10 := bt_at a0 x3_2; replace p10 := eq_true p10; replace q10 := eq_true q10) | (go_at_call 54; (with_reducible refine (longcaseref08_digit.calls (bt a0 x3_2) false _ A11.out).mono ?_); rintro e w' ⟨rfl, ⟨nd, rfl⟩⟩; have p13 : 0 ≤ (x3_2 : Int) := of_decide_eq_true (by first | (with_reducible assumption) | assumption); have q13 : x3_2 < (a0.size : Int) := of_decide_eq_true (by first | (with_reducible assumption) | assumption); have hx13 := bt_at a0 x3_2; replace p13 := eq_true p13; replace q13 := eq_true q13))
                      go_roundg k2
                      case measure => have := HJ1.out; have := HK2.out; omega
                      case rel => exact ⟨(wrap64 (x3_2 + 1)), (by first | rfl | (simp; done) | (simp [*]; done)), H', ⟨by have := HJ1.out; have := HK2.out; omega⟩, by repeat (first | exact Drawn0.refl _ | apply Drawn0.step)⟩
                    · rw [if_neg c14] at H
                      have c14b0 : ((bt a0 x3_2) == 43) = false := beq_eq_false_iff_ne.mpr c14
                      have c14b1 : ((bt a0 x3_2) != 43) = true := bne_iff_ne.mpr c14
                      by_cases c16 : (bt a0 x3_2) = 45
                      · rw [if_pos c16] at H
                        have c16b0 : ((bt a0 x3_2) == 45) = true := beq_iff_eq.mpr c16
                        have c16b1 : ((bt a0 x3_2) != 45) = false := bne_eq_false_iff_eq.mpr c16
                        clear c16
                        have H' := Aside0.mk H
                        clear H
                        have p7 : 0 ≤ (x3_2 : Int) := of_decide_eq_true (by first | (with_reducible assumption) | assumption)
                        have q7 : x3_2 < (a0.size : Int) := of_decide_eq_true (by first | (with_reducible assumption) | assumption)
                        have hx7 := bt_at a0 x3_2
                        replace p7 := eq_true p7
                        replace q7 := eq_true q7
                        go_wp2_with (first | ((with_reducible refine gate_callee (f := 53) rfl ?_); refine goesL_ (some 21) rfl rfl Tryd.func53 (by kernel_rfl) rfl #[.int .u8 (bt a0 x3_2)] rfl (by (try simp only [List.map_toArray, List.map_cons, List.map_nil]); first | done | rfl | (simp only [List.length_drop, List.length_take]; rfl)) ?_; (with_reducible refine (longcaseref08_letter.calls (bt a0 x3_2) false _ A8.out).mono ?_); rintro e w' ⟨rfl, ⟨nd, rfl⟩⟩; refine ⟨_, rfl, ?_⟩; have p10 : 0 ≤ (x3_2 : Int) := of_decide_eq_true (by first | (with_reducible assumption) | assumption); have q10 : x3_2 < (a0.size : Int) := of_decide_eq_true (by first | (with_reducible assumption) | assumption); have hx10 := bt_at a0 x3_2; replace p10 := eq_true p10; replace q10 := eq_true q10) | (go_at_call 54; (with_reducible refine (longcaseref08_digit.calls (bt a0 x3_2) false _ A11.out).mono ?_); rintro e w' ⟨rfl, ⟨nd, rfl⟩⟩; have p13 : 0 ≤ (x3_2 : Int) := of_decide_eq_true (by first | (with_reducible assumption) | assumption); have q13 : x3_2 < (a0.size : Int) := of_decide_eq_true (by first | (with_reducible assumption) | assumption); have hx13 := bt_at a0 x3_2; replace p13 := eq_true p13; replace q13 := eq_true q13; have p15 : 0 ≤ (x3_2 : Int) := of_decide_eq_true (by first | (with_reducible assumption) | assumption); have q15 : x3_2 < (a0.size : Int) := of_decide_eq_true (by first | (with_reducible assumption) | assumption); have hx15 := bt_at a0 x3_2; replace p15 := eq_true p15; replace q15 := eq_true q15))
                        go_roundg k2
                        case measure => have := HJ1.out; have := HK2.out; omega
                        case rel => exact ⟨(wrap64 (x3_2 + 1)), (by first | rfl | (simp; done) | (simp [*]; done)), H', ⟨by have := HJ1.out; have := HK2.out; omega⟩, by repeat (first | exact Drawn0.refl _ | apply Drawn0.step)⟩
                      · rw [if_neg c16] at H
                        have c16b0 : ((bt a0 x3_2) == 45) = false := beq_eq_false_iff_ne.mpr c16
                        have c16b1 : ((bt a0 x3_2) != 45) = true := bne_iff_ne.mpr c16
                        obtain rfl := Option.some.inj H
                        have p7 : 0 ≤ (x3_2 : Int) := of_decide_eq_true (by first | (with_reducible assumption) | assumption)
                        have q7 : x3_2 < (a0.size : Int) := of_decide_eq_true (by first | (with_reducible assumption) | assumption)
                        have hx7 := bt_at a0 x3_2
                        replace p7 := eq_true p7
                        replace q7 := eq_true q7
                        go_wp2_with (first | ((with_reducible refine gate_callee (f := 53) rfl ?_); refine goesL_ (some 21) rfl rfl Tryd.func53 (by kernel_rfl) rfl #[.int .u8 (bt a0 x3_2)] rfl (by (try simp only [List.map_toArray, List.map_cons, List.map_nil]); first | done | rfl | (simp only [List.length_drop, List.length_take]; rfl)) ?_; (with_reducible refine (longcaseref08_letter.calls (bt a0 x3_2) false _ A8.out).mono ?_); rintro e w' ⟨rfl, ⟨nd, rfl⟩⟩; refine ⟨_, rfl, ?_⟩; have p10 : 0 ≤ (x3_2 : Int) := of_decide_eq_true (by first | (with_reducible assumption) | assumption); have q10 : x3_2 < (a0.size : Int) := of_decide_eq_true (by first | (with_reducible assumption) | assumption); have hx10 := bt_at a0 x3_2; replace p10 := eq_true p10; replace q10 := eq_true q10) | (go_at_call 54; (with_reducible refine (longcaseref08_digit.calls (bt a0 x3_2) false _ A11.out).mono ?_); rintro e w' ⟨rfl, ⟨nd, rfl⟩⟩; have p13 : 0 ≤ (x3_2 : Int) := of_decide_eq_true (by first | (with_reducible assumption) | assumption); have q13 : x3_2 < (a0.size : Int) := of_decide_eq_true (by first | (with_reducible assumption) | assumption); have hx13 := bt_at a0 x3_2; replace p13 := eq_true p13; replace q13 := eq_true q13; have p15 : 0 ≤ (x3_2 : Int) := of_decide_eq_true (by first | (with_reducible assumption) | assumption); have q15 : x3_2 < (a0.size : Int) := of_decide_eq_true (by first | (with_reducible assumption) | assumption); have hx15 := bt_at a0 x3_2; replace p15 := eq_true p15; replace q15 := eq_true q15))
                        go_ret
                        exact ⟨by first | rfl | (simp; done) | (simp [*]; done), by repeat (first | exact Drawn0.refl _ | apply Drawn0.step)⟩
              · rw [if_neg c6] at H
                exact absurd H (by simp)
            · rw [if_neg c5] at H
              have c5b0 : decide (x3_2 < (a0.size : Int)) = false := decide_eq_false c5
              clear c5
              obtain rfl := Option.some.inj H
              go_wp2
              go_ret
              exact ⟨by first | rfl | (simp; done) | (simp [*]; done), by repeat (first | exact Drawn0.refl _ | apply Drawn0.step)⟩
end Go.Proofs.YtgbehcahdgamoaaDoor.Fn

namespace Go.Proofs.YtgbehcahdgamoaaDoor.Fn
open Go.RowKit Go.Proofs.YtgbehcahdgamoaaDoorW.PrintWords Go.Proofs.YtgbehcahdgamoaaDoorW.PrintLast Go.Proofs.YtgbehcahdgamoaaDoorW.PrintMore
set_option linter.unusedVariables false
set_option linter.unusedSimpArgs false
/-! ### longcaseref08_off: function 41 -/
def longcaseref08_off.f (a0 : Int) : Option (Bool) := if a0 ≥ (-89999) then (some (decide (a0 ≤ 89999))) else (some false)
set_option maxHeartbeats 8000000 in
set_option maxRecDepth 100000 in
theorem longcaseref08_off.calls (a0 : Int) (r : Bool) (w : World) (h : longcaseref08_off.f a0 = some r) :
    Calls Tryd.prog 41 #[.int .i64 a0] w fun e w' => e = .returned (.bool r) ∧ Drawn0 w w' := by
  have H : (if a0 ≥ (-89999) then (some (decide (a0 ≤ 89999))) else (some false)) = some r := h
  clear h
  by_cases c2 : a0 ≥ (-89999)
  · rw [if_pos c2] at H
    have c2b0 : decide ((-89999) ≤ a0) = true := decide_eq_true c2
    clear c2
    obtain rfl := Option.some.inj H
    go_enter Tryd.func41, Tryd.ntmps41
    go_wp2
    go_ret
    exact ⟨by first | rfl | (simp; done) | (simp [*]; done), by repeat (first | exact Drawn0.refl _ | apply Drawn0.step)⟩
  · rw [if_neg c2] at H
    have c2b0 : decide ((-89999) ≤ a0) = false := decide_eq_false c2
    clear c2
    obtain rfl := Option.some.inj H
    go_enter Tryd.func41, Tryd.ntmps41
    go_wp2
    go_ret
    exact ⟨by first | rfl | (simp; done) | (simp [*]; done), by repeat (first | exact Drawn0.refl _ | apply Drawn0.step)⟩
end Go.Proofs.YtgbehcahdgamoaaDoor.Fn

namespace Go.Proofs.YtgbehcahdgamoaaDoor.Fn
open Go.RowKit Go.Proofs.YtgbehcahdgamoaaDoorW.PrintWords Go.Proofs.YtgbehcahdgamoaaDoorW.PrintLast Go.Proofs.YtgbehcahdgamoaaDoorW.PrintMore
set_option linter.unusedVariables false
set_option linter.unusedSimpArgs false
attribute [local go_sem high] eqA23 eqA25
/-! ### longcaseref08_Right: function 18 -/
def longcaseref08_Right.j0 : Nat → Bool → Bool → Int → Bool → ByteArray → Int → Bool → ByteArray → Bool → Int → Int → Int → Int → Int → Int → Int → Int → Int → Int → Option (Bool)
  | 0, _, _, _, _, _, _, _, _, _, _, _, _, _, _, _, _, _, _, _ => none
  | k + 1, x1, x21, x187000, x187001, x187002, x187003, x187004, x187005, x187006, x187007, x187008, x187009, x187010, x187011, x187012, x187013, x187014, x187015, x187016 => if x21 = true then (some false) else (if x187006 = true then (if x187004 = true then ((longcaseref08_name.f k x187005).bind fun t189 => (if t189 = true then ((longcaseref08_off.f x187003).bind fun t190 => (if t190 = true then ((longcaseref08_Change.f k x187007 x187008 x187009 x187010 x187011 x1).bind fun t191 => (if t191 = true then ((longcaseref08_Change.f k x187012 x187013 x187014 x187015 x187016 x1).bind fun t192 => (some t192)) else (some false))) else (some false))) else (some false))) else (some false)) else (if (x187003 == 0 && (!x187004 && (x187005.toList.isEmpty))) = true then (if (x187007 == 0 && (x187008 == 0 && (x187009 == 0 && (x187010 == 0 && (x187011 == 0))))) = true then (some (x187012 == 0 && (x187013 == 0 && (x187014 == 0 && (x187015 == 0 && (x187016 == 0)))))) else (some false)) else (some false)))
def longcaseref08_Right.f (k : Nat) (a0_0 : Int) (a0_1 : Bool) (a0_2 : ByteArray) (a0_3 : Int) (a0_4 : Bool) (a0_5 : ByteArray) (a0_6 : Bool) (a0_7 : Int) (a0_8 : Int) (a0_9 : Int) (a0_10 : Int) (a0_11 : Int) (a0_12 : Int) (a0_13 : Int) (a0_14 : Int) (a0_15 : Int) (a0_16 : Int) (a1 : Bool) : Option (Bool) := if a0_1 = true then (longcaseref08_Right.j0 k a1 true a0_0 a0_1 a0_2 a0_3 a0_4 a0_5 a0_6 a0_7 a0_8 a0_9 a0_10 a0_11 a0_12 a0_13 a0_14 a0_15 a0_16) else ((longcaseref08_name.f k a0_2).bind fun t187 => (if t187 = true then ((longcaseref08_off.f a0_0).bind fun t188 => (longcaseref08_Right.j0 k a1 (!t188) a0_0 a0_1 a0_2 a0_3 a0_4 a0_5 a0_6 a0_7 a0_8 a0_9 a0_10 a0_11 a0_12 a0_13 a0_14 a0_15 a0_16)) else (longcaseref08_Right.j0 k a1 true a0_0 a0_1 a0_2 a0_3 a0_4 a0_5 a0_6 a0_7 a0_8 a0_9 a0_10 a0_11 a0_12 a0_13 a0_14 a0_15 a0_16)))
theorem longcaseref08_Right.mono_l : ∀ k, (∀ y0 y1 y2 y3 y4 y5 y6 y7 y8 y9 y10 y11 y12 y13 y14 y15 y16 y17 y18, LeO (longcaseref08_Right.j0 k y0 y1 y2 y3 y4 y5 y6 y7 y8 y9 y10 y11 y12 y13 y14 y15 y16 y17 y18) (longcaseref08_Right.j0 (k + 1) y0 y1 y2 y3 y4 y5 y6 y7 y8 y9 y10 y11 y12 y13 y14 y15 y16 y17 y18))
  | 0 => fun _ _ _ _ _ _ _ _ _ _ _ _ _ _ _ _ _ _ _ r h => by simp [longcaseref08_Right.j0] at h
  | k + 1 => by
    have ih0 := longcaseref08_Right.mono_l k
    · intro y0 y1 y2 y3 y4 y5 y6 y7 y8 y9 y10 y11 y12 y13 y14 y15 y16 y17 y18
      unfold longcaseref08_Right.j0
      repeat' first
      | (with_reducible exact ih0 _ _ _ _ _ _ _ _ _ _ _ _ _ _ _ _ _ _ _)
      | (with_reducible exact longcaseref08_Change.mono _ _ _ _ _ _ _)
      | (with_reducible exact longcaseref08_name.mono _ _)
      | (with_reducible exact LeO.refl _)
      | (with_reducible exact LeO.none _)
      | (with_reducible refine LeO.ite ?_ ?_)
      | (with_reducible refine LeO.bind ?_ (fun _ => ?_))
      | exact ih0 _ _ _ _ _ _ _ _ _ _ _ _ _ _ _ _ _ _ _
      | exact longcaseref08_Change.mono _ _ _ _ _ _ _
      | exact longcaseref08_name.mono _ _
      | exact LeO.none _
      | refine LeO.ite ?_ ?_
      | refine LeO.bind ?_ (fun _ => ?_)
theorem longcaseref08_Right.mono : ∀ a0 a1 a2 a3 a4 a5 a6 a7 a8 a9 a10 a11 a12 a13 a14 a15 a16 a17 k, LeO (longcaseref08_Right.f k a0 a1 a2 a3 a4 a5 a6 a7 a8 a9 a10 a11 a12 a13 a14 a15 a16 a17) (longcaseref08_Right.f (k + 1) a0 a1 a2 a3 a4 a5 a6 a7 a8 a9 a10 a11 a12 a13 a14 a15 a16 a17) := by
  intro a0 a1 a2 a3 a4 a5 a6 a7 a8 a9 a10 a11 a12 a13 a14 a15 a16 a17 k
  have ih0 := longcaseref08_Right.mono_l k
  unfold longcaseref08_Right.f
  repeat' first
      | (with_reducible exact ih0 _ _ _ _ _ _ _ _ _ _ _ _ _ _ _ _ _ _ _)
      | (with_reducible exact longcaseref08_Change.mono _ _ _ _ _ _ _)
      | (with_reducible exact longcaseref08_name.mono _ _)
      | (with_reducible exact LeO.refl _)
      | (with_reducible exact LeO.none _)
      | (with_reducible refine LeO.ite ?_ ?_)
      | (with_reducible refine LeO.bind ?_ (fun _ => ?_))
      | exact ih0 _ _ _ _ _ _ _ _ _ _ _ _ _ _ _ _ _ _ _
      | exact longcaseref08_Change.mono _ _ _ _ _ _ _
      | exact longcaseref08_name.mono _ _
      | exact LeO.none _
      | refine LeO.ite ?_ ?_
      | refine LeO.bind ?_ (fun _ => ?_)
set_option maxHeartbeats 8000000 in
set_option maxRecDepth 100000 in
theorem longcaseref08_Right.calls (k : Nat) (a0_0 : Int) (a0_1 : Bool) (a0_2 : ByteArray) (a0_3 : Int) (a0_4 : Bool) (a0_5 : ByteArray) (a0_6 : Bool) (a0_7 : Int) (a0_8 : Int) (a0_9 : Int) (a0_10 : Int) (a0_11 : Int) (a0_12 : Int) (a0_13 : Int) (a0_14 : Int) (a0_15 : Int) (a0_16 : Int) (a1 : Bool) (r : Bool) (w : World) (h : longcaseref08_Right.f k a0_0 a0_1 a0_2 a0_3 a0_4 a0_5 a0_6 a0_7 a0_8 a0_9 a0_10 a0_11 a0_12 a0_13 a0_14 a0_15 a0_16 a1 = some r) :
    Calls Tryd.prog 18 #[.agg #[.int .i64 a0_0, .bool a0_1, .string a0_2, .int .i64 a0_3, .bool a0_4, .string a0_5, .bool a0_6, .int .i64 a0_7, .int .i64 a0_8, .int .i64 a0_9, .int .i64 a0_10, .int .i64 a0_11, .int .i64 a0_12, .int .i64 a0_13, .int .i64 a0_14, .int .i64 a0_15, .int .i64 a0_16], .bool a1] w fun e w' => e = .returned (.bool r) ∧ Below w.heap.size w w' := by
  have hu27 := Tryd.underlying27
  have hu23 := Tryd.underlying23
  have hu25 := Tryd.underlying25
  have HB := Aside0.mk (Below.refl w.heap.size w)
  have H : (if a0_1 = true then (longcaseref08_Right.j0 k a1 true a0_0 a0_1 a0_2 a0_3 a0_4 a0_5 a0_6 a0_7 a0_8 a0_9 a0_10 a0_11 a0_12 a0_13 a0_14 a0_15 a0_16) else ((longcaseref08_name.f k a0_2).bind fun t187 => (if t187 = true then ((longcaseref08_off.f a0_0).bind fun t188 => (longcaseref08_Right.j0 k a1 (!t188) a0_0 a0_1 a0_2 a0_3 a0_4 a0_5 a0_6 a0_7 a0_8 a0_9 a0_10 a0_11 a0_12 a0_13 a0_14 a0_15 a0_16)) else (longcaseref08_Right.j0 k a1 true a0_0 a0_1 a0_2 a0_3 a0_4 a0_5 a0_6 a0_7 a0_8 a0_9 a0_10 a0_11 a0_12 a0_13 a0_14 a0_15 a0_16)))) = some r := h
  clear h
  have HC3 := Aside0.mk H
  clear H
  go_enter Tryd.func18, Tryd.ntmps18
  go_upto_region 1 with (first | ((with_reducible refine gate_dst (N := 2) rfl ?_); refine box_event ?hg (N := 2) ?hd (cs := #[.int .i64 a0_0, .bool a0_1, .string a0_2, .int .i64 a0_3, .bool a0_4, .string a0_5, .bool a0_6, .int .i64 a0_7, .int .i64 a0_8, .int .i64 a0_9, .int .i64 a0_10, .int .i64 a0_11, .int .i64 a0_12, .int .i64 a0_13, .int .i64 a0_14, .int .i64 a0_15, .int .i64 a0_16]) (t := 27) ?hr ?_; (case hd => rfl); (case hg => rfl); (case hr => first | (go_simp; done) | (go_simp; rfl)); intro gb186 hg w4 hbox hb; have n0_ := Aside0.mk (below_step (by repeat (first | (with_reducible first | exact HB.out | apply below_alloc | apply pw_below_drewN | apply below_drew1) | exact HB.out)) hb); have n1_ := Aside0.mk (hbox); have n2_ := Aside0.mk ((by rw [hg]; exact (below_size (by repeat (first | (with_reducible first | exact HB.out | apply below_alloc | apply pw_below_drewN | apply below_drew1) | exact HB.out))) : w.heap.size ≤ gb186)); have n3_ := Aside0.mk ((by rw [hg]; exact (below_size (by repeat (first | (with_reducible first | exact HB.out | apply below_alloc | apply pw_below_drewN | apply below_drew1) | exact HB.out))) : w.heap.size ≤ gb186)); clear HB; have HB := n0_; have BK186 := n1_; have GW186 := n2_; have GE186 := n3_; clear n0_ n1_ n2_ n3_; clear hb hbox hg))
  (try simp only [Act.put, List.setIfInBounds_toArray, List.set_cons_zero, List.set_cons_succ])
  go_cut [21] (fun v21 wc => ∃ (kq : Nat) (x21_2 : Bool), v21 = .bool x21_2 ∧ Aside0 (longcaseref08_Right.j0 kq a1 x21_2 a0_0 a0_1 a0_2 a0_3 a0_4 a0_5 a0_6 a0_7 a0_8 a0_9 a0_10 a0_11 a0_12 a0_13 a0_14 a0_15 a0_16 = some r) ∧ Aside0 (kq ≤ k) ∧ Aside0 (wc.heap[gb186]? = some (.cells #[.int .i64 a0_0, .bool a0_1, .string a0_2, .int .i64 a0_3, .bool a0_4, .string a0_5, .bool a0_6, .int .i64 a0_7, .int .i64 a0_8, .int .i64 a0_9, .int .i64 a0_10, .int .i64 a0_11, .int .i64 a0_12, .int .i64 a0_13, .int .i64 a0_14, .int .i64 a0_15, .int .i64 a0_16] 27 (0, 0))) ∧ Aside0 (Below w.heap.size w wc))
  case first =>
    have H := HC3.out
    clear HC3
    by_cases c5 : a0_1 = true
    · subst c5
      have H1 : (longcaseref08_Right.j0 k a1 true a0_0 true a0_2 a0_3 a0_4 a0_5 a0_6 a0_7 a0_8 a0_9 a0_10 a0_11 a0_12 a0_13 a0_14 a0_15 a0_16) = some r := by rw [if_pos rfl] at H; exact H
      clear H
      have H := H1
      clear H1
      have H' := Aside0.mk H
      clear H
      have hcz6_0 : w4.cell? ⟨gb186, 0, none⟩ = some (.int .i64 a0_0) := (blk_cell BK186.out 0).trans rfl
      have hcz6_1 : w4.cell? ⟨gb186, 1, none⟩ = some (.bool true) := (blk_cell BK186.out 1).trans rfl
      have hcz6_2 : w4.cell? ⟨gb186, 2, none⟩ = some (.string a0_2) := (blk_cell BK186.out 2).trans rfl
      have hcz6_3 : w4.cell? ⟨gb186, 3, none⟩ = some (.int .i64 a0_3) := (blk_cell BK186.out 3).trans rfl
      have hcz6_4 : w4.cell? ⟨gb186, 4, none⟩ = some (.bool a0_4) := (blk_cell BK186.out 4).trans rfl
      have hcz6_5 : w4.cell? ⟨gb186, 5, none⟩ = some (.string a0_5) := (blk_cell BK186.out 5).trans rfl
      have hcz6_6 : w4.cell? ⟨gb186, 6, none⟩ = some (.bool a0_6) := (blk_cell BK186.out 6).trans rfl
      have hcz6_7 : w4.cell? ⟨gb186, 7, none⟩ = some (.int .i64 a0_7) := (blk_cell BK186.out 7).trans rfl
      have hcz6_8 : w4.cell? ⟨gb186, 8, none⟩ = some (.int .i64 a0_8) := (blk_cell BK186.out 8).trans rfl
      have hcz6_9 : w4.cell? ⟨gb186, 9, none⟩ = some (.int .i64 a0_9) := (blk_cell BK186.out 9).trans rfl
      have hcz6_10 : w4.cell? ⟨gb186, 10, none⟩ = some (.int .i64 a0_10) := (blk_cell BK186.out 10).trans rfl
      have hcz6_11 : w4.cell? ⟨gb186, 11, none⟩ = some (.int .i64 a0_11) := (blk_cell BK186.out 11).trans rfl
      have hcz6_12 : w4.cell? ⟨gb186, 12, none⟩ = some (.int .i64 a0_12) := (blk_cell BK186.out 12).trans rfl
      have hcz6_13 : w4.cell? ⟨gb186, 13, none⟩ = some (.int .i64 a0_13) := (blk_cell BK186.out 13).trans rfl
      have hcz6_14 : w4.cell? ⟨gb186, 14, none⟩ = some (.int .i64 a0_14) := (blk_cell BK186.out 14).trans rfl
      have hcz6_15 : w4.cell? ⟨gb186, 15, none⟩ = some (.int .i64 a0_15) := (blk_cell BK186.out 15).trans rfl
      have hcz6_16 : w4.cell? ⟨gb186, 16, none⟩ = some (.int .i64 a0_16) := (blk_cell BK186.out 16).trans rfl
      have hfz6_0 := blk_frozen BK186.out 0
      have hfz6_1 := blk_frozen BK186.out 1
      have hfz6_2 := blk_frozen BK186.out 2
      have hfz6_3 := blk_frozen BK186.out 3
      have hfz6_4 := blk_frozen BK186.out 4
      have hfz6_5 := blk_frozen BK186.out 5
      have hfz6_6 := blk_frozen BK186.out 6
      have hfz6_7 := blk_frozen BK186.out 7
      have hfz6_8 := blk_frozen BK186.out 8
      have hfz6_9 := blk_frozen BK186.out 9
      have hfz6_10 := blk_frozen BK186.out 10
      have hfz6_11 := blk_frozen BK186.out 11
      have hfz6_12 := blk_frozen BK186.out 12
      have hfz6_13 := blk_frozen BK186.out 13
      have hfz6_14 := blk_frozen BK186.out 14
      have hfz6_15 := blk_frozen BK186.out 15
      have hfz6_16 := blk_frozen BK186.out 16
      go_wp2
      go_meet
      case rel => exact ⟨_, (true), (by first | rfl | (simp; done) | (simp [*]; done)), H', ⟨by first | omega | exact Nat.le_refl _⟩, ⟨by (with_reducible repeat (first | refine blk_drewN ?_ _ | refine blk_drew ?_ | refine blk_alloc ?_ _)); exact BK186.out⟩, ⟨by repeat (first | (with_reducible first | exact HB.out | apply below_alloc | apply pw_below_drewN | apply below_drew1 | refine below_set ?_ GE186.out) | exact HB.out)⟩⟩
    · replace c5 := Bool.eq_false_iff.mpr c5
      subst c5
      have H1 : ((longcaseref08_name.f k a0_2).bind fun t187 => (if t187 = true then ((longcaseref08_off.f a0_0).bind fun t188 => (longcaseref08_Right.j0 k a1 (!t188) a0_0 false a0_2 a0_3 a0_4 a0_5 a0_6 a0_7 a0_8 a0_9 a0_10 a0_11 a0_12 a0_13 a0_14 a0_15 a0_16)) else (longcaseref08_Right.j0 k a1 true a0_0 false a0_2 a0_3 a0_4 a0_5 a0_6 a0_7 a0_8 a0_9 a0_10 a0_11 a0_12 a0_13 a0_14 a0_15 a0_16))) = some r := by rw [if_neg (show ¬ (false = true) by decide)] at H; exact H
      clear H
      have H := H1
      clear H1
      replace H := Option.bind_eq_some_iff.mp H
      obtain ⟨t187, A70, H⟩ := H
      replace H : (if t187 = true then ((longcaseref08_off.f a0_0).bind fun t188 => (longcaseref08_Right.j0 k a1 (!t188) a0_0 false a0_2 a0_3 a0_4 a0_5 a0_6 a0_7 a0_8 a0_9 a0_10 a0_11 a0_12 a0_13 a0_14 a0_15 a0_16)) else (longcaseref08_Right.j0 k a1 true a0_0 false a0_2 a0_3 a0_4 a0_5 a0_6 a0_7 a0_8 a0_9 a0_10 a0_11 a0_12 a0_13 a0_14 a0_15 a0_16)) = some r := H
      have A7 := Aside0.mk A70
      clear A70
      by_cases c8 : t187 = true
      · subst c8
        have H1 : ((longcaseref08_off.f a0_0).bind fun t188 => (longcaseref08_Right.j0 k a1 (!t188) a0_0 false a0_2 a0_3 a0_4 a0_5 a0_6 a0_7 a0_8 a0_9 a0_10 a0_11 a0_12 a0_13 a0_14 a0_15 a0_16)) = some r := by rw [if_pos rfl] at H; exact H
        clear H
        have H := H1
        clear H1
        replace H := Option.bind_eq_some_iff.mp H
        obtain ⟨t188, A90, H⟩ := H
        replace H : (longcaseref08_Right.j0 k a1 (!t188) a0_0 false a0_2 a0_3 a0_4 a0_5 a0_6 a0_7 a0_8 a0_9 a0_10 a0_11 a0_12 a0_13 a0_14 a0_15 a0_16) = some r := H
        have A9 := Aside0.mk A90
        clear A90
        have H' := Aside0.mk H
        clear H
        have hcz10_0 : w4.cell? ⟨gb186, 0, none⟩ = some (.int .i64 a0_0) := (blk_cell BK186.out 0).trans rfl
        have hcz10_1 : w4.cell? ⟨gb186, 1, none⟩ = some (.bool false) := (blk_cell BK186.out 1).trans rfl
        have hcz10_2 : w4.cell? ⟨gb186, 2, none⟩ = some (.string a0_2) := (blk_cell BK186.out 2).trans rfl
        have hcz10_3 : w4.cell? ⟨gb186, 3, none⟩ = some (.int .i64 a0_3) := (blk_cell BK186.out 3).trans rfl
        have hcz10_4 : w4.cell? ⟨gb186, 4, none⟩ = some (.bool a0_4) := (blk_cell BK186.out 4).trans rfl
        have hcz10_5 : w4.cell? ⟨gb186, 5, none⟩ = some (.string a0_5) := (blk_cell BK186.out 5).trans rfl
        have hcz10_6 : w4.cell? ⟨gb186, 6, none⟩ = some (.bool a0_6) := (blk_cell BK186.out 6).trans rfl
        have hcz10_7 : w4.cell? ⟨gb186, 7, none⟩ = some (.int .i64 a0_7) := (blk_cell BK186.out 7).trans rfl
        have hcz10_8 : w4.cell? ⟨gb186, 8, none⟩ = some (.int .i64 a0_8) := (blk_cell BK186.out 8).trans rfl
        have hcz10_9 : w4.cell? ⟨gb186, 9, none⟩ = some (.int .i64 a0_9) := (blk_cell BK186.out 9).trans rfl
        have hcz10_10 : w4.cell? ⟨gb186, 10, none⟩ = some (.int .i64 a0_10) := (blk_cell BK186.out 10).trans rfl
        have hcz10_11 : w4.cell? ⟨gb186, 11, none⟩ = some (.int .i64 a0_11) := (blk_cell BK186.out 11).trans rfl
        have hcz10_12 : w4.cell? ⟨gb186, 12, none⟩ = some (.int .i64 a0_12) := (blk_cell BK186.out 12).trans rfl
        have hcz10_13 : w4.cell? ⟨gb186, 13, none⟩ = some (.int .i64 a0_13) := (blk_cell BK186.out 13).trans rfl
        have hcz10_14 : w4.cell? ⟨gb186, 14, none⟩ = some (.int .i64 a0_14) := (blk_cell BK186.out 14).trans rfl
        have hcz10_15 : w4.cell? ⟨gb186, 15, none⟩ = some (.int .i64 a0_15) := (blk_cell BK186.out 15).trans rfl
        have hcz10_16 : w4.cell? ⟨gb186, 16, none⟩ = some (.int .i64 a0_16) := (blk_cell BK186.out 16).trans rfl
        have hfz10_0 := blk_frozen BK186.out 0
        have hfz10_1 := blk_frozen BK186.out 1
        have hfz10_2 := blk_frozen BK186.out 2
        have hfz10_3 := blk_frozen BK186.out 3
        have hfz10_4 := blk_frozen BK186.out 4
        have hfz10_5 := blk_frozen BK186.out 5
        have hfz10_6 := blk_frozen BK186.out 6
        have hfz10_7 := blk_frozen BK186.out 7
        have hfz10_8 := blk_frozen BK186.out 8
        have hfz10_9 := blk_frozen BK186.out 9
        have hfz10_10 := blk_frozen BK186.out 10
        have hfz10_11 := blk_frozen BK186.out 11
        have hfz10_12 := blk_frozen BK186.out 12
        have hfz10_13 := blk_frozen BK186.out 13
        have hfz10_14 := blk_frozen BK186.out 14
        have hfz10_15 := blk_frozen BK186.out 15
        have hfz10_16 := blk_frozen BK186.out 16
        go_wp2_with (first | (go_at_call 40; (with_reducible refine (longcaseref08_name.calls k a0_2 true _ A7.out).mono ?_); rintro e w' ⟨rfl, ⟨nd, rfl⟩⟩) | (go_at_call 41; (with_reducible refine (longcaseref08_off.calls a0_0 t188 _ A9.out).mono ?_); rintro e w' ⟨rfl, ⟨nd, rfl⟩⟩))
        go_meet
        case rel => exact ⟨_, (!t188), (by first | rfl | (simp; done) | (simp [*]; done)), H', ⟨by first | omega | exact Nat.le_refl _⟩, ⟨by (with_reducible repeat (first | refine blk_drewN ?_ _ | refine blk_drew ?_ | refine blk_alloc ?_ _)); exact BK186.out⟩, ⟨by repeat (first | (with_reducible first | exact HB.out | apply below_alloc | apply pw_below_drewN | apply below_drew1 | refine below_set ?_ GE186.out) | exact HB.out)⟩⟩
      · replace c8 := Bool.eq_false_iff.mpr c8
        subst c8
        have H1 : (longcaseref08_Right.j0 k a1 true a0_0 false a0_2 a0_3 a0_4 a0_5 a0_6 a0_7 a0_8 a0_9 a0_10 a0_11 a0_12 a0_13 a0_14 a0_15 a0_16) = some r := by rw [if_neg (show ¬ (false = true) by decide)] at H; exact H
        clear H
        have H := H1
        clear H1
        have H' := Aside0.mk H
        clear H
        have hcz11_0 : w4.cell? ⟨gb186, 0, none⟩ = some (.int .i64 a0_0) := (blk_cell BK186.out 0).trans rfl
        have hcz11_1 : w4.cell? ⟨gb186, 1, none⟩ = some (.bool false) := (blk_cell BK186.out 1).trans rfl
        have hcz11_2 : w4.cell? ⟨gb186, 2, none⟩ = some (.string a0_2) := (blk_cell BK186.out 2).trans rfl
        have hcz11_3 : w4.cell? ⟨gb186, 3, none⟩ = some (.int .i64 a0_3) := (blk_cell BK186.out 3).trans rfl
        have hcz11_4 : w4.cell? ⟨gb186, 4, none⟩ = some (.bool a0_4) := (blk_cell BK186.out 4).trans rfl
        have hcz11_5 : w4.cell? ⟨gb186, 5, none⟩ = some (.string a0_5) := (blk_cell BK186.out 5).trans rfl
        have hcz11_6 : w4.cell? ⟨gb186, 6, none⟩ = some (.bool a0_6) := (blk_cell BK186.out 6).trans rfl
        have hcz11_7 : w4.cell? ⟨gb186, 7, none⟩ = some (.int .i64 a0_7) := (blk_cell BK186.out 7).trans rfl
        have hcz11_8 : w4.cell? ⟨gb186, 8, none⟩ = some (.int .i64 a0_8) := (blk_cell BK186.out 8).trans rfl
        have hcz11_9 : w4.cell? ⟨gb186, 9, none⟩ = some (.int .i64 a0_9) := (blk_cell BK186.out 9).trans rfl
        have hcz11_10 : w4.cell? ⟨gb186, 10, none⟩ = some (.int .i64 a0_10) := (blk_cell BK186.out 10).trans rfl
        have hcz11_11 : w4.cell? ⟨gb186, 11, none⟩ = some (.int .i64 a0_11) := (blk_cell BK186.out 11).trans rfl
        have hcz11_12 : w4.cell? ⟨gb186, 12, none⟩ = some (.int .i64 a0_12) := (blk_cell BK186.out 12).trans rfl
        have hcz11_13 : w4.cell? ⟨gb186, 13, none⟩ = some (.int .i64 a0_13) := (blk_cell BK186.out 13).trans rfl
        have hcz11_14 : w4.cell? ⟨gb186, 14, none⟩ = some (.int .i64 a0_14) := (blk_cell BK186.out 14).trans rfl
        have hcz11_15 : w4.cell? ⟨gb186, 15, none⟩ = some (.int .i64 a0_15) := (blk_cell BK186.out 15).trans rfl
        have hcz11_16 : w4.cell? ⟨gb186, 16, none⟩ = some (.int .i64 a0_16) := (blk_cell BK186.out 16).trans rfl
        have hfz11_0 := blk_frozen BK186.out 0
        have hfz11_1 := blk_frozen BK186.out 1
        have hfz11_2 := blk_frozen BK186.out 2
        have hfz11_3 := blk_frozen BK186.out 3
        have hfz11_4 := blk_frozen BK186.out 4
        have hfz11_5 := blk_frozen BK186.out 5
        have hfz11_6 := blk_frozen BK186.out 6
        have hfz11_7 := blk_frozen BK186.out 7
        have hfz11_8 := blk_frozen BK186.out 8
        have hfz11_9 := blk_frozen BK186.out 9
        have hfz11_10 := blk_frozen BK186.out 10
        have hfz11_11 := blk_frozen BK186.out 11
        have hfz11_12 := blk_frozen BK186.out 12
        have hfz11_13 := blk_frozen BK186.out 13
        have hfz11_14 := blk_frozen BK186.out 14
        have hfz11_15 := blk_frozen BK186.out 15
        have hfz11_16 := blk_frozen BK186.out 16
        go_wp2_with (first | (go_at_call 40; (with_reducible refine (longcaseref08_name.calls k a0_2 false _ A7.out).mono ?_); rintro e w' ⟨rfl, ⟨nd, rfl⟩⟩))
        go_meet
        case rel => exact ⟨_, (true), (by first | rfl | (simp; done) | (simp [*]; done)), H', ⟨by first | omega | exact Nat.le_refl _⟩, ⟨by (with_reducible repeat (first | refine blk_drewN ?_ _ | refine blk_drew ?_ | refine blk_alloc ?_ _)); exact BK186.out⟩, ⟨by repeat (first | (with_reducible first | exact HB.out | apply below_alloc | apply pw_below_drewN | apply below_drew1 | refine below_set ?_ GE186.out) | exact HB.out)⟩⟩
  case rest =>
    clear HC3
    try clear c1
    try clear p2
    try clear c5
    try clear c8
    try clear hcz10_0
    try clear hcz10_1
    try clear hcz10_10
    try clear hcz10_11
    try clear hcz10_12
    try clear hcz10_13
    try clear hcz10_14
    try clear hcz10_15
    try clear hcz10_16
    try clear hcz10_2
    try clear hcz10_3
    try clear hcz10_4
    try clear hcz10_5
    try clear hcz10_6
    try clear hcz10_7
    try clear hcz10_8
    try clear hcz10_9
    try clear hcz11_0
    try clear hcz11_1
    try clear hcz11_10
    try clear hcz11_11
    try clear hcz11_12
    try clear hcz11_13
    try clear hcz11_14
    try clear hcz11_15
    try clear hcz11_16
    try clear hcz11_2
    try clear hcz11_3
    try clear hcz11_4
    try clear hcz11_5
    try clear hcz11_6
    try clear hcz11_7
    try clear hcz11_8
    try clear hcz11_9
    try clear hcz6_0
    try clear hcz6_1
    try clear hcz6_10
    try clear hcz6_11
    try clear hcz6_12
    try clear hcz6_13
    try clear hcz6_14
    try clear hcz6_15
    try clear hcz6_16
    try clear hcz6_2
    try clear hcz6_3
    try clear hcz6_4
    try clear hcz6_5
    try clear hcz6_6
    try clear hcz6_7
    try clear hcz6_8
    try clear hcz6_9
    try clear hfz10_0
    try clear hfz10_1
    try clear hfz10_10
    try clear hfz10_11
    try clear hfz10_12
    try clear hfz10_13
    try clear hfz10_14
    try clear hfz10_15
    try clear hfz10_16
    try clear hfz10_2
    try clear hfz10_3
    try clear hfz10_4
    try clear hfz10_5
    try clear hfz10_6
    try clear hfz10_7
    try clear hfz10_8
    try clear hfz10_9
    try clear hfz11_0
    try clear hfz11_1
    try clear hfz11_10
    try clear hfz11_11
    try clear hfz11_12
    try clear hfz11_13
    try clear hfz11_14
    try clear hfz11_15
    try clear hfz11_16
    try clear hfz11_2
    try clear hfz11_3
    try clear hfz11_4
    try clear hfz11_5
    try clear hfz11_6
    try clear hfz11_7
    try clear hfz11_8
    try clear hfz11_9
    try clear hfz6_0
    try clear hfz6_1
    try clear hfz6_10
    try clear hfz6_11
    try clear hfz6_12
    try clear hfz6_13
    try clear hfz6_14
    try clear hfz6_15
    try clear hfz6_16
    try clear hfz6_2
    try clear hfz6_3
    try clear hfz6_4
    try clear hfz6_5
    try clear hfz6_6
    try clear hfz6_7
    try clear hfz6_8
    try clear hfz6_9
    obtain ⟨kq, x21_2, rfl, HA, HJ2, BK186, HB⟩ := hcut
    cases kq with
    | zero => exact absurd HA.out (by simp [longcaseref08_Right.j0])
    | succ kj2 =>
      have H := HA.out
      clear HA
      simp only [longcaseref08_Right.j0] at H
      by_cases c12 : x21_2 = true
      · subst c12
        have H1 : (some false) = some r := by rw [if_pos rfl] at H; exact H
        clear H
        have H := H1
        clear H1
        obtain rfl := Option.some.inj H
        go_wp2
        go_ret
        exact ⟨by first | rfl | (simp [errW_none, errW_some] <;> rfl) | (simp [*, errW_none, errW_some] <;> rfl), by repeat (first | (with_reducible first | exact HB.out | apply below_alloc | apply pw_below_drewN | apply below_drew1 | refine below_set ?_ GE186.out) | exact HB.out)⟩
      · replace c12 := Bool.eq_false_iff.mpr c12
        subst c12
        have H1 : (if a0_6 = true then (if a0_4 = true then ((longcaseref08_name.f kj2 a0_5).bind fun t189 => (if t189 = true then ((longcaseref08_off.f a0_3).bind fun t190 => (if t190 = true then ((longcaseref08_Change.f kj2 a0_7 a0_8 a0_9 a0_10 a0_11 a1).bind fun t191 => (if t191 = true then ((longcaseref08_Change.f kj2 a0_12 a0_13 a0_14 a0_15 a0_16 a1).bind fun t192 => (some t192)) else (some false))) else (some false))) else (some false))) else (some false)) else (if (a0_3 == 0 && (!a0_4 && (a0_5.toList.isEmpty))) = true then (if (a0_7 == 0 && (a0_8 == 0 && (a0_9 == 0 && (a0_10 == 0 && (a0_11 == 0))))) = true then (some (a0_12 == 0 && (a0_13 == 0 && (a0_14 == 0 && (a0_15 == 0 && (a0_16 == 0)))))) else (some false)) else (some false))) = some r := by rw [if_neg (show ¬ (false = true) by decide)] at H; exact H
        clear H
        have H := H1
        clear H1
        by_cases c13 : a0_6 = true
        · subst c13
          have H1 : (if a0_4 = true then ((longcaseref08_name.f kj2 a0_5).bind fun t189 => (if t189 = true then ((longcaseref08_off.f a0_3).bind fun t190 => (if t190 = true then ((longcaseref08_Change.f kj2 a0_7 a0_8 a0_9 a0_10 a0_11 a1).bind fun t191 => (if t191 = true then ((longcaseref08_Change.f kj2 a0_12 a0_13 a0_14 a0_15 a0_16 a1).bind fun t192 => (some t192)) else (some false))) else (some false))) else (some false))) else (some false)) = some r := by rw [if_pos rfl] at H; exact H
          clear H
          have H := H1
          clear H1
          by_cases c14 : a0_4 = true
          · subst c14
            have H1 : ((longcaseref08_name.f kj2 a0_5).bind fun t189 => (if t189 = true then ((longcaseref08_off.f a0_3).bind fun t190 => (if t190 = true then ((longcaseref08_Change.f kj2 a0_7 a0_8 a0_9 a0_10 a0_11 a1).bind fun t191 => (if t191 = true then ((longcaseref08_Change.f kj2 a0_12 a0_13 a0_14 a0_15 a0_16 a1).bind fun t192 => (some t192)) else (some false))) else (some false))) else (some false))) = some r := by rw [if_pos rfl] at H; exact H
            clear H
            have H := H1
            clear H1
            replace H := Option.bind_eq_some_iff.mp H
            obtain ⟨t189, A150, H⟩ := H
            replace H : (if t189 = true then ((longcaseref08_off.f a0_3).bind fun t190 => (if t190 = true then ((longcaseref08_Change.f kj2 a0_7 a0_8 a0_9 a0_10 a0_11 a1).bind fun t191 => (if t191 = true then ((longcaseref08_Change.f kj2 a0_12 a0_13 a0_14 a0_15 a0_16 a1).bind fun t192 => (some t192)) else (some false))) else (some false))) else (some false)) = some r := H
            have A15 := Aside0.mk A150
            clear A150
            by_cases c16 : t189 = true
            · subst c16
              have H1 : ((longcaseref08_off.f a0_3).bind fun t190 => (if t190 = true then ((longcaseref08_Change.f kj2 a0_7 a0_8 a0_9 a0_10 a0_11 a1).bind fun t191 => (if t191 = true then ((longcaseref08_Change.f kj2 a0_12 a0_13 a0_14 a0_15 a0_16 a1).bind fun t192 => (some t192)) else (some false))) else (some false))) = some r := by rw [if_pos rfl] at H; exact H
              clear H
              have H := H1
              clear H1
              replace H := Option.bind_eq_some_iff.mp H
              obtain ⟨t190, A170, H⟩ := H
              replace H : (if t190 = true then ((longcaseref08_Change.f kj2 a0_7 a0_8 a0_9 a0_10 a0_11 a1).bind fun t191 => (if t191 = true then ((longcaseref08_Change.f kj2 a0_12 a0_13 a0_14 a0_15 a0_16 a1).bind fun t192 => (some t192)) else (some false))) else (some false)) = some r := H
              have A17 := Aside0.mk A170
              clear A170
              by_cases c18 : t190 = true
              · subst c18
                have H1 : ((longcaseref08_Change.f kj2 a0_7 a0_8 a0_9 a0_10 a0_11 a1).bind fun t191 => (if t191 = true then ((longcaseref08_Change.f kj2 a0_12 a0_13 a0_14 a0_15 a0_16 a1).bind fun t192 => (some t192)) else (some false))) = some r := by rw [if_pos rfl] at H; exact H
                clear H
                have H := H1
                clear H1
                replace H := Option.bind_eq_some_iff.mp H
                obtain ⟨t191, A190, H⟩ := H
                replace H : (if t191 = true then ((longcaseref08_Change.f kj2 a0_12 a0_13 a0_14 a0_15 a0_16 a1).bind fun t192 => (some t192)) else (some false)) = some r := H
                have A19 := Aside0.mk A190
                clear A190
                by_cases c20 : t191 = true
                · subst c20
                  have H1 : ((longcaseref08_Change.f kj2 a0_12 a0_13 a0_14 a0_15 a0_16 a1).bind fun t192 => (some t192)) = some r := by rw [if_pos rfl] at H; exact H
                  clear H
                  have H := H1
                  clear H1
                  replace H := Option.bind_eq_some_iff.mp H
                  obtain ⟨t192, A210, H⟩ := H
                  replace H : (some t192) = some r := H
                  have A21 := Aside0.mk A210
                  clear A210
                  obtain rfl := Option.some.inj H
                  have hcz22_0 : wc.cell? ⟨gb186, 0, none⟩ = some (.int .i64 a0_0) := (blk_cell BK186.out 0).trans rfl
                  have hcz22_1 : wc.cell? ⟨gb186, 1, none⟩ = some (.bool a0_1) := (blk_cell BK186.out 1).trans rfl
                  have hcz22_2 : wc.cell? ⟨gb186, 2, none⟩ = some (.string a0_2) := (blk_cell BK186.out 2).trans rfl
                  have hcz22_3 : wc.cell? ⟨gb186, 3, none⟩ = some (.int .i64 a0_3) := (blk_cell BK186.out 3).trans rfl
                  have hcz22_4 : wc.cell? ⟨gb186, 4, none⟩ = some (.bool true) := (blk_cell BK186.out 4).trans rfl
                  have hcz22_5 : wc.cell? ⟨gb186, 5, none⟩ = some (.string a0_5) := (blk_cell BK186.out 5).trans rfl
                  have hcz22_6 : wc.cell? ⟨gb186, 6, none⟩ = some (.bool true) := (blk_cell BK186.out 6).trans rfl
                  have hcz22_7 : wc.cell? ⟨gb186, 7, none⟩ = some (.int .i64 a0_7) := (blk_cell BK186.out 7).trans rfl
                  have hcz22_8 : wc.cell? ⟨gb186, 8, none⟩ = some (.int .i64 a0_8) := (blk_cell BK186.out 8).trans rfl
                  have hcz22_9 : wc.cell? ⟨gb186, 9, none⟩ = some (.int .i64 a0_9) := (blk_cell BK186.out 9).trans rfl
                  have hcz22_10 : wc.cell? ⟨gb186, 10, none⟩ = some (.int .i64 a0_10) := (blk_cell BK186.out 10).trans rfl
                  have hcz22_11 : wc.cell? ⟨gb186, 11, none⟩ = some (.int .i64 a0_11) := (blk_cell BK186.out 11).trans rfl
                  have hcz22_12 : wc.cell? ⟨gb186, 12, none⟩ = some (.int .i64 a0_12) := (blk_cell BK186.out 12).trans rfl
                  have hcz22_13 : wc.cell? ⟨gb186, 13, none⟩ = some (.int .i64 a0_13) := (blk_cell BK186.out 13).trans rfl
                  have hcz22_14 : wc.cell? ⟨gb186, 14, none⟩ = some (.int .i64 a0_14) := (blk_cell BK186.out 14).trans rfl
                  have hcz22_15 : wc.cell? ⟨gb186, 15, none⟩ = some (.int .i64 a0_15) := (blk_cell BK186.out 15).trans rfl
                  have hcz22_16 : wc.cell? ⟨gb186, 16, none⟩ = some (.int .i64 a0_16) := (blk_cell BK186.out 16).trans rfl
                  have hfz22_0 := blk_frozen BK186.out 0
                  have hfz22_1 := blk_frozen BK186.out 1
                  have hfz22_2 := blk_frozen BK186.out 2
                  have hfz22_3 := blk_frozen BK186.out 3
                  have hfz22_4 := blk_frozen BK186.out 4
                  have hfz22_5 := blk_frozen BK186.out 5
                  have hfz22_6 := blk_frozen BK186.out 6
                  have hfz22_7 := blk_frozen BK186.out 7
                  have hfz22_8 := blk_frozen BK186.out 8
                  have hfz22_9 := blk_frozen BK186.out 9
                  have hfz22_10 := blk_frozen BK186.out 10
                  have hfz22_11 := blk_frozen BK186.out 11
                  have hfz22_12 := blk_frozen BK186.out 12
                  have hfz22_13 := blk_frozen BK186.out 13
                  have hfz22_14 := blk_frozen BK186.out 14
                  have hfz22_15 := blk_frozen BK186.out 15
                  have hfz22_16 := blk_frozen BK186.out 16
                  go_wp2_with (first | (go_at_call 40; (with_reducible refine (longcaseref08_name.calls kj2 a0_5 true _ A15.out).mono ?_); rintro e w' ⟨rfl, ⟨nd, rfl⟩⟩) | (go_at_call 41; (with_reducible refine (longcaseref08_off.calls a0_3 true _ A17.out).mono ?_); rintro e w' ⟨rfl, ⟨nd, rfl⟩⟩) | (go_at_call 20; (with_reducible refine (longcaseref08_Change.calls kj2 a0_7 a0_8 a0_9 a0_10 a0_11 a1 true _ A19.out).mono ?_); rintro e w23 ⟨rfl, hb⟩; have n0_ := Aside0.mk (blk_below (g := gb186) (o := .cells #[.int .i64 a0_0, .bool a0_1, .string a0_2, .int .i64 a0_3, .bool true, .string a0_5, .bool true, .int .i64 a0_7, .int .i64 a0_8, .int .i64 a0_9, .int .i64 a0_10, .int .i64 a0_11, .int .i64 a0_12, .int .i64 a0_13, .int .i64 a0_14, .int .i64 a0_15, .int .i64 a0_16] 27 (0, 0)) (by (with_reducible repeat (first | refine blk_drewN ?_ _ | refine blk_drew ?_ | refine blk_alloc ?_ _)); exact BK186.out) hb); have n1_ := Aside0.mk (below_step (by repeat (first | (with_reducible first | exact HB.out | apply below_alloc | apply pw_below_drewN | apply below_drew1 | refine below_set ?_ GE186.out) | exact HB.out)) hb); clear BK186; clear HB; have BK186 := n0_; have HB := n1_; clear n0_ n1_; (try clear hb); (try clear hb2); (try clear hk); (try clear hi); have hcz24_0 : w23.cell? ⟨gb186, 0, none⟩ = some (.int .i64 a0_0) := (blk_cell BK186.out 0).trans rfl; have hcz24_1 : w23.cell? ⟨gb186, 1, none⟩ = some (.bool a0_1) := (blk_cell BK186.out 1).trans rfl; have hcz24_2 : w23.cell? ⟨gb186, 2, none⟩ = some (.string a0_2) := (blk_cell BK186.out 2).trans rfl; have hcz24_3 : w23.cell? ⟨gb186, 3, none⟩ = some (.int .i64 a0_3) := (blk_cell BK186.out 3).trans rfl; have hcz24_4 : w23.cell? ⟨gb186, 4, none⟩ = some (.bool true) := (blk_cell BK186.out 4).trans rfl; have hcz24_5 : w23.cell? ⟨gb186, 5, none⟩ = some (.string a0_5) := (blk_cell BK186.out 5).trans rfl; have hcz24_6 : w23.cell? ⟨gb186, 6, none⟩ = some (.bool true) := (blk_cell BK186.out 6).trans rfl; have hcz24_7 : w23.cell? ⟨gb186, 7, none⟩ = some (.int .i64 a0_7) := (blk_cell BK186.out 7).trans rfl; have hcz24_8 : w23.cell? ⟨gb186, 8, none⟩ = some (.int .i64 a0_8) := (blk_cell BK186.out 8).trans rfl; have hcz24_9 : w23.cell? ⟨gb186, 9, none⟩ = some (.int .i64 a0_9) := (blk_cell BK186.out 9).trans rfl; have hcz24_10 : w23.cell? ⟨gb186, 10, none⟩ = some (.int .i64 a0_10) := (blk_cell BK186.out 10).trans rfl; have hcz24_11 : w23.cell? ⟨gb186, 11, none⟩ = some (.int .i64 a0_11) := (blk_cell BK186.out 11).trans rfl; have hcz24_12 : w23.cell? ⟨gb186, 12, none⟩ = some (.int .i64 a0_12) := (blk_cell BK186.out 12).trans rfl; have hcz24_13 : w23.cell? ⟨gb186, 13, none⟩ = some (.int .i64 a0_13) := (blk_cell BK186.out 13).trans rfl; have hcz24_14 : w23.cell? ⟨gb186, 14, none⟩ = some (.int .i64 a0_14) := (blk_cell BK186.out 14).trans rfl; have hcz24_15 : w23.cell? ⟨gb186, 15, none⟩ = some (.int .i64 a0_15) := (blk_cell BK186.out 15).trans rfl; have hcz24_16 : w23.cell? ⟨gb186, 16, none⟩ = some (.int .i64 a0_16) := (blk_cell BK186.out 16).trans rfl; have hfz24_0 := blk_frozen BK186.out 0; have hfz24_1 := blk_frozen BK186.out 1; have hfz24_2 := blk_frozen BK186.out 2; have hfz24_3 := blk_frozen BK186.out 3; have hfz24_4 := blk_frozen BK186.out 4; have hfz24_5 := blk_frozen BK186.out 5; have hfz24_6 := blk_frozen BK186.out 6; have hfz24_7 := blk_frozen BK186.out 7; have hfz24_8 := blk_frozen BK186.out 8; have hfz24_9 := blk_frozen BK186.out 9; have hfz24_10 := blk_frozen BK186.out 10; have hfz24_11 := blk_frozen BK186.out 11; have hfz24_12 := blk_frozen BK186.out 12; have hfz24_13 := blk_frozen BK186.out 13; have hfz24_14 := blk_frozen BK186.out 14; have hfz24_15 := blk_frozen BK186.out 15; have hfz24_16 := blk_frozen BK186.out 16) | (go_at_call 20; (with_reducible refine (longcaseref08_Change.calls kj2 a0_12 a0_13 a0_14 a0_15 a0_16 a1 t192 _ A21.out).mono ?_); rintro e w25 ⟨rfl, hb⟩; have n0_ := Aside0.mk (blk_below (g := gb186) (o := .cells #[.int .i64 a0_0, .bool a0_1, .string a0_2, .int .i64 a0_3, .bool true, .string a0_5, .bool true, .int .i64 a0_7, .int .i64 a0_8, .int .i64 a0_9, .int .i64 a0_10, .int .i64 a0_11, .int .i64 a0_12, .int .i64 a0_13, .int .i64 a0_14, .int .i64 a0_15, .int .i64 a0_16] 27 (0, 0)) (by (with_reducible repeat (first | refine blk_drewN ?_ _ | refine blk_drew ?_ | refine blk_alloc ?_ _)); exact BK186.out) hb); have n1_ := Aside0.mk (below_step (by repeat (first | (with_reducible first | exact HB.out | apply below_alloc | apply pw_below_drewN | apply below_drew1 | refine below_set ?_ GE186.out) | exact HB.out)) hb); clear BK186; clear HB; have BK186 := n0_; have HB := n1_; clear n0_ n1_; (try clear hb); (try clear hb2); (try clear hk); (try clear hi)))
                  go_ret
                  exact ⟨by first | rfl | (simp [errW_none, errW_some] <;> rfl) | (simp [*, errW_none, errW_some] <;> rfl), by repeat (first | (with_reducible first | exact HB.out | apply below_alloc | apply pw_below_drewN | apply below_drew1 | refine below_set ?_ GE186.out) | exact HB.out)⟩
                · replace c20 := Bool.eq_false_iff.mpr c20
                  subst c20
                  have H1 : (some false) = some r := by rw [if_neg (show ¬ (false = true) by decide)] at H; exact H
                  clear H
                  have H := H1
                  clear H1
                  obtain rfl := Option.some.inj H
                  have hcz26_0 : wc.cell? ⟨gb186, 0, none⟩ = some (.int .i64 a0_0) := (blk_cell BK186.out 0).trans rfl
                  have hcz26_1 : wc.cell? ⟨gb186, 1, none⟩ = some (.bool a0_1) := (blk_cell BK186.out 1).trans rfl
                  have hcz26_2 : wc.cell? ⟨gb186, 2, none⟩ = some (.string a0_2) := (blk_cell BK186.out 2).trans rfl
                  have hcz26_3 : wc.cell? ⟨gb186, 3, none⟩ = some (.int .i64 a0_3) := (blk_cell BK186.out 3).trans rfl
                  have hcz26_4 : wc.cell? ⟨gb186, 4, none⟩ = some (.bool true) := (blk_cell BK186.out 4).trans rfl
                  have hcz26_5 : wc.cell? ⟨gb186, 5, none⟩ = some (.string a0_5) := (blk_cell BK186.out 5).trans rfl
                  have hcz26_6 : wc.cell? ⟨gb186, 6, none⟩ = some (.bool true) := (blk_cell BK186.out 6).trans rfl
                  have hcz26_7 : wc.cell? ⟨gb186, 7, none⟩ = some (.int .i64 a0_7) := (blk_cell BK186.out 7).trans rfl
                  have hcz26_8 : wc.cell? ⟨gb186, 8, none⟩ = some (.int .i64 a0_8) := (blk_cell BK186.out 8).trans rfl
                  have hcz26_9 : wc.cell? ⟨gb186, 9, none⟩ = some (.int .i64 a0_9) := (blk_cell BK186.out 9).trans rfl
                  have hcz26_10 : wc.cell? ⟨gb186, 10, none⟩ = some (.int .i64 a0_10) := (blk_cell BK186.out 10).trans rfl
                  have hcz26_11 : wc.cell? ⟨gb186, 11, none⟩ = some (.int .i64 a0_11) := (blk_cell BK186.out 11).trans rfl
                  have hcz26_12 : wc.cell? ⟨gb186, 12, none⟩ = some (.int .i64 a0_12) := (blk_cell BK186.out 12).trans rfl
                  have hcz26_13 : wc.cell? ⟨gb186, 13, none⟩ = some (.int .i64 a0_13) := (blk_cell BK186.out 13).trans rfl
                  have hcz26_14 : wc.cell? ⟨gb186, 14, none⟩ = some (.int .i64 a0_14) := (blk_cell BK186.out 14).trans rfl
                  have hcz26_15 : wc.cell? ⟨gb186, 15, none⟩ = some (.int .i64 a0_15) := (blk_cell BK186.out 15).trans rfl
                  have hcz26_16 : wc.cell? ⟨gb186, 16, none⟩ = some (.int .i64 a0_16) := (blk_cell BK186.out 16).trans rfl
                  have hfz26_0 := blk_frozen BK186.out 0
                  have hfz26_1 := blk_frozen BK186.out 1
                  have hfz26_2 := blk_frozen BK186.out 2
                  have hfz26_3 := blk_frozen BK186.out 3
                  have hfz26_4 := blk_frozen BK186.out 4
                  have hfz26_5 := blk_frozen BK186.out 5
                  have hfz26_6 := blk_frozen BK186.out 6
                  have hfz26_7 := blk_frozen BK186.out 7
                  have hfz26_8 := blk_frozen BK186.out 8
                  have hfz26_9 := blk_frozen BK186.out 9
                  have hfz26_10 := blk_frozen BK186.out 10
                  have hfz26_11 := blk_frozen BK186.out 11
                  have hfz26_12 := blk_frozen BK186.out 12
                  have hfz26_13 := blk_frozen BK186.out 13
                  have hfz26_14 := blk_frozen BK186.out 14
                  have hfz26_15 := blk_frozen BK186.out 15
                  have hfz26_16 := blk_frozen BK186.out 16
                  go_wp2_with (first | (go_at_call 40; (with_reducible refine (longcaseref08_name.calls kj2 a0_5 true _ A15.out).mono ?_); rintro e w' ⟨rfl, ⟨nd, rfl⟩⟩) | (go_at_call 41; (with_reducible refine (longcaseref08_off.calls a0_3 true _ A17.out).mono ?_); rintro e w' ⟨rfl, ⟨nd, rfl⟩⟩) | (go_at_call 20; (with_reducible refine (longcaseref08_Change.calls kj2 a0_7 a0_8 a0_9 a0_10 a0_11 a1 false _ A19.out).mono ?_); rintro e w27 ⟨rfl, hb⟩; have n0_ := Aside0.mk (blk_below (g := gb186) (o := .cells #[.int .i64 a0_0, .bool a0_1, .string a0_2, .int .i64 a0_3, .bool true, .string a0_5, .bool true, .int .i64 a0_7, .int .i64 a0_8, .int .i64 a0_9, .int .i64 a0_10, .int .i64 a0_11, .int .i64 a0_12, .int .i64 a0_13, .int .i64 a0_14, .int .i64 a0_15, .int .i64 a0_16] 27 (0, 0)) (by (with_reducible repeat (first | refine blk_drewN ?_ _ | refine blk_drew ?_ | refine blk_alloc ?_ _)); exact BK186.out) hb); have n1_ := Aside0.mk (below_step (by repeat (first | (with_reducible first | exact HB.out | apply below_alloc | apply pw_below_drewN | apply below_drew1 | refine below_set ?_ GE186.out) | exact HB.out)) hb); clear BK186; clear HB; have BK186 := n0_; have HB := n1_; clear n0_ n1_; (try clear hb); (try clear hb2); (try clear hk); (try clear hi)))
                  go_ret
                  exact ⟨by first | rfl | (simp [errW_none, errW_some] <;> rfl) | (simp [*, errW_none, errW_some] <;> rfl), by repeat (first | (with_reducible first | exact HB.out | apply below_alloc | apply pw_below_drewN | apply below_drew1 | refine below_set ?_ GE186.out) | exact HB.out)⟩
              · replace c18 := Bool.eq_false_iff.mpr c18
                subst c18
                have H1 : (some false) = some r := by rw [if_neg (show ¬ (false = true) by decide)] at H; exact H
                clear H
                have H := H1
                clear H1
                obtain rfl := Option.some.inj H
                have hcz28_0 : wc.cell? ⟨gb186, 0, none⟩ = some (.int .i64 a0_0) := (blk_cell BK186.out 0).trans rfl
                have hcz28_1 : wc.cell? ⟨gb186, 1, none⟩ = some (.bool a0_1) := (blk_cell BK186.out 1).trans rfl
                have hcz28_2 : wc.cell? ⟨gb186, 2, none⟩ = some (.string a0_2) := (blk_cell BK186.out 2).trans rfl
                have hcz28_3 : wc.cell? ⟨gb186, 3, none⟩ = some (.int .i64 a0_3) := (blk_cell BK186.out 3).trans rfl
                have hcz28_4 : wc.cell? ⟨gb186, 4, none⟩ = some (.bool true) := (blk_cell BK186.out 4).trans rfl
                have hcz28_5 : wc.cell? ⟨gb186, 5, none⟩ = some (.string a0_5) := (blk_cell BK186.out 5).trans rfl
                have hcz28_6 : wc.cell? ⟨gb186, 6, none⟩ = some (.bool true) := (blk_cell BK186.out 6).trans rfl
                have hcz28_7 : wc.cell? ⟨gb186, 7, none⟩ = some (.int .i64 a0_7) := (blk_cell BK186.out 7).trans rfl
                have hcz28_8 : wc.cell? ⟨gb186, 8, none⟩ = some (.int .i64 a0_8) := (blk_cell BK186.out 8).trans rfl
                have hcz28_9 : wc.cell? ⟨gb186, 9, none⟩ = some (.int .i64 a0_9) := (blk_cell BK186.out 9).trans rfl
                have hcz28_10 : wc.cell? ⟨gb186, 10, none⟩ = some (.int .i64 a0_10) := (blk_cell BK186.out 10).trans rfl
                have hcz28_11 : wc.cell? ⟨gb186, 11, none⟩ = some (.int .i64 a0_11) := (blk_cell BK186.out 11).trans rfl
                have hcz28_12 : wc.cell? ⟨gb186, 12, none⟩ = some (.int .i64 a0_12) := (blk_cell BK186.out 12).trans rfl
                have hcz28_13 : wc.cell? ⟨gb186, 13, none⟩ = some (.int .i64 a0_13) := (blk_cell BK186.out 13).trans rfl
                have hcz28_14 : wc.cell? ⟨gb186, 14, none⟩ = some (.int .i64 a0_14) := (blk_cell BK186.out 14).trans rfl
                have hcz28_15 : wc.cell? ⟨gb186, 15, none⟩ = some (.int .i64 a0_15) := (blk_cell BK186.out 15).trans rfl
                have hcz28_16 : wc.cell? ⟨gb186, 16, none⟩ = some (.int .i64 a0_16) := (blk_cell BK186.out 16).trans rfl
                have hfz28_0 := blk_frozen BK186.out 0
                have hfz28_1 := blk_frozen BK186.out 1
                have hfz28_2 := blk_frozen BK186.out 2
                have hfz28_3 := blk_frozen BK186.out 3
                have hfz28_4 := blk_frozen BK186.out 4
                have hfz28_5 := blk_frozen BK186.out 5
                have hfz28_6 := blk_frozen BK186.out 6
                have hfz28_7 := blk_frozen BK186.out 7
                have hfz28_8 := blk_frozen BK186.out 8
                have hfz28_9 := blk_frozen BK186.out 9
                have hfz28_10 := blk_frozen BK186.out 10
                have hfz28_11 := blk_frozen BK186.out 11
                have hfz28_12 := blk_frozen BK186.out 12
                have hfz28_13 := blk_frozen BK186.out 13
                have hfz28_14 := blk_frozen BK186.out 14
                have hfz28_15 := blk_frozen BK186.out 15
                have hfz28_16 := blk_frozen BK186.out 16
                go_wp2_with (first | (go_at_call 40; (with_reducible refine (longcaseref08_name.calls kj2 a0_5 true _ A15.out).mono ?_); rintro e w' ⟨rfl, ⟨nd, rfl⟩⟩) | (go_at_call 41; (with_reducible refine (longcaseref08_off.calls a0_3 false _ A17.out).mono ?_); rintro e w' ⟨rfl, ⟨nd, rfl⟩⟩))
                go_ret
                exact ⟨by first | rfl | (simp [errW_none, errW_some] <;> rfl) | (simp [*, errW_none, errW_some] <;> rfl), by repeat (first | (with_reducible first | exact HB.out | apply below_alloc | apply pw_below_drewN | apply below_drew1 | refine below_set ?_ GE186.out) | exact HB.out)⟩
            · replace c16 := Bool.eq_false_iff.mpr c16
              subst c16
              have H1 : (some false) = some r := by rw [if_neg (show ¬ (false = true) by decide)] at H; exact H
              clear H
              have H := H1
              clear H1
              obtain rfl := Option.some.inj H
              have hcz29_0 : wc.cell? ⟨gb186, 0, none⟩ = some (.int .i64 a0_0) := (blk_cell BK186.out 0).trans rfl
              have hcz29_1 : wc.cell? ⟨gb186, 1, none⟩ = some (.bool a0_1) := (blk_cell BK186.out 1).trans rfl
              have hcz29_2 : wc.cell? ⟨gb186, 2, none⟩ = some (.string a0_2) := (blk_cell BK186.out 2).trans rfl
              have hcz29_3 : wc.cell? ⟨gb186, 3, none⟩ = some (.int .i64 a0_3) := (blk_cell BK186.out 3).trans rfl
              have hcz29_4 : wc.cell? ⟨gb186, 4, none⟩ = some (.bool true) := (blk_cell BK186.out 4).trans rfl
              have hcz29_5 : wc.cell? ⟨gb186, 5, none⟩ = some (.string a0_5) := (blk_cell BK186.out 5).trans rfl
              have hcz29_6 : wc.cell? ⟨gb186, 6, none⟩ = some (.bool true) := (blk_cell BK186.out 6).trans rfl
              have hcz29_7 : wc.cell? ⟨gb186, 7, none⟩ = some (.int .i64 a0_7) := (blk_cell BK186.out 7).trans rfl
              have hcz29_8 : wc.cell? ⟨gb186, 8, none⟩ = some (.int .i64 a0_8) := (blk_cell BK186.out 8).trans rfl
              have hcz29_9 : wc.cell? ⟨gb186, 9, none⟩ = some (.int .i64 a0_9) := (blk_cell BK186.out 9).trans rfl
              have hcz29_10 : wc.cell? ⟨gb186, 10, none⟩ = some (.int .i64 a0_10) := (blk_cell BK186.out 10).trans rfl
              have hcz29_11 : wc.cell? ⟨gb186, 11, none⟩ = some (.int .i64 a0_11) := (blk_cell BK186.out 11).trans rfl
              have hcz29_12 : wc.cell? ⟨gb186, 12, none⟩ = some (.int .i64 a0_12) := (blk_cell BK186.out 12).trans rfl
              have hcz29_13 : wc.cell? ⟨gb186, 13, none⟩ = some (.int .i64 a0_13) := (blk_cell BK186.out 13).trans rfl
              have hcz29_14 : wc.cell? ⟨gb186, 14, none⟩ = some (.int .i64 a0_14) := (blk_cell BK186.out 14).trans rfl
              have hcz29_15 : wc.cell? ⟨gb186, 15, none⟩ = some (.int .i64 a0_15) := (blk_cell BK186.out 15).trans rfl
              have hcz29_16 : wc.cell? ⟨gb186, 16, none⟩ = some (.int .i64 a0_16) := (blk_cell BK186.out 16).trans rfl
              have hfz29_0 := blk_frozen BK186.out 0
              have hfz29_1 := blk_frozen BK186.out 1
              have hfz29_2 := blk_frozen BK186.out 2
              have hfz29_3 := blk_frozen BK186.out 3
              have hfz29_4 := blk_frozen BK186.out 4
              have hfz29_5 := blk_frozen BK186.out 5
              have hfz29_6 := blk_frozen BK186.out 6
              have hfz29_7 := blk_frozen BK186.out 7
              have hfz29_8 := blk_frozen BK186.out 8
              have hfz29_9 := blk_frozen BK186.out 9
              have hfz29_10 := blk_frozen BK186.out 10
              have hfz29_11 := blk_frozen BK186.out 11
              have hfz29_12 := blk_frozen BK186.out 12
              have hfz29_13 := blk_frozen BK186.out 13
              have hfz29_14 := blk_frozen BK186.out 14
              have hfz29_15 := blk_frozen BK186.out 15
              have hfz29_16 := blk_frozen BK186.out 16
              go_wp2_with (first | (go_at_call 40; (with_reducible refine (longcaseref08_name.calls kj2 a0_5 false _ A15.out).mono ?_); rintro e w' ⟨rfl, ⟨nd, rfl⟩⟩))
              go_ret
              exact ⟨by first | rfl | (simp [errW_none, errW_some] <;> rfl) | (simp [*, errW_none, errW_some] <;> rfl), by repeat (first | (with_reducible first | exact HB.out | apply below_alloc | apply pw_below_drewN | apply below_drew1 | refine below_set ?_ GE186.out) | exact HB.out)⟩
          · replace c14 := Bool.eq_false_iff.mpr c14
            subst c14
            have H1 : (some false) = some r := by rw [if_neg (show ¬ (false = true) by decide)] at H; exact H
            clear H
            have H := H1
            clear H1
            obtain rfl := Option.some.inj H
            have hcz30_0 : wc.cell? ⟨gb186, 0, none⟩ = some (.int .i64 a0_0) := (blk_cell BK186.out 0).trans rfl
            have hcz30_1 : wc.cell? ⟨gb186, 1, none⟩ = some (.bool a0_1) := (blk_cell BK186.out 1).trans rfl
            have hcz30_2 : wc.cell? ⟨gb186, 2, none⟩ = some (.string a0_2) := (blk_cell BK186.out 2).trans rfl
            have hcz30_3 : wc.cell? ⟨gb186, 3, none⟩ = some (.int .i64 a0_3) := (blk_cell BK186.out 3).trans rfl
            have hcz30_4 : wc.cell? ⟨gb186, 4, none⟩ = some (.bool false) := (blk_cell BK186.out 4).trans rfl
            have hcz30_5 : wc.cell? ⟨gb186, 5, none⟩ = some (.string a0_5) := (blk_cell BK186.out 5).trans rfl
            have hcz30_6 : wc.cell? ⟨gb186, 6, none⟩ = some (.bool true) := (blk_cell BK186.out 6).trans rfl
            have hcz30_7 : wc.cell? ⟨gb186, 7, none⟩ = some (.int .i64 a0_7) := (blk_cell BK186.out 7).trans rfl
            have hcz30_8 : wc.cell? ⟨gb186, 8, none⟩ = some (.int .i64 a0_8) := (blk_cell BK186.out 8).trans rfl
            have hcz30_9 : wc.cell? ⟨gb186, 9, none⟩ = some (.int .i64 a0_9) := (blk_cell BK186.out 9).trans rfl
            have hcz30_10 : wc.cell? ⟨gb186, 10, none⟩ = some (.int .i64 a0_10) := (blk_cell BK186.out 10).trans rfl
            have hcz30_11 : wc.cell? ⟨gb186, 11, none⟩ = some (.int .i64 a0_11) := (blk_cell BK186.out 11).trans rfl
            have hcz30_12 : wc.cell? ⟨gb186, 12, none⟩ = some (.int .i64 a0_12) := (blk_cell BK186.out 12).trans rfl
            have hcz30_13 : wc.cell? ⟨gb186, 13, none⟩ = some (.int .i64 a0_13) := (blk_cell BK186.out 13).trans rfl
            have hcz30_14 : wc.cell? ⟨gb186, 14, none⟩ = some (.int .i64 a0_14) := (blk_cell BK186.out 14).trans rfl
            have hcz30_15 : wc.cell? ⟨gb186, 15, none⟩ = some (.int .i64 a0_15) := (blk_cell BK186.out 15).trans rfl
            have hcz30_16 : wc.cell? ⟨gb186, 16, none⟩ = some (.int .i64 a0_16) := (blk_cell BK186.out 16).trans rfl
            have hfz30_0 := blk_frozen BK186.out 0
            have hfz30_1 := blk_frozen BK186.out 1
            have hfz30_2 := blk_frozen BK186.out 2
            have hfz30_3 := blk_frozen BK186.out 3
            have hfz30_4 := blk_frozen BK186.out 4
            have hfz30_5 := blk_frozen BK186.out 5
            have hfz30_6 := blk_frozen BK186.out 6
            have hfz30_7 := blk_frozen BK186.out 7
            have hfz30_8 := blk_frozen BK186.out 8
            have hfz30_9 := blk_frozen BK186.out 9
            have hfz30_10 := blk_frozen BK186.out 10
            have hfz30_11 := blk_frozen BK186.out 11
            have hfz30_12 := blk_frozen BK186.out 12
            have hfz30_13 := blk_frozen BK186.out 13
            have hfz30_14 := blk_frozen BK186.out 14
            have hfz30_15 := blk_frozen BK186.out 15
            have hfz30_16 := blk_frozen BK186.out 16
            go_wp2
            go_ret
            exact ⟨by first | rfl | (simp [errW_none, errW_some] <;> rfl) | (simp [*, errW_none, errW_some] <;> rfl), by repeat (first | (with_reducible first | exact HB.out | apply below_alloc | apply pw_below_drewN | apply below_drew1 | refine below_set ?_ GE186.out) | exact HB.out)⟩
        · replace c13 := Bool.eq_false_iff.mpr c13
          subst c13
          have H1 : (if (a0_3 == 0 && (!a0_4 && (a0_5.toList.isEmpty))) = true then (if (a0_7 == 0 && (a0_8 == 0 && (a0_9 == 0 && (a0_10 == 0 && (a0_11 == 0))))) = true then (some (a0_12 == 0 && (a0_13 == 0 && (a0_14 == 0 && (a0_15 == 0 && (a0_16 == 0)))))) else (some false)) else (some false)) = some r := by rw [if_neg (show ¬ (false = true) by decide)] at H; exact H
          clear H
          have H := H1
          clear H1
          by_cases c31 : (a0_3 == 0 && (!a0_4 && (a0_5.toList.isEmpty))) = true
          · rw [if_pos c31] at H
            have c31b0 : (a0_3 == 0 && (!a0_4 && (a0_5.toList.isEmpty))) = true := c31
            (try (have c31b1 : decide (a0_3 = 0 && (!a0_4 && (a0_5.toList.isEmpty))) = true := by simpa using c31))
            (try (have c31b2 : (a0_3 == 0 && (!a0_4 && (a0_5.toList.isEmpty))) = true := by simpa using c31))
            clear c31
            by_cases c32 : (a0_7 == 0 && (a0_8 == 0 && (a0_9 == 0 && (a0_10 == 0 && (a0_11 == 0))))) = true
            · rw [if_pos c32] at H
              have c32b0 : (a0_7 == 0 && (a0_8 == 0 && (a0_9 == 0 && (a0_10 == 0 && (a0_11 == 0))))) = true := c32
              (try (have c32b1 : decide (a0_7 = 0 && (a0_8 == 0 && (a0_9 == 0 && (a0_10 == 0 && (a0_11 == 0))))) = true := by simpa using c32))
              (try (have c32b2 : (a0_7 == 0 && (a0_8 == 0 && (a0_9 == 0 && (a0_10 == 0 && (a0_11 == 0))))) = true := by simpa using c32))
              clear c32
              obtain rfl := Option.some.inj H
              have hcz33_0 : wc.cell? ⟨gb186, 0, none⟩ = some (.int .i64 a0_0) := (blk_cell BK186.out 0).trans rfl
              have hcz33_1 : wc.cell? ⟨gb186, 1, none⟩ = some (.bool a0_1) := (blk_cell BK186.out 1).trans rfl
              have hcz33_2 : wc.cell? ⟨gb186, 2, none⟩ = some (.string a0_2) := (blk_cell BK186.out 2).trans rfl
              have hcz33_3 : wc.cell? ⟨gb186, 3, none⟩ = some (.int .i64 a0_3) := (blk_cell BK186.out 3).trans rfl
              have hcz33_4 : wc.cell? ⟨gb186, 4, none⟩ = some (.bool a0_4) := (blk_cell BK186.out 4).trans rfl
              have hcz33_5 : wc.cell? ⟨gb186, 5, none⟩ = some (.string a0_5) := (blk_cell BK186.out 5).trans rfl
              have hcz33_6 : wc.cell? ⟨gb186, 6, none⟩ = some (.bool false) := (blk_cell BK186.out 6).trans rfl
              have hcz33_7 : wc.cell? ⟨gb186, 7, none⟩ = some (.int .i64 a0_7) := (blk_cell BK186.out 7).trans rfl
              have hcz33_8 : wc.cell? ⟨gb186, 8, none⟩ = some (.int .i64 a0_8) := (blk_cell BK186.out 8).trans rfl
              have hcz33_9 : wc.cell? ⟨gb186, 9, none⟩ = some (.int .i64 a0_9) := (blk_cell BK186.out 9).trans rfl
              have hcz33_10 : wc.cell? ⟨gb186, 10, none⟩ = some (.int .i64 a0_10) := (blk_cell BK186.out 10).trans rfl
              have hcz33_11 : wc.cell? ⟨gb186, 11, none⟩ = some (.int .i64 a0_11) := (blk_cell BK186.out 11).trans rfl
              have hcz33_12 : wc.cell? ⟨gb186, 12, none⟩ = some (.int .i64 a0_12) := (blk_cell BK186.out 12).trans rfl
              have hcz33_13 : wc.cell? ⟨gb186, 13, none⟩ = some (.int .i64 a0_13) := (blk_cell BK186.out 13).trans rfl
              have hcz33_14 : wc.cell? ⟨gb186, 14, none⟩ = some (.int .i64 a0_14) := (blk_cell BK186.out 14).trans rfl
              have hcz33_15 : wc.cell? ⟨gb186, 15, none⟩ = some (.int .i64 a0_15) := (blk_cell BK186.out 15).trans rfl
              have hcz33_16 : wc.cell? ⟨gb186, 16, none⟩ = some (.int .i64 a0_16) := (blk_cell BK186.out 16).trans rfl
              have hfz33_0 := blk_frozen BK186.out 0
              have hfz33_1 := blk_frozen BK186.out 1
              have hfz33_2 := blk_frozen BK186.out 2
              have hfz33_3 := blk_frozen BK186.out 3
              have hfz33_4 := blk_frozen BK186.out 4
              have hfz33_5 := blk_frozen BK186.out 5
              have hfz33_6 := blk_frozen BK186.out 6
              have hfz33_7 := blk_frozen BK186.out 7
              have hfz33_8 := blk_frozen BK186.out 8
              have hfz33_9 := blk_frozen BK186.out 9
              have hfz33_10 := blk_frozen BK186.out 10
              have hfz33_11 := blk_frozen BK186.out 11
              have hfz33_12 := blk_frozen BK186.out 12
              have hfz33_13 := blk_frozen BK186.out 13
              have hfz33_14 := blk_frozen BK186.out 14
              have hfz33_15 := blk_frozen BK186.out 15
              have hfz33_16 := blk_frozen BK186.out 16
              go_wp2
              go_ret
              exact ⟨by first | rfl | (simp [errW_none, errW_some] <;> rfl) | (simp [*, errW_none, errW_some] <;> rfl), by repeat (first | (with_reducible first | exact HB.out | apply below_alloc | apply pw_below_drewN | apply below_drew1 | refine below_set ?_ GE186.out) | exact HB.out)⟩
            · rw [if_neg c32] at H
              have c32b0 : (a0_7 == 0 && (a0_8 == 0 && (a0_9 == 0 && (a0_10 == 0 && (a0_11 == 0))))) = false := by simpa using c32
              (try (have c32b1 : decide (a0_7 = 0 && (a0_8 == 0 && (a0_9 == 0 && (a0_10 == 0 && (a0_11 == 0))))) = false := by simpa using c32))
              (try (have c32b2 : (a0_7 == 0 && (a0_8 == 0 && (a0_9 == 0 && (a0_10 == 0 && (a0_11 == 0))))) = false := by simpa using c32))
              (try (have c32b3 : ¬ (a0_7 = 0 && (a0_8 == 0 && (a0_9 == 0 && (a0_10 == 0 && (a0_11 == 0))))) := by simpa using c32))
              clear c32
              obtain rfl := Option.some.inj H
              have hcz34_0 : wc.cell? ⟨gb186, 0, none⟩ = some (.int .i64 a0_0) := (blk_cell BK186.out 0).trans rfl
              have hcz34_1 : wc.cell? ⟨gb186, 1, none⟩ = some (.bool a0_1) := (blk_cell BK186.out 1).trans rfl
              have hcz34_2 : wc.cell? ⟨gb186, 2, none⟩ = some (.string a0_2) := (blk_cell BK186.out 2).trans rfl
              have hcz34_3 : wc.cell? ⟨gb186, 3, none⟩ = some (.int .i64 a0_3) := (blk_cell BK186.out 3).trans rfl
              have hcz34_4 : wc.cell? ⟨gb186, 4, none⟩ = some (.bool a0_4) := (blk_cell BK186.out 4).trans rfl
              have hcz34_5 : wc.cell? ⟨gb186, 5, none⟩ = some (.string a0_5) := (blk_cell BK186.out 5).trans rfl
              have hcz34_6 : wc.cell? ⟨gb186, 6, none⟩ = some (.bool false) := (blk_cell BK186.out 6).trans rfl
              have hcz34_7 : wc.cell? ⟨gb186, 7, none⟩ = some (.int .i64 a0_7) := (blk_cell BK186.out 7).trans rfl
              have hcz34_8 : wc.cell? ⟨gb186, 8, none⟩ = some (.int .i64 a0_8) := (blk_cell BK186.out 8).trans rfl
              have hcz34_9 : wc.cell? ⟨gb186, 9, none⟩ = some (.int .i64 a0_9) := (blk_cell BK186.out 9).trans rfl
              have hcz34_10 : wc.cell? ⟨gb186, 10, none⟩ = some (.int .i64 a0_10) := (blk_cell BK186.out 10).trans rfl
              have hcz34_11 : wc.cell? ⟨gb186, 11, none⟩ = some (.int .i64 a0_11) := (blk_cell BK186.out 11).trans rfl
              have hcz34_12 : wc.cell? ⟨gb186, 12, none⟩ = some (.int .i64 a0_12) := (blk_cell BK186.out 12).trans rfl
              have hcz34_13 : wc.cell? ⟨gb186, 13, none⟩ = some (.int .i64 a0_13) := (blk_cell BK186.out 13).trans rfl
              have hcz34_14 : wc.cell? ⟨gb186, 14, none⟩ = some (.int .i64 a0_14) := (blk_cell BK186.out 14).trans rfl
              have hcz34_15 : wc.cell? ⟨gb186, 15, none⟩ = some (.int .i64 a0_15) := (blk_cell BK186.out 15).trans rfl
              have hcz34_16 : wc.cell? ⟨gb186, 16, none⟩ = some (.int .i64 a0_16) := (blk_cell BK186.out 16).trans rfl
              have hfz34_0 := blk_frozen BK186.out 0
              have hfz34_1 := blk_frozen BK186.out 1
              have hfz34_2 := blk_frozen BK186.out 2
              have hfz34_3 := blk_frozen BK186.out 3
              have hfz34_4 := blk_frozen BK186.out 4
              have hfz34_5 := blk_frozen BK186.out 5
              have hfz34_6 := blk_frozen BK186.out 6
              have hfz34_7 := blk_frozen BK186.out 7
              have hfz34_8 := blk_frozen BK186.out 8
              have hfz34_9 := blk_frozen BK186.out 9
              have hfz34_10 := blk_frozen BK186.out 10
              have hfz34_11 := blk_frozen BK186.out 11
              have hfz34_12 := blk_frozen BK186.out 12
              have hfz34_13 := blk_frozen BK186.out 13
              have hfz34_14 := blk_frozen BK186.out 14
              have hfz34_15 := blk_frozen BK186.out 15
              have hfz34_16 := blk_frozen BK186.out 16
              go_wp2
              go_ret
              exact ⟨by first | rfl | (simp [errW_none, errW_some] <;> rfl) | (simp [*, errW_none, errW_some] <;> rfl), by repeat (first | (with_reducible first | exact HB.out | apply below_alloc | apply pw_below_drewN | apply below_drew1 | refine below_set ?_ GE186.out) | exact HB.out)⟩
          · rw [if_neg c31] at H
            have c31b0 : (a0_3 == 0 && (!a0_4 && (a0_5.toList.isEmpty))) = false := by simpa using c31
            (try (have c31b1 : decide (a0_3 = 0 && (!a0_4 && (a0_5.toList.isEmpty))) = false := by simpa using c31))
            (try (have c31b2 : (a0_3 == 0 && (!a0_4 && (a0_5.toList.isEmpty))) = false := by simpa using c31))
            (try (have c31b3 : ¬ (a0_3 = 0 && (!a0_4 && (a0_5.toList.isEmpty))) := by simpa using c31))
            clear c31
            obtain rfl := Option.some.inj H
            have hcz35_0 : wc.cell? ⟨gb186, 0, none⟩ = some (.int .i64 a0_0) := (blk_cell BK186.out 0).trans rfl
            have hcz35_1 : wc.cell? ⟨gb186, 1, none⟩ = some (.bool a0_1) := (blk_cell BK186.out 1).trans rfl
            have hcz35_2 : wc.cell? ⟨gb186, 2, none⟩ = some (.string a0_2) := (blk_cell BK186.out 2).trans rfl
            have hcz35_3 : wc.cell? ⟨gb186, 3, none⟩ = some (.int .i64 a0_3) := (blk_cell BK186.out 3).trans rfl
            have hcz35_4 : wc.cell? ⟨gb186, 4, none⟩ = some (.bool a0_4) := (blk_cell BK186.out 4).trans rfl
            have hcz35_5 : wc.cell? ⟨gb186, 5, none⟩ = some (.string a0_5) := (blk_cell BK186.out 5).trans rfl
            have hcz35_6 : wc.cell? ⟨gb186, 6, none⟩ = some (.bool false) := (blk_cell BK186.out 6).trans rfl
            have hcz35_7 : wc.cell? ⟨gb186, 7, none⟩ = some (.int .i64 a0_7) := (blk_cell BK186.out 7).trans rfl
            have hcz35_8 : wc.cell? ⟨gb186, 8, none⟩ = some (.int .i64 a0_8) := (blk_cell BK186.out 8).trans rfl
            have hcz35_9 : wc.cell? ⟨gb186, 9, none⟩ = some (.int .i64 a0_9) := (blk_cell BK186.out 9).trans rfl
            have hcz35_10 : wc.cell? ⟨gb186, 10, none⟩ = some (.int .i64 a0_10) := (blk_cell BK186.out 10).trans rfl
            have hcz35_11 : wc.cell? ⟨gb186, 11, none⟩ = some (.int .i64 a0_11) := (blk_cell BK186.out 11).trans rfl
            have hcz35_12 : wc.cell? ⟨gb186, 12, none⟩ = some (.int .i64 a0_12) := (blk_cell BK186.out 12).trans rfl
            have hcz35_13 : wc.cell? ⟨gb186, 13, none⟩ = some (.int .i64 a0_13) := (blk_cell BK186.out 13).trans rfl
            have hcz35_14 : wc.cell? ⟨gb186, 14, none⟩ = some (.int .i64 a0_14) := (blk_cell BK186.out 14).trans rfl
            have hcz35_15 : wc.cell? ⟨gb186, 15, none⟩ = some (.int .i64 a0_15) := (blk_cell BK186.out 15).trans rfl
            have hcz35_16 : wc.cell? ⟨gb186, 16, none⟩ = some (.int .i64 a0_16) := (blk_cell BK186.out 16).trans rfl
            have hfz35_0 := blk_frozen BK186.out 0
            have hfz35_1 := blk_frozen BK186.out 1
            have hfz35_2 := blk_frozen BK186.out 2
            have hfz35_3 := blk_frozen BK186.out 3
            have hfz35_4 := blk_frozen BK186.out 4
            have hfz35_5 := blk_frozen BK186.out 5
            have hfz35_6 := blk_frozen BK186.out 6
            have hfz35_7 := blk_frozen BK186.out 7
            have hfz35_8 := blk_frozen BK186.out 8
            have hfz35_9 := blk_frozen BK186.out 9
            have hfz35_10 := blk_frozen BK186.out 10
            have hfz35_11 := blk_frozen BK186.out 11
            have hfz35_12 := blk_frozen BK186.out 12
            have hfz35_13 := blk_frozen BK186.out 13
            have hfz35_14 := blk_frozen BK186.out 14
            have hfz35_15 := blk_frozen BK186.out 15
            have hfz35_16 := blk_frozen BK186.out 16
            go_wp2
            go_ret
            exact ⟨by first | rfl | (simp [errW_none, errW_some] <;> rfl) | (simp [*, errW_none, errW_some] <;> rfl), by repeat (first | (with_reducible first | exact HB.out | apply below_alloc | apply pw_below_drewN | apply below_drew1 | refine below_set ?_ GE186.out) | exact HB.out)⟩
end Go.Proofs.YtgbehcahdgamoaaDoor.Fn

namespace Go.Proofs.YtgbehcahdgamoaaDoor.Fn
open Go.RowKit Go.Proofs.YtgbehcahdgamoaaDoorW.PrintWords Go.Proofs.YtgbehcahdgamoaaDoorW.PrintLast Go.Proofs.YtgbehcahdgamoaaDoorW.PrintMore
theorem refChange_j0 (k : Nat) (b : Bool) (c0 : Int) (c1 : Int) (c2 : Int) (c3 : Int) (c4 : Int) : longcaseref08_Change.j0 (k + 1) b c0 c1 c2 c3 c4 = some (!b && dateB c0 c1 c2 c3 c4) := by
  rw [longcaseref08_Change.j0]
  cases b
  · rw [if_neg (by decide)]
    unfold dateB inB
    split
    · split
      · split
        · split
          · rename_i h1 h2 h3 h4; simp [h4]; omega
          · rename_i h1 h2 h3 h4; simp [h4]
        · rename_i h1 h2 h3; simp; omega
      · rename_i h1 h2; simp; omega
    · split
      · split
        · split
          · split
            · rename_i h1 h2 h3 h4 h5; simp [h5]; omega
            · rename_i h1 h2 h3 h4 h5; simp [h5]
          · rename_i h1 h2 h3 h4; simp; omega
        · rename_i h1 h2 h3; simp; omega
      · split
        · repeat' split
          all_goals (refine congrArg some ?_; rw [Bool.eq_iff_iff]; simp; try omega)
        · simp
  · rfl
theorem refChange_eq (k : Nat) (c0 : Int) (c1 : Int) (c2 : Int) (c3 : Int) (c4 : Int) (wide : Bool) : longcaseref08_Change.f (k + 1) c0 c1 c2 c3 c4 wide = some (chgB c0 c1 c2 c3 c4 wide) := by
  unfold longcaseref08_Change.f
  simp only [refChange_j0]
  unfold chgB
  cases wide
  · simp only [Bool.false_eq_true, if_false, Bool.false_and, Bool.or_false]
    unfold inB
    split
    · have : decide (0 ≤ c4) = false := by simp; omega
      rw [this]; rfl
    · have : decide (0 ≤ c4) = true := by simp; omega
      rw [this]
      by_cases h : c4 > 89999
      · have : decide (c4 ≤ 89999) = false := by simp; omega
        simp [h, this]
      · have : decide (c4 ≤ 89999) = true := by simp; omega
        simp [h, this]
  · simp only [if_true, Bool.true_and]
    have e : (inB c4 0 89999 || inB c4 (-604799) 604799) = inB c4 (-604799) 604799 := by
      unfold inB
      rw [Bool.eq_iff_iff]
      simp
      omega
    rw [e]
    unfold inB
    split
    · have : decide (-604799 ≤ c4) = false := by simp; omega
      rw [this]; rfl
    · split
      · have : decide (c4 ≤ 604799) = false := by simp; omega
        rw [this]; simp
      · have h1 : decide (-604799 ≤ c4) = true := by simp; omega
        have h2 : decide (c4 ≤ 604799) = true := by simp; omega
        rw [h1, h2]; rfl
theorem refOff_eq (n : Int) : longcaseref08_off.f n = some (inB n (-89999) 89999) := by
  unfold longcaseref08_off.f inB
  by_cases h : n ≥ -89999
  · rw [if_pos h]; simp; omega
  · rw [if_neg h]; simp; omega
def letB (c : Int) : Bool := (decide (97 ≤ c) && decide (c ≤ 122)) || (decide (65 ≤ c) && decide (c ≤ 90))
theorem refLetter_eq (c : Int) : longcaseref08_letter.f c = some (letB c) := by
  unfold longcaseref08_letter.f letB
  repeat' split
  all_goals (refine congrArg some ?_; rw [Bool.eq_iff_iff]; simp; omega)
theorem refDigit_eq (c : Int) : longcaseref08_digit.f c = some (inB c 48 57) := by
  unfold longcaseref08_digit.f inB
  by_cases h : c ≥ 48
  · rw [if_pos h]; simp; omega
  · rw [if_neg h]; simp; omega
theorem inSet_int (c : Int) (h : 0 ≤ c) : inSet c.toNat = (letB c || inB c 48 57 || c == 43 || c == 45) := by
  obtain ⟨n, rfl⟩ := Int.eq_ofNat_of_zero_le h
  rw [Int.toNat_natCast, Bool.eq_iff_iff]
  unfold inSet letB inB
  simp
  omega
theorem all_drop (p : UInt8 → Bool) (s : ByteArray) (i : Nat) (h : i < s.size) : (s.data.toList.drop i).all p = (p (s[i]'h) && (s.data.toList.drop (i + 1)).all p) := by
  rw [List.drop_eq_getElem_cons (by simpa using h), List.all_cons]
  rfl
theorem refName_l0 (s : ByteArray) (hs : s.size ≤ 20) : ∀ (d k i : Nat), s.size - i ≤ d → i ≤ s.size → longcaseref08_name.l0 (k + d + 1) s i = some ((s.data.toList.drop i).all fun c => inSet c.toNat)
  | d, k, i, hd, hi => by
    rw [longcaseref08_name.l0]
    by_cases h : i < s.size
    · obtain ⟨d, rfl⟩ : ∃ e, d = e + 1 := ⟨d - 1, by omega⟩
      have ih := refName_l0 s hs d k (i + 1) (by omega) (by omega)
      rw [if_pos (by omega), if_pos (by omega), refLetter_eq, refDigit_eq, all_drop _ s i h]
      have hb : bt s i = (((s[i]'h).toNat : Nat) : Int) := (bt_at s i (by simpa using h)).symm
      have hin := inSet_int (bt s i) (by omega)
      rw [hb, Int.toNat_natCast] at hin
      rw [hin, ← hb]
      have hw : wrap64 ((i : Int) + 1) = ((i + 1 : Nat) : Int) := by rw [w64 ⟨by omega, by omega⟩]; omega
      rw [hw, show k + (d + 1) = k + d + 1 by omega, ih]
      simp only [Option.bind_some]
      cases letB (bt s i)
      · cases inB (bt s i) 48 57
        · by_cases h43 : bt s i = 43
          · simp [h43]
          · by_cases h45 : bt s i = 45
            · simp [h45]
            · simp [h43, h45]
        · simp
      · simp
    · rw [if_neg (by omega), List.drop_of_length_le (by simp; omega)]
      rfl
theorem refName_eq (k : Nat) (s : ByteArray) : longcaseref08_name.f (k + 22) s = some (namedB s) := by
  unfold longcaseref08_name.f namedB
  by_cases h3 : (s.size : Int) < 3
  · rw [if_pos h3, longcaseref08_name.j0]
    have : decide (3 ≤ s.size) = false := by simp; omega
    rw [this]
    rfl
  · rw [if_neg h3, longcaseref08_name.j0]
    have e3 : decide (3 ≤ s.size) = true := by simp; omega
    rw [e3]
    by_cases h20 : (s.size : Int) > 20
    · have : decide (s.size ≤ 20) = false := by simp; omega
      have e : decide ((s.size : Int) > 20) = true := by simpa using h20
      rw [this, e]
      rfl
    · have : decide (s.size ≤ 20) = true := by simp; omega
      have e : decide ((s.size : Int) > 20) = false := by simpa using h20
      rw [this, e, if_neg (by decide)]
      have := refName_l0 s (by omega) 20 k 0 (by omega) (by omega)
      rw [show k + 21 = k + 20 + 1 from rfl]
      simpa using this
theorem refRight_j0 (k : Nat) (s0 : Int) (s1 : Bool) (s2 : ByteArray) (d0 : Int) (d1 : Bool) (d2 : ByteArray) (bo : Bool) (a0 : Int) (a1 : Int) (a2 : Int) (a3 : Int) (a4 : Int) (e0 : Int) (e1 : Int) (e2 : Int) (e3 : Int) (e4 : Int) (wide b : Bool) : longcaseref08_Right.j0 (k + 23) wide b s0 s1 s2 d0 d1 d2 bo a0 a1 a2 a3 a4 e0 e1 e2 e3 e4 = some (!b && (if bo = true then d1 && (namedB d2 && (inB d0 (-89999) 89999 && (chgB a0 a1 a2 a3 a4 wide && chgB e0 e1 e2 e3 e4 wide)))
    else ((d0 == 0 && (!d1 && (d2.toList.isEmpty))) && ((a0 == 0 && (a1 == 0 && (a2 == 0 && (a3 == 0 && (a4 == 0))))) && ((e0 == 0 && (e1 == 0 && (e2 == 0 && (e3 == 0 && (e4 == 0))))))))) ) := by
  rw [longcaseref08_Right.j0]
  simp only [refName_eq, refOff_eq, refChange_eq, Option.bind_some]
  cases b
  · cases bo
    · cases (d0 == 0 && (!d1 && (d2.toList.isEmpty))) <;> cases (a0 == 0 && (a1 == 0 && (a2 == 0 && (a3 == 0 && (a4 == 0))))) <;> simp
    · cases d1 <;> cases namedB d2 <;> cases inB d0 (-89999) 89999 <;> cases chgB a0 a1 a2 a3 a4 wide <;> simp
  · rfl
theorem refRight_eq (k : Nat) (s0 : Int) (s1 : Bool) (s2 : ByteArray) (d0 : Int) (d1 : Bool) (d2 : ByteArray) (bo : Bool) (a0 : Int) (a1 : Int) (a2 : Int) (a3 : Int) (a4 : Int) (e0 : Int) (e1 : Int) (e2 : Int) (e3 : Int) (e4 : Int) (wide : Bool) : longcaseref08_Right.f (k + 23) s0 s1 s2 d0 d1 d2 bo a0 a1 a2 a3 a4 e0 e1 e2 e3 e4 wide = some (rightB s0 s1 s2 d0 d1 d2 bo a0 a1 a2 a3 a4 e0 e1 e2 e3 e4 wide) := by
  unfold longcaseref08_Right.f rightB
  simp only [refName_eq (k + 1), refOff_eq, refRight_j0, Option.bind_some]
  cases s1 <;> cases namedB s2 <;> cases inB s0 (-89999) 89999 <;> simp
end Go.Proofs.YtgbehcahdgamoaaDoor.Fn

namespace Go.Proofs.YtgbehcahdgamoaaDoor.Fn
open Go.RowKit Go.Proofs.YtgbehcahdgamoaaDoorW.PrintWords Go.Proofs.YtgbehcahdgamoaaDoorW.PrintLast Go.Proofs.YtgbehcahdgamoaaDoorW.PrintMore
set_option linter.unusedVariables false
set_option linter.unusedSimpArgs false
/-! ### longcaseref09_year: function 29 -/
def longcaseref09_year.f (a0 : Int) : Option (Bool) := if a0 ≥ (-2147483648) then (some (decide (a0 ≤ 2147483647))) else (some false)
set_option maxHeartbeats 8000000 in
set_option maxRecDepth 100000 in
theorem longcaseref09_year.calls (a0 : Int) (r : Bool) (w : World) (h : longcaseref09_year.f a0 = some r) :
    Calls Tryd.prog 29 #[.int .i64 a0] w fun e w' => e = .returned (.bool r) ∧ Drawn0 w w' := by
  have H : (if a0 ≥ (-2147483648) then (some (decide (a0 ≤ 2147483647))) else (some false)) = some r := h
  clear h
  by_cases c2 : a0 ≥ (-2147483648)
  · rw [if_pos c2] at H
    have c2b0 : decide ((-2147483648) ≤ a0) = true := decide_eq_true c2
    clear c2
    obtain rfl := Option.some.inj H
    go_enter Tryd.func29, Tryd.ntmps29
    go_wp2
    go_ret
    exact ⟨by first | rfl | (simp; done) | (simp [*]; done), by repeat (first | exact Drawn0.refl _ | apply Drawn0.step)⟩
  · rw [if_neg c2] at H
    have c2b0 : decide ((-2147483648) ≤ a0) = false := decide_eq_false c2
    clear c2
    obtain rfl := Option.some.inj H
    go_enter Tryd.func29, Tryd.ntmps29
    go_wp2
    go_ret
    exact ⟨by first | rfl | (simp; done) | (simp [*]; done), by repeat (first | exact Drawn0.refl _ | apply Drawn0.step)⟩
end Go.Proofs.YtgbehcahdgamoaaDoor.Fn

namespace Go.Proofs.YtgbehcahdgamoaaDoor.Fn
open Go.RowKit Go.Proofs.YtgbehcahdgamoaaDoorW.PrintWords Go.Proofs.YtgbehcahdgamoaaDoorW.PrintLast Go.Proofs.YtgbehcahdgamoaaDoorW.PrintMore
set_option linter.unusedVariables false
set_option linter.unusedSimpArgs false
/-! ### longcaseref09_Day: function 13 -/
mutual
def longcaseref09_Day.j0 : Nat → Int → Bool → Int → Int → Int → Int → Int → Option (Int × Bool)
  | 0, _, _, _, _, _, _, _ => none
  | k + 1, x0, x23, x170000, x170001, x170002, x170003, x170004 => if x23 = true then (some (0, false)) else ((longcaseref02_Days.f k x0 1 1).bind fun t172 => ((longcaseref02_Leap.f x0).bind fun t173 => (if x170000 = 1 then (if t173 = true then (if x170001 > 59 then (some (wrap64 (t172 + (wrap64 ((wrap64 (x170001 - 1)) + 1))), true)) else (some (wrap64 (t172 + (wrap64 (x170001 - 1))), true))) else (some (wrap64 (t172 + (wrap64 (x170001 - 1))), true))) else (if x170000 = 2 then (some (wrap64 (t172 + x170001), true)) else ((longcaseref02_Length.f k x0 x170001).bind fun t174 => (longcaseref09_Day.l0 k x0 t174 0 0 1 x170000 x170001 x170002 x170003 x170004))))))
def longcaseref09_Day.l0 : Nat → Int → Int → Int → Int → Int → Int → Int → Int → Int → Int → Option (Int × Bool)
  | 0, _, _, _, _, _, _, _, _, _, _ => none
  | k + 1, x0, x10, x11, x12, x13, x170000, x170001, x170002, x170003, x170004 => if x13 ≤ x10 then (longcaseref09_Day.j2 k x0 x10 x11 x12 x13 (decide (x11 < x170002)) x170000 x170001 x170002 x170003 x170004) else (longcaseref09_Day.j2 k x0 x10 x11 x12 x13 false x170000 x170001 x170002 x170003 x170004)
def longcaseref09_Day.j2 : Nat → Int → Int → Int → Int → Int → Bool → Int → Int → Int → Int → Int → Option (Int × Bool)
  | 0, _, _, _, _, _, _, _, _, _, _, _ => none
  | k + 1, x0, x10, x11, x12, x13, x64, x170000, x170001, x170002, x170003, x170004 => if x64 = true then ((longcaseref02_Days.f k x0 x170001 x13).bind fun t175 => ((longcaseref02_Weekday.f t175).bind fun t176 => (if t176 = x170003 then (longcaseref09_Day.l0 k x0 x10 (wrap64 (x11 + 1)) t175 (wrap64 (x13 + 1)) x170000 x170001 x170002 x170003 x170004) else (longcaseref09_Day.l0 k x0 x10 x11 x12 (wrap64 (x13 + 1)) x170000 x170001 x170002 x170003 x170004)))) else (some (x12, true))
end
def longcaseref09_Day.f (k : Nat) (a0 : Int) (a1_0 : Int) (a1_1 : Int) (a1_2 : Int) (a1_3 : Int) (a1_4 : Int) : Option (Int × Bool) := (longcaseref08_Change.f k a1_0 a1_1 a1_2 a1_3 a1_4 true).bind fun t170 => (if t170 = true then ((longcaseref09_year.f a0).bind fun t171 => (longcaseref09_Day.j0 k a0 (!t171) a1_0 a1_1 a1_2 a1_3 a1_4)) else (longcaseref09_Day.j0 k a0 true a1_0 a1_1 a1_2 a1_3 a1_4))
theorem longcaseref09_Day.mono_l : ∀ k, (∀ y0 y1 y2 y3 y4 y5 y6, LeO (longcaseref09_Day.j0 k y0 y1 y2 y3 y4 y5 y6) (longcaseref09_Day.j0 (k + 1) y0 y1 y2 y3 y4 y5 y6)) ∧ (∀ y0 y1 y2 y3 y4 y5 y6 y7 y8 y9, LeO (longcaseref09_Day.l0 k y0 y1 y2 y3 y4 y5 y6 y7 y8 y9) (longcaseref09_Day.l0 (k + 1) y0 y1 y2 y3 y4 y5 y6 y7 y8 y9)) ∧ (∀ y0 y1 y2 y3 y4 y5 y6 y7 y8 y9 y10, LeO (longcaseref09_Day.j2 k y0 y1 y2 y3 y4 y5 y6 y7 y8 y9 y10) (longcaseref09_Day.j2 (k + 1) y0 y1 y2 y3 y4 y5 y6 y7 y8 y9 y10))
  | 0 => ⟨fun _ _ _ _ _ _ _ r h => by simp [longcaseref09_Day.j0] at h, fun _ _ _ _ _ _ _ _ _ _ r h => by simp [longcaseref09_Day.l0] at h, fun _ _ _ _ _ _ _ _ _ _ _ r h => by simp [longcaseref09_Day.j2] at h⟩
  | k + 1 => by
    obtain ⟨ih0, ih1, ih2⟩ := longcaseref09_Day.mono_l k
    refine ⟨?_, ?_, ?_⟩
    · intro y0 y1 y2 y3 y4 y5 y6
      unfold longcaseref09_Day.j0
      repeat' first
      | (with_reducible exact ih0 _ _ _ _ _ _ _)
      | (with_reducible exact ih1 _ _ _ _ _ _ _ _ _ _)
      | (with_reducible exact ih2 _ _ _ _ _ _ _ _ _ _ _)
      | (with_reducible exact longcaseref02_Days.mono _ _ _ _)
      | (with_reducible exact longcaseref02_Length.mono _ _ _)
      | (with_reducible exact longcaseref08_Change.mono _ _ _ _ _ _ _)
      | (with_reducible exact LeO.refl _)
      | (with_reducible exact LeO.none _)
      | (with_reducible refine LeO.ite ?_ ?_)
      | (with_reducible refine LeO.bind ?_ (fun _ => ?_))
      | exact ih0 _ _ _ _ _ _ _
      | exact ih1 _ _ _ _ _ _ _ _ _ _
      | exact ih2 _ _ _ _ _ _ _ _ _ _ _
      | exact longcaseref02_Days.mono _ _ _ _
      | exact longcaseref02_Length.mono _ _ _
      | exact longcaseref08_Change.mono _ _ _ _ _ _ _
      | exact LeO.none _
      | refine LeO.ite ?_ ?_
      | refine LeO.bind ?_ (fun _ => ?_)
    · intro y0 y1 y2 y3 y4 y5 y6 y7 y8 y9
      unfold longcaseref09_Day.l0
      repeat' first
      | (with_reducible exact ih0 _ _ _ _ _ _ _)
      | (with_reducible exact ih1 _ _ _ _ _ _ _ _ _ _)
      | (with_reducible exact ih2 _ _ _ _ _ _ _ _ _ _ _)
      | (with_reducible exact longcaseref02_Days.mono _ _ _ _)
      | (with_reducible exact longcaseref02_Length.mono _ _ _)
      | (with_reducible exact longcaseref08_Change.mono _ _ _ _ _ _ _)
      | (with_reducible exact LeO.refl _)
      | (with_reducible exact LeO.none _)
      | (with_reducible refine LeO.ite ?_ ?_)
      | (with_reducible refine LeO.bind ?_ (fun _ => ?_))
      | exact ih0 _ _ _ _ _ _ _
      | exact ih1 _ _ _ _ _ _ _ _ _ _
      | exact ih2 _ _ _ _ _ _ _ _ _ _ _
      | exact longcaseref02_Days.mono _ _ _ _
      | exact longcaseref02_Length.mono _ _ _
      | exact longcaseref08_Change.mono _ _ _ _ _ _ _
      | exact LeO.none _
      | refine LeO.ite ?_ ?_
      | refine LeO.bind ?_ (fun _ => ?_)
    · intro y0 y1 y2 y3 y4 y5 y6 y7 y8 y9 y10
      unfold longcaseref09_Day.j2
      repeat' first
      | (with_reducible exact ih0 _ _ _ _ _ _ _)
      | (with_reducible exact ih1 _ _ _ _ _ _ _ _ _ _)
      | (with_reducible exact ih2 _ _ _ _ _ _ _ _ _ _ _)
      | (with_reducible exact longcaseref02_Days.mono _ _ _ _)
      | (with_reducible exact longcaseref02_Length.mono _ _ _)
      | (with_reducible exact longcaseref08_Change.mono _ _ _ _ _ _ _)
      | (with_reducible exact LeO.refl _)
      | (with_reducible exact LeO.none _)
      | (with_reducible refine LeO.ite ?_ ?_)
      | (with_reducible refine LeO.bind ?_ (fun _ => ?_))
      | exact ih0 _ _ _ _ _ _ _
      | exact ih1 _ _ _ _ _ _ _ _ _ _
      | exact ih2 _ _ _ _ _ _ _ _ _ _ _
      | exact longcaseref02_Days.mono _ _ _ _
      | exact longcaseref02_Length.mono _ _ _
      | exact longcaseref08_Change.mono _ _ _ _ _ _ _
      | exact LeO.none _
      | refine LeO.ite ?_ ?_
      | refine LeO.bind ?_ (fun _ => ?_)
theorem longcaseref09_Day.mono : ∀ a0 a1 a2 a3 a4 a5 k, LeO (longcaseref09_Day.f k a0 a1 a2 a3 a4 a5) (longcaseref09_Day.f (k + 1) a0 a1 a2 a3 a4 a5) := by
  intro a0 a1 a2 a3 a4 a5 k
  obtain ⟨ih0, ih1, ih2⟩ := longcaseref09_Day.mono_l k
  unfold longcaseref09_Day.f
  repeat' first
      | (with_reducible exact ih0 _ _ _ _ _ _ _)
      | (with_reducible exact ih1 _ _ _ _ _ _ _ _ _ _)
      | (with_reducible exact ih2 _ _ _ _ _ _ _ _ _ _ _)
      | (with_reducible exact longcaseref02_Days.mono _ _ _ _)
      | (with_reducible exact longcaseref02_Length.mono _ _ _)
      | (with_reducible exact longcaseref08_Change.mono _ _ _ _ _ _ _)
      | (with_reducible exact LeO.refl _)
      | (with_reducible exact LeO.none _)
      | (with_reducible refine LeO.ite ?_ ?_)
      | (with_reducible refine LeO.bind ?_ (fun _ => ?_))
      | exact ih0 _ _ _ _ _ _ _
      | exact ih1 _ _ _ _ _ _ _ _ _ _
      | exact ih2 _ _ _ _ _ _ _ _ _ _ _
      | exact longcaseref02_Days.mono _ _ _ _
      | exact longcaseref02_Length.mono _ _ _
      | exact longcaseref08_Change.mono _ _ _ _ _ _ _
      | exact LeO.none _
      | refine LeO.ite ?_ ?_
      | refine LeO.bind ?_ (fun _ => ?_)
set_option maxHeartbeats 8000000 in
set_option maxRecDepth 100000 in
theorem longcaseref09_Day.calls (k : Nat) (a0 : Int) (a1_0 : Int) (a1_1 : Int) (a1_2 : Int) (a1_3 : Int) (a1_4 : Int) (r1 : Int) (r2 : Bool) (w : World) (h : longcaseref09_Day.f k a0 a1_0 a1_1 a1_2 a1_3 a1_4 = some (r1, r2)) :
    Calls Tryd.prog 13 #[.int .i64 a0, .agg #[.int .i64 a1_0, .int .i64 a1_1, .int .i64 a1_2, .int .i64 a1_3, .int .i64 a1_4]] w fun e w' => e = .returned (.tuple #[.int .i64 r1, .bool r2]) ∧ Below w.heap.size w w' := by
  have hu25 := Tryd.underlying25
  have HB := Aside0.mk (Below.refl w.heap.size w)
  have H : ((longcaseref08_Change.f k a1_0 a1_1 a1_2 a1_3 a1_4 true).bind fun t170 => (if t170 = true then ((longcaseref09_year.f a0).bind fun t171 => (longcaseref09_Day.j0 k a0 (!t171) a1_0 a1_1 a1_2 a1_3 a1_4)) else (longcaseref09_Day.j0 k a0 true a1_0 a1_1 a1_2 a1_3 a1_4))) = some (r1, r2) := h
  clear h
  replace H := Option.bind_eq_some_iff.mp H
  obtain ⟨t170, A30, H⟩ := H
  replace H : (if t170 = true then ((longcaseref09_year.f a0).bind fun t171 => (longcaseref09_Day.j0 k a0 (!t171) a1_0 a1_1 a1_2 a1_3 a1_4)) else (longcaseref09_Day.j0 k a0 true a1_0 a1_1 a1_2 a1_3 a1_4)) = some (r1, r2) := H
  have A3 := Aside0.mk A30
  clear A30
  have HC4 := Aside0.mk H
  clear H
  go_enter Tryd.func13, Tryd.ntmps13
  go_upto_region 2 with (first | ((with_reducible refine gate_dst (N := 3) rfl ?_); refine box_event ?hg (N := 3) ?hd (cs := #[.int .i64 a1_0, .int .i64 a1_1, .int .i64 a1_2, .int .i64 a1_3, .int .i64 a1_4]) (t := 25) ?hr ?_; (case hd => rfl); (case hg => rfl); (case hr => first | (go_simp; done) | (go_simp; rfl)); intro gb169 hg w5 hbox hb; have n0_ := Aside0.mk (below_step (by repeat (first | (with_reducible first | exact HB.out | apply below_alloc | apply pw_below_drewN | apply below_drew1) | exact HB.out)) hb); have n1_ := Aside0.mk (hbox); have n2_ := Aside0.mk ((by rw [hg]; exact (below_size (by repeat (first | (with_reducible first | exact HB.out | apply below_alloc | apply pw_below_drewN | apply below_drew1) | exact HB.out))) : w.heap.size ≤ gb169)); have n3_ := Aside0.mk ((by rw [hg]; exact (below_size (by repeat (first | (with_reducible first | exact HB.out | apply below_alloc | apply pw_below_drewN | apply below_drew1) | exact HB.out))) : w.heap.size ≤ gb169)); clear HB; have HB := n0_; have BK169 := n1_; have GW169 := n2_; have GE169 := n3_; clear n0_ n1_ n2_ n3_; clear hb hbox hg) | ((with_reducible refine gate_dst (N := 15) rfl ?_); refine wpList_load_row rfl 25 _ rfl (gb169) rfl 25 #[.int .i64 a1_0, .int .i64 a1_1, .int .i64 a1_2, .int .i64 a1_3, .int .i64 a1_4] (0, 0) _ (by (with_reducible repeat (first | refine blk_drewN ?_ _ | refine blk_drew ?_ | refine blk_alloc ?_ _)); exact BK169.out) Tryd.underlying25 rfl (by kernel_rfl) ?_) | (go_at_call 20; (with_reducible refine (longcaseref08_Change.calls k a1_0 a1_1 a1_2 a1_3 a1_4 true t170 _ A3.out).mono ?_); rintro e w6 ⟨rfl, hb⟩; have n0_ := Aside0.mk (blk_below (g := gb169) (o := .cells #[.int .i64 a1_0, .int .i64 a1_1, .int .i64 a1_2, .int .i64 a1_3, .int .i64 a1_4] 25 (0, 0)) (by (with_reducible repeat (first | refine blk_drewN ?_ _ | refine blk_drew ?_ | refine blk_alloc ?_ _)); exact BK169.out) hb); have n1_ := Aside0.mk (below_step (by repeat (first | (with_reducible first | exact HB.out | apply below_alloc | apply pw_below_drewN | apply below_drew1 | refine below_set ?_ GE169.out) | exact HB.out)) hb); clear BK169; clear HB; have BK169 := n0_; have HB := n1_; clear n0_ n1_; (try clear hb); (try clear hb2); (try clear hk); (try clear hi)))
  repeat (go_quiet (first | ((with_reducible refine gate_dst (N := 3) rfl ?_); refine box_event ?hg (N := 3) ?hd (cs := #[.int .i64 a1_0, .int .i64 a1_1, .int .i64 a1_2, .int .i64 a1_3, .int .i64 a1_4]) (t := 25) ?hr ?_; (case hd => rfl); (case hg => rfl); (case hr => first | (go_simp; done) | (go_simp; rfl)); intro gb169 hg w5 hbox hb; have n0_ := Aside0.mk (below_step (by repeat (first | (with_reducible first | exact HB.out | apply below_alloc | apply pw_below_drewN | apply below_drew1) | exact HB.out)) hb); have n1_ := Aside0.mk (hbox); have n2_ := Aside0.mk ((by rw [hg]; exact (below_size (by repeat (first | (with_reducible first | exact HB.out | apply below_alloc | apply pw_below_drewN | apply below_drew1) | exact HB.out))) : w.heap.size ≤ gb169)); have n3_ := Aside0.mk ((by rw [hg]; exact (below_size (by repeat (first | (with_reducible first | exact HB.out | apply below_alloc | apply pw_below_drewN | apply below_drew1) | exact HB.out))) : w.heap.size ≤ gb169)); clear HB; have HB := n0_; have BK169 := n1_; have GW169 := n2_; have GE169 := n3_; clear n0_ n1_ n2_ n3_; clear hb hbox hg) | ((with_reducible refine gate_dst (N := 15) rfl ?_); refine wpList_load_row rfl 25 _ rfl (gb169) rfl 25 #[.int .i64 a1_0, .int .i64 a1_1, .int .i64 a1_2, .int .i64 a1_3, .int .i64 a1_4] (0, 0) _ (by (with_reducible repeat (first | refine blk_drewN ?_ _ | refine blk_drew ?_ | refine blk_alloc ?_ _)); exact BK169.out) Tryd.underlying25 rfl (by kernel_rfl) ?_) | (go_at_call 20; (with_reducible refine (longcaseref08_Change.calls k a1_0 a1_1 a1_2 a1_3 a1_4 true t170 _ A3.out).mono ?_); rintro e w6 ⟨rfl, hb⟩; have n0_ := Aside0.mk (blk_below (g := gb169) (o := .cells #[.int .i64 a1_0, .int .i64 a1_1, .int .i64 a1_2, .int .i64 a1_3, .int .i64 a1_4] 25 (0, 0)) (by (with_reducible repeat (first | refine blk_drewN ?_ _ | refine blk_drew ?_ | refine blk_alloc ?_ _)); exact BK169.out) hb); have n1_ := Aside0.mk (below_step (by repeat (first | (with_reducible first | exact HB.out | apply below_alloc | apply pw_below_drewN | apply below_drew1 | refine below_set ?_ GE169.out) | exact HB.out)) hb); clear BK169; clear HB; have BK169 := n0_; have HB := n1_; clear n0_ n1_; (try clear hb); (try clear hb2); (try clear hk); (try clear hi))); go_upto_region 2 with (first | ((with_reducible refine gate_dst (N := 3) rfl ?_); refine box_event ?hg (N := 3) ?hd (cs := #[.int .i64 a1_0, .int .i64 a1_1, .int .i64 a1_2, .int .i64 a1_3, .int .i64 a1_4]) (t := 25) ?hr ?_; (case hd => rfl); (case hg => rfl); (case hr => first | (go_simp; done) | (go_simp; rfl)); intro gb169 hg w5 hbox hb; have n0_ := Aside0.mk (below_step (by repeat (first | (with_reducible first | exact HB.out | apply below_alloc | apply pw_below_drewN | apply below_drew1) | exact HB.out)) hb); have n1_ := Aside0.mk (hbox); have n2_ := Aside0.mk ((by rw [hg]; exact (below_size (by repeat (first | (with_reducible first | exact HB.out | apply below_alloc | apply pw_below_drewN | apply below_drew1) | exact HB.out))) : w.heap.size ≤ gb169)); have n3_ := Aside0.mk ((by rw [hg]; exact (below_size (by repeat (first | (with_reducible first | exact HB.out | apply below_alloc | apply pw_below_drewN | apply below_drew1) | exact HB.out))) : w.heap.size ≤ gb169)); clear HB; have HB := n0_; have BK169 := n1_; have GW169 := n2_; have GE169 := n3_; clear n0_ n1_ n2_ n3_; clear hb hbox hg) | ((with_reducible refine gate_dst (N := 15) rfl ?_); refine wpList_load_row rfl 25 _ rfl (gb169) rfl 25 #[.int .i64 a1_0, .int .i64 a1_1, .int .i64 a1_2, .int .i64 a1_3, .int .i64 a1_4] (0, 0) _ (by (with_reducible repeat (first | refine blk_drewN ?_ _ | refine blk_drew ?_ | refine blk_alloc ?_ _)); exact BK169.out) Tryd.underlying25 rfl (by kernel_rfl) ?_) | (go_at_call 20; (with_reducible refine (longcaseref08_Change.calls k a1_0 a1_1 a1_2 a1_3 a1_4 true t170 _ A3.out).mono ?_); rintro e w6 ⟨rfl, hb⟩; have n0_ := Aside0.mk (blk_below (g := gb169) (o := .cells #[.int .i64 a1_0, .int .i64 a1_1, .int .i64 a1_2, .int .i64 a1_3, .int .i64 a1_4] 25 (0, 0)) (by (with_reducible repeat (first | refine blk_drewN ?_ _ | refine blk_drew ?_ | refine blk_alloc ?_ _)); exact BK169.out) hb); have n1_ := Aside0.mk (below_step (by repeat (first | (with_reducible first | exact HB.out | apply below_alloc | apply pw_below_drewN | apply below_drew1 | refine below_set ?_ GE169.out) | exact HB.out)) hb); clear BK169; clear HB; have BK169 := n0_; have HB := n1_; clear n0_ n1_; (try clear hb); (try clear hb2); (try clear hk); (try clear hi))))
  (try simp only [Act.put, List.setIfInBounds_toArray, List.set_cons_zero, List.set_cons_succ])
  go_cut [23] (fun v23 wc => ∃ (kq : Nat) (x23_3 : Bool), v23 = .bool x23_3 ∧ Aside0 (longcaseref09_Day.j0 kq a0 x23_3 a1_0 a1_1 a1_2 a1_3 a1_4 = some (r1, r2)) ∧ Aside0 (kq ≤ k) ∧ Aside0 (wc.heap[gb169]? = some (.cells #[.int .i64 a1_0, .int .i64 a1_1, .int .i64 a1_2, .int .i64 a1_3, .int .i64 a1_4] 25 (0, 0))) ∧ Aside0 (Below w.heap.size w wc))
  case first =>
    have H := HC4.out
    clear HC4
    by_cases c7 : t170 = true
    · subst c7
      have H1 : ((longcaseref09_year.f a0).bind fun t171 => (longcaseref09_Day.j0 k a0 (!t171) a1_0 a1_1 a1_2 a1_3 a1_4)) = some (r1, r2) := by rw [if_pos rfl] at H; exact H
      clear H
      have H := H1
      clear H1
      replace H := Option.bind_eq_some_iff.mp H
      obtain ⟨t171, A80, H⟩ := H
      replace H : (longcaseref09_Day.j0 k a0 (!t171) a1_0 a1_1 a1_2 a1_3 a1_4) = some (r1, r2) := H
      have A8 := Aside0.mk A80
      clear A80
      have H' := Aside0.mk H
      clear H
      go_wp2_with (first | (go_at_call 29; (with_reducible refine (longcaseref09_year.calls a0 t171 _ A8.out).mono ?_); rintro e w' ⟨rfl, ⟨nd, rfl⟩⟩; (try first | exact ⟨rfl, _, World.drewN_drewN _ _ _⟩ | exact ⟨rfl, _, Eq.trans (World.drewN_drewN _ _ _) (congrArg (World.drewN _) (Nat.add_assoc _ _ _))⟩)))
      repeat (go_quiet (first | (go_at_call 29; (with_reducible refine (longcaseref09_year.calls a0 t171 _ A8.out).mono ?_); rintro e w' ⟨rfl, ⟨nd, rfl⟩⟩; (try first | exact ⟨rfl, _, World.drewN_drewN _ _ _⟩ | exact ⟨rfl, _, Eq.trans (World.drewN_drewN _ _ _) (congrArg (World.drewN _) (Nat.add_assoc _ _ _))⟩))); try go_wp2_with (first | (go_at_call 29; (with_reducible refine (longcaseref09_year.calls a0 t171 _ A8.out).mono ?_); rintro e w' ⟨rfl, ⟨nd, rfl⟩⟩; (try first | exact ⟨rfl, _, World.drewN_drewN _ _ _⟩ | exact ⟨rfl, _, Eq.trans (World.drewN_drewN _ _ _) (congrArg (World.drewN _) (Nat.add_assoc _ _ _))⟩))))
      go_meet
      case rel => exact ⟨_, (!t171), (by first | rfl | (simp; done) | (simp [*]; done)), H', ⟨by first | omega | exact Nat.le_refl _⟩, ⟨by (with_reducible repeat (first | refine blk_drewN ?_ _ | refine blk_drew ?_ | refine blk_alloc ?_ _)); exact BK169.out⟩, ⟨by repeat (first | (with_reducible first | exact HB.out | apply below_alloc | apply pw_below_drewN | apply below_drew1 | refine below_set ?_ GE169.out) | exact HB.out)⟩⟩
    · replace c7 := Bool.eq_false_iff.mpr c7
      subst c7
      have H1 : (longcaseref09_Day.j0 k a0 true a1_0 a1_1 a1_2 a1_3 a1_4) = some (r1, r2) := by rw [if_neg (show ¬ (false = true) by decide)] at H; exact H
      clear H
      have H := H1
      clear H1
      have H' := Aside0.mk H
      clear H
      go_wp2
      repeat (go_quiet (fail); try go_wp2)
      go_meet
      case rel => exact ⟨_, (true), (by first | rfl | (simp; done) | (simp [*]; done)), H', ⟨by first | omega | exact Nat.le_refl _⟩, ⟨by (with_reducible repeat (first | refine blk_drewN ?_ _ | refine blk_drew ?_ | refine blk_alloc ?_ _)); exact BK169.out⟩, ⟨by repeat (first | (with_reducible first | exact HB.out | apply below_alloc | apply pw_below_drewN | apply below_drew1 | refine below_set ?_ GE169.out) | exact HB.out)⟩⟩
  case rest =>
    clear HC4
    try clear c1
    try clear p2
    try clear c7
    obtain ⟨kq, x23_3, rfl, HA, HJ3, BK169, HB⟩ := hcut
    cases kq with
    | zero => exact absurd HA.out (by simp [longcaseref09_Day.j0])
    | succ kj3 =>
      have H := HA.out
      clear HA
      simp only [longcaseref09_Day.j0] at H
      by_cases c9 : x23_3 = true
      · subst c9
        have H1 : (some (0, false)) = some (r1, r2) := by rw [if_pos rfl] at H; exact H
        clear H
        have H := H1
        clear H1
        simp only [Option.some.injEq, Prod.mk.injEq] at H
        obtain ⟨rfl, rfl⟩ := H
        go_wp2
        repeat (go_quiet (fail); try go_wp2)
        go_ret2
        exact ⟨by first | rfl | (simp [errW_none, errW_some] <;> rfl) | (simp [*, errW_none, errW_some] <;> rfl), by repeat (first | (with_reducible first | exact HB.out | apply below_alloc | apply pw_below_drewN | apply below_drew1 | refine below_set ?_ GE169.out) | exact HB.out)⟩
      · replace c9 := Bool.eq_false_iff.mpr c9
        subst c9
        have H1 : ((longcaseref02_Days.f kj3 a0 1 1).bind fun t172 => ((longcaseref02_Leap.f a0).bind fun t173 => (if a1_0 = 1 then (if t173 = true then (if a1_1 > 59 then (some (wrap64 (t172 + (wrap64 ((wrap64 (a1_1 - 1)) + 1))), true)) else (some (wrap64 (t172 + (wrap64 (a1_1 - 1))), true))) else (some (wrap64 (t172 + (wrap64 (a1_1 - 1))), true))) else (if a1_0 = 2 then (some (wrap64 (t172 + a1_1), true)) else ((longcaseref02_Length.f kj3 a0 a1_1).bind fun t174 => (longcaseref09_Day.l0 kj3 a0 t174 0 0 1 a1_0 a1_1 a1_2 a1_3 a1_4)))))) = some (r1, r2) := by rw [if_neg (show ¬ (false = true) by decide)] at H; exact H
        clear H
        have H := H1
        clear H1
        replace H := Option.bind_eq_some_iff.mp H
        obtain ⟨t172, A100, H⟩ := H
        replace H : ((longcaseref02_Leap.f a0).bind fun t173 => (if a1_0 = 1 then (if t173 = true then (if a1_1 > 59 then (some (wrap64 (t172 + (wrap64 ((wrap64 (a1_1 - 1)) + 1))), true)) else (some (wrap64 (t172 + (wrap64 (a1_1 - 1))), true))) else (some (wrap64 (t172 + (wrap64 (a1_1 - 1))), true))) else (if a1_0 = 2 then (some (wrap64 (t172 + a1_1), true)) else ((longcaseref02_Length.f kj3 a0 a1_1).bind fun t174 => (longcaseref09_Day.l0 kj3 a0 t174 0 0 1 a1_0 a1_1 a1_2 a1_3 a1_4))))) = some (r1, r2) := H
        have A10 := Aside0.mk A100
        clear A100
        replace H := Option.bind_eq_some_iff.mp H
        obtain ⟨t173, A110, H⟩ := H
        replace H : (if a1_0 = 1 then (if t173 = true then (if a1_1 > 59 then (some (wrap64 (t172 + (wrap64 ((wrap64 (a1_1 - 1)) + 1))), true)) else (some (wrap64 (t172 + (wrap64 (a1_1 - 1))), true))) else (some (wrap64 (t172 + (wrap64 (a1_1 - 1))), true))) else (if a1_0 = 2 then (some (wrap64 (t172 + a1_1), true)) else ((longcaseref02_Length.f kj3 a0 a1_1).bind fun t174 => (longcaseref09_Day.l0 kj3 a0 t174 0 0 1 a1_0 a1_1 a1_2 a1_3 a1_4)))) = some (r1, r2) := H
        have A11 := Aside0.mk A110
        clear A110
        by_cases c12 : a1_0 = 1
        · rw [if_pos c12] at H
          have c12b0 : (a1_0 == 1) = true := beq_iff_eq.mpr c12
          have c12b1 : (a1_0 != 1) = false := bne_eq_false_iff_eq.mpr c12
          clear c12
          by_cases c13 : t173 = true
          · subst c13
            have H1 : (if a1_1 > 59 then (some (wrap64 (t172 + (wrap64 ((wrap64 (a1_1 - 1)) + 1))), true)) else (some (wrap64 (t172 + (wrap64 (a1_1 - 1))), true))) = some (r1, r2) := by rw [if_pos rfl] at H; exact H
            clear H
            have H := H1
            clear H1
            by_cases c14 : a1_1 > 59
            · rw [if_pos c14] at H
              have c14b0 : decide (59 < a1_1) = true := decide_eq_true c14
              clear c14
              simp only [Option.some.injEq, Prod.mk.injEq] at H
              obtain ⟨rfl, rfl⟩ := H
              go_wp2_with (first | (go_at_call 30; (with_reducible refine (longcaseref02_Days.calls kj3 a0 1 1 t172 _ A10.out).mono ?_); rintro e w' ⟨rfl, ⟨nd, rfl⟩⟩; (try first | exact ⟨rfl, _, World.drewN_drewN _ _ _⟩ | exact ⟨rfl, _, Eq.trans (World.drewN_drewN _ _ _) (congrArg (World.drewN _) (Nat.add_assoc _ _ _))⟩)) | (go_at_call 31; (with_reducible refine (longcaseref02_Leap.calls a0 true _ A11.out).mono ?_); rintro e w' ⟨rfl, ⟨nd, rfl⟩⟩; (try first | exact ⟨rfl, _, World.drewN_drewN _ _ _⟩ | exact ⟨rfl, _, Eq.trans (World.drewN_drewN _ _ _) (congrArg (World.drewN _) (Nat.add_assoc _ _ _))⟩); have hcz15_0 : wc.cell? ⟨gb169, 0, none⟩ = some (.int .i64 a1_0) := (blk_cell BK169.out 0).trans rfl; have hcz15_1 : wc.cell? ⟨gb169, 1, none⟩ = some (.int .i64 a1_1) := (blk_cell BK169.out 1).trans rfl; have hcz15_2 : wc.cell? ⟨gb169, 2, none⟩ = some (.int .i64 a1_2) := (blk_cell BK169.out 2).trans rfl; have hcz15_3 : wc.cell? ⟨gb169, 3, none⟩ = some (.int .i64 a1_3) := (blk_cell BK169.out 3).trans rfl; have hcz15_4 : wc.cell? ⟨gb169, 4, none⟩ = some (.int .i64 a1_4) := (blk_cell BK169.out 4).trans rfl; have hfz15_0 := blk_frozen BK169.out 0; have hfz15_1 := blk_frozen BK169.out 1; have hfz15_2 := blk_frozen BK169.out 2; have hfz15_3 := blk_frozen BK169.out 3; have hfz15_4 := blk_frozen BK169.out 4))
              repeat (go_quiet (first | (go_at_call 30; (with_reducible refine (longcaseref02_Days.calls kj3 a0 1 1 t172 _ A10.out).mono ?_); rintro e w' ⟨rfl, ⟨nd, rfl⟩⟩; (try first | exact ⟨rfl, _, World.drewN_drewN _ _ _⟩ | exact ⟨rfl, _, Eq.trans (World.drewN_drewN _ _ _) (congrArg (World.drewN _) (Nat.add_assoc _ _ _))⟩)) | (go_at_call 31; (with_reducible refine (longcaseref02_Leap.calls a0 true _ A11.out).mono ?_); rintro e w' ⟨rfl, ⟨nd, rfl⟩⟩; (try first | exact ⟨rfl, _, World.drewN_drewN _ _ _⟩ | exact ⟨rfl, _, Eq.trans (World.drewN_drewN _ _ _) (congrArg (World.drewN _) (Nat.add_assoc _ _ _))⟩); have hcz15_0 : wc.cell? ⟨gb169, 0, none⟩ = some (.int .i64 a1_0) := (blk_cell BK169.out 0).trans rfl; have hcz15_1 : wc.cell? ⟨gb169, 1, none⟩ = some (.int .i64 a1_1) := (blk_cell BK169.out 1).trans rfl; have hcz15_2 : wc.cell? ⟨gb169, 2, none⟩ = some (.int .i64 a1_2) := (blk_cell BK169.out 2).trans rfl; have hcz15_3 : wc.cell? ⟨gb169, 3, none⟩ = some (.int .i64 a1_3) := (blk_cell BK169.out 3).trans rfl; have hcz15_4 : wc.cell? ⟨gb169, 4, none⟩ = some (.int .i64 a1_4) := (blk_cell BK169.out 4).trans rfl; have hfz15_0 := blk_frozen BK169.out 0; have hfz15_1 := blk_frozen BK169.out 1; have hfz15_2 := blk_frozen BK169.out 2; have hfz15_3 := blk_frozen BK169.out 3; have hfz15_4 := blk_frozen BK169.out 4)); try go_wp2_with (first | (go_at_call 30; (with_reducible refine (longcaseref02_Days.calls kj3 a0 1 1 t172 _ A10.out).mono ?_); rintro e w' ⟨rfl, ⟨nd, rfl⟩⟩; (try first | exact ⟨rfl, _, World.drewN_drewN _ _ _⟩ | exact ⟨rfl, _, Eq.trans (World.drewN_drewN _ _ _) (congrArg (World.drewN _) (Nat.add_assoc _ _ _))⟩)) | (go_at_call 31; (with_reducible refine (longcaseref02_Leap.calls a0 true _ A11.out).mono ?_); rintro e w' ⟨rfl, ⟨nd, rfl⟩⟩; (try first | exact ⟨rfl, _, World.drewN_drewN _ _ _⟩ | exact ⟨rfl, _, Eq.trans (World.drewN_drewN _ _ _) (congrArg (World.drewN _) (Nat.add_assoc _ _ _))⟩); have hcz15_0 : wc.cell? ⟨gb169, 0, none⟩ = some (.int .i64 a1_0) := (blk_cell BK169.out 0).trans rfl; have hcz15_1 : wc.cell? ⟨gb169, 1, none⟩ = some (.int .i64 a1_1) := (blk_cell BK169.out 1).trans rfl; have hcz15_2 : wc.cell? ⟨gb169, 2, none⟩ = some (.int .i64 a1_2) := (blk_cell BK169.out 2).trans rfl; have hcz15_3 : wc.cell? ⟨gb169, 3, none⟩ = some (.int .i64 a1_3) := (blk_cell BK169.out 3).trans rfl; have hcz15_4 : wc.cell? ⟨gb169, 4, none⟩ = some (.int .i64 a1_4) := (blk_cell BK169.out 4).trans rfl; have hfz15_0 := blk_frozen BK169.out 0; have hfz15_1 := blk_frozen BK169.out 1; have hfz15_2 := blk_frozen BK169.out 2; have hfz15_3 := blk_frozen BK169.out 3; have hfz15_4 := blk_frozen BK169.out 4)))
              go_ret2
              exact ⟨by first | rfl | (simp [errW_none, errW_some] <;> rfl) | (simp [*, errW_none, errW_some] <;> rfl), by repeat (first | (with_reducible first | exact HB.out | apply below_alloc | apply pw_below_drewN | apply below_drew1 | refine below_set ?_ GE169.out) | exact HB.out)⟩
            · rw [if_neg c14] at H
              have c14b0 : decide (59 < a1_1) = false := decide_eq_false c14
              clear c14
              simp only [Option.some.injEq, Prod.mk.injEq] at H
              obtain ⟨rfl, rfl⟩ := H
              go_wp2_with (first | (go_at_call 30; (with_reducible refine (longcaseref02_Days.calls kj3 a0 1 1 t172 _ A10.out).mono ?_); rintro e w' ⟨rfl, ⟨nd, rfl⟩⟩; (try first | exact ⟨rfl, _, World.drewN_drewN _ _ _⟩ | exact ⟨rfl, _, Eq.trans (World.drewN_drewN _ _ _) (congrArg (World.drewN _) (Nat.add_assoc _ _ _))⟩)) | (go_at_call 31; (with_reducible refine (longcaseref02_Leap.calls a0 true _ A11.out).mono ?_); rintro e w' ⟨rfl, ⟨nd, rfl⟩⟩; (try first | exact ⟨rfl, _, World.drewN_drewN _ _ _⟩ | exact ⟨rfl, _, Eq.trans (World.drewN_drewN _ _ _) (congrArg (World.drewN _) (Nat.add_assoc _ _ _))⟩); have hcz16_0 : wc.cell? ⟨gb169, 0, none⟩ = some (.int .i64 a1_0) := (blk_cell BK169.out 0).trans rfl; have hcz16_1 : wc.cell? ⟨gb169, 1, none⟩ = some (.int .i64 a1_1) := (blk_cell BK169.out 1).trans rfl; have hcz16_2 : wc.cell? ⟨gb169, 2, none⟩ = some (.int .i64 a1_2) := (blk_cell BK169.out 2).trans rfl; have hcz16_3 : wc.cell? ⟨gb169, 3, none⟩ = some (.int .i64 a1_3) := (blk_cell BK169.out 3).trans rfl; have hcz16_4 : wc.cell? ⟨gb169, 4, none⟩ = some (.int .i64 a1_4) := (blk_cell BK169.out 4).trans rfl; have hfz16_0 := blk_frozen BK169.out 0; have hfz16_1 := blk_frozen BK169.out 1; have hfz16_2 := blk_frozen BK169.out 2; have hfz16_3 := blk_frozen BK169.out 3; have hfz16_4 := blk_frozen BK169.out 4))
              repeat (go_quiet (first | (go_at_call 30; (with_reducible refine (longcaseref02_Days.calls kj3 a0 1 1 t172 _ A10.out).mono ?_); rintro e w' ⟨rfl, ⟨nd, rfl⟩⟩; (try first | exact ⟨rfl, _, World.drewN_drewN _ _ _⟩ | exact ⟨rfl, _, Eq.trans (World.drewN_drewN _ _ _) (congrArg (World.drewN _) (Nat.add_assoc _ _ _))⟩)) | (go_at_call 31; (with_reducible refine (longcaseref02_Leap.calls a0 true _ A11.out).mono ?_); rintro e w' ⟨rfl, ⟨nd, rfl⟩⟩; (try first | exact ⟨rfl, _, World.drewN_drewN _ _ _⟩ | exact ⟨rfl, _, Eq.trans (World.drewN_drewN _ _ _) (congrArg (World.drewN _) (Nat.add_assoc _ _ _))⟩); have hcz16_0 : wc.cell? ⟨gb169, 0, none⟩ = some (.int .i64 a1_0) := (blk_cell BK169.out 0).trans rfl; have hcz16_1 : wc.cell? ⟨gb169, 1, none⟩ = some (.int .i64 a1_1) := (blk_cell BK169.out 1).trans rfl; have hcz16_2 : wc.cell? ⟨gb169, 2, none⟩ = some (.int .i64 a1_2) := (blk_cell BK169.out 2).trans rfl; have hcz16_3 : wc.cell? ⟨gb169, 3, none⟩ = some (.int .i64 a1_3) := (blk_cell BK169.out 3).trans rfl; have hcz16_4 : wc.cell? ⟨gb169, 4, none⟩ = some (.int .i64 a1_4) := (blk_cell BK169.out 4).trans rfl; have hfz16_0 := blk_frozen BK169.out 0; have hfz16_1 := blk_frozen BK169.out 1; have hfz16_2 := blk_frozen BK169.out 2; have hfz16_3 := blk_frozen BK169.out 3; have hfz16_4 := blk_frozen BK169.out 4)); try go_wp2_with (first | (go_at_call 30; (with_reducible refine (longcaseref02_Days.calls kj3 a0 1 1 t172 _ A10.out).mono ?_); rintro e w' ⟨rfl, ⟨nd, rfl⟩⟩; (try first | exact ⟨rfl, _, World.drewN_drewN _ _ _⟩ | exact ⟨rfl, _, Eq.trans (World.drewN_drewN _ _ _) (congrArg (World.drewN _) (Nat.add_assoc _ _ _))⟩)) | (go_at_call 31; (with_reducible refine (longcaseref02_Leap.calls a0 true _ A11.out).mono ?_); rintro e w' ⟨rfl, ⟨nd, rfl⟩⟩; (try first | exact ⟨rfl, _, World.drewN_drewN _ _ _⟩ | exact ⟨rfl, _, Eq.trans (World.drewN_drewN _ _ _) (congrArg (World.drewN _) (Nat.add_assoc _ _ _))⟩); have hcz16_0 : wc.cell? ⟨gb169, 0, none⟩ = some (.int .i64 a1_0) := (blk_cell BK169.out 0).trans rfl; have hcz16_1 : wc.cell? ⟨gb169, 1, none⟩ = some (.int .i64 a1_1) := (blk_cell BK169.out 1).trans rfl; have hcz16_2 : wc.cell? ⟨gb169, 2, none⟩ = some (.int .i64 a1_2) := (blk_cell BK169.out 2).trans rfl; have hcz16_3 : wc.cell? ⟨gb169, 3, none⟩ = some (.int .i64 a1_3) := (blk_cell BK169.out 3).trans rfl; have hcz16_4 : wc.cell? ⟨gb169, 4, none⟩ = some (.int .i64 a1_4) := (blk_cell BK169.out 4).trans rfl; have hfz16_0 := blk_frozen BK169.out 0; have hfz16_1 := blk_frozen BK169.out 1; have hfz16_2 := blk_frozen BK169.out 2; have hfz16_3 := blk_frozen BK169.out 3; have hfz16_4 := blk_frozen BK169.out 4)))
              go_ret2
              exact ⟨by first | rfl | (simp [errW_none, errW_some] <;> rfl) | (simp [*, errW_none, errW_some] <;> rfl), by repeat (first | (with_reducible first | exact HB.out | apply below_alloc | apply pw_below_drewN | apply below_drew1 | refine below_set ?_ GE169.out) | exact HB.out)⟩
          · replace c13 := Bool.eq_false_iff.mpr c13
            subst c13
            have H1 : (some (wrap64 (t172 + (wrap64 (a1_1 - 1))), true)) = some (r1, r2) := by rw [if_neg (show ¬ (false = true) by decide)] at H; exact H
            clear H
            have H := H1
            clear H1
            simp only [Option.some.injEq, Prod.mk.injEq] at H
            obtain ⟨rfl, rfl⟩ := H
            go_wp2_with (first | (go_at_call 30; (with_reducible refine (longcaseref02_Days.calls kj3 a0 1 1 t172 _ A10.out).mono ?_); rintro e w' ⟨rfl, ⟨nd, rfl⟩⟩; (try first | exact ⟨rfl, _, World.drewN_drewN _ _ _⟩ | exact ⟨rfl, _, Eq.trans (World.drewN_drewN _ _ _) (congrArg (World.drewN _) (Nat.add_assoc _ _ _))⟩)) | (go_at_call 31; (with_reducible refine (longcaseref02_Leap.calls a0 false _ A11.out).mono ?_); rintro e w' ⟨rfl, ⟨nd, rfl⟩⟩; (try first | exact ⟨rfl, _, World.drewN_drewN _ _ _⟩ | exact ⟨rfl, _, Eq.trans (World.drewN_drewN _ _ _) (congrArg (World.drewN _) (Nat.add_assoc _ _ _))⟩); have hcz17_0 : wc.cell? ⟨gb169, 0, none⟩ = some (.int .i64 a1_0) := (blk_cell BK169.out 0).trans rfl; have hcz17_1 : wc.cell? ⟨gb169, 1, none⟩ = some (.int .i64 a1_1) := (blk_cell BK169.out 1).trans rfl; have hcz17_2 : wc.cell? ⟨gb169, 2, none⟩ = some (.int .i64 a1_2) := (blk_cell BK169.out 2).trans rfl; have hcz17_3 : wc.cell? ⟨gb169, 3, none⟩ = some (.int .i64 a1_3) := (blk_cell BK169.out 3).trans rfl; have hcz17_4 : wc.cell? ⟨gb169, 4, none⟩ = some (.int .i64 a1_4) := (blk_cell BK169.out 4).trans rfl; have hfz17_0 := blk_frozen BK169.out 0; have hfz17_1 := blk_frozen BK169.out 1; have hfz17_2 := blk_frozen BK169.out 2; have hfz17_3 := blk_frozen BK169.out 3; have hfz17_4 := blk_frozen BK169.out 4))
            repeat (go_quiet (first | (go_at_call 30; (with_reducible refine (longcaseref02_Days.calls kj3 a0 1 1 t172 _ A10.out).mono ?_); rintro e w' ⟨rfl, ⟨nd, rfl⟩⟩; (try first | exact ⟨rfl, _, World.drewN_drewN _ _ _⟩ | exact ⟨rfl, _, Eq.trans (World.drewN_drewN _ _ _) (congrArg (World.drewN _) (Nat.add_assoc _ _ _))⟩)) | (go_at_call 31; (with_reducible refine (longcaseref02_Leap.calls a0 false _ A11.out).mono ?_); rintro e w' ⟨rfl, ⟨nd, rfl⟩⟩; (try first | exact ⟨rfl, _, World.drewN_drewN _ _ _⟩ | exact ⟨rfl, _, Eq.trans (World.drewN_drewN _ _ _) (congrArg (World.drewN _) (Nat.add_assoc _ _ _))⟩); have hcz17_0 : wc.cell? ⟨gb169, 0, none⟩ = some (.int .i64 a1_0) := (blk_cell BK169.out 0).trans rfl; have hcz17_1 : wc.cell? ⟨gb169, 1, none⟩ = some (.int .i64 a1_1) := (blk_cell BK169.out 1).trans rfl; have hcz17_2 : wc.cell? ⟨gb169, 2, none⟩ = some (.int .i64 a1_2) := (blk_cell BK169.out 2).trans rfl; have hcz17_3 : wc.cell? ⟨gb169, 3, none⟩ = some (.int .i64 a1_3) := (blk_cell BK169.out 3).trans rfl; have hcz17_4 : wc.cell? ⟨gb169, 4, none⟩ = some (.int .i64 a1_4) := (blk_cell BK169.out 4).trans rfl; have hfz17_0 := blk_frozen BK169.out 0; have hfz17_1 := blk_frozen BK169.out 1; have hfz17_2 := blk_frozen BK169.out 2; have hfz17_3 := blk_frozen BK169.out 3; have hfz17_4 := blk_frozen BK169.out 4)); try go_wp2_with (first | (go_at_call 30; (with_reducible refine (longcaseref02_Days.calls kj3 a0 1 1 t172 _ A10.out).mono ?_); rintro e w' ⟨rfl, ⟨nd, rfl⟩⟩; (try first | exact ⟨rfl, _, World.drewN_drewN _ _ _⟩ | exact ⟨rfl, _, Eq.trans (World.drewN_drewN _ _ _) (congrArg (World.drewN _) (Nat.add_assoc _ _ _))⟩)) | (go_at_call 31; (with_reducible refine (longcaseref02_Leap.calls a0 false _ A11.out).mono ?_); rintro e w' ⟨rfl, ⟨nd, rfl⟩⟩; (try first | exact ⟨rfl, _, World.drewN_drewN _ _ _⟩ | exact ⟨rfl, _, Eq.trans (World.drewN_drewN _ _ _) (congrArg (World.drewN _) (Nat.add_assoc _ _ _))⟩); have hcz17_0 : wc.cell? ⟨gb169, 0, none⟩ = some (.int .i64 a1_0) := (blk_cell BK169.out 0).trans rfl; have hcz17_1 : wc.cell? ⟨gb169, 1, none⟩ = some (.int .i64 a1_1) := (blk_cell BK169.out 1).trans rfl; have hcz17_2 : wc.cell? ⟨gb169, 2, none⟩ = some (.int .i64 a1_2) := (blk_cell BK169.out 2).trans rfl; have hcz17_3 : wc.cell? ⟨gb169, 3, none⟩ = some (.int .i64 a1_3) := (blk_cell BK169.out 3).trans rfl; have hcz17_4 : wc.cell? ⟨gb169, 4, none⟩ = some (.int .i64 a1_4) := (blk_cell BK169.out 4).trans rfl; have hfz17_0 := blk_frozen BK169.out 0; have hfz17_1 := blk_frozen BK169.out 1; have hfz17_2 := blk_frozen BK169.out 2; have hfz17_3 := blk_frozen BK169.out 3; have hfz17_4 := blk_frozen BK169.out 4)))
            go_ret2
            exact ⟨by first | rfl | (simp [errW_none, errW_some] <;> rfl) | (simp [*, errW_none, errW_some] <;> rfl), by repeat (first | (with_reducible first | exact HB.out | apply below_alloc | apply pw_below_drewN | apply below_drew1 | refine below_set ?_ GE169.out) | exact HB.out)⟩
        · rw [if_neg c12] at H
          have c12b0 : (a1_0 == 1) = false := beq_eq_false_iff_ne.mpr c12
          have c12b1 : (a1_0 != 1) = true := bne_iff_ne.mpr c12
          by_cases c18 : a1_0 = 2
          · rw [if_pos c18] at H
            have c18b0 : (a1_0 == 2) = true := beq_iff_eq.mpr c18
            have c18b1 : (a1_0 != 2) = false := bne_eq_false_iff_eq.mpr c18
            clear c18
            simp only [Option.some.injEq, Prod.mk.injEq] at H
            obtain ⟨rfl, rfl⟩ := H
            go_wp2_with (first | (go_at_call 30; (with_reducible refine (longcaseref02_Days.calls kj3 a0 1 1 t172 _ A10.out).mono ?_); rintro e w' ⟨rfl, ⟨nd, rfl⟩⟩; (try first | exact ⟨rfl, _, World.drewN_drewN _ _ _⟩ | exact ⟨rfl, _, Eq.trans (World.drewN_drewN _ _ _) (congrArg (World.drewN _) (Nat.add_assoc _ _ _))⟩)) | (go_at_call 31; (with_reducible refine (longcaseref02_Leap.calls a0 t173 _ A11.out).mono ?_); rintro e w' ⟨rfl, ⟨nd, rfl⟩⟩; (try first | exact ⟨rfl, _, World.drewN_drewN _ _ _⟩ | exact ⟨rfl, _, Eq.trans (World.drewN_drewN _ _ _) (congrArg (World.drewN _) (Nat.add_assoc _ _ _))⟩); have hcz19_0 : wc.cell? ⟨gb169, 0, none⟩ = some (.int .i64 a1_0) := (blk_cell BK169.out 0).trans rfl; have hcz19_1 : wc.cell? ⟨gb169, 1, none⟩ = some (.int .i64 a1_1) := (blk_cell BK169.out 1).trans rfl; have hcz19_2 : wc.cell? ⟨gb169, 2, none⟩ = some (.int .i64 a1_2) := (blk_cell BK169.out 2).trans rfl; have hcz19_3 : wc.cell? ⟨gb169, 3, none⟩ = some (.int .i64 a1_3) := (blk_cell BK169.out 3).trans rfl; have hcz19_4 : wc.cell? ⟨gb169, 4, none⟩ = some (.int .i64 a1_4) := (blk_cell BK169.out 4).trans rfl; have hfz19_0 := blk_frozen BK169.out 0; have hfz19_1 := blk_frozen BK169.out 1; have hfz19_2 := blk_frozen BK169.out 2; have hfz19_3 := blk_frozen BK169.out 3; have hfz19_4 := blk_frozen BK169.out 4))
            repeat (go_quiet (first | (go_at_call 30; (with_reducible refine (longcaseref02_Days.calls kj3 a0 1 1 t172 _ A10.out).mono ?_); rintro e w' ⟨rfl, ⟨nd, rfl⟩⟩; (try first | exact ⟨rfl, _, World.drewN_drewN _ _ _⟩ | exact ⟨rfl, _, Eq.trans (World.drewN_drewN _ _ _) (congrArg (World.drewN _) (Nat.add_assoc _ _ _))⟩)) | (go_at_call 31; (with_reducible refine (longcaseref02_Leap.calls a0 t173 _ A11.out).mono ?_); rintro e w' ⟨rfl, ⟨nd, rfl⟩⟩; (try first | exact ⟨rfl, _, World.drewN_drewN _ _ _⟩ | exact ⟨rfl, _, Eq.trans (World.drewN_drewN _ _ _) (congrArg (World.drewN _) (Nat.add_assoc _ _ _))⟩); have hcz19_0 : wc.cell? ⟨gb169, 0, none⟩ = some (.int .i64 a1_0) := (blk_cell BK169.out 0).trans rfl; have hcz19_1 : wc.cell? ⟨gb169, 1, none⟩ = some (.int .i64 a1_1) := (blk_cell BK169.out 1).trans rfl; have hcz19_2 : wc.cell? ⟨gb169, 2, none⟩ = some (.int .i64 a1_2) := (blk_cell BK169.out 2).trans rfl; have hcz19_3 : wc.cell? ⟨gb169, 3, none⟩ = some (.int .i64 a1_3) := (blk_cell BK169.out 3).trans rfl; have hcz19_4 : wc.cell? ⟨gb169, 4, none⟩ = some (.int .i64 a1_4) := (blk_cell BK169.out 4).trans rfl; have hfz19_0 := blk_frozen BK169.out 0; have hfz19_1 := blk_frozen BK169.out 1; have hfz19_2 := blk_frozen BK169.out 2; have hfz19_3 := blk_frozen BK169.out 3; have hfz19_4 := blk_frozen BK169.out 4)); try go_wp2_with (first | (go_at_call 30; (with_reducible refine (longcaseref02_Days.calls kj3 a0 1 1 t172 _ A10.out).mono ?_); rintro e w' ⟨rfl, ⟨nd, rfl⟩⟩; (try first | exact ⟨rfl, _, World.drewN_drewN _ _ _⟩ | exact ⟨rfl, _, Eq.trans (World.drewN_drewN _ _ _) (congrArg (World.drewN _) (Nat.add_assoc _ _ _))⟩)) | (go_at_call 31; (with_reducible refine (longcaseref02_Leap.calls a0 t173 _ A11.out).mono ?_); rintro e w' ⟨rfl, ⟨nd, rfl⟩⟩; (try first | exact ⟨rfl, _, World.drewN_drewN _ _ _⟩ | exact ⟨rfl, _, Eq.trans (World.drewN_drewN _ _ _) (congrArg (World.drewN _) (Nat.add_assoc _ _ _))⟩); have hcz19_0 : wc.cell? ⟨gb169, 0, none⟩ = some (.int .i64 a1_0) := (blk_cell BK169.out 0).trans rfl; have hcz19_1 : wc.cell? ⟨gb169, 1, none⟩ = some (.int .i64 a1_1) := (blk_cell BK169.out 1).trans rfl; have hcz19_2 : wc.cell? ⟨gb169, 2, none⟩ = some (.int .i64 a1_2) := (blk_cell BK169.out 2).trans rfl; have hcz19_3 : wc.cell? ⟨gb169, 3, none⟩ = some (.int .i64 a1_3) := (blk_cell BK169.out 3).trans rfl; have hcz19_4 : wc.cell? ⟨gb169, 4, none⟩ = some (.int .i64 a1_4) := (blk_cell BK169.out 4).trans rfl; have hfz19_0 := blk_frozen BK169.out 0; have hfz19_1 := blk_frozen BK169.out 1; have hfz19_2 := blk_frozen BK169.out 2; have hfz19_3 := blk_frozen BK169.out 3; have hfz19_4 := blk_frozen BK169.out 4)))
            go_ret2
            exact ⟨by first | rfl | (simp [errW_none, errW_some] <;> rfl) | (simp [*, errW_none, errW_some] <;> rfl), by repeat (first | (with_reducible first | exact HB.out | apply below_alloc | apply pw_below_drewN | apply below_drew1 | refine below_set ?_ GE169.out) | exact HB.out)⟩
          · rw [if_neg c18] at H
            have c18b0 : (a1_0 == 2) = false := beq_eq_false_iff_ne.mpr c18
            have c18b1 : (a1_0 != 2) = true := bne_iff_ne.mpr c18
            replace H := Option.bind_eq_some_iff.mp H
            obtain ⟨t174, A200, H⟩ := H
            replace H : (longcaseref09_Day.l0 kj3 a0 t174 0 0 1 a1_0 a1_1 a1_2 a1_3 a1_4) = some (r1, r2) := H
            have A20 := Aside0.mk A200
            clear A200
            have H' := Aside0.mk H
            clear H
            go_wp2_with (first | (go_at_call 30; (with_reducible refine (longcaseref02_Days.calls kj3 a0 1 1 t172 _ A10.out).mono ?_); rintro e w' ⟨rfl, ⟨nd, rfl⟩⟩; (try first | exact ⟨rfl, _, World.drewN_drewN _ _ _⟩ | exact ⟨rfl, _, Eq.trans (World.drewN_drewN _ _ _) (congrArg (World.drewN _) (Nat.add_assoc _ _ _))⟩)) | (go_at_call 31; (with_reducible refine (longcaseref02_Leap.calls a0 t173 _ A11.out).mono ?_); rintro e w' ⟨rfl, ⟨nd, rfl⟩⟩; (try first | exact ⟨rfl, _, World.drewN_drewN _ _ _⟩ | exact ⟨rfl, _, Eq.trans (World.drewN_drewN _ _ _) (congrArg (World.drewN _) (Nat.add_assoc _ _ _))⟩); have hcz21_0 : wc.cell? ⟨gb169, 0, none⟩ = some (.int .i64 a1_0) := (blk_cell BK169.out 0).trans rfl; have hcz21_1 : wc.cell? ⟨gb169, 1, none⟩ = some (.int .i64 a1_1) := (blk_cell BK169.out 1).trans rfl; have hcz21_2 : wc.cell? ⟨gb169, 2, none⟩ = some (.int .i64 a1_2) := (blk_cell BK169.out 2).trans rfl; have hcz21_3 : wc.cell? ⟨gb169, 3, none⟩ = some (.int .i64 a1_3) := (blk_cell BK169.out 3).trans rfl; have hcz21_4 : wc.cell? ⟨gb169, 4, none⟩ = some (.int .i64 a1_4) := (blk_cell BK169.out 4).trans rfl; have hfz21_0 := blk_frozen BK169.out 0; have hfz21_1 := blk_frozen BK169.out 1; have hfz21_2 := blk_frozen BK169.out 2; have hfz21_3 := blk_frozen BK169.out 3; have hfz21_4 := blk_frozen BK169.out 4) | (go_at_call 32; (with_reducible refine (longcaseref02_Length.calls kj3 a0 a1_1 t174 _ A20.out).mono ?_); rintro e w' ⟨rfl, ⟨nd, rfl⟩⟩; (try first | exact ⟨rfl, _, World.drewN_drewN _ _ _⟩ | exact ⟨rfl, _, Eq.trans (World.drewN_drewN _ _ _) (congrArg (World.drewN _) (Nat.add_assoc _ _ _))⟩)))
            repeat (go_quiet (first | (go_at_call 30; (with_reducible refine (longcaseref02_Days.calls kj3 a0 1 1 t172 _ A10.out).mono ?_); rintro e w' ⟨rfl, ⟨nd, rfl⟩⟩; (try first | exact ⟨rfl, _, World.drewN_drewN _ _ _⟩ | exact ⟨rfl, _, Eq.trans (World.drewN_drewN _ _ _) (congrArg (World.drewN _) (Nat.add_assoc _ _ _))⟩)) | (go_at_call 31; (with_reducible refine (longcaseref02_Leap.calls a0 t173 _ A11.out).mono ?_); rintro e w' ⟨rfl, ⟨nd, rfl⟩⟩; (try first | exact ⟨rfl, _, World.drewN_drewN _ _ _⟩ | exact ⟨rfl, _, Eq.trans (World.drewN_drewN _ _ _) (congrArg (World.drewN _) (Nat.add_assoc _ _ _))⟩); have hcz21_0 : wc.cell? ⟨gb169, 0, none⟩ = some (.int .i64 a1_0) := (blk_cell BK169.out 0).trans rfl; have hcz21_1 : wc.cell? ⟨gb169, 1, none⟩ = some (.int .i64 a1_1) := (blk_cell BK169.out 1).trans rfl; have hcz21_2 : wc.cell? ⟨gb169, 2, none⟩ = some (.int .i64 a1_2) := (blk_cell BK169.out 2).trans rfl; have hcz21_3 : wc.cell? ⟨gb169, 3, none⟩ = some (.int .i64 a1_3) := (blk_cell BK169.out 3).trans rfl; have hcz21_4 : wc.cell? ⟨gb169, 4, none⟩ = some (.int .i64 a1_4) := (blk_cell BK169.out 4).trans rfl; have hfz21_0 := blk_frozen BK169.out 0; have hfz21_1 := blk_frozen BK169.out 1; have hfz21_2 := blk_frozen BK169.out 2; have hfz21_3 := blk_frozen BK169.out 3; have hfz21_4 := blk_frozen BK169.out 4) | (go_at_call 32; (with_reducible refine (longcaseref02_Length.calls kj3 a0 a1_1 t174 _ A20.out).mono ?_); rintro e w' ⟨rfl, ⟨nd, rfl⟩⟩; (try first | exact ⟨rfl, _, World.drewN_drewN _ _ _⟩ | exact ⟨rfl, _, Eq.trans (World.drewN_drewN _ _ _) (congrArg (World.drewN _) (Nat.add_assoc _ _ _))⟩))); try go_wp2_with (first | (go_at_call 30; (with_reducible refine (longcaseref02_Days.calls kj3 a0 1 1 t172 _ A10.out).mono ?_); rintro e w' ⟨rfl, ⟨nd, rfl⟩⟩; (try first | exact ⟨rfl, _, World.drewN_drewN _ _ _⟩ | exact ⟨rfl, _, Eq.trans (World.drewN_drewN _ _ _) (congrArg (World.drewN _) (Nat.add_assoc _ _ _))⟩)) | (go_at_call 31; (with_reducible refine (longcaseref02_Leap.calls a0 t173 _ A11.out).mono ?_); rintro e w' ⟨rfl, ⟨nd, rfl⟩⟩; (try first | exact ⟨rfl, _, World.drewN_drewN _ _ _⟩ | exact ⟨rfl, _, Eq.trans (World.drewN_drewN _ _ _) (congrArg (World.drewN _) (Nat.add_assoc _ _ _))⟩); have hcz21_0 : wc.cell? ⟨gb169, 0, none⟩ = some (.int .i64 a1_0) := (blk_cell BK169.out 0).trans rfl; have hcz21_1 : wc.cell? ⟨gb169, 1, none⟩ = some (.int .i64 a1_1) := (blk_cell BK169.out 1).trans rfl; have hcz21_2 : wc.cell? ⟨gb169, 2, none⟩ = some (.int .i64 a1_2) := (blk_cell BK169.out 2).trans rfl; have hcz21_3 : wc.cell? ⟨gb169, 3, none⟩ = some (.int .i64 a1_3) := (blk_cell BK169.out 3).trans rfl; have hcz21_4 : wc.cell? ⟨gb169, 4, none⟩ = some (.int .i64 a1_4) := (blk_cell BK169.out 4).trans rfl; have hfz21_0 := blk_frozen BK169.out 0; have hfz21_1 := blk_frozen BK169.out 1; have hfz21_2 := blk_frozen BK169.out 2; have hfz21_3 := blk_frozen BK169.out 3; have hfz21_4 := blk_frozen BK169.out 4) | (go_at_call 32; (with_reducible refine (longcaseref02_Length.calls kj3 a0 a1_1 t174 _ A20.out).mono ?_); rintro e w' ⟨rfl, ⟨nd, rfl⟩⟩; (try first | exact ⟨rfl, _, World.drewN_drewN _ _ _⟩ | exact ⟨rfl, _, Eq.trans (World.drewN_drewN _ _ _) (congrArg (World.drewN _) (Nat.add_assoc _ _ _))⟩))))
            go_loopg [11, 12, 13] kj3 (fun kq v11 v12 v13 w' => ∃ (x11_2 : Int) (x12_2 : Int) (x13_2 : Int), v11 = .int .i64 x11_2 ∧ v12 = .int .i64 x12_2 ∧ v13 = .int .i64 x13_2 ∧ Aside0 (longcaseref09_Day.l0 kq a0 t174 x11_2 x12_2 x13_2 a1_0 a1_1 a1_2 a1_3 a1_4 = some (r1, r2)) ∧ Aside0 (kq ≤ kj3) ∧ Aside0 (w'.heap[gb169]? = some (.cells #[.int .i64 a1_0, .int .i64 a1_1, .int .i64 a1_2, .int .i64 a1_3, .int .i64 a1_4] 25 (0, 0))) ∧ Aside0 (Below w.heap.size w w'))
            case atStart => exact ⟨(0), (0), (1), (by first | rfl | (simp; done) | (simp [*]; done)), (by first | rfl | (simp; done) | (simp [*]; done)), (by first | rfl | (simp; done) | (simp [*]; done)), H', ⟨Nat.le_refl _⟩, ⟨by (with_reducible repeat (first | refine blk_drewN ?_ _ | refine blk_drew ?_ | refine blk_alloc ?_ _)); exact BK169.out⟩, ⟨by repeat (first | (with_reducible first | exact HB.out | apply below_alloc | apply pw_below_drewN | apply below_drew1 | refine below_set ?_ GE169.out) | exact HB.out)⟩⟩
            case round =>
              clear H'
              try clear c1
              try clear p2
              try clear p6
              try clear c7
              try clear c9
              try clear c12
              try clear c12b0
              try clear c12b1
              try clear c13
              try clear c14
              try clear c14b0
              try clear c18
              try clear c18b0
              try clear c18b1
              try clear hcz15_0
              try clear hcz15_1
              try clear hcz15_2
              try clear hcz15_3
              try clear hcz15_4
              try clear hcz16_0
              try clear hcz16_1
              try clear hcz16_2
              try clear hcz16_3
              try clear hcz16_4
              try clear hcz17_0
              try clear hcz17_1
              try clear hcz17_2
              try clear hcz17_3
              try clear hcz17_4
              try clear hcz19_0
              try clear hcz19_1
              try clear hcz19_2
              try clear hcz19_3
              try clear hcz19_4
              try clear hcz21_0
              try clear hcz21_1
              try clear hcz21_2
              try clear hcz21_3
              try clear hcz21_4
              try clear hfz15_0
              try clear hfz15_1
              try clear hfz15_2
              try clear hfz15_3
              try clear hfz15_4
              try clear hfz16_0
              try clear hfz16_1
              try clear hfz16_2
              try clear hfz16_3
              try clear hfz16_4
              try clear hfz17_0
              try clear hfz17_1
              try clear hfz17_2
              try clear hfz17_3
              try clear hfz17_4
              try clear hfz19_0
              try clear hfz19_1
              try clear hfz19_2
              try clear hfz19_3
              try clear hfz19_4
              try clear hfz21_0
              try clear hfz21_1
              try clear hfz21_2
              try clear hfz21_3
              try clear hfz21_4
              try clear p2
              obtain ⟨x11_2, x12_2, x13_2, rfl, rfl, rfl, HA, HK2, BK169, HB⟩ := hrel
              cases gk with
              | zero => exact absurd HA.out (by simp [longcaseref09_Day.l0])
              | succ k2 =>
                have H := HA.out
                clear HA
                simp only [longcaseref09_Day.l0] at H
                have HC22 := Aside0.mk H
                clear H
                go_upto_region 18 with (fail)
                repeat (go_quiet (fail); go_upto_region 18 with (fail))
                go_cut [64] (fun v64 wc => ∃ (kq : Nat) (x64_21 : Bool), v64 = .bool x64_21 ∧ Aside0 (longcaseref09_Day.j2 kq a0 t174 x11_2 x12_2 x13_2 x64_21 a1_0 a1_1 a1_2 a1_3 a1_4 = some (r1, r2)) ∧ Aside0 (kq ≤ k2) ∧ Aside0 (wc.heap[gb169]? = some (.cells #[.int .i64 a1_0, .int .i64 a1_1, .int .i64 a1_2, .int .i64 a1_3, .int .i64 a1_4] 25 (0, 0))) ∧ Aside0 (Below w.heap.size w wc))
                case first =>
                  have H := HC22.out
                  clear HC22
                  by_cases c23 : x13_2 ≤ t174
                  · rw [if_pos c23] at H
                    have c23b0 : decide (x13_2 ≤ t174) = true := decide_eq_true c23
                    clear c23
                    (first | rw [c23b0] | (simp only [i64_w, i32_w]; rw [c23b0]) | skip)
                    have H' := Aside0.mk H
                    clear H
                    have hcz24_0 : wr.cell? ⟨gb169, 0, none⟩ = some (.int .i64 a1_0) := (blk_cell BK169.out 0).trans rfl
                    have hcz24_1 : wr.cell? ⟨gb169, 1, none⟩ = some (.int .i64 a1_1) := (blk_cell BK169.out 1).trans rfl
                    have hcz24_2 : wr.cell? ⟨gb169, 2, none⟩ = some (.int .i64 a1_2) := (blk_cell BK169.out 2).trans rfl
                    have hcz24_3 : wr.cell? ⟨gb169, 3, none⟩ = some (.int .i64 a1_3) := (blk_cell BK169.out 3).trans rfl
                    have hcz24_4 : wr.cell? ⟨gb169, 4, none⟩ = some (.int .i64 a1_4) := (blk_cell BK169.out 4).trans rfl
                    have hfz24_0 := blk_frozen BK169.out 0
                    have hfz24_1 := blk_frozen BK169.out 1
                    have hfz24_2 := blk_frozen BK169.out 2
                    have hfz24_3 := blk_frozen BK169.out 3
                    have hfz24_4 := blk_frozen BK169.out 4
                    go_wp2
                    repeat (go_quiet (fail); try go_wp2)
                    go_meet
                    case rel => exact ⟨_, (decide (x11_2 < a1_2)), (by first | rfl | (simp; done) | (simp [*]; done)), H', ⟨by have := HJ3.out; have := HK2.out; first | omega | exact Nat.le_refl _⟩, ⟨by (with_reducible repeat (first | refine blk_drewN ?_ _ | refine blk_drew ?_ | refine blk_alloc ?_ _)); exact BK169.out⟩, ⟨by repeat (first | (with_reducible first | exact HB.out | apply below_alloc | apply pw_below_drewN | apply below_drew1 | refine below_set ?_ GE169.out) | exact HB.out)⟩⟩
                  · rw [if_neg c23] at H
                    have c23b0 : decide (x13_2 ≤ t174) = false := decide_eq_false c23
                    clear c23
                    (first | rw [c23b0] | (simp only [i64_w, i32_w]; rw [c23b0]) | skip)
                    have H' := Aside0.mk H
                    clear H
                    go_wp2
                    repeat (go_quiet (fail); try go_wp2)
                    go_meet
                    case rel => exact ⟨_, (false), (by first | rfl | (simp; done) | (simp [*]; done)), H', ⟨by have := HJ3.out; have := HK2.out; first | omega | exact Nat.le_refl _⟩, ⟨by (with_reducible repeat (first | refine blk_drewN ?_ _ | refine blk_drew ?_ | refine blk_alloc ?_ _)); exact BK169.out⟩, ⟨by repeat (first | (with_reducible first | exact HB.out | apply below_alloc | apply pw_below_drewN | apply below_drew1 | refine below_set ?_ GE169.out) | exact HB.out)⟩⟩
                case rest =>
                  clear HC22
                  try clear c1
                  try clear c2
                  try clear p2
                  try clear p6
                  try clear c7
                  try clear c9
                  try clear c12
                  try clear c12b0
                  try clear c12b1
                  try clear c13
                  try clear c14
                  try clear c14b0
                  try clear c18
                  try clear c18b0
                  try clear c18b1
                  try clear c23
                  try clear c23b0
                  try clear hcz15_0
                  try clear hcz15_1
                  try clear hcz15_2
                  try clear hcz15_3
                  try clear hcz15_4
                  try clear hcz16_0
                  try clear hcz16_1
                  try clear hcz16_2
                  try clear hcz16_3
                  try clear hcz16_4
                  try clear hcz17_0
                  try clear hcz17_1
                  try clear hcz17_2
                  try clear hcz17_3
                  try clear hcz17_4
                  try clear hcz19_0
                  try clear hcz19_1
                  try clear hcz19_2
                  try clear hcz19_3
                  try clear hcz19_4
                  try clear hcz21_0
                  try clear hcz21_1
                  try clear hcz21_2
                  try clear hcz21_3
                  try clear hcz21_4
                  try clear hcz24_0
                  try clear hcz24_1
                  try clear hcz24_2
                  try clear hcz24_3
                  try clear hcz24_4
                  try clear hfz15_0
                  try clear hfz15_1
                  try clear hfz15_2
                  try clear hfz15_3
                  try clear hfz15_4
                  try clear hfz16_0
                  try clear hfz16_1
                  try clear hfz16_2
                  try clear hfz16_3
                  try clear hfz16_4
                  try clear hfz17_0
                  try clear hfz17_1
                  try clear hfz17_2
                  try clear hfz17_3
                  try clear hfz17_4
                  try clear hfz19_0
                  try clear hfz19_1
                  try clear hfz19_2
                  try clear hfz19_3
                  try clear hfz19_4
                  try clear hfz21_0
                  try clear hfz21_1
                  try clear hfz21_2
                  try clear hfz21_3
                  try clear hfz21_4
                  try clear hfz24_0
                  try clear hfz24_1
                  try clear hfz24_2
                  try clear hfz24_3
                  try clear hfz24_4
                  try clear p2
                  try clear p6
                  obtain ⟨kq, x64_21, rfl, HA, HJ21, BK169, HB⟩ := hcut
                  cases kq with
                  | zero => exact absurd HA.out (by simp [longcaseref09_Day.j2])
                  | succ kj21 =>
                    have H := HA.out
                    clear HA
                    simp only [longcaseref09_Day.j2] at H
                    by_cases c25 : x64_21 = true
                    · subst c25
                      have H1 : ((longcaseref02_Days.f kj21 a0 a1_1 x13_2).bind fun t175 => ((longcaseref02_Weekday.f t175).bind fun t176 => (if t176 = a1_3 then (longcaseref09_Day.l0 kj21 a0 t174 (wrap64 (x11_2 + 1)) t175 (wrap64 (x13_2 + 1)) a1_0 a1_1 a1_2 a1_3 a1_4) else (longcaseref09_Day.l0 kj21 a0 t174 x11_2 x12_2 (wrap64 (x13_2 + 1)) a1_0 a1_1 a1_2 a1_3 a1_4)))) = some (r1, r2) := by rw [if_pos rfl] at H; exact H
                      clear H
                      have H := H1
                      clear H1
                      replace H := Option.bind_eq_some_iff.mp H
                      obtain ⟨t175, A260, H⟩ := H
                      replace H : ((longcaseref02_Weekday.f t175).bind fun t176 => (if t176 = a1_3 then (longcaseref09_Day.l0 kj21 a0 t174 (wrap64 (x11_2 + 1)) t175 (wrap64 (x13_2 + 1)) a1_0 a1_1 a1_2 a1_3 a1_4) else (longcaseref09_Day.l0 kj21 a0 t174 x11_2 x12_2 (wrap64 (x13_2 + 1)) a1_0 a1_1 a1_2 a1_3 a1_4))) = some (r1, r2) := H
                      have A26 := Aside0.mk A260
                      clear A260
                      replace H := Option.bind_eq_some_iff.mp H
                      obtain ⟨t176, A270, H⟩ := H
                      replace H : (if t176 = a1_3 then (longcaseref09_Day.l0 kj21 a0 t174 (wrap64 (x11_2 + 1)) t175 (wrap64 (x13_2 + 1)) a1_0 a1_1 a1_2 a1_3 a1_4) else (longcaseref09_Day.l0 kj21 a0 t174 x11_2 x12_2 (wrap64 (x13_2 + 1)) a1_0 a1_1 a1_2 a1_3 a1_4)) = some (r1, r2) := H
                      have A27 := Aside0.mk A270
                      clear A270
                      by_cases c28 : t176 = a1_3
                      · rw [if_pos c28] at H
                        have c28b0 : (t176 == a1_3) = true := beq_iff_eq.mpr c28
                        have c28b1 : (t176 != a1_3) = false := bne_eq_false_iff_eq.mpr c28
                        clear c28
                        have H' := Aside0.mk H
                        clear H
                        have hcz29_0 : wc.cell? ⟨gb169, 0, none⟩ = some (.int .i64 a1_0) := (blk_cell BK169.out 0).trans rfl
                        have hcz29_1 : wc.cell? ⟨gb169, 1, none⟩ = some (.int .i64 a1_1) := (blk_cell BK169.out 1).trans rfl
                        have hcz29_2 : wc.cell? ⟨gb169, 2, none⟩ = some (.int .i64 a1_2) := (blk_cell BK169.out 2).trans rfl
                        have hcz29_3 : wc.cell? ⟨gb169, 3, none⟩ = some (.int .i64 a1_3) := (blk_cell BK169.out 3).trans rfl
                        have hcz29_4 : wc.cell? ⟨gb169, 4, none⟩ = some (.int .i64 a1_4) := (blk_cell BK169.out 4).trans rfl
                        have hfz29_0 := blk_frozen BK169.out 0
                        have hfz29_1 := blk_frozen BK169.out 1
                        have hfz29_2 := blk_frozen BK169.out 2
                        have hfz29_3 := blk_frozen BK169.out 3
                        have hfz29_4 := blk_frozen BK169.out 4
                        go_wp2_with (first | (go_at_call 30; (with_reducible refine (longcaseref02_Days.calls kj21 a0 a1_1 x13_2 t175 _ A26.out).mono ?_); rintro e w' ⟨rfl, ⟨nd, rfl⟩⟩; (try first | exact ⟨rfl, _, World.drewN_drewN _ _ _⟩ | exact ⟨rfl, _, Eq.trans (World.drewN_drewN _ _ _) (congrArg (World.drewN _) (Nat.add_assoc _ _ _))⟩)) | (go_at_call 33; (with_reducible refine (longcaseref02_Weekday.calls t175 t176 _ A27.out).mono ?_); rintro e w' ⟨rfl, ⟨nd, rfl⟩⟩; (try first | exact ⟨rfl, _, World.drewN_drewN _ _ _⟩ | exact ⟨rfl, _, Eq.trans (World.drewN_drewN _ _ _) (congrArg (World.drewN _) (Nat.add_assoc _ _ _))⟩)))
                        repeat (go_quiet (first | (go_at_call 30; (with_reducible refine (longcaseref02_Days.calls kj21 a0 a1_1 x13_2 t175 _ A26.out).mono ?_); rintro e w' ⟨rfl, ⟨nd, rfl⟩⟩; (try first | exact ⟨rfl, _, World.drewN_drewN _ _ _⟩ | exact ⟨rfl, _, Eq.trans (World.drewN_drewN _ _ _) (congrArg (World.drewN _) (Nat.add_assoc _ _ _))⟩)) | (go_at_call 33; (with_reducible refine (longcaseref02_Weekday.calls t175 t176 _ A27.out).mono ?_); rintro e w' ⟨rfl, ⟨nd, rfl⟩⟩; (try first | exact ⟨rfl, _, World.drewN_drewN _ _ _⟩ | exact ⟨rfl, _, Eq.trans (World.drewN_drewN _ _ _) (congrArg (World.drewN _) (Nat.add_assoc _ _ _))⟩))); try go_wp2_with (first | (go_at_call 30; (with_reducible refine (longcaseref02_Days.calls kj21 a0 a1_1 x13_2 t175 _ A26.out).mono ?_); rintro e w' ⟨rfl, ⟨nd, rfl⟩⟩; (try first | exact ⟨rfl, _, World.drewN_drewN _ _ _⟩ | exact ⟨rfl, _, Eq.trans (World.drewN_drewN _ _ _) (congrArg (World.drewN _) (Nat.add_assoc _ _ _))⟩)) | (go_at_call 33; (with_reducible refine (longcaseref02_Weekday.calls t175 t176 _ A27.out).mono ?_); rintro e w' ⟨rfl, ⟨nd, rfl⟩⟩; (try first | exact ⟨rfl, _, World.drewN_drewN _ _ _⟩ | exact ⟨rfl, _, Eq.trans (World.drewN_drewN _ _ _) (congrArg (World.drewN _) (Nat.add_assoc _ _ _))⟩))))
                        go_roundg kj21
                        case measure => have := HJ3.out; have := HK2.out; have := HJ21.out; omega
                        case rel => exact ⟨(wrap64 (x11_2 + 1)), (t175), (wrap64 (x13_2 + 1)), (by first | rfl | (simp; done) | (simp [*]; done)), (by first | rfl | (simp; done) | (simp [*]; done)), (by first | rfl | (simp; done) | (simp [*]; done)), H', ⟨by have := HJ3.out; have := HK2.out; have := HJ21.out; omega⟩, ⟨by (with_reducible repeat (first | refine blk_drewN ?_ _ | refine blk_drew ?_ | refine blk_alloc ?_ _)); exact BK169.out⟩, ⟨by repeat (first | (with_reducible first | exact HB.out | apply below_alloc | apply pw_below_drewN | apply below_drew1 | refine below_set ?_ GE169.out) | exact HB.out)⟩⟩
                      · rw [if_neg c28] at H
                        have c28b0 : (t176 == a1_3) = false := beq_eq_false_iff_ne.mpr c28
                        have c28b1 : (t176 != a1_3) = true := bne_iff_ne.mpr c28
                        have H' := Aside0.mk H
                        clear H
                        have hcz30_0 : wc.cell? ⟨gb169, 0, none⟩ = some (.int .i64 a1_0) := (blk_cell BK169.out 0).trans rfl
                        have hcz30_1 : wc.cell? ⟨gb169, 1, none⟩ = some (.int .i64 a1_1) := (blk_cell BK169.out 1).trans rfl
                        have hcz30_2 : wc.cell? ⟨gb169, 2, none⟩ = some (.int .i64 a1_2) := (blk_cell BK169.out 2).trans rfl
                        have hcz30_3 : wc.cell? ⟨gb169, 3, none⟩ = some (.int .i64 a1_3) := (blk_cell BK169.out 3).trans rfl
                        have hcz30_4 : wc.cell? ⟨gb169, 4, none⟩ = some (.int .i64 a1_4) := (blk_cell BK169.out 4).trans rfl
                        have hfz30_0 := blk_frozen BK169.out 0
                        have hfz30_1 := blk_frozen BK169.out 1
                        have hfz30_2 := blk_frozen BK169.out 2
                        have hfz30_3 := blk_frozen BK169.out 3
                        have hfz30_4 := blk_frozen BK169.out 4
                        go_wp2_with (first | (go_at_call 30; (with_reducible refine (longcaseref02_Days.calls kj21 a0 a1_1 x13_2 t175 _ A26.out).mono ?_); rintro e w' ⟨rfl, ⟨nd, rfl⟩⟩; (try first | exact ⟨rfl, _, World.drewN_drewN _ _ _⟩ | exact ⟨rfl, _, Eq.trans (World.drewN_drewN _ _ _) (congrArg (World.drewN _) (Nat.add_assoc _ _ _))⟩)) | (go_at_call 33; (with_reducible refine (longcaseref02_Weekday.calls t175 t176 _ A27.out).mono ?_); rintro e w' ⟨rfl, ⟨nd, rfl⟩⟩; (try first | exact ⟨rfl, _, World.drewN_drewN _ _ _⟩ | exact ⟨rfl, _, Eq.trans (World.drewN_drewN _ _ _) (congrArg (World.drewN _) (Nat.add_assoc _ _ _))⟩)))
                        repeat (go_quiet (first | (go_at_call 30; (with_reducible refine (longcaseref02_Days.calls kj21 a0 a1_1 x13_2 t175 _ A26.out).mono ?_); rintro e w' ⟨rfl, ⟨nd, rfl⟩⟩; (try first | exact ⟨rfl, _, World.drewN_drewN _ _ _⟩ | exact ⟨rfl, _, Eq.trans (World.drewN_drewN _ _ _) (congrArg (World.drewN _) (Nat.add_assoc _ _ _))⟩)) | (go_at_call 33; (with_reducible refine (longcaseref02_Weekday.calls t175 t176 _ A27.out).mono ?_); rintro e w' ⟨rfl, ⟨nd, rfl⟩⟩; (try first | exact ⟨rfl, _, World.drewN_drewN _ _ _⟩ | exact ⟨rfl, _, Eq.trans (World.drewN_drewN _ _ _) (congrArg (World.drewN _) (Nat.add_assoc _ _ _))⟩))); try go_wp2_with (first | (go_at_call 30; (with_reducible refine (longcaseref02_Days.calls kj21 a0 a1_1 x13_2 t175 _ A26.out).mono ?_); rintro e w' ⟨rfl, ⟨nd, rfl⟩⟩; (try first | exact ⟨rfl, _, World.drewN_drewN _ _ _⟩ | exact ⟨rfl, _, Eq.trans (World.drewN_drewN _ _ _) (congrArg (World.drewN _) (Nat.add_assoc _ _ _))⟩)) | (go_at_call 33; (with_reducible refine (longcaseref02_Weekday.calls t175 t176 _ A27.out).mono ?_); rintro e w' ⟨rfl, ⟨nd, rfl⟩⟩; (try first | exact ⟨rfl, _, World.drewN_drewN _ _ _⟩ | exact ⟨rfl, _, Eq.trans (World.drewN_drewN _ _ _) (congrArg (World.drewN _) (Nat.add_assoc _ _ _))⟩))))
                        go_roundg kj21
                        case measure => have := HJ3.out; have := HK2.out; have := HJ21.out; omega
                        case rel => exact ⟨(x11_2), (x12_2), (wrap64 (x13_2 + 1)), (by first | rfl | (simp; done) | (simp [*]; done)), (by first | rfl | (simp; done) | (simp [*]; done)), (by first | rfl | (simp; done) | (simp [*]; done)), H', ⟨by have := HJ3.out; have := HK2.out; have := HJ21.out; omega⟩, ⟨by (with_reducible repeat (first | refine blk_drewN ?_ _ | refine blk_drew ?_ | refine blk_alloc ?_ _)); exact BK169.out⟩, ⟨by repeat (first | (with_reducible first | exact HB.out | apply below_alloc | apply pw_below_drewN | apply below_drew1 | refine below_set ?_ GE169.out) | exact HB.out)⟩⟩
                    · replace c25 := Bool.eq_false_iff.mpr c25
                      subst c25
                      have H1 : (some (x12_2, true)) = some (r1, r2) := by rw [if_neg (show ¬ (false = true) by decide)] at H; exact H
                      clear H
                      have H := H1
                      clear H1
                      simp only [Option.some.injEq, Prod.mk.injEq] at H
                      obtain ⟨rfl, rfl⟩ := H
                      go_wp2
                      repeat (go_quiet (fail); try go_wp2)
                      go_ret2
                      exact ⟨by first | rfl | (simp [errW_none, errW_some] <;> rfl) | (simp [*, errW_none, errW_some] <;> rfl), by repeat (first | (with_reducible first | exact HB.out | apply below_alloc | apply pw_below_drewN | apply below_drew1 | refine below_set ?_ GE169.out) | exact HB.out)⟩
end Go.Proofs.YtgbehcahdgamoaaDoor.Fn

namespace Go.Proofs.YtgbehcahdgamoaaDoor.Fn
open Go.RowKit Go.Proofs.YtgbehcahdgamoaaDoorW.PrintWords Go.Proofs.YtgbehcahdgamoaaDoorW.PrintLast Go.Proofs.YtgbehcahdgamoaaDoorW.PrintMore
theorem refDay_loop (y m wk wd c0 c4 : Int) (hy : mayB y = true) (hm : 1 ≤ m ∧ m ≤ 12) (hw : 1 ≤ wk ∧ wk ≤ 5) (hd : 0 ≤ wd ∧ wd ≤ 6) (len a : Int) (hl : 28 ≤ len ∧ len ≤ 31) (ha : a = (wd - weekN (daysN y m 1) + 7) % 7) (k : Nat) : ∀ (c : Nat) (d seen last : Int), 1 ≤ d → d + c = len + 1 → seen = (d - 1 - a + 6) / 7 → seen ≤ wk → (seen = 0 ∨ last = daysN y m 1 + a + 7 * (seen - 1)) →
    longcaseref09_Day.l0 (k + c + c + 500) y len seen last d c0 m wk wd c4 = some (daysN y m 1 + (a + 7 * (wk - 1)) - (if len ≤ a + 7 * (wk - 1) then 7 else 0), true) := by
  intro c
  induction c with
  | zero =>
    intro d seen last h1 h2 h3 h4 h5
    obtain ⟨K, hK⟩ : ∃ K, k + 0 + 0 + 500 = K + 2 := ⟨k + 498, by omega⟩
    rw [hK, longcaseref09_Day.l0, if_neg (by omega), longcaseref09_Day.j2, if_neg (by decide)]
    congr 2
    split <;> omega
  | succ c ih =>
    intro d seen last h1 h2 h3 h4 h5
    obtain ⟨K, hK, hK2⟩ : ∃ K, k + (c + 1) + (c + 1) + 500 = K + 2 ∧ K = k + c + c + 500 := ⟨_, by omega, rfl⟩
    rw [hK, longcaseref09_Day.l0, if_pos (by omega), longcaseref09_Day.j2]
    by_cases hs : seen < wk
    · rw [if_pos (by simpa using hs), refDays_eq K (by omega) y m d (by unfold mayB at hy; simp at hy; omega) hm (by omega)]
      have hz := daysN_size y m d hy hm (by omega)
      simp only [Option.bind_some]
      rw [refWeekday_eq _ ⟨by omega, by omega⟩, w64 (a := d + 1) ⟨by omega, by omega⟩, daysN_day y m d]
      simp only [Option.bind_some]
      by_cases he : weekN (daysN y m 1 + (d - 1)) = wd
      · rw [if_pos he, w64 (a := seen + 1) ⟨by omega, by omega⟩, hK2]
        have : (d - 1 - a) % 7 = 0 := by subst ha; unfold weekN at *; omega
        exact ih (d + 1) (seen + 1) _ (by omega) (by omega) (by omega) (by omega) (.inr (by omega))
      · rw [if_neg he, hK2]
        have : (d - 1 - a) % 7 ≠ 0 := by subst ha; unfold weekN at *; omega
        exact ih (d + 1) seen last (by omega) (by omega) (by omega) h4 h5
    · rw [if_neg (by simpa using hs)]
      congr 2
      split <;> omega
theorem refYear_eq (y : Int) : longcaseref09_year.f y = some (mayB y) := by
  unfold longcaseref09_year.f mayB
  by_cases h : y ≥ -2147483648
  · rw [if_pos h]; simp; omega
  · rw [if_neg h]; simp; omega
theorem refDay_eq (K : Nat) (hK : 1000 ≤ K) (y : Int) (c0 : Int) (c1 : Int) (c2 : Int) (c3 : Int) (c4 : Int) : longcaseref09_Day.f K y c0 c1 c2 c3 c4 = some (if chgB c0 c1 c2 c3 c4 true = true ∧ mayB y = true then (dayN y c0 c1 c2 c3, true) else (0, false)) := by
  obtain ⟨K, rfl⟩ : ∃ k, K = k + 9 := ⟨K - 9, by omega⟩
  unfold longcaseref09_Day.f
  rw [show K + 9 = (K + 4) + 5 by omega, refChange_eq, refYear_eq]
  simp only [Option.bind_some]
  cases hc : chgB c0 c1 c2 c3 c4 true
  · rw [if_neg (by decide), show K + 4 + 5 = (K + 8) + 1 by omega, longcaseref09_Day.j0, if_pos rfl, if_neg (by simp)]
  · rw [if_pos rfl, show K + 4 + 5 = (K + 8) + 1 by omega, longcaseref09_Day.j0]
    cases hy : mayB y
    · rw [if_pos (by decide), if_neg (by simp)]
    · rw [if_neg (by decide), if_pos ⟨rfl, rfl⟩]
      have hy2 := hy
      unfold mayB at hy2
      simp only [Bool.and_eq_true, decide_eq_true_eq] at hy2
      have hz := daysN_size y 1 1 hy (by omega) (by omega)
      rw [refDays_eq (K + 8) (by omega) y 1 1 (by omega) (by omega) (by omega), refLeap_eq]
      simp only [Option.bind_some]
      have hD : dateB c0 c1 c2 c3 c4 = true := by unfold chgB at hc; simp only [Bool.and_eq_true] at hc; exact hc.2
      unfold dateB at hD
      unfold dayN
      by_cases h1 : c0 = 1
      · rw [if_pos h1] at hD ⊢
        rw [if_pos h1]
        simp only [Bool.and_eq_true, inB, decide_eq_true_eq] at hD
        obtain ⟨_, hD1, hD2⟩ := hD
        rw [w64 (a := c1 - 1) ⟨by omega, by omega⟩]
        cases leapB y
        · simp only [Bool.false_eq_true, if_false, false_and]
          rw [w64 ⟨by omega, by omega⟩, Int.add_zero]
        · simp only [if_true, true_and]
          by_cases h2 : c1 > 59
          · rw [if_pos h2, if_pos (by omega), w64 (a := c1 - 1 + 1) ⟨by omega, by omega⟩, w64 ⟨by omega, by omega⟩]
            congr 2; omega
          · rw [if_neg h2, if_neg (by omega), w64 ⟨by omega, by omega⟩, Int.add_zero]
      · rw [if_neg h1] at hD ⊢
        rw [if_neg h1]
        by_cases h2 : c0 = 2
        · rw [if_pos h2] at hD ⊢
          rw [if_pos h2]
          simp only [Bool.and_eq_true, inB, decide_eq_true_eq] at hD
          obtain ⟨_, hD1, hD2⟩ := hD
          rw [w64 ⟨by omega, by omega⟩]
        · rw [if_neg h2] at hD ⊢
          rw [if_neg h2]
          by_cases h3 : c0 = 3
          · rw [if_pos h3] at hD
            simp only [Bool.and_eq_true, inB, decide_eq_true_eq] at hD
            obtain ⟨hm, hw, hd⟩ := hD
            have hL : 28 ≤ lenN y c1 ∧ lenN y c1 ≤ 31 := by
              have := lenN_of y
              rcases month12 hm with e | e | e | e | e | e | e | e | e | e | e | e <;> rw [e] <;> (try split at this) <;> omega
            rw [show K + 8 = (K + 7) + 1 by omega, refLength_eq]
            simp only [Option.bind_some]
            obtain ⟨k, hk⟩ : ∃ k, K + 7 + 1 = k + (lenN y c1).toNat + (lenN y c1).toNat + 500 := ⟨K + 8 - 500 - (lenN y c1).toNat - (lenN y c1).toNat, by omega⟩
            rw [hk]
            exact refDay_loop y c1 c2 c3 c0 c4 hy hm hw hd (lenN y c1) _ hL rfl k (lenN y c1).toNat 1 0 0 (by omega) (by omega) (by omega) (by omega) (.inl rfl)
          · rw [if_neg h3] at hD; cases hD
end Go.Proofs.YtgbehcahdgamoaaDoor.Fn

namespace Go.Proofs
open Go.Shelf
def Tryd.insSort_ren : Go.Shelf.Ren := ⟨fun | 20 => 61 | n => n, fun | 24 => 62 | 22 => 58 | 3 => 3 | 25 => 73 | 4 => 4 | 0 => 0 | n => n, fun | n => n⟩
theorem Tryd.insSort : Go.Proofs.SlLaysF0.n20 Tryd.prog Tryd.insSort_ren := {
  mixed := by kernel_rfl
  f20 := ⟨Tryd.f61.name, by decide, Tryd.func61.trans (congrArg some (by kernel_rfl))⟩
  t0 := Tryd.underlying0
  a0 := Tryd.isAgg0
  z0 := Tryd.sizeOf0
  v0 := Tryd.zeroValue0
  t3 := Tryd.underlying3
  a3 := Tryd.isAgg3
  z3 := Tryd.sizeOf3
  v3 := Tryd.zeroValue3
  t4 := Tryd.underlying4
  a4 := Tryd.isAgg4
  z4 := Tryd.sizeOf4
  v4 := Tryd.zeroValue4
  t22 := Tryd.underlying58
  a22 := Tryd.isAgg58
  z22 := Tryd.sizeOf58
  v22 := Tryd.zeroValue58
  t25 := Tryd.underlying73
  a25 := Tryd.isAgg73
  z25 := Tryd.sizeOf73
  v25 := Tryd.zeroValue73 }
def Tryd.contTurn_ren : Go.Shelf.Ren := ⟨fun | 8 => 36 | 6 => 52 | n => n, fun | 22 => 58 | 23 => 62 | 25 => 63 | 4 => 4 | 3 => 3 | 0 => 0 | n => n, fun | n => n⟩
theorem Tryd.contTurn : Go.Proofs.SlLaysH0.n8 Tryd.prog Tryd.contTurn_ren := {
  mixed := by kernel_rfl
  f6 := ⟨Tryd.f52.name, by decide, Tryd.func52.trans (congrArg some (by kernel_rfl))⟩
  f8 := ⟨Tryd.f36.name, by decide, Tryd.func36.trans (congrArg some (by kernel_rfl))⟩
  t0 := Tryd.underlying0
  a0 := Tryd.isAgg0
  z0 := Tryd.sizeOf0
  v0 := Tryd.zeroValue0
  t3 := Tryd.underlying3
  a3 := Tryd.isAgg3
  z3 := Tryd.sizeOf3
  v3 := Tryd.zeroValue3
  t4 := Tryd.underlying4
  a4 := Tryd.isAgg4
  z4 := Tryd.sizeOf4
  v4 := Tryd.zeroValue4
  t22 := Tryd.underlying58
  a22 := Tryd.isAgg58
  z22 := Tryd.sizeOf58
  v22 := Tryd.zeroValue58
  t25 := Tryd.underlying63
  a25 := Tryd.isAgg63
  z25 := Tryd.sizeOf63
  v25 := Tryd.zeroValue63 }
end Go.Proofs

namespace Go.Proofs.YtgbehcahdgamoaaDoor.Fn
open Go.RowKit Go.Proofs.YtgbehcahdgamoaaDoorW.PrintWords Go.Proofs.YtgbehcahdgamoaaDoorW.PrintLast Go.Lib Go.Sort
def encT (x : Int × Bool) : List Value := [.int .i64 x.1, .bool x.2]
def cfT (x y : Int × Bool) : Int := if x.1 < y.1 then -1 else if y.1 < x.1 then 1 else if x.2 = y.2 then 0 else if x.2 = true then 1 else -1
set_option maxHeartbeats 1000000 in
theorem turnCmp (x y : Int × Bool) (W : World) : Calls Tryd.prog 50 #[.agg #[.int .i64 x.1, .bool x.2], .agg #[.int .i64 y.1, .bool y.2]] W fun e w' => e = .returned (.int .i64 (cfT x y)) ∧ ∃ q os', w' = grow (W.drewN q) os' := by
  obtain ⟨a, b⟩ := x
  obtain ⟨c, d⟩ := y
  show Calls Tryd.prog 50 #[.agg #[.int .i64 a, .bool b], .agg #[.int .i64 c, .bool d]] W _
  by_cases h1 : a < c
  · have hr : cfT (a, b) (c, d) = -1 := by simp [cfT, h1]
    rw [hr]
    clear hr
    have n1 : (a != a) = false := by simp
    have n2 : (c != c) = false := by simp
    go_enter Tryd.func50, Tryd.ntmps50
    go_wp2
    go_ret
    exact ⟨rfl, 0, _, by rw [alloc_eq_grow, alloc_eq_grow, grow_grow]; rfl⟩
  · by_cases h2 : c < a
    · have hr : cfT (a, b) (c, d) = 1 := by simp [cfT, h1, h2]
      rw [hr]
      clear hr
      have n1 : (a != a) = false := by simp
      have n2 : (c != c) = false := by simp
      go_enter Tryd.func50, Tryd.ntmps50
      go_wp2
      go_ret
      exact ⟨rfl, 0, _, by rw [alloc_eq_grow, alloc_eq_grow, grow_grow]; rfl⟩
    · obtain rfl : a = c := by omega
      clear h1 h2
      have n1 : (a != a) = false := by simp
      have n2 : ¬ a < a := by omega
      cases b <;> cases d
      all_goals
        show Calls Tryd.prog 50 _ W (fun e w' => e = .returned (.int .i64 (cfT _ _)) ∧ _)
        unfold cfT
        simp only [Int.lt_irrefl, if_false, if_true, reduceCtorEq]
        go_enter Tryd.func50, Tryd.ntmps50
        go_wp2
        go_ret
        exact ⟨rfl, 0, _, by rw [alloc_eq_grow, alloc_eq_grow, grow_grow]; rfl⟩
theorem turnLays (blk off size : Nat) (w : World) : CmpLays Tryd.prog 50 #[] encT 2 cfT blk off size w := fun _ _ _ _ x y => turnCmp x y _
set_option maxHeartbeats 1000000 in
theorem stableTurns_calls (blk cap : Nat) (d : Array (Int × Bool)) (w : World) (hH : HoldsK encT 2 w blk 0 d) (hblk : blk < w.heap.size) (hd : d.size < 20) :
    Calls Tryd.prog 58 #[.slice (some ⟨blk, 0, none⟩) d.size cap, .int .i64 d.size, .func (.func 50) #[] #[]] w fun e w' => e = .returned (.tuple #[]) ∧ ∃ n os, w' = sortWorldK encT 2 w blk 0 n (Sort.insertionSort (ltOf cfT) d 0 d.size) os := by
  have eg : ∀ args w, (callFunc 50 args).run Tryd.prog w = .ok (.enter 50 args) w := enters_of Tryd.func50 (by kernel_rfl) rfl
  have hcon := AnyQ.insertionSortCmpFunc Tryd.insSort 2 Tryd.isAgg62 Tryd.sizeOf62 encT (fun _ => rfl) (fun x v hv => by simp [encT] at hv; rcases hv with rfl | rfl <;> rfl) cfT 50 #[] blk 0 cap 0 d.size d w eg (turnLays blk 0 d.size w) hH hblk (by omega) (by omega) (by omega)
  change Calls Tryd.prog 61 #[.slice (some ⟨blk, 0, none⟩) d.size cap, .int .i64 ((0 : Nat) : Int), .int .i64 d.size, .func (.func 50) #[] #[]] _ _ at hcon
  rw [show ((0 : Nat) : Int) = 0 from rfl] at hcon
  clear hH
  generalize Sort.insertionSort (ltOf cfT) d 0 d.size = r at hcon ⊢
  have d1 : ((d.size : Nat) : Int) < 20 := by omega
  generalize d.size = n at hcon d1 hd ⊢
  clear hd
  go_enter Tryd.func58, Tryd.ntmps58
  go_wp2
  refine wp_loop_rounds 1 ?_
  rw [rounds_succ]
  go_wp2_with (go_at_call 61; refine hcon.mono ?_; rintro e w' ⟨rfl, q, os, rfl⟩)
  refine wp_loop_rounds 1 ?_
  rw [rounds_succ]
  go_wp2
  go_end0
  exact ⟨rfl, q, os, rfl⟩
set_option maxHeartbeats 1000000 in
theorem sortTurns_calls (blk cap : Nat) (d : Array (Int × Bool)) (w : World) (hH : HoldsK encT 2 w blk 0 d) (hblk : blk < w.heap.size) (hd : d.size < 20) :
    Calls Tryd.prog 49 #[.slice (some ⟨blk, 0, none⟩) d.size cap, .func (.func 50) #[] #[]] w fun e w' => e = .returned (.tuple #[]) ∧ ∃ n os, w' = sortWorldK encT 2 w blk 0 n (Sort.insertionSort (ltOf cfT) d 0 d.size) os := by
  have hcon := stableTurns_calls blk cap d w hH hblk hd
  clear hH
  generalize Sort.insertionSort (ltOf cfT) d 0 d.size = r at hcon ⊢
  generalize d.size = n at hcon hd ⊢
  go_enter Tryd.func49, Tryd.ntmps49
  go_wp2_with (go_at_call 58; refine hcon.mono ?_; rintro e w' ⟨rfl, q, os, rfl⟩)
  go_end0
  exact ⟨rfl, q, os, rfl⟩
end Go.Proofs.YtgbehcahdgamoaaDoor.Fn

namespace Go.Proofs.YtgbehcahdgamoaaDoor.Fn
open Go.RowKit Go.Proofs.YtgbehcahdgamoaaDoorW.PrintWords Go.Proofs.YtgbehcahdgamoaaDoorW.PrintLast Go.Lib Go.Sort
def rowT (T : Int × Int × Int) : List (Int × Bool) := if T.2.2 = 0 then [(T.2.1, false), (T.1, true)] else []
def rowsT (T : Int → Int × Int × Int) (y : Int) : Nat → List (Int × Bool)
  | 0 => []
  | k + 1 => rowsT T y k ++ rowT (T (y + k))
theorem rowT_len (T : Int × Int × Int) : (rowT T).length ≤ 2 := by unfold rowT; split <;> simp
theorem rowsT_len (T : Int → Int × Int × Int) (y : Int) : ∀ k, (rowsT T y k).length ≤ 2 * k
  | 0 => by simp [rowsT]
  | k + 1 => by have := rowsT_len T y k; have := rowT_len (T (y + k)); simp [rowsT]; omega
def flatT (l : List (Int × Bool)) : List Value := l.flatMap encT
theorem flatT_append (l m : List (Int × Bool)) : flatT (l ++ m) = flatT l ++ flatT m := by simp [flatT]
theorem turnInfo : (Tryd.prog.info? 62).map (fun i => (i.zero, i.size, i.bytes)) = some (some (.agg #[.int .i64 0, .bool false]), 2, 16) := by kernel_rfl
theorem box_cells {w wr : World} {cs : Array Value} {t : TypeId} (hb : Below (w.heap.size + 1) (w.alloc (.cells cs t)) wr) (i : Nat) : wr.cell? ⟨w.heap.size, i, none⟩ = cs[i]? := by
  rw [hb.cell (p := ⟨w.heap.size, i, none⟩) (by simp)]
  go_simp
theorem ownsRow_below {w w' : World} {base : Nat} {e : TypeId} {size : Nat} {v : Value} {n : Nat} {xs : List Value} (h : w.ownsRow base e size v n xs) (hb : Below w.heap.size w w') : w'.ownsRow base e size v n xs := by
  obtain ⟨hl, h⟩ := h
  refine ⟨hl, ?_⟩
  rcases h with h | ⟨g, cap, cur, rfl, hg, hw, rest⟩
  · exact .inl h
  · exact .inr ⟨g, cap, cur, rfl, hg, (hb.block g (Array.getElem?_eq_some_iff.1 hw).1).trans hw, rest⟩
theorem flatT_get : ∀ (l : List (Int × Bool)) (t : Nat), t < l.length * 2 → (flatT l)[t]? = some ((encT (l[t / 2]?.getD default))[t % 2]!)
  | [], t, h => by simp at h
  | x :: l, t, h => by
    have e : flatT (x :: l) = encT x ++ flatT l := by simp [flatT]
    rw [e]
    match t, h with
    | 0, _ => rfl
    | 1, _ => rfl
    | t + 2, h =>
      rw [show (t + 2) / 2 = t / 2 + 1 from by omega, show (t + 2) % 2 = t % 2 from by omega]
      have := flatT_get l t (by simp at h; omega)
      simpa [encT] using this
theorem holdsT_of {w : World} {base g n cap : Nat} {e : TypeId} {l : List (Int × Bool)} (h : w.ownsRow base e 2 (.slice (some ⟨g, 0, none⟩) n cap) n (flatT l)) (hn : n = l.length) : HoldsK encT 2 w g 0 l.toArray := by
  intro j hj
  rw [size_flatK] at hj
  simp at hj
  refine ⟨?_, ?_⟩
  · rw [Nat.zero_add, h.cellAt j (by omega), get_flatK _ _ _ _ (by simpa using hj), flatT_get l j (by omega)]
    simp
  · rw [Nat.zero_add]; exact h.frozenAt j
theorem size_insInner {α : Type} [Inhabited α] (lt : α → α → Bool) (a : Nat) : ∀ (j : Nat) (d : Array α), (insInner lt a j d).size = d.size
  | 0, d => rfl
  | j + 1, d => by
    unfold insInner
    split
    · rw [size_insInner lt a j, swp_size]
    · rfl
theorem size_insOuter {α : Type} [Inhabited α] (lt : α → α → Bool) (a b : Nat) : ∀ (n i : Nat) (d : Array α), b - i ≤ n → (insOuter lt a b i d).size = d.size
  | 0, i, d, h => by unfold insOuter; rw [if_neg (by omega)]
  | n + 1, i, d, h => by
    unfold insOuter
    split
    · rw [size_insOuter lt a b n (i + 1) _ (by omega), size_insInner]
    · rfl
theorem size_insertionSort {α : Type} [Inhabited α] (lt : α → α → Bool) (d : Array α) (a b : Nat) : (Sort.insertionSort lt d a b).size = d.size := size_insOuter lt a b _ _ d (Nat.le_refl _)
theorem below_sortT {B : Nat} {w0 w : World} {g n : Nat} {d : Array (Int × Bool)} {os : Array Obj} (h : Below B w0 w) (hg : B ≤ g) (hB : B ≤ w.heap.size) : Below B w0 (sortWorldK encT 2 w g 0 n d os) := by
  unfold sortWorldK putRowK
  have h1 : Below B w0 (putRow id (Sort.ahead w n) g 0 (flatK encT 2 d)) := below_putRow h hg
  exact h1.trans (by
    have := below_grow B (putRow id (Sort.ahead w n) g 0 (flatK encT 2 d)) (by simpa using hB) 0 os
    exact this)
set_option maxRecDepth 100000 in
set_option maxHeartbeats 1000000 in
theorem turns_calls (k : Nat) (T : Int → Int × Int × Int) (s0 : Int) (s1 : Bool) (s2 : ByteArray) (d0 : Int) (d1 : Bool) (d2 : ByteArray) (bo : Bool) (a0 : Int) (a1 : Int) (a2 : Int) (a3 : Int) (a4 : Int) (e0 : Int) (e1 : Int) (e2 : Int) (e3 : Int) (e4 : Int) (y : Int) (w : World) (hG : GL w) (hy0 : -4611686018427387904 < y) (hy1 : y < 4611686018427387904)
    (hT : ∀ j : Nat, j < 3 → rule_Turns.f k s0 s1 s2 d0 d1 d2 bo a0 a1 a2 a3 a4 e0 e1 e2 e3 e4 (y - 1 + j) = some (T (y - 1 + j))) (hne : 0 < (rowsT T (y - 1) 3).length) :
    Calls Tryd.prog 35 #[.agg #[.int .i64 s0, .bool s1, .string s2, .int .i64 d0, .bool d1, .string d2, .bool bo, .int .i64 a0, .int .i64 a1, .int .i64 a2, .int .i64 a3, .int .i64 a4, .int .i64 e0, .int .i64 e1, .int .i64 e2, .int .i64 e3, .int .i64 e4], .int .i64 y] w fun e w' => ∃ g cap : Nat, e = .returned (.slice (some ⟨g, 0, none⟩) (rowsT T (y - 1) 3).length cap) ∧ w.heap.size ≤ g ∧ g < w'.heap.size ∧ HoldsK encT 2 w' g 0 (Sort.insertionSort (ltOf cfT) (rowsT T (y - 1) 3).toArray 0 (rowsT T (y - 1) 3).length) ∧ Below w.heap.size w w' := by
  obtain ⟨i0, hi, hz0, hz1, hz2⟩ := info_parts turnInfo
  have HG := Aside0.mk hG
  have HT := Aside0.mk hT
  have HNE := Aside0.mk hne
  clear hG hT hne
  go_enter Tryd.func35, Tryd.ntmps35
  go_wp2
  go_loopw [4, 5] (fun l i wr => ∃ (j : Nat), j ≤ 3 ∧ i = .int .i64 (y - 1 + j) ∧ wr.ownsRow (w.heap.size + 1) 62 2 l (rowsT T (y - 1) j).length (flatT (rowsT T (y - 1) j)) ∧ Below (w.heap.size + 1) (w.alloc (.cells #[.int .i64 s0, .bool s1, .string s2, .int .i64 d0, .bool d1, .string d2, .bool bo, .int .i64 a0, .int .i64 a1, .int .i64 a2, .int .i64 a3, .int .i64 a4, .int .i64 e0, .int .i64 e1, .int .i64 e2, .int .i64 e3, .int .i64 e4] 27)) wr) (fun _ i _ => (y + 2 - intOf i).toNat)
  case atStart => exact ⟨0, by omega, by simp, World.ownsRow_nil _ _ _ _, Below.refl _ _⟩
  case round =>
    obtain ⟨j, hj, rfl, hown, hb⟩ := hrel
    have hbw : Below w.heap.size w wr := (below_alloc (Below.refl _ _) _).trans (hb.mono (by simp))
    have hGr := HG.out.below hbw
    have hsz := hb.size
    simp at hsz
    have hc := box_cells hb
    have hc0_ : wr.cell? ⟨w.heap.size, 0, none⟩ = some (.int .i64 s0) := (hc 0).trans rfl
    have hc1_ : wr.cell? ⟨w.heap.size, 1, none⟩ = some (.bool s1) := (hc 1).trans rfl
    have hc2_ : wr.cell? ⟨w.heap.size, 2, none⟩ = some (.string s2) := (hc 2).trans rfl
    have hc3_ : wr.cell? ⟨w.heap.size, 3, none⟩ = some (.int .i64 d0) := (hc 3).trans rfl
    have hc4_ : wr.cell? ⟨w.heap.size, 4, none⟩ = some (.bool d1) := (hc 4).trans rfl
    have hc5_ : wr.cell? ⟨w.heap.size, 5, none⟩ = some (.string d2) := (hc 5).trans rfl
    have hc6_ : wr.cell? ⟨w.heap.size, 6, none⟩ = some (.bool bo) := (hc 6).trans rfl
    have hc7_ : wr.cell? ⟨w.heap.size, 7, none⟩ = some (.int .i64 a0) := (hc 7).trans rfl
    have hc8_ : wr.cell? ⟨w.heap.size, 8, none⟩ = some (.int .i64 a1) := (hc 8).trans rfl
    have hc9_ : wr.cell? ⟨w.heap.size, 9, none⟩ = some (.int .i64 a2) := (hc 9).trans rfl
    have hc10_ : wr.cell? ⟨w.heap.size, 10, none⟩ = some (.int .i64 a3) := (hc 10).trans rfl
    have hc11_ : wr.cell? ⟨w.heap.size, 11, none⟩ = some (.int .i64 a4) := (hc 11).trans rfl
    have hc12_ : wr.cell? ⟨w.heap.size, 12, none⟩ = some (.int .i64 e0) := (hc 12).trans rfl
    have hc13_ : wr.cell? ⟨w.heap.size, 13, none⟩ = some (.int .i64 e1) := (hc 13).trans rfl
    have hc14_ : wr.cell? ⟨w.heap.size, 14, none⟩ = some (.int .i64 e2) := (hc 14).trans rfl
    have hc15_ : wr.cell? ⟨w.heap.size, 15, none⟩ = some (.int .i64 e3) := (hc 15).trans rfl
    have hc16_ : wr.cell? ⟨w.heap.size, 16, none⟩ = some (.int .i64 e4) := (hc 16).trans rfl
    clear hc
    have HGr := Aside0.mk hGr
    have HOWN := Aside0.mk hown
    have HB := Aside0.mk hb
    clear hGr hown hb hbw
    by_cases hlt : j < 3
    · have hTj := HT.out j hlt
      obtain ⟨tt, htt⟩ : ∃ tt, tt = T (y - 1 + j) := ⟨_, rfl⟩
      have HS : Aside0 (rowsT T (y - 1) (j + 1) = rowsT T (y - 1) j ++ rowT tt) := ⟨by rw [htt]; rfl⟩
      rw [← htt] at hTj
      clear htt
      obtain ⟨p, q, e⟩ := tt
      have HTj := Aside0.mk hTj
      have hlen := rowsT_len T (y - 1) j
      clear hTj
      generalize hxs : rowsT T (y - 1) j = xs at HOWN HS hlen
      clear hxs
      by_cases he : e = 0
      · subst he
        have hcall := fun W (hG : GL W) => rule_Turns.calls k s0 s1 s2 d0 d1 d2 bo a0 a1 a2 a3 a4 e0 e1 e2 e3 e4 (y - 1 + j) p q 0 W hG HTj.out
        go_wp2_with (first | (go_at_call 14; refine (hcall _ HGr.out).mono ?_; rintro e w1 ⟨rfl, hb1⟩; have HB1 := Aside0.mk hb1; clear hb1) | (at_builtin; refine wpList_append_own _ rfl (.tmp 26) (.tmp 31) 58 rfl (w.heap.size + 1) 62 i0 (.agg #[.int .i64 0, .bool false]) 2 16 Tryd.underlying58 hi hz0 hz1 hz2 rfl (by decide) _ xs.length (flatT xs) rfl ((ownsRow_below HOWN.out HB1.out).alloc _) ⟨w1.heap.size, 0, none⟩ 2 2 [.int .i64 q, .bool false, .int .i64 p, .bool true] rfl rfl ?c1 ?c2 ?c3 ?c4 ?c5 ?_))
        case c1 => intro j u hu; match j, hu with
          | 0, hu => simp at hu; subst hu; simp only [Addr.add]; go_simp
          | 1, hu => simp at hu; subst hu; simp only [Addr.add]; go_simp
          | 2, hu => simp at hu; subst hu; simp only [Addr.add]; go_simp
          | 3, hu => simp at hu; subst hu; simp only [Addr.add]; go_simp
          | j + 4, hu => simp at hu
        case c2 => intro u hu; simp at hu; rcases hu with rfl | rfl | rfl | rfl <;> rfl
        case c3 => unfold maxLen; omega
        case c4 => omega
        case c5 => have := HB1.out.size; simp; omega
        intro v' w3 hown3 hgr _
        have HO3 : Aside0 (w3.ownsRow (w.heap.size + 1) 62 2 v' (rowsT T (y - 1) (j + 1)).length (flatT (rowsT T (y - 1) (j + 1)))) := ⟨by rw [HS.out, flatT_append]; simpa [rowT, flatT, encT] using hown3⟩
        have HB3 : Aside0 (Below (w.heap.size + 1) (w.alloc (.cells #[.int .i64 s0, .bool s1, .string s2, .int .i64 d0, .bool d1, .string d2, .bool bo, .int .i64 a0, .int .i64 a1, .int .i64 a2, .int .i64 a3, .int .i64 a4, .int .i64 e0, .int .i64 e1, .int .i64 e2, .int .i64 e3, .int .i64 e4] 27)) w3) := ⟨by
          have hs1 := HB1.out.size
          refine Below.grown (((HB.out.trans (HB1.out.mono (by omega))).alloc (by omega) _)) hgr (by simp; omega) ?_
          intro kk hk
          exact (HOWN.out.lt kk hk).1⟩
        clear hown3 hgr
        go_wp2
        go_roundw
        case rel => exact ⟨j + 1, by omega, by go_num, HO3.out, HB3.out⟩
        case measure => simp [intOf]; omega
      · have he1 : (e == 0) = false := by simpa using he
        have hcall := fun W (hG : GL W) => rule_Turns.calls k s0 s1 s2 d0 d1 d2 bo a0 a1 a2 a3 a4 e0 e1 e2 e3 e4 (y - 1 + j) p q e W hG HTj.out
        have HS2 : Aside0 (rowsT T (y - 1) (j + 1) = xs) := ⟨by rw [HS.out]; simp [rowT, he]⟩
        clear HS he
        go_wp2_with (go_at_call 14; refine (hcall _ HGr.out).mono ?_; rintro e w1 ⟨rfl, hb1⟩; have HB1 := Aside0.mk hb1; clear hb1)
        go_roundw
        case rel => exact ⟨j + 1, by omega, by go_num, by rw [HS2.out]; exact ownsRow_below HOWN.out HB1.out, HB.out.trans (HB1.out.mono (by omega))⟩
        case measure => simp [intOf]; omega
    · obtain rfl : j = 3 := by omega
      clear hlt hj
      generalize hxs : rowsT T (y - 1) 3 = xs at HOWN HNE
      have hlen : xs.length ≤ 6 := by rw [← hxs]; exact rowsT_len T (y - 1) 3
      have HX := Aside0.mk hxs
      clear hxs
      obtain ⟨g, cap, rfl⟩ := Go.Joins.ownsRow_form HOWN.out HNE.out
      have hgl := HOWN.out.lt g rfl
      have hH := holdsT_of HOWN.out rfl
      have hsort := sortTurns_calls g cap xs.toArray wr hH hgl.2 (by simp; omega)
      have HH := Aside0.mk hH
      have HSO := Aside0.mk hsort
      have HGL := Aside0.mk hgl
      clear hH hsort hgl
      have hcall := HSO.out
      simp only [List.size_toArray] at hcall
      have HC := Aside0.mk hcall
      clear hcall
      go_wp2_with (go_at_call 49; refine HC.out.mono ?_; rintro e w' ⟨rfl, q, os, rfl⟩)
      go_ret
      refine ⟨g, cap, by rw [HX.out]; rfl, by have := HGL.out.1; omega, ?_, ?_, ?_⟩
      · exact Nat.lt_of_lt_of_le HGL.out.2 (size_sortWorldK_c encT 2 wr g 0 q _ os)
      · rw [HX.out]; exact holdsK_sortWorldK_c encT 2 wr g 0 xs.toArray _ q os HH.out HGL.out.2 (size_insertionSort _ _ _ _)
      · exact below_sortT ((below_alloc (Below.refl _ _) _).trans (HB.out.mono (by omega))) (by have := HGL.out.1; omega) (by omega)
end Go.Proofs.YtgbehcahdgamoaaDoor.Fn

namespace Go.Proofs.YtgbehcahdgamoaaDoor.Fn
open Go.RowKit Go.Proofs.YtgbehcahdgamoaaDoorW.PrintWords Go.Proofs.YtgbehcahdgamoaaDoorW.PrintLast Go.Proofs.YtgbehcahdgamoaaDoorW.PrintMore Go.Lib Go.Sort
def foldT (t : Int) (l : List (Int × Bool)) (b : Bool) : Bool := l.foldl (fun b x => if x.1 ≤ t then x.2 else b) b
def firstT (l : List (Int × Bool)) : Int := (l[0]?.getD default).1
def dstT (t : Int) (l : List (Int × Bool)) : Bool := foldT t l (!(l.any fun x => x.2 && x.1 == firstT l))
def sortT (l : List (Int × Bool)) : List (Int × Bool) := (Sort.insertionSort (ltOf cfT) l.toArray 0 l.length).toList
theorem sortT_len (l : List (Int × Bool)) : (sortT l).length = l.length := by simp [sortT, size_insertionSort]
set_option maxHeartbeats 1000000 in
/-- The closure that asks whether a turn is a start at the first one's moment. -/
theorem atFirst (w : World) (B g n cap : Nat) (t0 : Int) (hn : 0 < n) (hl : w.cell? ⟨B, 0, none⟩ = some (.slice (some ⟨g, 0, none⟩) n cap)) (h0 : w.cell? ⟨g, 0, none⟩ = some (.int .i64 t0)) :
    PredBelow Tryd.prog 37 #[.pointer (some ⟨B, 0, none⟩)] (fun x : Int × Bool => .agg (encT x).toArray) (fun x => x.2 && x.1 == t0) w := fun W x hb => by
  obtain ⟨a, b⟩ := x
  have hl' : W.cell? ⟨B, 0, none⟩ = some (.slice (some ⟨g, 0, none⟩) n cap) := (hb.cell (p := ⟨B, 0, none⟩) (World.block_lt_of_cell? _ _ hl)).trans hl
  have h0' : W.cell? ⟨g, 0, none⟩ = some (.int .i64 t0) := (hb.cell (p := ⟨g, 0, none⟩) (World.block_lt_of_cell? _ _ h0)).trans h0
  show Calls Tryd.prog 37 #[.agg #[.int .i64 a, .bool b], .pointer (some ⟨B, 0, none⟩)] W _
  have HB := Aside0.mk hb
  have hg0 := World.block_lt_of_cell? _ _ h0'
  have hg1 := World.block_lt_of_cell? _ _ hl'
  have hg2 : g ≠ W.heap.size := by simp at hg0; omega
  have hg3 : B ≠ W.heap.size := by simp at hg1; omega
  clear hb hl h0
  have hnI : (0 : Int) < (n : Int) := by omega
  cases b
  · show Calls _ _ _ _ fun e w' => e = .returned (.bool false) ∧ Below w.heap.size w w'
    go_enter Tryd.func37, Tryd.ntmps37
    go_wp2
    go_quiet (fail)
    go_wp2
    go_ret
    exact ⟨rfl, by repeat (first | exact HB.out | apply pw_below_drewN | apply below_drew1 | apply below_alloc)⟩
  · show Calls _ _ _ _ fun e w' => e = .returned (.bool (true && a == t0)) ∧ Below w.heap.size w w'
    rw [Bool.true_and]
    go_enter Tryd.func37, Tryd.ntmps37
    go_wp2
    go_quiet (fail)
    go_wp2
    go_ret
    exact ⟨rfl, by repeat (first | exact HB.out | apply pw_below_drewN | apply below_drew1 | apply below_alloc)⟩
def rule_At.f (k : Nat) (s0 : Int) (s1 : Bool) (s2 : ByteArray) (d0 : Int) (d1 : Bool) (d2 : ByteArray) (bo : Bool) (a0 : Int) (a1 : Int) (a2 : Int) (a3 : Int) (a4 : Int) (e0 : Int) (e1 : Int) (e2 : Int) (e3 : Int) (e4 : Int) (t : Int) : Option (Int × Bool × ByteArray × Int) :=
  (posix_Right.f k s0 s1 s2 d0 d1 d2 bo a0 a1 a2 a3 a4 e0 e1 e2 e3 e4 true).bind fun ok => if ok = false then some (0, false, ⟨#[]⟩, 1) else if bo = false then some (s0, s1, s2, 0) else
    (number_Div.f t 86400).bind fun dv => (civil_Date.f dv.1).bind fun dt => if dt.2.2.2 = 0 then (if -4611686018427387904 < dt.1 ∧ dt.1 < 4611686018427387904 then
      (rule_Turns.f k s0 s1 s2 d0 d1 d2 bo a0 a1 a2 a3 a4 e0 e1 e2 e3 e4 (dt.1 - 1)).bind fun T0 => (rule_Turns.f k s0 s1 s2 d0 d1 d2 bo a0 a1 a2 a3 a4 e0 e1 e2 e3 e4 dt.1).bind fun T1 => (rule_Turns.f k s0 s1 s2 d0 d1 d2 bo a0 a1 a2 a3 a4 e0 e1 e2 e3 e4 (dt.1 + 1)).bind fun T2 =>
        if 0 < (rowT T0 ++ rowT T1 ++ rowT T2).length then (if dstT t (sortT (rowT T0 ++ rowT T1 ++ rowT T2)) = true then some (d0, d1, d2, 0) else some (s0, s1, s2, 0)) else none
      else none) else some (0, false, ⟨#[]⟩, dt.2.2.2)
set_option maxRecDepth 100000 in
set_option maxHeartbeats 1000000 in
theorem At_wrong (k : Nat) (s0 : Int) (s1 : Bool) (s2 : ByteArray) (d0 : Int) (d1 : Bool) (d2 : ByteArray) (bo : Bool) (a0 : Int) (a1 : Int) (a2 : Int) (a3 : Int) (a4 : Int) (e0 : Int) (e1 : Int) (e2 : Int) (e3 : Int) (e4 : Int) (t : Int) (w : World) (h : posix_Right.f k s0 s1 s2 d0 d1 d2 bo a0 a1 a2 a3 a4 e0 e1 e2 e3 e4 true = some false) :
    Calls Tryd.prog 16 #[.agg #[.int .i64 s0, .bool s1, .string s2, .int .i64 d0, .bool d1, .string d2, .bool bo, .int .i64 a0, .int .i64 a1, .int .i64 a2, .int .i64 a3, .int .i64 a4, .int .i64 e0, .int .i64 e1, .int .i64 e2, .int .i64 e3, .int .i64 e4], .int .i64 t] w fun e w' => e = .returned (.tuple #[.agg #[.int .i64 0, .bool false, .string ⟨#[]⟩], .int .i64 1]) ∧ Below w.heap.size w w' := by
  have HC := Aside0.mk (fun W => posix_Right.calls k s0 s1 s2 d0 d1 d2 bo a0 a1 a2 a3 a4 e0 e1 e2 e3 e4 true false W h)
  clear h
  go_enter Tryd.func16, Tryd.ntmps16
  go_wp2_with ((with_reducible refine gate_dst (N := 17) rfl ?_); refine wpList_load_row rfl 27 _ rfl w.heap.size rfl 27 #[.int .i64 s0, .bool s1, .string s2, .int .i64 d0, .bool d1, .string d2, .bool bo, .int .i64 a0, .int .i64 a1, .int .i64 a2, .int .i64 a3, .int .i64 a4, .int .i64 e0, .int .i64 e1, .int .i64 e2, .int .i64 e3, .int .i64 e4] (0, 0) _ (blk_alloc (blk_new _ _) _) Tryd.underlying27 rfl (by kernel_rfl) ?_)
  refine (HC.out _).mono ?_
  rintro e w1 ⟨rfl, hb1⟩
  have BK := blk_below (blk_new _ _) hb1
  simp only [World.size_alloc] at BK
  have HBw := Aside0.mk ((below_alloc (below_alloc (Below.refl _ _) _) _).trans (hb1.mono (by simp; omega)))
  have hk0_ : w1.cell? ⟨w.heap.size+1, 0, none⟩ = some (.int .i64 0) := (blk_cell BK 0).trans rfl
  have hk1_ : w1.cell? ⟨w.heap.size+1, 1, none⟩ = some (.bool false) := (blk_cell BK 1).trans rfl
  have hk2_ : w1.cell? ⟨w.heap.size+1, 2, none⟩ = some (.string (⟨#[]⟩ : ByteArray)) := (blk_cell BK 2).trans rfl
  have hf0_ : w1.frozen? ⟨w.heap.size+1, 0, none⟩ = false := blk_frozen BK 0
  have hf1_ : w1.frozen? ⟨w.heap.size+1, 1, none⟩ = false := blk_frozen BK 1
  have hf2_ : w1.frozen? ⟨w.heap.size+1, 2, none⟩ = false := blk_frozen BK 2
  have BK1 := Aside0.mk BK
  clear hb1 BK HC
  go_wp2
  refine bodyPost_ret (results_ct rfl _ _ (w.heap.size+1) 23 #[.int .i64 (0), .bool false, .string (⟨#[]⟩)] (0, 0) _ rfl (by (with_reducible repeat (first | refine blk_drewN ?_ _ | refine blk_drew ?_ | refine blk_alloc ?_ _)); refine blk_put (cs := #[.int .i64 (0), .bool false, .string (⟨#[]⟩ : ByteArray)]) ?_ 2 _ rfl; (with_reducible repeat (first | refine blk_drewN ?_ _ | refine blk_drew ?_ | refine blk_alloc ?_ _)); refine blk_put (cs := #[.int .i64 (0), .bool false, .string (⟨#[]⟩ : ByteArray)]) ?_ 1 _ rfl; (with_reducible repeat (first | refine blk_drewN ?_ _ | refine blk_drew ?_ | refine blk_alloc ?_ _)); refine blk_put (cs := #[.int .i64 0, .bool false, .string (⟨#[]⟩ : ByteArray)]) ?_ 0 _ rfl; (with_reducible repeat (first | refine blk_drewN ?_ _ | refine blk_drew ?_ | refine blk_alloc ?_ _)); exact BK1.out) Tryd.underlying23 rfl (by kernel_rfl)) rfl ?_
  exact ⟨rfl, (by repeat (first | exact HBw.out | apply pw_below_drewN | apply below_drew1 | apply below_alloc | refine below_set ?_ (by omega)))⟩
set_option maxRecDepth 100000 in
set_option maxHeartbeats 1000000 in
theorem At_one (k : Nat) (s0 : Int) (s1 : Bool) (s2 : ByteArray) (d0 : Int) (d1 : Bool) (d2 : ByteArray) (a0 : Int) (a1 : Int) (a2 : Int) (a3 : Int) (a4 : Int) (e0 : Int) (e1 : Int) (e2 : Int) (e3 : Int) (e4 : Int) (t : Int) (w : World) (bo : Bool) (hbo : bo = false) (h : posix_Right.f k s0 s1 s2 d0 d1 d2 bo a0 a1 a2 a3 a4 e0 e1 e2 e3 e4 true = some true) :
    Calls Tryd.prog 16 #[.agg #[.int .i64 s0, .bool s1, .string s2, .int .i64 d0, .bool d1, .string d2, .bool bo, .int .i64 a0, .int .i64 a1, .int .i64 a2, .int .i64 a3, .int .i64 a4, .int .i64 e0, .int .i64 e1, .int .i64 e2, .int .i64 e3, .int .i64 e4], .int .i64 t] w fun e w' => e = .returned (.tuple #[.agg #[.int .i64 s0, .bool s1, .string s2], .int .i64 0]) ∧ Below w.heap.size w w' := by
  subst hbo
  have HC := Aside0.mk (fun W => posix_Right.calls k s0 s1 s2 d0 d1 d2 false a0 a1 a2 a3 a4 e0 e1 e2 e3 e4 true true W h)
  clear h
  go_enter Tryd.func16, Tryd.ntmps16
  go_wp2_with ((with_reducible refine gate_dst (N := 17) rfl ?_); refine wpList_load_row rfl 27 _ rfl w.heap.size rfl 27 #[.int .i64 s0, .bool s1, .string s2, .int .i64 d0, .bool d1, .string d2, .bool false, .int .i64 a0, .int .i64 a1, .int .i64 a2, .int .i64 a3, .int .i64 a4, .int .i64 e0, .int .i64 e1, .int .i64 e2, .int .i64 e3, .int .i64 e4] (0, 0) _ (blk_alloc (blk_new _ _) _) Tryd.underlying27 rfl (by kernel_rfl) ?_)
  refine (HC.out _).mono ?_
  rintro e w1 ⟨rfl, hb1⟩
  have BK := blk_below (blk_new _ _) hb1
  simp only [World.size_alloc] at BK
  have BR := blk_below (blk_alloc (blk_new _ _) _) hb1
  have HBw := Aside0.mk ((below_alloc (below_alloc (Below.refl _ _) _) _).trans (hb1.mono (by simp; omega)))
  have hk0_ : w1.cell? ⟨w.heap.size+1, 0, none⟩ = some (.int .i64 0) := (blk_cell BK 0).trans rfl
  have hk1_ : w1.cell? ⟨w.heap.size+1, 1, none⟩ = some (.bool false) := (blk_cell BK 1).trans rfl
  have hk2_ : w1.cell? ⟨w.heap.size+1, 2, none⟩ = some (.string (⟨#[]⟩ : ByteArray)) := (blk_cell BK 2).trans rfl
  have hf0_ : w1.frozen? ⟨w.heap.size+1, 0, none⟩ = false := blk_frozen BK 0
  have hf1_ : w1.frozen? ⟨w.heap.size+1, 1, none⟩ = false := blk_frozen BK 1
  have hf2_ : w1.frozen? ⟨w.heap.size+1, 2, none⟩ = false := blk_frozen BK 2
  have hr0 : w1.cell? ⟨w.heap.size, 0, none⟩ = some (.int .i64 s0) := (blk_cell BR 0).trans rfl
  have hr1 : w1.cell? ⟨w.heap.size, 1, none⟩ = some (.bool s1) := (blk_cell BR 1).trans rfl
  have hr2 : w1.cell? ⟨w.heap.size, 2, none⟩ = some (.string s2) := (blk_cell BR 2).trans rfl
  have hr6 : w1.cell? ⟨w.heap.size, 6, none⟩ = some (.bool false) := (blk_cell BR 6).trans rfl
  have BK1 := Aside0.mk BK
  clear hb1 BK HC BR
  go_wp2
  refine bodyPost_ret (results_ct rfl _ _ (w.heap.size+1) 23 #[.int .i64 (s0), .bool s1, .string s2] (0, 0) _ rfl (by (with_reducible repeat (first | refine blk_drewN ?_ _ | refine blk_drew ?_ | refine blk_alloc ?_ _)); refine blk_put (cs := #[.int .i64 (s0), .bool s1, .string (⟨#[]⟩ : ByteArray)]) ?_ 2 _ rfl; (with_reducible repeat (first | refine blk_drewN ?_ _ | refine blk_drew ?_ | refine blk_alloc ?_ _)); refine blk_put (cs := #[.int .i64 (s0), .bool false, .string (⟨#[]⟩ : ByteArray)]) ?_ 1 _ rfl; (with_reducible repeat (first | refine blk_drewN ?_ _ | refine blk_drew ?_ | refine blk_alloc ?_ _)); refine blk_put (cs := #[.int .i64 0, .bool false, .string (⟨#[]⟩ : ByteArray)]) ?_ 0 _ rfl; (with_reducible repeat (first | refine blk_drewN ?_ _ | refine blk_drew ?_ | refine blk_alloc ?_ _)); exact BK1.out) Tryd.underlying23 rfl (by kernel_rfl)) rfl ?_
  exact ⟨rfl, (by repeat (first | exact HBw.out | apply pw_below_drewN | apply below_drew1 | apply below_alloc | refine below_set ?_ (by omega)))⟩
set_option maxRecDepth 100000 in
set_option maxHeartbeats 1000000 in
theorem At_err (k : Nat) (s0 : Int) (s1 : Bool) (s2 : ByteArray) (d0 : Int) (d1 : Bool) (d2 : ByteArray) (a0 : Int) (a1 : Int) (a2 : Int) (a3 : Int) (a4 : Int) (e0 : Int) (e1 : Int) (e2 : Int) (e3 : Int) (e4 : Int) (t : Int) (w : World) (bo : Bool) (hbo : bo = true) (h : posix_Right.f k s0 s1 s2 d0 d1 d2 bo a0 a1 a2 a3 a4 e0 e1 e2 e3 e4 true = some true)
    (v0 v1 : Int) (v2 : Bool) (hv : number_Div.f t 86400 = some (v0, v1, v2)) (y m d er : Int) (hd : civil_Date.f v0 = some (y, m, d, er)) (her : er ≠ 0) :
    Calls Tryd.prog 16 #[.agg #[.int .i64 s0, .bool s1, .string s2, .int .i64 d0, .bool d1, .string d2, .bool bo, .int .i64 a0, .int .i64 a1, .int .i64 a2, .int .i64 a3, .int .i64 a4, .int .i64 e0, .int .i64 e1, .int .i64 e2, .int .i64 e3, .int .i64 e4], .int .i64 t] w fun e w' => e = .returned (.tuple #[.agg #[.int .i64 0, .bool false, .string ⟨#[]⟩], .int .i64 er]) ∧ Below w.heap.size w w' := by
  subst hbo
  have HC := Aside0.mk (fun W => posix_Right.calls k s0 s1 s2 d0 d1 d2 true a0 a1 a2 a3 a4 e0 e1 e2 e3 e4 true true W h)
  have HV := Aside0.mk (fun W => number_Div.calls t 86400 v0 v1 v2 W hv)
  have HD := Aside0.mk (fun W => civil_Date.calls v0 y m d er W hd)
  have hne : (er != 0) = true := by simpa using her
  clear h hv hd her
  go_enter Tryd.func16, Tryd.ntmps16
  go_wp2_with ((with_reducible refine gate_dst (N := 17) rfl ?_); refine wpList_load_row rfl 27 _ rfl w.heap.size rfl 27 #[.int .i64 s0, .bool s1, .string s2, .int .i64 d0, .bool d1, .string d2, .bool true, .int .i64 a0, .int .i64 a1, .int .i64 a2, .int .i64 a3, .int .i64 a4, .int .i64 e0, .int .i64 e1, .int .i64 e2, .int .i64 e3, .int .i64 e4] (0, 0) _ (blk_alloc (blk_new _ _) _) Tryd.underlying27 rfl (by kernel_rfl) ?_)
  refine (HC.out _).mono ?_
  rintro e w1 ⟨rfl, hb1⟩
  have BK := blk_below (blk_new _ _) hb1
  simp only [World.size_alloc] at BK
  have BR := blk_below (blk_alloc (blk_new _ _) _) hb1
  have HBw := Aside0.mk ((below_alloc (below_alloc (Below.refl _ _) _) _).trans (hb1.mono (by simp; omega)))
  have hk0_ : w1.cell? ⟨w.heap.size+1, 0, none⟩ = some (.int .i64 0) := (blk_cell BK 0).trans rfl
  have hk1_ : w1.cell? ⟨w.heap.size+1, 1, none⟩ = some (.bool false) := (blk_cell BK 1).trans rfl
  have hk2_ : w1.cell? ⟨w.heap.size+1, 2, none⟩ = some (.string (⟨#[]⟩ : ByteArray)) := (blk_cell BK 2).trans rfl
  have hf0_ : w1.frozen? ⟨w.heap.size+1, 0, none⟩ = false := blk_frozen BK 0
  have hf1_ : w1.frozen? ⟨w.heap.size+1, 1, none⟩ = false := blk_frozen BK 1
  have hf2_ : w1.frozen? ⟨w.heap.size+1, 2, none⟩ = false := blk_frozen BK 2
  have hr6 : w1.cell? ⟨w.heap.size, 6, none⟩ = some (.bool true) := (blk_cell BR 6).trans rfl
  have BK1 := Aside0.mk BK
  clear hb1 BK HC BR
  go_wp2_with (first | (go_at_call 34; refine (HV.out _).mono ?_; rintro e w' ⟨rfl, ⟨nd, rfl⟩⟩) | (go_at_call 21; refine (HD.out _).mono ?_; rintro e w' ⟨rfl, ⟨nd, rfl⟩⟩))
  refine bodyPost_ret (results_ct rfl _ _ (w.heap.size+1) 23 #[.int .i64 (0), .bool false, .string (⟨#[]⟩)] (0, 0) _ rfl (by (with_reducible repeat (first | refine blk_drewN ?_ _ | refine blk_drew ?_ | refine blk_alloc ?_ _)); refine blk_put (cs := #[.int .i64 (0), .bool false, .string (⟨#[]⟩ : ByteArray)]) ?_ 2 _ rfl; (with_reducible repeat (first | refine blk_drewN ?_ _ | refine blk_drew ?_ | refine blk_alloc ?_ _)); refine blk_put (cs := #[.int .i64 (0), .bool false, .string (⟨#[]⟩ : ByteArray)]) ?_ 1 _ rfl; (with_reducible repeat (first | refine blk_drewN ?_ _ | refine blk_drew ?_ | refine blk_alloc ?_ _)); refine blk_put (cs := #[.int .i64 0, .bool false, .string (⟨#[]⟩ : ByteArray)]) ?_ 0 _ rfl; (with_reducible repeat (first | refine blk_drewN ?_ _ | refine blk_drew ?_ | refine blk_alloc ?_ _)); exact BK1.out) Tryd.underlying23 rfl (by kernel_rfl)) rfl ?_
  exact ⟨rfl, (by repeat (first | exact HBw.out | apply pw_below_drewN | apply below_drew1 | apply below_alloc | refine below_set ?_ (by omega)))⟩
theorem cells_T {w : World} {g : Nat} {l : List (Int × Bool)} (h : HoldsK encT 2 w g 0 (Sort.insertionSort (ltOf cfT) l.toArray 0 l.length)) (i : Nat) (hi : i < (sortT l).length) :
    w.cell? ⟨g, i * 2, none⟩ = some (.int .i64 ((sortT l)[i]?.getD default).1) ∧ w.cell? ⟨g, i * 2 + 1, none⟩ = some (.bool ((sortT l)[i]?.getD default).2) := by
  have hs : i < (Sort.insertionSort (ltOf cfT) l.toArray 0 l.length).size := by rw [size_insertionSort]; rw [sortT_len] at hi; simpa using hi
  have h0 := (h.cell hs (show 0 < 2 by omega)).1
  have h1 := (h.cell hs (show 1 < 2 by omega)).1
  have e : (Sort.insertionSort (ltOf cfT) l.toArray 0 l.length)[i]! = (sortT l)[i]?.getD default := by
    unfold sortT
    rw [getElem!_pos (Sort.insertionSort (ltOf cfT) l.toArray 0 l.length) i hs]
    simp [hs]
  rw [e] at h0 h1
  refine ⟨?_, ?_⟩
  · simpa [encT] using h0
  · simpa [encT] using h1
theorem foldT_step (t : Int) (l : List (Int × Bool)) (b : Bool) (i : Nat) (hi : i < l.length) : foldT t (l.take (i + 1)) b = if (l[i]?.getD default).1 ≤ t then (l[i]?.getD default).2 else foldT t (l.take i) b := by
  rw [List.take_succ_eq_append_getElem hi]
  unfold foldT
  rw [List.foldl_append]
  simp [hi]
end Go.Proofs.YtgbehcahdgamoaaDoor.Fn

namespace Go.Proofs.YtgbehcahdgamoaaDoor.Fn
open Go.RowKit Go.Proofs.YtgbehcahdgamoaaDoorW.PrintWords Go.Proofs.YtgbehcahdgamoaaDoorW.PrintLast Go.Proofs.YtgbehcahdgamoaaDoorW.PrintMore Go.Lib Go.Sort
def pickV (b : Bool) (x y : Value) : Value := if b = true then x else y
def CellsT (w : World) (g : Nat) (xs : List (Int × Bool)) : Prop := ∀ i, i < xs.length → w.cell? ⟨g, i * 2, none⟩ = some (.int .i64 (xs[i]?.getD default).1) ∧ w.cell? ⟨g, i * 2 + 1, none⟩ = some (.bool (xs[i]?.getD default).2)
theorem CellsT.below {w w' : World} {g : Nat} {xs : List (Int × Bool)} (h : CellsT w g xs) (hb : Below w.heap.size w w') : CellsT w' g xs := fun i hi =>
  ⟨(hb.cell (p := ⟨g, i * 2, none⟩) (World.block_lt_of_cell? _ _ (h i hi).1)).trans (h i hi).1, (hb.cell (p := ⟨g, i * 2 + 1, none⟩) (World.block_lt_of_cell? _ _ (h i hi).2)).trans (h i hi).2⟩
theorem contT_calls (W : World) (B g cap : Nat) (xs : List (Int × Bool)) (h0 : 0 < xs.length) (h6 : xs.length ≤ 6) (hl : W.cell? ⟨B, 0, none⟩ = some (.slice (some ⟨g, 0, none⟩) xs.length cap)) (hc : CellsT W g xs) :
    Calls Tryd.prog 36 #[.slice (some ⟨g, 0, none⟩) xs.length cap, .func (.func 37) #[] #[.pointer (some ⟨B, 0, none⟩)]] W fun e w' => e = .returned (.bool (xs.any fun x => x.2 && x.1 == firstT xs)) ∧ Below W.heap.size W w' := by
  have hp := atFirst W B g xs.length cap (firstT xs) h0 hl (by have := (hc 0 h0).1; simpa [firstT] using this)
  have h := AnyQ.slices_ContainsFunc Tryd.contTurn 2 Tryd.isAgg62 Tryd.sizeOf62 encT (fun _ => rfl) (fun x => x.2 && x.1 == firstT xs) 37 #[.pointer (some ⟨B, 0, none⟩)] (enters_of Tryd.func37 (by kernel_rfl) rfl) g 0 xs.length cap xs W hp (Nat.le_refl _) (by omega)
    (World.block_lt_of_cell? _ _ (hc 0 h0).1) (by
      intro j hj i v hv
      have e : xs[j]! = xs[j]?.getD default := by simp [hj]
      rw [e] at hv
      match i, hv with
      | 0, hv => simp [encT] at hv; subst hv; simpa using (hc j hj).1
      | 1, hv => simp [encT] at hv; subst hv; simpa using (hc j hj).2
      | i + 2, hv => simp [encT] at hv)
  rw [List.take_length] at h
  exact h
set_option maxRecDepth 100000 in
set_option maxHeartbeats 2000000 in
theorem At_two (k : Nat) (xs : List (Int × Bool)) (s0 : Int) (s1 : Bool) (s2 : ByteArray) (d0 : Int) (d1 : Bool) (d2 : ByteArray) (a0 : Int) (a1 : Int) (a2 : Int) (a3 : Int) (a4 : Int) (e0 : Int) (e1 : Int) (e2 : Int) (e3 : Int) (e4 : Int) (t : Int) (w : World) (hG : GL w) (h : posix_Right.f k s0 s1 s2 d0 d1 d2 true a0 a1 a2 a3 a4 e0 e1 e2 e3 e4 true = some true)
    (v0 v1 : Int) (v2 : Bool) (hv : number_Div.f t 86400 = some (v0, v1, v2)) (y m d : Int) (hd : civil_Date.f v0 = some (y, m, d, 0)) (hL : 0 < xs.length) (hL2 : xs.length ≤ 6)
    (hT : ∀ W, GL W → Calls Tryd.prog 35 #[.agg #[.int .i64 s0, .bool s1, .string s2, .int .i64 d0, .bool d1, .string d2, .bool true, .int .i64 a0, .int .i64 a1, .int .i64 a2, .int .i64 a3, .int .i64 a4, .int .i64 e0, .int .i64 e1, .int .i64 e2, .int .i64 e3, .int .i64 e4], .int .i64 y] W fun e w' => ∃ g cap : Nat, e = .returned (.slice (some ⟨g, 0, none⟩) xs.length cap) ∧ CellsT w' g xs ∧ Below W.heap.size W w') :
    Calls Tryd.prog 16 #[.agg #[.int .i64 s0, .bool s1, .string s2, .int .i64 d0, .bool d1, .string d2, .bool true, .int .i64 a0, .int .i64 a1, .int .i64 a2, .int .i64 a3, .int .i64 a4, .int .i64 e0, .int .i64 e1, .int .i64 e2, .int .i64 e3, .int .i64 e4], .int .i64 t] w fun e w' => e = .returned (.tuple #[pickV (dstT t xs) (.agg #[.int .i64 d0, .bool d1, .string d2]) (.agg #[.int .i64 s0, .bool s1, .string s2]), .int .i64 0]) ∧ Below w.heap.size w w' := by
  have HC := Aside0.mk (fun W => posix_Right.calls k s0 s1 s2 d0 d1 d2 true a0 a1 a2 a3 a4 e0 e1 e2 e3 e4 true true W h)
  have HV := Aside0.mk (fun W => number_Div.calls t 86400 v0 v1 v2 W hv)
  have HD := Aside0.mk (fun W => civil_Date.calls v0 y m d 0 W hd)
  have HT := Aside0.mk hT
  have HG := Aside0.mk hG
  clear h hv hd hG hT
  go_enter Tryd.func16, Tryd.ntmps16
  go_wp2_with ((with_reducible refine gate_dst (N := 17) rfl ?_); refine wpList_load_row rfl 27 _ rfl w.heap.size rfl 27 #[.int .i64 s0, .bool s1, .string s2, .int .i64 d0, .bool d1, .string d2, .bool true, .int .i64 a0, .int .i64 a1, .int .i64 a2, .int .i64 a3, .int .i64 a4, .int .i64 e0, .int .i64 e1, .int .i64 e2, .int .i64 e3, .int .i64 e4] (0, 0) _ (blk_alloc (blk_new _ _) _) Tryd.underlying27 rfl (by kernel_rfl) ?_)
  refine (HC.out _).mono ?_
  rintro e w1 ⟨rfl, hb1⟩
  have BK := blk_below (blk_new _ _) hb1
  simp only [World.size_alloc] at BK
  have BR := blk_below (blk_alloc (blk_new _ _) _) hb1
  have HBw := Aside0.mk ((below_alloc (below_alloc (Below.refl _ _) _) _).trans (hb1.mono (by simp; omega)))
  have hr6 : w1.cell? ⟨w.heap.size, 6, none⟩ = some (.bool true) := (blk_cell BR 6).trans rfl
  have BK1 := Aside0.mk BK
  have BR1 := Aside0.mk BR
  clear hb1 BK HC BR
  go_wp2_with (first | ((with_reducible refine gate_dst (N := 43) rfl ?_); refine wpList_load_row rfl 27 _ rfl w.heap.size rfl 27 #[.int .i64 s0, .bool s1, .string s2, .int .i64 d0, .bool d1, .string d2, .bool true, .int .i64 a0, .int .i64 a1, .int .i64 a2, .int .i64 a3, .int .i64 a4, .int .i64 e0, .int .i64 e1, .int .i64 e2, .int .i64 e3, .int .i64 e4] (0, 0) _ (blk_drewN BR1.out _) Tryd.underlying27 rfl (by kernel_rfl) ?_) | (go_at_call 34; refine (HV.out _).mono ?_; rintro e w' ⟨rfl, ⟨nd, rfl⟩⟩) | (go_at_call 21; refine (HD.out _).mono ?_; rintro e w' ⟨rfl, ⟨nd, rfl⟩⟩))
  refine (HT.out _ (HG.out.below (by repeat (first | exact HBw.out | apply pw_below_drewN | apply below_drew1 | apply below_alloc | refine below_set ?_ (by omega))))).mono ?_
  rintro e w2 ⟨g, cap, rfl, hct, hb2⟩
  have hb2' : Below w1.heap.size w1 w2 := (pw_below_drewN (Below.refl _ _) _).trans (hb2.mono (Nat.le_refl _))
  have BK := blk_below BK1.out hb2'
  have BR := blk_below BR1.out hb2'
  have HBw2 := Aside0.mk (HBw.out.trans (hb2'.mono HBw.out.size))
  have HCT := Aside0.mk hct
  clear hb2 hb2' BK1 BR1 HBw HT HV HD HG hct hr6
  have BK2 := Aside0.mk BK
  have BR2 := Aside0.mk BR
  clear BK BR
  go_wp2_with fail
  refine (contT_calls _ w2.heap.size g cap xs hL hL2 (by go_simp) (HCT.out.below (below_alloc (Below.refl _ _) _))).mono ?_
  rintro e w3 ⟨rfl, hb3⟩
  have hb3' : Below w2.heap.size w2 w3 := (below_alloc (Below.refl _ _) _).trans (hb3.mono (by simp))
  have hl3 : w3.cell? ⟨w2.heap.size, 0, none⟩ = some (.slice (some ⟨g, 0, none⟩) xs.length cap) := (hb3.cell (p := ⟨w2.heap.size, 0, none⟩) (by simp)).trans (by go_simp)
  have HCT3 := Aside0.mk (HCT.out.below hb3')
  have HBw3 := Aside0.mk (HBw2.out.trans (hb3'.mono HBw2.out.size))
  have BK3 := Aside0.mk (blk_below BK2.out hb3')
  have BR3 := Aside0.mk (blk_below BR2.out hb3')
  clear hb3 hb3' HCT HBw2 BK2 BR2
  obtain ⟨b0, hb0⟩ : ∃ b0, b0 = !(xs.any fun x => x.2 && x.1 == firstT xs) := ⟨_, rfl⟩
  have HB0 := Aside0.mk hb0
  go_wp2_with fail
  rw [← hb0]
  clear hb0
  go_loopw [14, 52] (fun ds i wr => ∃ (j : Nat), j ≤ xs.length ∧ i = .int .i64 j ∧ ds = .bool (foldT t (xs.take j) b0) ∧ Below w3.heap.size w3 wr) (fun _ i _ => (xs.length - intOf i).toNat)
  case atStart => exact ⟨0, by omega, rfl, rfl, Below.refl _ _⟩
  case round =>
    obtain ⟨j, hj, rfl, rfl, hb⟩ := hrel
    have hsz := hb.size
    by_cases hlt : j < xs.length
    · have hcc := (HCT3.out.below hb) j hlt
      obtain ⟨hc0, hc1⟩ := hcc
      have HS := Aside0.mk (foldT_step t xs b0 j hlt)
      generalize xs[j]?.getD default = x at hc0 hc1 HS
      obtain ⟨a, b⟩ := x
      have HB := Aside0.mk hb
      clear hb
      by_cases hle : a ≤ t
      · have HS2 : Aside0 (foldT t (xs.take (j + 1)) b0 = b) := ⟨by rw [HS.out, if_pos hle]⟩
        clear HS
        go_wp2
        go_roundw
        case rel => exact ⟨j + 1, by omega, by go_num, by rw [HS2.out], (by repeat (first | exact HB.out | apply pw_below_drewN | apply below_drew1 | apply below_alloc | refine below_set ?_ (by omega)))⟩
        case measure => simp [intOf]; omega
      · have HS2 : Aside0 (foldT t (xs.take (j + 1)) b0 = foldT t (xs.take j) b0) := ⟨by rw [HS.out, if_neg hle]⟩
        clear HS
        go_wp2
        go_roundw
        case rel => exact ⟨j + 1, by omega, by go_num, by rw [HS2.out], (by repeat (first | exact HB.out | apply pw_below_drewN | apply below_drew1 | apply below_alloc | refine below_set ?_ (by omega)))⟩
        case measure => simp [intOf]; omega
    · obtain rfl : j = xs.length := by omega
      have HBr := Aside0.mk (HBw3.out.trans (hb.mono HBw3.out.size))
      have BKr := blk_below BK3.out hb
      have BRr := blk_below BR3.out hb
      have BK4 := Aside0.mk BKr
      have hds : foldT t (xs.take xs.length) b0 = dstT t xs := by rw [List.take_length, HB0.out]; rfl
      have hk0_ : wr.cell? ⟨w.heap.size+1, 0, none⟩ = some (.int .i64 0) := (blk_cell BKr 0).trans rfl
      have hk1_ : wr.cell? ⟨w.heap.size+1, 1, none⟩ = some (.bool false) := (blk_cell BKr 1).trans rfl
      have hk2_ : wr.cell? ⟨w.heap.size+1, 2, none⟩ = some (.string (⟨#[]⟩ : ByteArray)) := (blk_cell BKr 2).trans rfl
      have hf0_ : wr.frozen? ⟨w.heap.size+1, 0, none⟩ = false := blk_frozen BKr 0
      have hf1_ : wr.frozen? ⟨w.heap.size+1, 1, none⟩ = false := blk_frozen BKr 1
      have hf2_ : wr.frozen? ⟨w.heap.size+1, 2, none⟩ = false := blk_frozen BKr 2
      have hr0 : wr.cell? ⟨w.heap.size, 0, none⟩ = some (.int .i64 s0) := (blk_cell BRr 0).trans rfl
      have hr1 : wr.cell? ⟨w.heap.size, 1, none⟩ = some (.bool s1) := (blk_cell BRr 1).trans rfl
      have hr2 : wr.cell? ⟨w.heap.size, 2, none⟩ = some (.string s2) := (blk_cell BRr 2).trans rfl
      have hr3 : wr.cell? ⟨w.heap.size, 3, none⟩ = some (.int .i64 d0) := (blk_cell BRr 3).trans rfl
      have hr4 : wr.cell? ⟨w.heap.size, 4, none⟩ = some (.bool d1) := (blk_cell BRr 4).trans rfl
      have hr5 : wr.cell? ⟨w.heap.size, 5, none⟩ = some (.string d2) := (blk_cell BRr 5).trans rfl
      clear BKr BRr hb hlt hj HCT3 HBw3 BK3 BR3
      rw [hds]
      clear hds HB0
      generalize hr : dstT t xs = r
      have HR := Aside0.mk hr
      clear hr
      cases r
      · go_wp2
        refine bodyPost_ret (results_ct rfl _ _ (w.heap.size+1) 23 #[.int .i64 (s0), .bool s1, .string s2] (0, 0) _ rfl (by (with_reducible repeat (first | refine blk_drewN ?_ _ | refine blk_drew ?_ | refine blk_alloc ?_ _)); refine blk_put (cs := #[.int .i64 (s0), .bool s1, .string (⟨#[]⟩ : ByteArray)]) ?_ 2 _ rfl; (with_reducible repeat (first | refine blk_drewN ?_ _ | refine blk_drew ?_ | refine blk_alloc ?_ _)); refine blk_put (cs := #[.int .i64 (s0), .bool false, .string (⟨#[]⟩ : ByteArray)]) ?_ 1 _ rfl; (with_reducible repeat (first | refine blk_drewN ?_ _ | refine blk_drew ?_ | refine blk_alloc ?_ _)); refine blk_put (cs := #[.int .i64 0, .bool false, .string (⟨#[]⟩ : ByteArray)]) ?_ 0 _ rfl; (with_reducible repeat (first | refine blk_drewN ?_ _ | refine blk_drew ?_ | refine blk_alloc ?_ _)); exact BK4.out) Tryd.underlying23 rfl (by kernel_rfl)) rfl ?_
        exact ⟨by rw [HR.out]; rfl, (by repeat (first | exact HBr.out | apply pw_below_drewN | apply below_drew1 | apply below_alloc | refine below_set ?_ (by omega)))⟩
      · go_wp2
        refine bodyPost_ret (results_ct rfl _ _ (w.heap.size+1) 23 #[.int .i64 (d0), .bool d1, .string d2] (0, 0) _ rfl (by (with_reducible repeat (first | refine blk_drewN ?_ _ | refine blk_drew ?_ | refine blk_alloc ?_ _)); refine blk_put (cs := #[.int .i64 (d0), .bool d1, .string (⟨#[]⟩ : ByteArray)]) ?_ 2 _ rfl; (with_reducible repeat (first | refine blk_drewN ?_ _ | refine blk_drew ?_ | refine blk_alloc ?_ _)); refine blk_put (cs := #[.int .i64 (d0), .bool false, .string (⟨#[]⟩ : ByteArray)]) ?_ 1 _ rfl; (with_reducible repeat (first | refine blk_drewN ?_ _ | refine blk_drew ?_ | refine blk_alloc ?_ _)); refine blk_put (cs := #[.int .i64 0, .bool false, .string (⟨#[]⟩ : ByteArray)]) ?_ 0 _ rfl; (with_reducible repeat (first | refine blk_drewN ?_ _ | refine blk_drew ?_ | refine blk_alloc ?_ _)); exact BK4.out) Tryd.underlying23 rfl (by kernel_rfl)) rfl ?_
        exact ⟨by rw [HR.out]; rfl, (by repeat (first | exact HBr.out | apply pw_below_drewN | apply below_drew1 | apply below_alloc | refine below_set ?_ (by omega)))⟩
theorem rowsT_three (T : Int → Int × Int × Int) (y : Int) : rowsT T (y - 1) 3 = rowT (T (y - 1)) ++ rowT (T y) ++ rowT (T (y + 1)) := by
  simp only [rowsT]
  rw [show y - 1 + ((0 : Nat) : Int) = y - 1 from by omega, show y - 1 + ((1 : Nat) : Int) = y from by omega, show y - 1 + ((2 : Nat) : Int) = y + 1 from by omega]
  simp
theorem rule_At.calls (k : Nat) (s0 : Int) (s1 : Bool) (s2 : ByteArray) (d0 : Int) (d1 : Bool) (d2 : ByteArray) (bo : Bool) (a0 : Int) (a1 : Int) (a2 : Int) (a3 : Int) (a4 : Int) (e0 : Int) (e1 : Int) (e2 : Int) (e3 : Int) (e4 : Int) (t q0 : Int) (q1 : Bool) (q2 : ByteArray) (q3 : Int) (w : World) (hG : GL w) (h : rule_At.f k s0 s1 s2 d0 d1 d2 bo a0 a1 a2 a3 a4 e0 e1 e2 e3 e4 t = some (q0, q1, q2, q3)) :
    Calls Tryd.prog 16 #[.agg #[.int .i64 s0, .bool s1, .string s2, .int .i64 d0, .bool d1, .string d2, .bool bo, .int .i64 a0, .int .i64 a1, .int .i64 a2, .int .i64 a3, .int .i64 a4, .int .i64 e0, .int .i64 e1, .int .i64 e2, .int .i64 e3, .int .i64 e4], .int .i64 t] w fun e w' => e = .returned (.tuple #[.agg #[.int .i64 q0, .bool q1, .string q2], .int .i64 q3]) ∧ Below w.heap.size w w' := by
  unfold rule_At.f at h
  replace h := Option.bind_eq_some_iff.mp h
  obtain ⟨ok, hok, h⟩ := h
  cases ok
  · rw [if_pos rfl] at h
    simp only [Option.some.injEq, Prod.mk.injEq] at h
    obtain ⟨rfl, rfl, rfl, rfl⟩ := h
    exact At_wrong k s0 s1 s2 d0 d1 d2 bo a0 a1 a2 a3 a4 e0 e1 e2 e3 e4 t w hok
  · rw [if_neg (by decide)] at h
    by_cases hbo : bo = false
    · rw [if_pos hbo] at h
      simp only [Option.some.injEq, Prod.mk.injEq] at h
      obtain ⟨rfl, rfl, rfl, rfl⟩ := h
      exact At_one k s0 s1 s2 d0 d1 d2 a0 a1 a2 a3 a4 e0 e1 e2 e3 e4 t w bo hbo hok
    · rw [if_neg hbo] at h
      have hbo : bo = true := by simpa using hbo
      replace h := Option.bind_eq_some_iff.mp h
      obtain ⟨⟨v0, v1, v2⟩, hv, h⟩ := h
      replace h := Option.bind_eq_some_iff.mp h
      obtain ⟨⟨y, m, d, er⟩, hd, h⟩ := h
      simp only at h
      by_cases her : er = 0
      · subst her
        rw [if_pos rfl] at h
        by_cases hy : -4611686018427387904 < y ∧ y < 4611686018427387904
        · rw [if_pos hy] at h
          replace h := Option.bind_eq_some_iff.mp h
          obtain ⟨T0, hT0, h⟩ := h
          replace h := Option.bind_eq_some_iff.mp h
          obtain ⟨T1, hT1, h⟩ := h
          replace h := Option.bind_eq_some_iff.mp h
          obtain ⟨T2, hT2, h⟩ := h
          obtain ⟨T, f0, f1, f2⟩ : ∃ T : Int → Int × Int × Int, T (y - 1) = T0 ∧ T y = T1 ∧ T (y + 1) = T2 :=
            ⟨fun z => if z = y - 1 then T0 else if z = y then T1 else T2, by simp, by dsimp only; rw [if_neg (by omega), if_pos rfl], by dsimp only; rw [if_neg (by omega), if_neg (by omega)]⟩
          subst f0 f1 f2
          rw [← rowsT_three T y] at h
          by_cases hne : 0 < (rowsT T (y - 1) 3).length
          · rw [if_pos hne] at h
            have hT : ∀ j : Nat, j < 3 → rule_Turns.f k s0 s1 s2 d0 d1 d2 bo a0 a1 a2 a3 a4 e0 e1 e2 e3 e4 (y - 1 + j) = some (T (y - 1 + j)) := by
              intro j hj
              rcases (show j = 0 ∨ j = 1 ∨ j = 2 by omega) with rfl | rfl | rfl
              · rw [show y - 1 + ((0 : Nat) : Int) = y - 1 from by omega]; exact hT0
              · rw [show y - 1 + ((1 : Nat) : Int) = y from by omega]; exact hT1
              · rw [show y - 1 + ((2 : Nat) : Int) = y + 1 from by omega]; exact hT2
            subst hbo
            have H := At_two k (sortT (rowsT T (y - 1) 3)) s0 s1 s2 d0 d1 d2 a0 a1 a2 a3 a4 e0 e1 e2 e3 e4 t w hG hok v0 v1 v2 hv y m d hd (by rw [sortT_len]; exact hne) (by rw [sortT_len]; exact rowsT_len T (y - 1) 3)
              (fun W hGW => (turns_calls k T s0 s1 s2 d0 d1 d2 true a0 a1 a2 a3 a4 e0 e1 e2 e3 e4 y W hGW hy.1 hy.2 hT hne).mono fun e w' ⟨g, cap, he, _, _, hH, hb⟩ => ⟨g, cap, by rw [sortT_len]; exact he, fun i hi => cells_T hH i hi, hb⟩)
            refine H.mono fun e w' ⟨he, hb⟩ => ⟨?_, hb⟩
            rw [he]
            by_cases hds : dstT t (sortT (rowsT T (y - 1) 3)) = true
            · rw [if_pos hds] at h
              simp only [Option.some.injEq, Prod.mk.injEq] at h
              obtain ⟨rfl, rfl, rfl, rfl⟩ := h
              rw [pickV, if_pos hds]
            · rw [if_neg hds] at h
              simp only [Option.some.injEq, Prod.mk.injEq] at h
              obtain ⟨rfl, rfl, rfl, rfl⟩ := h
              rw [pickV, if_neg hds]
          · rw [if_neg hne] at h
            cases h
        · rw [if_neg hy] at h
          cases h
      · rw [if_neg her] at h
        simp only [Option.some.injEq, Prod.mk.injEq] at h
        obtain ⟨rfl, rfl, rfl, rfl⟩ := h
        exact At_err k s0 s1 s2 d0 d1 d2 a0 a1 a2 a3 a4 e0 e1 e2 e3 e4 t w bo hbo hok v0 v1 v2 hv y m d er hd her
theorem rule_At.mono : ∀ s0 s1 s2 d0 d1 d2 bo a0 a1 a2 a3 a4 e0 e1 e2 e3 e4 t k, LeO (rule_At.f k s0 s1 s2 d0 d1 d2 bo a0 a1 a2 a3 a4 e0 e1 e2 e3 e4 t) (rule_At.f (k + 1) s0 s1 s2 d0 d1 d2 bo a0 a1 a2 a3 a4 e0 e1 e2 e3 e4 t) := by
  intro s0 s1 s2 d0 d1 d2 bo a0 a1 a2 a3 a4 e0 e1 e2 e3 e4 t k
  unfold rule_At.f
  repeat' first
      | (with_reducible exact posix_Right.mono _ _ _ _ _ _ _ _ _ _ _ _ _ _ _ _ _ _ _)
      | (with_reducible exact rule_Turns.mono _ _ _ _ _ _ _ _ _ _ _ _ _ _ _ _ _ _ _)
      | (with_reducible exact LeO.refl _)
      | (with_reducible exact LeO.none _)
      | (with_reducible refine LeO.ite ?_ ?_)
      | (with_reducible refine LeO.bind ?_ (fun _ => ?_))
end Go.Proofs.YtgbehcahdgamoaaDoor.Fn

namespace Go.Proofs.YtgbehcahdgamoaaDoor.Fn
open Go.RowKit Go.Proofs.YtgbehcahdgamoaaDoorW.PrintWords Go.Proofs.YtgbehcahdgamoaaDoorW.PrintLast Go.Proofs.YtgbehcahdgamoaaDoorW.PrintMore Go.Sort
theorem ltT_iff (x y : Int × Bool) : ltOf cfT x y = true ↔ x.1 < y.1 ∨ x.1 = y.1 ∧ x.2 = false ∧ y.2 = true := by
  obtain ⟨a, b⟩ := x
  obtain ⟨c, d⟩ := y
  unfold ltOf cfT
  simp only [decide_eq_true_eq]
  by_cases h1 : a < c
  · simp [h1]
  · by_cases h2 : c < a
    · simp [h1, h2]; omega
    · obtain rfl : a = c := by omega
      cases b <;> cases d <;> simp
theorem ltT_false (x y : Int × Bool) : ltOf cfT x y = false ↔ y.1 < x.1 ∨ x.1 = y.1 ∧ ¬ (x.2 = false ∧ y.2 = true) := by
  rw [← Bool.not_eq_true, ltT_iff]
  constructor
  · intro h
    by_cases e : x.1 = y.1
    · exact .inr ⟨e, fun g => h (.inr ⟨e, g.1, g.2⟩)⟩
    · exact .inl (by
        rcases Int.lt_trichotomy x.1 y.1 with g | g | g
        · exact absurd (.inl g) h
        · exact absurd g e
        · exact g)
  · rintro (h | ⟨e, h⟩) (g | ⟨g, g1, g2⟩)
    · omega
    · omega
    · omega
    · exact h ⟨g1, g2⟩
theorem swoT : SWO (ltOf cfT) where
  irrefl x := by rw [ltT_false]; exact .inr ⟨rfl, fun g => by rw [g.1] at g; simp at g⟩
  trans x y z h1 h2 := by
    rw [ltT_iff] at h1 h2 ⊢
    rcases h1 with h1 | ⟨h1, h3, h4⟩ <;> rcases h2 with h2 | ⟨h2, h5, h6⟩
    · exact .inl (by omega)
    · exact .inl (by omega)
    · exact .inl (by omega)
    · rw [h4] at h5; cases h5
  ntrans x y z h1 h2 := by
    rw [ltT_false] at h1 h2 ⊢
    rcases h1 with h1 | ⟨h1, h3⟩ <;> rcases h2 with h2 | ⟨h2, h5⟩
    · exact .inl (by omega)
    · exact .inl (by omega)
    · exact .inl (by omega)
    · refine .inr ⟨by omega, ?_⟩
      rintro ⟨g1, g2⟩
      cases hy : y.2
      · exact h5 ⟨hy, g2⟩
      · exact h3 ⟨g1, hy⟩
theorem sortT_perm (l : List (Int × Bool)) : (sortT l).Perm l := by
  have h := (insertionSort_holds (lt := ltOf cfT) swoT l.toArray 0 l.length (by omega) (by simp)).1.2.2
  have e1 : (l.toArray.extract 0 l.length).toList = l := by simp
  have e2 : ((Sort.insertionSort (ltOf cfT) l.toArray 0 l.length).extract 0 l.length).toList = sortT l := by
    unfold sortT
    rw [Array.extract_eq_self_of_le (by rw [size_insertionSort]; simp)]
  rw [e1, e2] at h
  exact h
theorem sortT_sorted (l : List (Int × Bool)) : (sortT l).Pairwise fun x y => ltOf cfT y x = false := by
  have h := (insertionSort_holds (lt := ltOf cfT) swoT l.toArray 0 l.length (by omega) (by simp)).2
  rw [List.pairwise_iff_getElem]
  intro i j hi hj hij
  have hl := sortT_len l
  have := h i j (by omega) hij (by omega)
  rw [getElem!_pos _ i (by rw [size_insertionSort]; simp; omega), getElem!_pos _ j (by rw [size_insertionSort]; simp; omega)] at this
  simpa [sortT] using this
theorem foldT_none (t : Int) : ∀ (S : List (Int × Bool)) (b : Bool), (∀ x ∈ S, t < x.1) → foldT t S b = b
  | [], b, _ => rfl
  | a :: S, b, h => by
    have ha := h a (List.mem_cons_self ..)
    show foldT t S (if a.1 ≤ t then a.2 else b) = b
    rw [if_neg (by omega)]
    exact foldT_none t S b fun x hx => h x (List.mem_cons_of_mem _ hx)
theorem foldT_some (t : Int) : ∀ (S : List (Int × Bool)) (b : Bool), S.Pairwise (fun x y => ltOf cfT y x = false) → (∃ x ∈ S, x.1 ≤ t) →
    ∃ x ∈ S, x.1 ≤ t ∧ foldT t S b = x.2 ∧ ∀ y ∈ S, y.1 ≤ t → ltOf cfT x y = false
  | [], b, _, ⟨x, hx, _⟩ => by cases hx
  | a :: S, b, hS, ⟨x, hx, hxt⟩ => by
    have hp := List.pairwise_cons.1 hS
    show ∃ x ∈ a :: S, x.1 ≤ t ∧ foldT t S (if a.1 ≤ t then a.2 else b) = x.2 ∧ _
    by_cases he : ∃ x ∈ S, x.1 ≤ t
    · obtain ⟨z, hz, hzt, hf, hm⟩ := foldT_some t S (if a.1 ≤ t then a.2 else b) hp.2 he
      refine ⟨z, List.mem_cons_of_mem _ hz, hzt, hf, fun y hy hyt => ?_⟩
      rcases List.mem_cons.1 hy with rfl | hy
      · exact hp.1 z hz
      · exact hm y hy hyt
    · have hn : ∀ x ∈ S, t < x.1 := fun x hx => by
        rcases Int.lt_or_le t x.1 with g | g
        · exact g
        · exact absurd ⟨x, hx, g⟩ he
      have hxa : x = a := by
        rcases List.mem_cons.1 hx with h | h
        · exact h
        · have := hn x h; omega
      subst hxa
      refine ⟨x, List.mem_cons_self .., hxt, ?_, fun y hy hyt => ?_⟩
      · rw [if_pos hxt]; exact foldT_none t S x.2 hn
      · rcases List.mem_cons.1 hy with rfl | hy
        · exact swoT.irrefl y
        · have := hn y hy; omega
theorem dst_some (t : Int) (l : List (Int × Bool)) (h : ∃ x ∈ l, x.1 ≤ t) :
    ∃ x ∈ l, x.1 ≤ t ∧ dstT t (sortT l) = x.2 ∧ ∀ y ∈ l, y.1 ≤ t → y.1 < x.1 ∨ x.1 = y.1 ∧ ¬ (x.2 = false ∧ y.2 = true) := by
  have hp := sortT_perm l
  obtain ⟨z, hz, hzt⟩ := h
  obtain ⟨x, hx, hxt, hf, hm⟩ := foldT_some t (sortT l) (!((sortT l).any fun x => x.2 && x.1 == firstT (sortT l))) (sortT_sorted l) ⟨z, hp.mem_iff.2 hz, hzt⟩
  exact ⟨x, hp.mem_iff.1 hx, hxt, hf, fun y hy hyt => (ltT_false x y).1 (hm y (hp.mem_iff.2 hy) hyt)⟩
theorem dst_none (t : Int) (l : List (Int × Bool)) (hl : l ≠ []) (h : ∀ x ∈ l, t < x.1) :
    ∃ m, (∃ z ∈ l, z.1 = m) ∧ (∀ y ∈ l, m ≤ y.1) ∧ dstT t (sortT l) = !(l.any fun x => x.2 && x.1 == m) := by
  have hp := sortT_perm l
  have hs := sortT_sorted l
  unfold dstT
  rw [foldT_none t (sortT l) _ (fun x hx => h x (hp.mem_iff.1 hx)), hp.any_eq]
  match hS : sortT l with
  | [] => rw [hS] at hp; exact absurd hp.nil_eq.symm hl
  | a :: S =>
    rw [hS] at hs hp
    have hpc := List.pairwise_cons.1 hs
    refine ⟨a.1, ⟨a, hp.mem_iff.1 (List.mem_cons_self ..), rfl⟩, fun y hy => ?_, rfl⟩
    rcases List.mem_cons.1 (hp.mem_iff.2 hy) with rfl | hy
    · exact Int.le_refl _
    · have := (ltT_false y a).1 (hpc.1 y hy)
      omega
end Go.Proofs.YtgbehcahdgamoaaDoor.Fn

namespace Go.Proofs.YtgbehcahdgamoaaDoor.Fn
open Go.RowKit Go.Proofs.YtgbehcahdgamoaaDoorW.PrintWords Go.Proofs.YtgbehcahdgamoaaDoorW.PrintLast Go.Proofs.YtgbehcahdgamoaaDoorW.PrintMore
def turnsN (s0 : Int) (s1 : Bool) (s2 : ByteArray) (d0 : Int) (d1 : Bool) (d2 : ByteArray) (bo : Bool) (a0 : Int) (a1 : Int) (a2 : Int) (a3 : Int) (a4 : Int) (e0 : Int) (e1 : Int) (e2 : Int) (e3 : Int) (e4 : Int) (y : Int) : Int × Int × Int := if turnsB s0 s1 s2 d0 d1 d2 bo a0 a1 a2 a3 a4 e0 e1 e2 e3 e4 y = true then (startN y s0 a0 a1 a2 a3 a4, startN y d0 e0 e1 e2 e3 e4, 0) else (0, 0, 1)
def yearRows (s0 : Int) (s1 : Bool) (s2 : ByteArray) (d0 : Int) (d1 : Bool) (d2 : ByteArray) (bo : Bool) (a0 : Int) (a1 : Int) (a2 : Int) (a3 : Int) (a4 : Int) (e0 : Int) (e1 : Int) (e2 : Int) (e3 : Int) (e4 : Int) (y : Int) : List (Int × Bool) := rowT (turnsN s0 s1 s2 d0 d1 d2 bo a0 a1 a2 a3 a4 e0 e1 e2 e3 e4 (y - 1)) ++ rowT (turnsN s0 s1 s2 d0 d1 d2 bo a0 a1 a2 a3 a4 e0 e1 e2 e3 e4 y) ++ rowT (turnsN s0 s1 s2 d0 d1 d2 bo a0 a1 a2 a3 a4 e0 e1 e2 e3 e4 (y + 1))
theorem rowT_turns (s0 : Int) (s1 : Bool) (s2 : ByteArray) (d0 : Int) (d1 : Bool) (d2 : ByteArray) (bo : Bool) (a0 : Int) (a1 : Int) (a2 : Int) (a3 : Int) (a4 : Int) (e0 : Int) (e1 : Int) (e2 : Int) (e3 : Int) (e4 : Int) (y : Int) : rowT (turnsN s0 s1 s2 d0 d1 d2 bo a0 a1 a2 a3 a4 e0 e1 e2 e3 e4 y) = if turnsB s0 s1 s2 d0 d1 d2 bo a0 a1 a2 a3 a4 e0 e1 e2 e3 e4 y = true then [(startN y d0 e0 e1 e2 e3 e4, false), (startN y s0 a0 a1 a2 a3 a4, true)] else [] := by
  unfold rowT turnsN
  split <;> simp
theorem at_eq (k : Nat) (s0 : Int) (s1 : Bool) (s2 : ByteArray) (d0 : Int) (d1 : Bool) (d2 : ByteArray) (bo : Bool) (a0 : Int) (a1 : Int) (a2 : Int) (a3 : Int) (a4 : Int) (e0 : Int) (e1 : Int) (e2 : Int) (e3 : Int) (e4 : Int) (t : Int) (ht : IsI64 t) : rule_At.f (k + 4) s0 s1 s2 d0 d1 d2 bo a0 a1 a2 a3 a4 e0 e1 e2 e3 e4 t = some (
    if rightB s0 s1 s2 d0 d1 d2 bo a0 a1 a2 a3 a4 e0 e1 e2 e3 e4 true = false then (0, false, ⟨#[]⟩, 1) else if bo = false then (s0, s1, s2, 0) else if mayB (dY (t / 86400)) = true then
      (if dstT t (sortT (yearRows s0 s1 s2 d0 d1 d2 bo a0 a1 a2 a3 a4 e0 e1 e2 e3 e4 (dY (t / 86400)))) = true then (d0, d1, d2, 0) else (s0, s1, s2, 0)) else (0, false, ⟨#[]⟩, 2)) := by
  unfold rule_At.f
  unfold IsI64 at ht
  rw [rightR_eq (k + 1), div_eq t 86400 (by omega) (by omega) ⟨by omega, by omega⟩]
  simp only [Option.bind_some]
  have hle : t / 86400 ≤ 9223372036854056339 := by omega
  rw [date_eq (t / 86400) ⟨by omega, by omega⟩]
  simp only [hle, true_and, Option.bind_some]
  cases hr : rightB s0 s1 s2 d0 d1 d2 bo a0 a1 a2 a3 a4 e0 e1 e2 e3 e4 true
  · rfl
  · cases bo
    · rfl
    · simp only [Bool.true_eq_false, if_false]
      cases hm : mayB (dY (t / 86400))
      · rfl
      · simp only [if_true]
        have hm2 := hm
        unfold mayB at hm2
        simp only [Bool.and_eq_true, decide_eq_true_eq] at hm2
        rw [if_pos ⟨by omega, by omega⟩]
        rw [turns_eq k, turns_eq k, turns_eq k]
        simp only [Option.bind_some]
        have ht1 : turnsB s0 s1 s2 d0 d1 d2 true a0 a1 a2 a3 a4 e0 e1 e2 e3 e4 (dY (t / 86400)) = true := by unfold turnsB; rw [hr, hm]; rfl
        have hpos : 0 < (yearRows s0 s1 s2 d0 d1 d2 true a0 a1 a2 a3 a4 e0 e1 e2 e3 e4 (dY (t / 86400))).length := by
          unfold yearRows
          rw [rowT_turns (y := dY (t / 86400)), if_pos ht1]
          simp
          omega
        show (if 0 < (yearRows s0 s1 s2 d0 d1 d2 true a0 a1 a2 a3 a4 e0 e1 e2 e3 e4 (dY (t / 86400))).length then _ else _) = _
        rw [if_pos hpos]
        show (if dstT t (sortT (yearRows s0 s1 s2 d0 d1 d2 true a0 a1 a2 a3 a4 e0 e1 e2 e3 e4 (dY (t / 86400)))) = true then _ else _) = _
        split <;> rfl
end Go.Proofs.YtgbehcahdgamoaaDoor.Fn
