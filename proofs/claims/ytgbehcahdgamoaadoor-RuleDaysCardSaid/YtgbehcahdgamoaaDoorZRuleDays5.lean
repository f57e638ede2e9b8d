/- Part 5 of the texts for LRuleDays: contracts and plain laws that it leans on. -/
import Derived.Test.YtgbehcahdgamoaaDoorZRuleDays3
import Derived.Test.YtgbehcahdgamoaaDoorZRuleDays4
import Derived.Shelf.SlSortCmp.InsertionK
import Derived.Shelf.SlicesQ.IndexFunc
import Derived.Ground.SlsfProg
import Derived.Ground.SlgfProg
import Derived.Test.YtgbehcahdgamoaaDoorProg
import Derived.Sort.LotA
import Derived.Lib.OwnBridge
import Derived.Lib.AppendIntMem
import Derived.Lib.SmallJoins
namespace Go.Proofs.YtgbehcahdgamoaaDoor.Fn
open Go.RowKit Go.Proofs.YtgbehcahdgamoaaDoorW.PrintWords Go.Proofs.YtgbehcahdgamoaaDoorW.PrintLast Go.Proofs.YtgbehcahdgamoaaDoorW.PrintMore
attribute [local go_sem] max2_int min2_int max_two min_two max_three min_three max_four min_four   -- for this text's walks alone
set_option linter.unusedVariables false
set_option linter.unusedSimpArgs false

attribute [local go_sem high] eqA23 eqA25
/-! ### longcaseref08_Right: function 18 -/
def longcaseref08_Right.j0 : Nat → Bool → Bool → Int → Bool → ByteArray → Int → Bool → ByteArray → Bool → Int → Int → Int → Int → Int → Int → Int → Int → Int → Int → Option (Bool)
  | 0, _, _, _, _, _, _, _, _, _, _, _, _, _, _, _, _, _, _, _ => none
  | k + 1, x1, x21, x187000, x187001, x187002, x187003, x187004, x187005, x187006, x187007, x187008, x187009, x187010, x187011, x187012, x187013, x187014, x187015, x187016 => if x21 = true then (some false) else (if x187006 = true then (if x187004 = true then ((longcaseref08_name.f k x187005).bind fun t189 => (if t189 = true then ((longcaseref08_off.f x187003).bind fun t190 => (if t190 = true then ((longcaseref08_Change.f k x187007 x187008 x187009 x187010 x187011 x1).bind fun t191 => (if t191 = true then ((longcaseref08_Change.f k x187012 x187013 x187014 x187015 x187016 x1).bind fun t192 => (some t192)) else (some false))) else (some false))) else (some false))) else (some false)) else (if (x187003 == 0 && (!x187004 && (x187005.toList.isEmpty))) = true then (if (x187007 == 0 && (x187008 == 0 && (x187009 == 0 && (x187010 == 0 && (x187011 == 0))))) = true then (some (x187012 == 0 && (x187013 == 0 && (x187014 == 0 && (x187015 == 0 && (x187016 == 0)))))) else (some false)) else (some false)))
def longcaseref08_Right.f (k : Nat) (a0_0 : Int) (a0_1 : Bool) (a0_2 : ByteArray) (a0_3 : Int) (a0_4 : Bool) (a0_5 : ByteArray) (a0_6 : Bool) (a0_7 : Int) (a0_8 : Int) (a0_9 : Int) (a0_10 : Int) (a0_11 : Int) (a0_12 : Int) (a0_13 : Int) (a0_14 : Int) (a0_15 : Int) (a0_16 : Int) (a1 : Bool) : Option (Bool) := if a0_1 = true then (longcaseref08_Right.j0 k a1 true a0_0 a0_1 a0_2 a0_3 a0_4 a0_5 a0_6 a0_7 a0_8 a0_9 a0_10 a0_11 a0_12 a0_13 a0_14 a0_15 a0_16) else ((longcaseref08_name.f k a0_2).bind fun t187 => (if t187 = true then ((longcaseref08_off.f a0_0).bind fun t188 => (longcaseref08_Right.j0 k a1 (!t188) a0_0 a0_1 a0_2 a0_3 a0_4 a0_5 a0_6 a0_7 a0_8 a0_9 a0_10 a0_11 a0_12 a0_13 a0_14 a0_15 a0_16)) else (longcaseref08_Right.j0 k a1 true a0_0 a0_1 a0_2 a0_3 a0_4 a0_5 a0_6 a0_7 a0_8 a0_9 a0_10 a0_11 a0_12 a0_13 a0_14 a0_15 a0_16)))
theorem longcaseref08_Right.mono_l : ∀ k, (∀ y0 y1 y2 y3 y4 y5 y6 y7 y8 y9 y10 y11 y12 y13 y14 y15 y16 y17 y18, LeO (longcaseref08_Right.j0 k y0 y1 y2 y3 y4 y5 y6 y7 y8 y9 y10 y11 y12 y13 y14 y15 y16 y17 y18) (longcaseref08_Right.j0 (k + 1) y0 y1 y2 y3 y4 y5 y6 y7 y8 y9 y10 y11 y12 y13 y14 y15 y16 y17 y18))
  | 0 => fun _ _ _ _ _ _ _ _ _ _ _ _ _ _ _ _ _ _ _ r h => by simp [longcaseref08_Right.j0] at h
  | k + 1 => by
    have ih0 := longcaseref08_Right.mono_l k
    · intro y0 y1 y2 y3 y4 y5 y6 y7 y8 y9 y10 y11 y12 y13 y14 y15 y16 y17 y18
      unfold longcaseref08_Right.j0
      repeat' first
      | (with_reducible exact ih0 _ _ _ _ _ _ _ _ _ _ _ _ _ _ _ _ _ _ _)
      | (with_reducible exact longcaseref08_Change.mono _ _ _ _ _ _ _)
      | (with_reducible exact longcaseref08_name.mono _ _)
      | (with_reducible exact LeO.refl _)
      | (with_reducible exact LeO.none _)
      | (with_reducible refine LeO.ite ?_ ?_)
      | (with_reducible refine LeO.bind ?_ (fun _ => ?_))
      | exact ih0 _ _ _ _ _ _ _ _ _ _ _ _ _ _ _ _ _ _ _
      | exact longcaseref08_Change.mono _ _ _ _ _ _ _
      | exact longcaseref08_name.mono _ _
      | exact LeO.none _
      | refine LeO.ite ?_ ?_
      | refine LeO.bind ?_ (fun _ => ?_)
theorem longcaseref08_Right.mono : ∀ a0 a1 a2 a3 a4 a5 a6 a7 a8 a9 a10 a11 a12 a13 a14 a15 a16 a17 k, LeO (longcaseref08_Right.f k a0 a1 a2 a3 a4 a5 a6 a7 a8 a9 a10 a11 a12 a13 a14 a15 a16 a17) (longcaseref08_Right.f (k + 1) a0 a1 a2 a3 a4 a5 a6 a7 a8 a9 a10 a11 a12 a13 a14 a15 a16 a17) := by
  intro a0 a1 a2 a3 a4 a5 a6 a7 a8 a9 a10 a11 a12 a13 a14 a15 a16 a17 k
  have ih0 := longcaseref08_Right.mono_l k
  unfold longcaseref08_Right.f
  repeat' first
      | (with_reducible exact ih0 _ _ _ _ _ _ _ _ _ _ _ _ _ _ _ _ _ _ _)
      | (with_reducible exact longcaseref08_Change.mono _ _ _ _ _ _ _)
      | (with_reducible exact longcaseref08_name.mono _ _)
      | (with_reducible exact LeO.refl _)
      | (with_reducible exact LeO.none _)
      | (with_reducible refine LeO.ite ?_ ?_)
      | (with_reducible refine LeO.bind ?_ (fun _ => ?_))
      | exact ih0 _ _ _ _ _ _ _ _ _ _ _ _ _ _ _ _ _ _ _
      | exact longcaseref08_Change.mono _ _ _ _ _ _ _
      | exact longcaseref08_name.mono _ _
      | exact LeO.none _
      | refine LeO.ite ?_ ?_
      | refine LeO.bind ?_ (fun _ => ?_)
set_option maxHeartbeats 8000000 in
set_option maxRecDepth 100000 in
theorem longcaseref08_Right.calls (k : Nat) (a0_0 : Int) (a0_1 : Bool) (a0_2 : ByteArray) (a0_3 : Int) (a0_4 : Bool) (a0_5 : ByteArray) (a0_6 : Bool) (a0_7 : Int) (a0_8 : Int) (a0_9 : Int) (a0_10 : Int) (a0_11 : Int) (a0_12 : Int) (a0_13 : Int) (a0_14 : Int) (a0_15 : Int) (a0_16 : Int) (a1 : Bool) (r : Bool) (w : World) (h : longcaseref08_Right.f k a0_0 a0_1 a0_2 a0_3 a0_4 a0_5 a0_6 a0_7 a0_8 a0_9 a0_10 a0_11 a0_12 a0_13 a0_14 a0_15 a0_16 a1 = some r) :
    Calls Tryd.prog 18 #[.agg #[.int .i64 a0_0, .bool a0_1, .string a0_2, .int .i64 a0_3, .bool a0_4, .string a0_5, .bool a0_6, .int .i64 a0_7, .int .i64 a0_8, .int .i64 a0_9, .int .i64 a0_10, .int .i64 a0_11, .int .i64 a0_12, .int .i64 a0_13, .int .i64 a0_14, .int .i64 a0_15, .int .i64 a0_16], .bool a1] w fun e w' => e = .returned (.bool r) ∧ Below w.heap.size w w' := by
  have hu27 := Tryd.underlying27
  have hu23 := Tryd.underlying23
  have hu25 := Tryd.underlying25
  have HB := Aside0.mk (Below.refl w.heap.size w)
  have H : (if a0_1 = true then (longcaseref08_Right.j0 k a1 true a0_0 a0_1 a0_2 a0_3 a0_4 a0_5 a0_6 a0_7 a0_8 a0_9 a0_10 a0_11 a0_12 a0_13 a0_14 a0_15 a0_16) else ((longcaseref08_name.f k a0_2).bind fun t187 => (if t187 = true then ((longcaseref08_off.f a0_0).bind fun t188 => (longcaseref08_Right.j0 k a1 (!t188) a0_0 a0_1 a0_2 a0_3 a0_4 a0_5 a0_6 a0_7 a0_8 a0_9 a0_10 a0_11 a0_12 a0_13 a0_14 a0_15 a0_16)) else (longcaseref08_Right.j0 k a1 true a0_0 a0_1 a0_2 a0_3 a0_4 a0_5 a0_6 a0_7 a0_8 a0_9 a0_10 a0_11 a0_12 a0_13 a0_14 a0_15 a0_16)))) = some r := h
  clear h
  have HC3 := Aside0.mk H
  clear H
  go_enter Tryd.func18, Tryd.ntmps18
  go_upto_region 1 with (first | ((with_reducible refine gate_dst (N := 2) rfl ?_); refine box_event ?hg (N := 2) ?hd (cs := #[.int .i64 a0_0, .bool a0_1, .string a0_2, .int .i64 a0_3, .bool a0_4, .string a0_5, .bool a0_6, .int .i64 a0_7, .int .i64 a0_8, .int .i64 a0_9, .int .i64 a0_10, .int .i64 a0_11, .int .i64 a0_12, .int .i64 a0_13, .int .i64 a0_14, .int .i64 a0_15, .int .i64 a0_16]) (t := 27) ?hr ?_; (case hd => rfl); (case hg => rfl); (case hr => first | (go_simp; done) | (go_simp; rfl)); intro gb186 hg w4 hbox hb; have n0_ := Aside0.mk (below_step (by repeat (first | (with_reducible first | exact HB.out | apply below_alloc | apply pw_below_drewN | apply below_drew1) | exact HB.out)) hb); have n1_ := Aside0.mk (hbox); have n2_ := Aside0.mk ((by rw [hg]; exact (below_size (by repeat (first | (with_reducible first | exact HB.out | apply below_alloc | apply pw_below_drewN | apply below_drew1) | exact HB.out))) : w.heap.size ≤ gb186)); have n3_ := Aside0.mk ((by rw [hg]; exact (below_size (by repeat (first | (with_reducible first | exact HB.out | apply below_alloc | apply pw_below_drewN | apply below_drew1) | exact HB.out))) : w.heap.size ≤ gb186)); clear HB; have HB := n0_; have BK186 := n1_; have GW186 := n2_; have GE186 := n3_; clear n0_ n1_ n2_ n3_; clear hb hbox hg))
  (try simp only [Act.put, List.setIfInBounds_toArray, List.set_cons_zero, List.set_cons_succ])
  go_cut [21] (fun v21 wc => ∃ (kq : Nat) (x21_2 : Bool), v21 = .bool x21_2 ∧ Aside0 (longcaseref08_Right.j0 kq a1 x21_2 a0_0 a0_1 a0_2 a0_3 a0_4 a0_5 a0_6 a0_7 a0_8 a0_9 a0_10 a0_11 a0_12 a0_13 a0_14 a0_15 a0_16 = some r) ∧ Aside0 (kq ≤ k) ∧ Aside0 (wc.heap[gb186]? = some (.cells #[.int .i64 a0_0, .bool a0_1, .string a0_2, .int .i64 a0_3, .bool a0_4, .string a0_5, .bool a0_6, .int .i64 a0_7, .int .i64 a0_8, .int .i64 a0_9, .int .i64 a0_10, .int .i64 a0_11, .int .i64 a0_12, .int .i64 a0_13, .int .i64 a0_14, .int .i64 a0_15, .int .i64 a0_16] 27 (0, 0))) ∧ Aside0 (Below w.heap.size w wc))
  case first =>
    have H := HC3.out
    clear HC3
    by_cases c5 : a0_1 = true
    · subst c5
      have H1 : (longcaseref08_Right.j0 k a1 true a0_0 true a0_2 a0_3 a0_4 a0_5 a0_6 a0_7 a0_8 a0_9 a0_10 a0_11 a0_12 a0_13 a0_14 a0_15 a0_16) = some r := by rw [if_pos rfl] at H; exact H
      clear H
      have H := H1
      clear H1
      have H' := Aside0.mk H
      clear H
      have hcz6_0 : w4.cell? ⟨gb186, 0, none⟩ = some (.int .i64 a0_0) := (blk_cell BK186.out 0).trans rfl
      have hcz6_1 : w4.cell? ⟨gb186, 1, none⟩ = some (.bool true) := (blk_cell BK186.out 1).trans rfl
      have hcz6_2 : w4.cell? ⟨gb186, 2, none⟩ = some (.string a0_2) := (blk_cell BK186.out 2).trans rfl
      have hcz6_3 : w4.cell? ⟨gb186, 3, none⟩ = some (.int .i64 a0_3) := (blk_cell BK186.out 3).trans rfl
      have hcz6_4 : w4.cell? ⟨gb186, 4, none⟩ = some (.bool a0_4) := (blk_cell BK186.out 4).trans rfl
      have hcz6_5 : w4.cell? ⟨gb186, 5, none⟩ = some (.string a0_5) := (blk_cell BK186.out 5).trans rfl
      have hcz6_6 : w4.cell? ⟨gb186, 6, none⟩ = some (.bool a0_6) := (blk_cell BK186.out 6).trans rfl
      have hcz6_7 : w4.cell? ⟨gb186, 7, none⟩ = some (.int .i64 a0_7) := (blk_cell BK186.out 7).trans rfl
      have hcz6_8 : w4.cell? ⟨gb186, 8, none⟩ = some (.int .i64 a0_8) := (blk_cell BK186.out 8).trans rfl
      have hcz6_9 : w4.cell? ⟨gb186, 9, none⟩ = some (.int .i64 a0_9) := (blk_cell BK186.out 9).trans rfl
      have hcz6_10 : w4.cell? ⟨gb186, 10, none⟩ = some (.int .i64 a0_10) := (blk_cell BK186.out 10).trans rfl
      have hcz6_11 : w4.cell? ⟨gb186, 11, none⟩ = some (.int .i64 a0_11) := (blk_cell BK186.out 11).trans rfl
      have hcz6_12 : w4.cell? ⟨gb186, 12, none⟩ = some (.int .i64 a0_12) := (blk_cell BK186.out 12).trans rfl
      have hcz6_13 : w4.cell? ⟨gb186, 13, none⟩ = some (.int .i64 a0_13) := (blk_cell BK186.out 13).trans rfl
      have hcz6_14 : w4.cell? ⟨gb186, 14, none⟩ = some (.int .i64 a0_14) := (blk_cell BK186.out 14).trans rfl
      have hcz6_15 : w4.cell? ⟨gb186, 15, none⟩ = some (.int .i64 a0_15) := (blk_cell BK186.out 15).trans rfl
      have hcz6_16 : w4.cell? ⟨gb186, 16, none⟩ = some (.int .i64 a0_16) := (blk_cell BK186.out 16).trans rfl
      have hfz6_0 := blk_frozen BK186.out 0
      have hfz6_1 := blk_frozen BK186.out 1
      have hfz6_2 := blk_frozen BK186.out 2
      have hfz6_3 := blk_frozen BK186.out 3
      have hfz6_4 := blk_frozen BK186.out 4
      have hfz6_5 := blk_frozen BK186.out 5
      have hfz6_6 := blk_frozen BK186.out 6
      have hfz6_7 := blk_frozen BK186.out 7
      have hfz6_8 := blk_frozen BK186.out 8
      have hfz6_9 := blk_frozen BK186.out 9
      have hfz6_10 := blk_frozen BK186.out 10
      have hfz6_11 := blk_frozen BK186.out 11
      have hfz6_12 := blk_frozen BK186.out 12
      have hfz6_13 := blk_frozen BK186.out 13
      have hfz6_14 := blk_frozen BK186.out 14
      have hfz6_15 := blk_frozen BK186.out 15
      have hfz6_16 := blk_frozen BK186.out 16
      go_wp2
      go_meet
      case rel => exact ⟨_, (true), (by first | rfl | (simp; done) | (simp [*]; done)), H', ⟨by first | omega | exact Nat.le_refl _⟩, ⟨by (with_reducible repeat (first | refine blk_drewN ?_ _ | refine blk_drew ?_ | refine blk_alloc ?_ _)); exact BK186.out⟩, ⟨by repeat (first | (with_reducible first | exact HB.out | apply below_alloc | apply pw_below_drewN | apply below_drew1 | refine below_set ?_ GE186.out) | exact HB.out)⟩⟩
    · replace c5 := Bool.eq_false_iff.mpr c5
      subst c5
      have H1 : ((longcaseref08_name.f k a0_2).bind fun t187 => (if t187 = true then ((longcaseref08_off.f a0_0).bind fun t188 => (longcaseref08_Right.j0 k a1 (!t188) a0_0 false a0_2 a0_3 a0_4 a0_5 a0_6 a0_7 a0_8 a0_9 a0_10 a0_11 a0_12 a0_13 a0_14 a0_15 a0_16)) else (longcaseref08_Right.j0 k a1 true a0_0 false a0_2 a0_3 a0_4 a0_5 a0_6 a0_7 a0_8 a0_9 a0_10 a0_11 a0_12 a0_13 a0_14 a0_15 a0_16))) = some r := by rw [if_neg (show ¬ (false = true) by decide)] at H; exact H
      clear H
      have H := H1
      clear H1
      replace H := Option.bind_eq_some_iff.mp H
      obtain ⟨t187, A70, H⟩ := H
      replace H : (if t187 = true then ((longcaseref08_off.f a0_0).bind fun t188 => (longcaseref08_Right.j0 k a1 (!t188) a0_0 false a0_2 a0_3 a0_4 a0_5 a0_6 a0_7 a0_8 a0_9 a0_10 a0_11 a0_12 a0_13 a0_14 a0_15 a0_16)) else (longcaseref08_Right.j0 k a1 true a0_0 false a0_2 a0_3 a0_4 a0_5 a0_6 a0_7 a0_8 a0_9 a0_10 a0_11 a0_12 a0_13 a0_14 a0_15 a0_16)) = some r := H
      have A7 := Aside0.mk A70
      clear A70
      by_cases c8 : t187 = true
      · subst c8
        have H1 : ((longcaseref08_off.f a0_0).bind fun t188 => (longcaseref08_Right.j0 k a1 (!t188) a0_0 false a0_2 a0_3 a0_4 a0_5 a0_6 a0_7 a0_8 a0_9 a0_10 a0_11 a0_12 a0_13 a0_14 a0_15 a0_16)) = some r := by rw [if_pos rfl] at H; exact H
        clear H
        have H := H1
        clear H1
        replace H := Option.bind_eq_some_iff.mp H
        obtain ⟨t188, A90, H⟩ := H
        replace H : (longcaseref08_Right.j0 k a1 (!t188) a0_0 false a0_2 a0_3 a0_4 a0_5 a0_6 a0_7 a0_8 a0_9 a0_10 a0_11 a0_12 a0_13 a0_14 a0_15 a0_16) = some r := H
        have A9 := Aside0.mk A90
        clear A90
        have H' := Aside0.mk H
        clear H
        have hcz10_0 : w4.cell? ⟨gb186, 0, none⟩ = some (.int .i64 a0_0) := (blk_cell BK186.out 0).trans rfl
        have hcz10_1 : w4.cell? ⟨gb186, 1, none⟩ = some (.bool false) := (blk_cell BK186.out 1).trans rfl
        have hcz10_2 : w4.cell? ⟨gb186, 2, none⟩ = some (.string a0_2) := (blk_cell BK186.out 2).trans rfl
        have hcz10_3 : w4.cell? ⟨gb186, 3, none⟩ = some (.int .i64 a0_3) := (blk_cell BK186.out 3).trans rfl
        have hcz10_4 : w4.cell? ⟨gb186, 4, none⟩ = some (.bool a0_4) := (blk_cell BK186.out 4).trans rfl
        have hcz10_5 : w4.cell? ⟨gb186, 5, none⟩ = some (.string a0_5) := (blk_cell BK186.out 5).trans rfl
        have hcz10_6 : w4.cell? ⟨gb186, 6, none⟩ = some (.bool a0_6) := (blk_cell BK186.out 6).trans rfl
        have hcz10_7 : w4.cell? ⟨gb186, 7, none⟩ = some (.int .i64 a0_7) := (blk_cell BK186.out 7).trans rfl
        have hcz10_8 : w4.cell? ⟨gb186, 8, none⟩ = some (.int .i64 a0_8) := (blk_cell BK186.out 8).trans rfl
        have hcz10_9 : w4.cell? ⟨gb186, 9, none⟩ = some (.int .i64 a0_9) := (blk_cell BK186.out 9).trans rfl
        have hcz10_10 : w4.cell? ⟨gb186, 10, none⟩ = some (.int .i64 a0_10) := (blk_cell BK186.out 10).trans rfl
        have hcz10_11 : w4.cell? ⟨gb186, 11, none⟩ = some (.int .i64 a0_11) := (blk_cell BK186.out 11).trans rfl
        have hcz10_12 : w4.cell? ⟨gb186, 12, none⟩ = some (.int .i64 a0_12) := (blk_cell BK186.out 12).trans rfl
        have hcz10_13 : w4.cell? ⟨gb186, 13, none⟩ = some (.int .i64 a0_13) := (blk_cell BK186.out 13).trans rfl
        have hcz10_14 : w4.cell? ⟨gb186, 14, none⟩ = some (.int .i64 a0_14) := (blk_cell BK186.out 14).trans rfl
        have hcz10_15 : w4.cell? ⟨gb186, 15, none⟩ = some (.int .i64 a0_15) := (blk_cell BK186.out 15).trans rfl
        have hcz10_16 : w4.cell? ⟨gb186, 16, none⟩ = some (.int .i64 a0_16) := (blk_cell BK186.out 16).trans rfl
        have hfz10_0 := blk_frozen BK186.out 0
        have hfz10_1 := blk_frozen BK186.out 1
        have hfz10_2 := blk_frozen BK186.out 2
        have hfz10_3 := blk_frozen BK186.out 3
        have hfz10_4 := blk_frozen BK186.out 4
        have hfz10_5 := blk_frozen BK186.out 5
        have hfz10_6 := blk_frozen BK186.out 6
        have hfz10_7 := blk_frozen BK186.out 7
        have hfz10_8 := blk_frozen BK186.out 8
        have hfz10_9 := blk_frozen BK186.out 9
        have hfz10_10 := blk_frozen BK186.out 10
        have hfz10_11 := blk_frozen BK186.out 11
        have hfz10_12 := blk_frozen BK186.out 12
        have hfz10_13 := blk_frozen BK186.out 13
        have hfz10_14 := blk_frozen BK186.out 14
        have hfz10_15 := blk_frozen BK186.out 15
        have hfz10_16 := blk_frozen BK186.out 16
        go_wp2_with (first | (go_at_call 40; (with_reducible refine (longcaseref08_name.calls k a0_2 true _ A7.out).mono ?_); rintro e w' ⟨rfl, ⟨nd, rfl⟩⟩) | (go_at_call 41; (with_reducible refine (longcaseref08_off.calls a0_0 t188 _ A9.out).mono ?_); rintro e w' ⟨rfl, ⟨nd, rfl⟩⟩))
        go_meet
        case rel => exact ⟨_, (!t188), (by first | rfl | (simp; done) | (simp [*]; done)), H', ⟨by first | omega | exact Nat.le_refl _⟩, ⟨by (with_reducible repeat (first | refine blk_drewN ?_ _ | refine blk_drew ?_ | refine blk_alloc ?_ _)); exact BK186.out⟩, ⟨by repeat (first | (with_reducible first | exact HB.out | apply below_alloc | apply pw_below_drewN | apply below_drew1 | refine below_set ?_ GE186.out) | exact HB.out)⟩⟩
      · replace c8 := Bool.eq_false_iff.mpr c8
        subst c8
        have H1 : (longcaseref08_Right.j0 k a1 true a0_0 false a0_2 a0_3 a0_4 a0_5 a0_6 a0_7 a0_8 a0_9 a0_10 a0_11 a0_12 a0_13 a0_14 a0_15 a0_16) = some r := by rw [if_neg (show ¬ (false = true) by decide)] at H; exact H
        clear H
        have H := H1
        clear H1
        have H' := Aside0.mk H
        clear H
        have hcz11_0 : w4.cell? ⟨gb186, 0, none⟩ = some (.int .i64 a0_0) := (blk_cell BK186.out 0).trans rfl
        have hcz11_1 : w4.cell? ⟨gb186, 1, none⟩ = some (.bool false) := (blk_cell BK186.out 1).trans rfl
        have hcz11_2 : w4.cell? ⟨gb186, 2, none⟩ = some (.string a0_2) := (blk_cell BK186.out 2).trans rfl
        have hcz11_3 : w4.cell? ⟨gb186, 3, none⟩ = some (.int .i64 a0_3) := (blk_cell BK186.out 3).trans rfl
        have hcz11_4 : w4.cell? ⟨gb186, 4, none⟩ = some (.bool a0_4) := (blk_cell BK186.out 4).trans rfl
        have hcz11_5 : w4.cell? ⟨gb186, 5, none⟩ = some (.string a0_5) := (blk_cell BK186.out 5).trans rfl
        have hcz11_6 : w4.cell? ⟨gb186, 6, none⟩ = some (.bool a0_6) := (blk_cell BK186.out 6).trans rfl
        have hcz11_7 : w4.cell? ⟨gb186, 7, none⟩ = some (.int .i64 a0_7) := (blk_cell BK186.out 7).trans rfl
        have hcz11_8 : w4.cell? ⟨gb186, 8, none⟩ = some (.int .i64 a0_8) := (blk_cell BK186.out 8).trans rfl
        have hcz11_9 : w4.cell? ⟨gb186, 9, none⟩ = some (.int .i64 a0_9) := (blk_cell BK186.out 9).trans rfl
        have hcz11_10 : w4.cell? ⟨gb186, 10, none⟩ = some (.int .i64 a0_10) := (blk_cell BK186.out 10).trans rfl
        have hcz11_11 : w4.cell? ⟨gb186, 11, none⟩ = some (.int .i64 a0_11) := (blk_cell BK186.out 11).trans rfl
        have hcz11_12 : w4.cell? ⟨gb186, 12, none⟩ = some (.int .i64 a0_12) := (blk_cell BK186.out 12).trans rfl
        have hcz11_13 : w4.cell? ⟨gb186, 13, none⟩ = some (.int .i64 a0_13) := (blk_cell BK186.out 13).trans rfl
        have hcz11_14 : w4.cell? ⟨gb186, 14, none⟩ = some (.int .i64 a0_14) := (blk_cell BK186.out 14).trans rfl
        have hcz11_15 : w4.cell? ⟨gb186, 15, none⟩ = some (.int .i64 a0_15) := (blk_cell BK186.out 15).trans rfl
        have hcz11_16 : w4.cell? ⟨gb186, 16, none⟩ = some (.int .i64 a0_16) := (blk_cell BK186.out 16).trans rfl
        have hfz11_0 := blk_frozen BK186.out 0
        have hfz11_1 := blk_frozen BK186.out 1
        have hfz11_2 := blk_frozen BK186.out 2
        have hfz11_3 := blk_frozen BK186.out 3
        have hfz11_4 := blk_frozen BK186.out 4
        have hfz11_5 := blk_frozen BK186.out 5
        have hfz11_6 := blk_frozen BK186.out 6
        have hfz11_7 := blk_frozen BK186.out 7
        have hfz11_8 := blk_frozen BK186.out 8
        have hfz11_9 := blk_frozen BK186.out 9
        have hfz11_10 := blk_frozen BK186.out 10
        have hfz11_11 := blk_frozen BK186.out 11
        have hfz11_12 := blk_frozen BK186.out 12
        have hfz11_13 := blk_frozen BK186.out 13
        have hfz11_14 := blk_frozen BK186.out 14
        have hfz11_15 := blk_frozen BK186.out 15
        have hfz11_16 := blk_frozen BK186.out 16
        go_wp2_with (first | (go_at_call 40; (with_reducible refine (longcaseref08_name.calls k a0_2 false _ A7.out).mono ?_); rintro e w' ⟨rfl, ⟨nd, rfl⟩⟩))
        go_meet
        case rel => exact ⟨_, (true), (by first | rfl | (simp; done) | (simp [*]; done)), H', ⟨by first | omega | exact Nat.le_refl _⟩, ⟨by (with_reducible repeat (first | refine blk_drewN ?_ _ | refine blk_drew ?_ | refine blk_alloc ?_ _)); exact BK186.out⟩, ⟨by repeat (first | (with_reducible first | exact HB.out | apply below_alloc | apply pw_below_drewN | apply below_drew1 | refine below_set ?_ GE186.out) | exact HB.out)⟩⟩
  case rest =>
    clear HC3
    try clear c1
    try clear p2
    try clear c5
    try clear c8
    try clear hcz10_0
    try clear hcz10_1
    try clear hcz10_10
    try clear hcz10_11
    try clear hcz10_12
    try clear hcz10_13
    try clear hcz10_14
    try clear hcz10_15
    try clear hcz10_16
    try clear hcz10_2
    try clear hcz10_3
    try clear hcz10_4
    try clear hcz10_5
    try clear hcz10_6
    try clear hcz10_7
    try clear hcz10_8
    try clear hcz10_9
    try clear hcz11_0
    try clear hcz11_1
    try clear hcz11_10
    try clear hcz11_11
    try clear hcz11_12
    try clear hcz11_13
    try clear hcz11_14
    try clear hcz11_15
    try clear hcz11_16
    try clear hcz11_2
    try clear hcz11_3
    try clear hcz11_4
    try clear hcz11_5
    try clear hcz11_6
    try clear hcz11_7
    try clear hcz11_8
    try clear hcz11_9
    try clear hcz6_0
    try clear hcz6_1
    try clear hcz6_10
    try clear hcz6_11
    try clear hcz6_12
    try clear hcz6_13
    try clear hcz6_14
    try clear hcz6_15
    try clear hcz6_16
    try clear hcz6_2
    try clear hcz6_3
    try clear hcz6_4
    try clear hcz6_5
    try clear hcz6_6
    try clear hcz6_7
    try clear hcz6_8
    try clear hcz6_9
    try clear hfz10_0
    try clear hfz10_1
    try clear hfz10_10
    try clear hfz10_11
    try clear hfz10_12
    try clear hfz10_13
    try clear hfz10_14
    try clear hfz10_15
    try clear hfz10_16
    try clear hfz10_2
    try clear hfz10_3
    try clear hfz10_4
    try clear hfz10_5
    try clear hfz10_6
    try clear hfz10_7
    try clear hfz10_8
    try clear hfz10_9
    try clear hfz11_0
    try clear hfz11_1
    try clear hfz11_10
    try clear hfz11_11
    try clear hfz11_12
    try clear hfz11_13
    try clear hfz11_14
    try clear hfz11_15
    try clear hfz11_16
    try clear hfz11_2
    try clear hfz11_3
    try clear hfz11_4
    try clear hfz11_5
    try clear hfz11_6
    try clear hfz11_7
    try clear hfz11_8
    try clear hfz11_9
    try clear hfz6_0
    try clear hfz6_1
    try clear hfz6_10
    try clear hfz6_11
    try clear hfz6_12
    try clear hfz6_13
    try clear hfz6_14
    try clear hfz6_15
    try clear hfz6_16
    try clear hfz6_2
    try clear hfz6_3
    try clear hfz6_4
    try clear hfz6_5
    try clear hfz6_6
    try clear hfz6_7
    try clear hfz6_8
    try clear hfz6_9
    obtain ⟨kq, x21_2, rfl, HA, HJ2, BK186, HB⟩ := hcut
    cases kq with
    | zero => exact absurd HA.out (by simp [longcaseref08_Right.j0])
    | succ kj2 =>
      have H := HA.out
      clear HA
      simp only [longcaseref08_Right.j0] at H
      by_cases c12 : x21_2 = true
      · subst c12
        have H1 : (some false) = some r := by rw [if_pos rfl] at H; exact H
        clear H
        have H := H1
        clear H1
        obtain rfl := Option.some.inj H
        go_wp2
        go_ret
        exact ⟨by first | rfl | (simp [errW_none, errW_some] <;> rfl) | (simp [*, errW_none, errW_some] <;> rfl), by repeat (first | (with_reducible first | exact HB.out | apply below_alloc | apply pw_below_drewN | apply below_drew1 | refine below_set ?_ GE186.out) | exact HB.out)⟩
      · replace c12 := Bool.eq_false_iff.mpr c12
        subst c12
        have H1 : (if a0_6 = true then (if a0_4 = true then ((longcaseref08_name.f kj2 a0_5).bind fun t189 => (if t189 = true then ((longcaseref08_off.f a0_3).bind fun t190 => (if t190 = true then ((longcaseref08_Change.f kj2 a0_7 a0_8 a0_9 a0_10 a0_11 a1).bind fun t191 => (if t191 = true then ((longcaseref08_Change.f kj2 a0_12 a0_13 a0_14 a0_15 a0_16 a1).bind fun t192 => (some t192)) else (some false))) else (some false))) else (some false))) else (some false)) else (if (a0_3 == 0 && (!a0_4 && (a0_5.toList.isEmpty))) = true then (if (a0_7 == 0 && (a0_8 == 0 && (a0_9 == 0 && (a0_10 == 0 && (a0_11 == 0))))) = true then (some (a0_12 == 0 && (a0_13 == 0 && (a0_14 == 0 && (a0_15 == 0 && (a0_16 == 0)))))) else (some false)) else (some false))) = some r := by rw [if_neg (show ¬ (false = true) by decide)] at H; exact H
        clear H
        have H := H1
        clear H1
        by_cases c13 : a0_6 = true
        · subst c13
          have H1 : (if a0_4 = true then ((longcaseref08_name.f kj2 a0_5).bind fun t189 => (if t189 = true then ((longcaseref08_off.f a0_3).bind fun t190 => (if t190 = true then ((longcaseref08_Change.f kj2 a0_7 a0_8 a0_9 a0_10 a0_11 a1).bind fun t191 => (if t191 = true then ((longcaseref08_Change.f kj2 a0_12 a0_13 a0_14 a0_15 a0_16 a1).bind fun t192 => (some t192)) else (some false))) else (some false))) else (some false))) else (some false)) = some r := by rw [if_pos rfl] at H; exact H
          clear H
          have H := H1
          clear H1
          by_cases c14 : a0_4 = true
          · subst c14
            have H1 : ((longcaseref08_name.f kj2 a0_5).bind fun t189 => (if t189 = true then ((longcaseref08_off.f a0_3).bind fun t190 => (if t190 = true then ((longcaseref08_Change.f kj2 a0_7 a0_8 a0_9 a0_10 a0_11 a1).bind fun t191 => (if t191 = true then ((longcaseref08_Change.f kj2 a0_12 a0_13 a0_14 a0_15 a0_16 a1).bind fun t192 => (some t192)) else (some false))) else (some false))) else (some false))) = some r := by rw [if_pos rfl] at H; exact H
            clear H
            have H := H1
            clear H1
            replace H := Option.bind_eq_some_iff.mp H
            obtain ⟨t189, A150, H⟩ := H
            replace H : (if t189 = true then ((longcaseref08_off.f a0_3).bind fun t190 => (if t190 = true then ((longcaseref08_Change.f kj2 a0_7 a0_8 a0_9 a0_10 a0_11 a1).bind fun t191 => (if t191 = true then ((longcaseref08_Change.f kj2 a0_12 a0_13 a0_14 a0_15 a0_16 a1).bind fun t192 => (some t192)) else (some false))) else (some false))) else (some false)) = some r := H
            have A15 := Aside0.mk A150
            clear A150
            by_cases c16 : t189 = true
            · subst c16
              have H1 : ((longcaseref08_off.f a0_3).bind fun t190 => (if t190 = true then ((longcaseref08_Change.f kj2 a0_7 a0_8 a0_9 a0_10 a0_11 a1).bind fun t191 => (if t191 = true then ((longcaseref08_Change.f kj2 a0_12 a0_13 a0_14 a0_15 a0_16 a1).bind fun t192 => (some t192)) else (some false))) else (some false))) = some r := by rw [if_pos rfl] at H; exact H
              clear H
              have H := H1
              clear H1
              replace H := Option.bind_eq_some_iff.mp H
              obtain ⟨t190, A170, H⟩ := H
              replace H : (if t190 = true then ((longcaseref08_Change.f kj2 a0_7 a0_8 a0_9 a0_10 a0_11 a1).bind fun t191 => (if t191 = true then ((longcaseref08_Change.f kj2 a0_12 a0_13 a0_14 a0_15 a0_16 a1).bind fun t192 => (some t192)) else (some false))) else (some false)) = some r := H
              have A17 := Aside0.mk A170
              clear A170
              by_cases c18 : t190 = true
              · subst c18
                have H1 : ((longcaseref08_Change.f kj2 a0_7 a0_8 a0_9 a0_10 a0_11 a1).bind fun t191 => (if t191 = true then ((longcaseref08_Change.f kj2 a0_12 a0_13 a0_14 a0_15 a0_16 a1).bind fun t192 => (some t192)) else (some false))) = some r := by rw [if_pos rfl] at H; exact H
                clear H
                have H := H1
                clear H1
                replace H := Option.bind_eq_some_iff.mp H
                obtain ⟨t191, A190, H⟩ := H
                replace H : (if t191 = true then ((longcaseref08_Change.f kj2 a0_12 a0_13 a0_14 a0_15 a0_16 a1).bind fun t192 => (some t192)) else (some false)) = some r := H
                have A19 := Aside0.mk A190
                clear A190
                by_cases c20 : t191 = true
                · subst c20
                  have H1 : ((longcaseref08_Change.f kj2 a0_12 a0_13 a0_14 a0_15 a0_16 a1).bind fun t192 => (some t192)) = some r := by rw [if_pos rfl] at H; exact H
                  clear H
                  have H := H1
                  clear H1
                  replace H := Option.bind_eq_some_iff.mp H
                  obtain ⟨t192, A210, H⟩ := H
                  replace H : (some t192) = some r := H
                  have A21 := Aside0.mk A210
                  clear A210
                  obtain rfl := Option.some.inj H
                  have hcz22_0 : wc.cell? ⟨gb186, 0, none⟩ = some (.int .i64 a0_0) := (blk_cell BK186.out 0).trans rfl
                  have hcz22_1 : wc.cell? ⟨gb186, 1, none⟩ = some (.bool a0_1) := (blk_cell BK186.out 1).trans rfl
                  have hcz22_2 : wc.cell? ⟨gb186, 2, none⟩ = some (.string a0_2) := (blk_cell BK186.out 2).trans rfl
                  have hcz22_3 : wc.cell? ⟨gb186, 3, none⟩ = some (.int .i64 a0_3) := (blk_cell BK186.out 3).trans rfl
                  have hcz22_4 : wc.cell? ⟨gb186, 4, none⟩ = some (.bool true) := (blk_cell BK186.out 4).trans rfl
                  have hcz22_5 : wc.cell? ⟨gb186, 5, none⟩ = some (.string a0_5) := (blk_cell BK186.out 5).trans rfl
                  have hcz22_6 : wc.cell? ⟨gb186, 6, none⟩ = some (.bool true) := (blk_cell BK186.out 6).trans rfl
                  have hcz22_7 : wc.cell? ⟨gb186, 7, none⟩ = some (.int .i64 a0_7) := (blk_cell BK186.out 7).trans rfl
                  have hcz22_8 : wc.cell? ⟨gb186, 8, none⟩ = some (.int .i64 a0_8) := (blk_cell BK186.out 8).trans rfl
                  have hcz22_9 : wc.cell? ⟨gb186, 9, none⟩ = some (.int .i64 a0_9) := (blk_cell BK186.out 9).trans rfl
                  have hcz22_10 : wc.cell? ⟨gb186, 10, none⟩ = some (.int .i64 a0_10) := (blk_cell BK186.out 10).trans rfl
                  have hcz22_11 : wc.cell? ⟨gb186, 11, none⟩ = some (.int .i64 a0_11) := (blk_cell BK186.out 11).trans rfl
                  have hcz22_12 : wc.cell? ⟨gb186, 12, none⟩ = some (.int .i64 a0_12) := (blk_cell BK186.out 12).trans rfl
                  have hcz22_13 : wc.cell? ⟨gb186, 13, none⟩ = some (.int .i64 a0_13) := (blk_cell BK186.out 13).trans rfl
                  have hcz22_14 : wc.cell? ⟨gb186, 14, none⟩ = some (.int .i64 a0_14) := (blk_cell BK186.out 14).trans rfl
                  have hcz22_15 : wc.cell? ⟨gb186, 15, none⟩ = some (.int .i64 a0_15) := (blk_cell BK186.out 15).trans rfl
                  have hcz22_16 : wc.cell? ⟨gb186, 16, none⟩ = some (.int .i64 a0_16) := (blk_cell BK186.out 16).trans rfl
                  have hfz22_0 := blk_frozen BK186.out 0
                  have hfz22_1 := blk_frozen BK186.out 1
                  have hfz22_2 := blk_frozen BK186.out 2
                  have hfz22_3 := blk_frozen BK186.out 3
                  have hfz22_4 := blk_frozen BK186.out 4
                  have hfz22_5 := blk_frozen BK186.out 5
                  have hfz22_6 := blk_frozen BK186.out 6
                  have hfz22_7 := blk_frozen BK186.out 7
                  have hfz22_8 := blk_frozen BK186.out 8
                  have hfz22_9 := blk_frozen BK186.out 9
                  have hfz22_10 := blk_frozen BK186.out 10
                  have hfz22_11 := blk_frozen BK186.out 11
                  have hfz22_12 := blk_frozen BK186.out 12
                  have hfz22_13 := blk_frozen BK186.out 13
                  have hfz22_14 := blk_frozen BK186.out 14
                  have hfz22_15 := blk_frozen BK186.out 15
                  have hfz22_16 := blk_frozen BK186.out 16
                  go_wp2_with (first | (go_at_call 40; (with_reducible refine (longcaseref08_name.calls kj2 a0_5 true _ A15.out).mono ?_); rintro e w' ⟨rfl, ⟨nd, rfl⟩⟩) | (go_at_call 41; (with_reducible refine (longcaseref08_off.calls a0_3 true _ A17.out).mono ?_); rintro e w' ⟨rfl, ⟨nd, rfl⟩⟩) | (go_at_call 20; (with_reducible refine (longcaseref08_Change.calls kj2 a0_7 a0_8 a0_9 a0_10 a0_11 a1 true _ A19.out).mono ?_); rintro e w23 ⟨rfl, hb⟩; have n0_ := Aside0.mk (blk_below (g := gb186) (o := .cells #[.int .i64 a0_0, .bool a0_1, .string a0_2, .int .i64 a0_3, .bool true, .string a0_5, .bool true, .int .i64 a0_7, .int .i64 a0_8, .int .i64 a0_9, .int .i64 a0_10, .int .i64 a0_11, .int .i64 a0_12, .int .i64 a0_13, .int .i64 a0_14, .int .i64 a0_15, .int .i64 a0_16] 27 (0, 0)) (by (with_reducible repeat (first | refine blk_drewN ?_ _ | refine blk_drew ?_ | refine blk_alloc ?_ _)); exact BK186.out) hb); have n1_ := Aside0.mk (below_step (by repeat (first | (with_reducible first | exact HB.out | apply below_alloc | apply pw_below_drewN | apply below_drew1 | refine below_set ?_ GE186.out) | exact HB.out)) hb); clear BK186; clear HB; have BK186 := n0_; have HB := n1_; clear n0_ n1_; (try clear hb); (try clear hb2); (try clear hk); (try clear hi); have hcz24_0 : w23.cell? ⟨gb186, 0, none⟩ = some (.int .i64 a0_0) := (blk_cell BK186.out 0).trans rfl; have hcz24_1 : w23.cell? ⟨gb186, 1, none⟩ = some (.bool a0_1) := (blk_cell BK186.out 1).trans rfl; have hcz24_2 : w23.cell? ⟨gb186, 2, none⟩ = some (.string a0_2) := (blk_cell BK186.out 2).trans rfl; have hcz24_3 : w23.cell? ⟨gb186, 3, none⟩ = some (.int .i64 a0_3) := (blk_cell BK186.out 3).trans rfl; have hcz24_4 : w23.cell? ⟨gb186, 4, none⟩ = some (.bool true) := (blk_cell BK186.out 4).trans rfl; have hcz24_5 : w23.cell? ⟨gb186, 5, none⟩ = some (.string a0_5) := (blk_cell BK186.out 5).trans rfl; have hcz24_6 : w23.cell? ⟨gb186, 6, none⟩ = some (.bool true) := (blk_cell BK186.out 6).trans rfl; have hcz24_7 : w23.cell? ⟨gb186, 7, none⟩ = some (.int .i64 a0_7) := (blk_cell BK186.out 7).trans rfl; have hcz24_8 : w23.cell? ⟨gb186, 8, none⟩ = some (.int .i64 a0_8) := (blk_cell BK186.out 8).trans rfl; have hcz24_9 : w23.cell? ⟨gb186, 9, none⟩ = some (.int .i64 a0_9) := (blk_cell BK186.out 9).trans rfl; have hcz24_10 : w23.cell? ⟨gb186, 10, none⟩ = some (.int .i64 a0_10) := (blk_cell BK186.out 10).trans rfl; have hcz24_11 : w23.cell? ⟨gb186, 11, none⟩ = some (.int .i64 a0_11) := (blk_cell BK186.out 11).trans rfl; have hcz24_12 : w23.cell? ⟨gb186, 12, none⟩ = some (.int .i64 a0_12) := (blk_cell BK186.out 12).trans rfl; have hcz24_13 : w23.cell? ⟨gb186, 13, none⟩ = some (.int .i64 a0_13) := (blk_cell BK186.out 13).trans rfl; have hcz24_14 : w23.cell? ⟨gb186, 14, none⟩ = some (.int .i64 a0_14) := (blk_cell BK186.out 14).trans rfl; have hcz24_15 : w23.cell? ⟨gb186, 15, none⟩ = some (.int .i64 a0_15) := (blk_cell BK186.out 15).trans rfl; have hcz24_16 : w23.cell? ⟨gb186, 16, none⟩ = some (.int .i64 a0_16) := (blk_cell BK186.out 16).trans rfl; have hfz24_0 := blk_frozen BK186.out 0; have hfz24_1 := blk_frozen BK186.out 1; have hfz24_2 := blk_frozen BK186.out 2; have hfz24_3 := blk_frozen BK186.out 3; have hfz24_4 := blk_frozen BK186.out 4; have hfz24_5 := blk_frozen BK186.out 5; have hfz24_6 := blk_frozen BK186.out 6; have hfz24_7 := blk_frozen BK186.out 7; have hfz24_8 := blk_frozen BK186.out 8; have hfz24_9 := blk_frozen BK186.out 9; have hfz24_10 := blk_frozen BK186.out 10; have hfz24_11 := blk_frozen BK186.out 11; have hfz24_12 := blk_frozen BK186.out 12; have hfz24_13 := blk_frozen BK186.out 13; have hfz24_14 := blk_frozen BK186.out 14; have hfz24_15 := blk_frozen BK186.out 15; have hfz24_16 := blk_frozen BK186.out 16) | (go_at_call 20; (with_reducible refine (longcaseref08_Change.calls kj2 a0_12 a0_13 a0_14 a0_15 a0_16 a1 t192 _ A21.out).mono ?_); rintro e w25 ⟨rfl, hb⟩; have n0_ := Aside0.mk (blk_below (g := gb186) (o := .cells #[.int .i64 a0_0, .bool a0_1, .string a0_2, .int .i64 a0_3, .bool true, .string a0_5, .bool true, .int .i64 a0_7, .int .i64 a0_8, .int .i64 a0_9, .int .i64 a0_10, .int .i64 a0_11, .int .i64 a0_12, .int .i64 a0_13, .int .i64 a0_14, .int .i64 a0_15, .int .i64 a0_16] 27 (0, 0)) (by (with_reducible repeat (first | refine blk_drewN ?_ _ | refine blk_drew ?_ | refine blk_alloc ?_ _)); exact BK186.out) hb); have n1_ := Aside0.mk (below_step (by repeat (first | (with_reducible first | exact HB.out | apply below_alloc | apply pw_below_drewN | apply below_drew1 | refine below_set ?_ GE186.out) | exact HB.out)) hb); clear BK186; clear HB; have BK186 := n0_; have HB := n1_; clear n0_ n1_; (try clear hb); (try clear hb2); (try clear hk); (try clear hi)))
                  go_ret
                  exact ⟨by first | rfl | (simp [errW_none, errW_some] <;> rfl) | (simp [*, errW_none, errW_some] <;> rfl), by repeat (first | (with_reducible first | exact HB.out | apply below_alloc | apply pw_below_drewN | apply below_drew1 | refine below_set ?_ GE186.out) | exact HB.out)⟩
                · replace c20 := Bool.eq_false_iff.mpr c20
                  subst c20
                  have H1 : (some false) = some r := by rw [if_neg (show ¬ (false = true) by decide)] at H; exact H
                  clear H
                  have H := H1
                  clear H1
                  obtain rfl := Option.some.inj H
                  have hcz26_0 : wc.cell? ⟨gb186, 0, none⟩ = some (.int .i64 a0_0) := (blk_cell BK186.out 0).trans rfl
                  have hcz26_1 : wc.cell? ⟨gb186, 1, none⟩ = some (.bool a0_1) := (blk_cell BK186.out 1).trans rfl
                  have hcz26_2 : wc.cell? ⟨gb186, 2, none⟩ = some (.string a0_2) := (blk_cell BK186.out 2).trans rfl
                  have hcz26_3 : wc.cell? ⟨gb186, 3, none⟩ = some (.int .i64 a0_3) := (blk_cell BK186.out 3).trans rfl
                  have hcz26_4 : wc.cell? ⟨gb186, 4, none⟩ = some (.bool true) := (blk_cell BK186.out 4).trans rfl
                  have hcz26_5 : wc.cell? ⟨gb186, 5, none⟩ = some (.string a0_5) := (blk_cell BK186.out 5).trans rfl
                  have hcz26_6 : wc.cell? ⟨gb186, 6, none⟩ = some (.bool true) := (blk_cell BK186.out 6).trans rfl
                  have hcz26_7 : wc.cell? ⟨gb186, 7, none⟩ = some (.int .i64 a0_7) := (blk_cell BK186.out 7).trans rfl
                  have hcz26_8 : wc.cell? ⟨gb186, 8, none⟩ = some (.int .i64 a0_8) := (blk_cell BK186.out 8).trans rfl
                  have hcz26_9 : wc.cell? ⟨gb186, 9, none⟩ = some (.int .i64 a0_9) := (blk_cell BK186.out 9).trans rfl
                  have hcz26_10 : wc.cell? ⟨gb186, 10, none⟩ = some (.int .i64 a0_10) := (blk_cell BK186.out 10).trans rfl
                  have hcz26_11 : wc.cell? ⟨gb186, 11, none⟩ = some (.int .i64 a0_11) := (blk_cell BK186.out 11).trans rfl
                  have hcz26_12 : wc.cell? ⟨gb186, 12, none⟩ = some (.int .i64 a0_12) := (blk_cell BK186.out 12).trans rfl
                  have hcz26_13 : wc.cell? ⟨gb186, 13, none⟩ = some (.int .i64 a0_13) := (blk_cell BK186.out 13).trans rfl
                  have hcz26_14 : wc.cell? ⟨gb186, 14, none⟩ = some (.int .i64 a0_14) := (blk_cell BK186.out 14).trans rfl
                  have hcz26_15 : wc.cell? ⟨gb186, 15, none⟩ = some (.int .i64 a0_15) := (blk_cell BK186.out 15).trans rfl
                  have hcz26_16 : wc.cell? ⟨gb186, 16, none⟩ = some (.int .i64 a0_16) := (blk_cell BK186.out 16).trans rfl
                  have hfz26_0 := blk_frozen BK186.out 0
                  have hfz26_1 := blk_frozen BK186.out 1
                  have hfz26_2 := blk_frozen BK186.out 2
                  have hfz26_3 := blk_frozen BK186.out 3
                  have hfz26_4 := blk_frozen BK186.out 4
                  have hfz26_5 := blk_frozen BK186.out 5
                  have hfz26_6 := blk_frozen BK186.out 6
                  have hfz26_7 := blk_frozen BK186.out 7
                  have hfz26_8 := blk_frozen BK186.out 8
                  have hfz26_9 := blk_frozen BK186.out 9
                  have hfz26_10 := blk_frozen BK186.out 10
                  have hfz26_11 := blk_frozen BK186.out 11
                  have hfz26_12 := blk_frozen BK186.out 12
                  have hfz26_13 := blk_frozen BK186.out 13
                  have hfz26_14 := blk_frozen BK186.out 14
                  have hfz26_15 := blk_frozen BK186.out 15
                  have hfz26_16 := blk_frozen BK186.out 16
                  go_wp2_with (first | (go_at_call 40; (with_reducible refine (longcaseref08_name.calls kj2 a0_5 true _ A15.out).mono ?_); rintro e w' ⟨rfl, ⟨nd, rfl⟩⟩) | (go_at_call 41; (with_reducible refine (longcaseref08_off.calls a0_3 true _ A17.out).mono ?_); rintro e w' ⟨rfl, ⟨nd, rfl⟩⟩) | (go_at_call 20; (with_reducible refine (longcaseref08_Change.calls kj2 a0_7 a0_8 a0_9 a0_10 a0_11 a1 false _ A19.out).mono ?_); rintro e w27 ⟨rfl, hb⟩; have n0_ := Aside0.mk (blk_below (g := gb186) (o := .cells #[.int .i64 a0_0, .bool a0_1, .string a0_2, .int .i64 a0_3, .bool true, .string a0_5, .bool true, .int .i64 a0_7, .int .i64 a0_8, .int .i64 a0_9, .int .i64 a0_10, .int .i64 a0_11, .int .i64 a0_12, .int .i64 a0_13, .int .i64 a0_14, .int .i64 a0_15, .int .i64 a0_16] 27 (0, 0)) (by (with_reducible repeat (first | refine blk_drewN ?_ _ | refine blk_drew ?_ | refine blk_alloc ?_ _)); exact BK186.out) hb); have n1_ := Aside0.mk (below_step (by repeat (first | (with_reducible first | exact HB.out | apply below_alloc | apply pw_below_drewN | apply below_drew1 | refine below_set ?_ GE186.out) | exact HB.out)) hb); clear BK186; clear HB; have BK186 := n0_; have HB := n1_; clear n0_ n1_; (try clear hb); (try clear hb2); (try clear hk); (try clear hi)))
                  go_ret
                  exact ⟨by first | rfl | (simp [errW_none, errW_some] <;> rfl) | (simp [*, errW_none, errW_some] <;> rfl), by repeat (first | (with_reducible first | exact HB.out | apply below_alloc | apply pw_below_drewN | apply below_drew1 | refine below_set ?_ GE186.out) | exact HB.out)⟩
              · replace c18 := Bool.eq_false_iff.mpr c18
                subst c18
                have H1 : (some false) = some r := by rw [if_neg (show ¬ (false = true) by decide)] at H; exact H
                clear H
                have H := H1
                clear H1
                obtain rfl := Option.some.inj H
                have hcz28_0 : wc.cell? ⟨gb186, 0, none⟩ = some (.int .i64 a0_0) := (blk_cell BK186.out 0).trans rfl
                have hcz28_1 : wc.cell? ⟨gb186, 1, none⟩ = some (.bool a0_1) := (blk_cell BK186.out 1).trans rfl
                have hcz28_2 : wc.cell? ⟨gb186, 2, none⟩ = some (.string a0_2) := (blk_cell BK186.out 2).trans rfl
                have hcz28_3 : wc.cell? ⟨gb186, 3, none⟩ = some (.int .i64 a0_3) := (blk_cell BK186.out 3).trans rfl
                have hcz28_4 : wc.cell? ⟨gb186, 4, none⟩ = some (.bool true) := (blk_cell BK186.out 4).trans rfl
                have hcz28_5 : wc.cell? ⟨gb186, 5, none⟩ = some (.string a0_5) := (blk_cell BK186.out 5).trans rfl
                have hcz28_6 : wc.cell? ⟨gb186, 6, none⟩ = some (.bool true) := (blk_cell BK186.out 6).trans rfl
                have hcz28_7 : wc.cell? ⟨gb186, 7, none⟩ = some (.int .i64 a0_7) := (blk_cell BK186.out 7).trans rfl
                have hcz28_8 : wc.cell? ⟨gb186, 8, none⟩ = some (.int .i64 a0_8) := (blk_cell BK186.out 8).trans rfl
                have hcz28_9 : wc.cell? ⟨gb186, 9, none⟩ = some (.int .i64 a0_9) := (blk_cell BK186.out 9).trans rfl
                have hcz28_10 : wc.cell? ⟨gb186, 10, none⟩ = some (.int .i64 a0_10) := (blk_cell BK186.out 10).trans rfl
                have hcz28_11 : wc.cell? ⟨gb186, 11, none⟩ = some (.int .i64 a0_11) := (blk_cell BK186.out 11).trans rfl
                have hcz28_12 : wc.cell? ⟨gb186, 12, none⟩ = some (.int .i64 a0_12) := (blk_cell BK186.out 12).trans rfl
                have hcz28_13 : wc.cell? ⟨gb186, 13, none⟩ = some (.int .i64 a0_13) := (blk_cell BK186.out 13).trans rfl
                have hcz28_14 : wc.cell? ⟨gb186, 14, none⟩ = some (.int .i64 a0_14) := (blk_cell BK186.out 14).trans rfl
                have hcz28_15 : wc.cell? ⟨gb186, 15, none⟩ = some (.int .i64 a0_15) := (blk_cell BK186.out 15).trans rfl
                have hcz28_16 : wc.cell? ⟨gb186, 16, none⟩ = some (.int .i64 a0_16) := (blk_cell BK186.out 16).trans rfl
                have hfz28_0 := blk_frozen BK186.out 0
                have hfz28_1 := blk_frozen BK186.out 1
                have hfz28_2 := blk_frozen BK186.out 2
                have hfz28_3 := blk_frozen BK186.out 3
                have hfz28_4 := blk_frozen BK186.out 4
                have hfz28_5 := blk_frozen BK186.out 5
                have hfz28_6 := blk_frozen BK186.out 6
                have hfz28_7 := blk_frozen BK186.out 7
                have hfz28_8 := blk_frozen BK186.out 8
                have hfz28_9 := blk_frozen BK186.out 9
                have hfz28_10 := blk_frozen BK186.out 10
                have hfz28_11 := blk_frozen BK186.out 11
                have hfz28_12 := blk_frozen BK186.out 12
                have hfz28_13 := blk_frozen BK186.out 13
                have hfz28_14 := blk_frozen BK186.out 14
                have hfz28_15 := blk_frozen BK186.out 15
                have hfz28_16 := blk_frozen BK186.out 16
                go_wp2_with (first | (go_at_call 40; (with_reducible refine (longcaseref08_name.calls kj2 a0_5 true _ A15.out).mono ?_); rintro e w' ⟨rfl, ⟨nd, rfl⟩⟩) | (go_at_call 41; (with_reducible refine (longcaseref08_off.calls a0_3 false _ A17.out).mono ?_); rintro e w' ⟨rfl, ⟨nd, rfl⟩⟩))
                go_ret
                exact ⟨by first | rfl | (simp [errW_none, errW_some] <;> rfl) | (simp [*, errW_none, errW_some] <;> rfl), by repeat (first | (with_reducible first | exact HB.out | apply below_alloc | apply pw_below_drewN | apply below_drew1 | refine below_set ?_ GE186.out) | exact HB.out)⟩
            · replace c16 := Bool.eq_false_iff.mpr c16
              subst c16
              have H1 : (some false) = some r := by rw [if_neg (show ¬ (false = true) by decide)] at H; exact H
              clear H
              have H := H1
              clear H1
              obtain rfl := Option.some.inj H
              have hcz29_0 : wc.cell? ⟨gb186, 0, none⟩ = some (.int .i64 a0_0) := (blk_cell BK186.out 0).trans rfl
              have hcz29_1 : wc.cell? ⟨gb186, 1, none⟩ = some (.bool a0_1) := (blk_cell BK186.out 1).trans rfl
              have hcz29_2 : wc.cell? ⟨gb186, 2, none⟩ = some (.string a0_2) := (blk_cell BK186.out 2).trans rfl
              have hcz29_3 : wc.cell? ⟨gb186, 3, none⟩ = some (.int .i64 a0_3) := (blk_cell BK186.out 3).trans rfl
              have hcz29_4 : wc.cell? ⟨gb186, 4, none⟩ = some (.bool true) := (blk_cell BK186.out 4).trans rfl
              have hcz29_5 : wc.cell? ⟨gb186, 5, none⟩ = some (.string a0_5) := (blk_cell BK186.out 5).trans rfl
              have hcz29_6 : wc.cell? ⟨gb186, 6, none⟩ = some (.bool true) := (blk_cell BK186.out 6).trans rfl
              have hcz29_7 : wc.cell? ⟨gb186, 7, none⟩ = some (.int .i64 a0_7) := (blk_cell BK186.out 7).trans rfl
              have hcz29_8 : wc.cell? ⟨gb186, 8, none⟩ = some (.int .i64 a0_8) := (blk_cell BK186.out 8).trans rfl
              have hcz29_9 : wc.cell? ⟨gb186, 9, none⟩ = some (.int .i64 a0_9) := (blk_cell BK186.out 9).trans rfl
              have hcz29_10 : wc.cell? ⟨gb186, 10, none⟩ = some (.int .i64 a0_10) := (blk_cell BK186.out 10).trans rfl
              have hcz29_11 : wc.cell? ⟨gb186, 11, none⟩ = some (.int .i64 a0_11) := (blk_cell BK186.out 11).trans rfl
              have hcz29_12 : wc.cell? ⟨gb186, 12, none⟩ = some (.int .i64 a0_12) := (blk_cell BK186.out 12).trans rfl
              have hcz29_13 : wc.cell? ⟨gb186, 13, none⟩ = some (.int .i64 a0_13) := (blk_cell BK186.out 13).trans rfl
              have hcz29_14 : wc.cell? ⟨gb186, 14, none⟩ = some (.int .i64 a0_14) := (blk_cell BK186.out 14).trans rfl
              have hcz29_15 : wc.cell? ⟨gb186, 15, none⟩ = some (.int .i64 a0_15) := (blk_cell BK186.out 15).trans rfl
              have hcz29_16 : wc.cell? ⟨gb186, 16, none⟩ = some (.int .i64 a0_16) := (blk_cell BK186.out 16).trans rfl
              have hfz29_0 := blk_frozen BK186.out 0
              have hfz29_1 := blk_frozen BK186.out 1
              have hfz29_2 := blk_frozen BK186.out 2
              have hfz29_3 := blk_frozen BK186.out 3
              have hfz29_4 := blk_frozen BK186.out 4
              have hfz29_5 := blk_frozen BK186.out 5
              have hfz29_6 := blk_frozen BK186.out 6
              have hfz29_7 := blk_frozen BK186.out 7
              have hfz29_8 := blk_frozen BK186.out 8
              have hfz29_9 := blk_frozen BK186.out 9
              have hfz29_10 := blk_frozen BK186.out 10
              have hfz29_11 := blk_frozen BK186.out 11
              have hfz29_12 := blk_frozen BK186.out 12
              have hfz29_13 := blk_frozen BK186.out 13
              have hfz29_14 := blk_frozen BK186.out 14
              have hfz29_15 := blk_frozen BK186.out 15
              have hfz29_16 := blk_frozen BK186.out 16
              go_wp2_with (first | (go_at_call 40; (with_reducible refine (longcaseref08_name.calls kj2 a0_5 false _ A15.out).mono ?_); rintro e w' ⟨rfl, ⟨nd, rfl⟩⟩))
              go_ret
              exact ⟨by first | rfl | (simp [errW_none, errW_some] <;> rfl) | (simp [*, errW_none, errW_some] <;> rfl), by repeat (first | (with_reducible first | exact HB.out | apply below_alloc | apply pw_below_drewN | apply below_drew1 | refine below_set ?_ GE186.out) | exact HB.out)⟩
          · replace c14 := Bool.eq_false_iff.mpr c14
            subst c14
            have H1 : (some false) = some r := by rw [if_neg (show ¬ (false = true) by decide)] at H; exact H
            clear H
            have H := H1
            clear H1
            obtain rfl := Option.some.inj H
            have hcz30_0 : wc.cell? ⟨gb186, 0, none⟩ = some (.int .i64 a0_0) := (blk_cell BK186.out 0).trans rfl
            have hcz30_1 : wc.cell? ⟨gb186, 1, none⟩ = some (.bool a0_1) := (blk_cell BK186.out 1).trans rfl
            have hcz30_2 : wc.cell? ⟨gb186, 2, none⟩ = some (.string a0_2) := (blk_cell BK186.out 2).trans rfl
            have hcz30_3 : wc.cell? ⟨gb186, 3, none⟩ = some (.int .i64 a0_3) := (blk_cell BK186.out 3).trans rfl
            have hcz30_4 : wc.cell? ⟨gb186, 4, none⟩ = some (.bool false) := (blk_cell BK186.out 4).trans rfl
            have hcz30_5 : wc.cell? ⟨gb186, 5, none⟩ = some (.string a0_5) := (blk_cell BK186.out 5).trans rfl
            have hcz30_6 : wc.cell? ⟨gb186, 6, none⟩ = some (.bool true) := (blk_cell BK186.out 6).trans rfl
            have hcz30_7 : wc.cell? ⟨gb186, 7, none⟩ = some (.int .i64 a0_7) := (blk_cell BK186.out 7).trans rfl
            have hcz30_8 : wc.cell? ⟨gb186, 8, none⟩ = some (.int .i64 a0_8) := (blk_cell BK186.out 8).trans rfl
            have hcz30_9 : wc.cell? ⟨gb186, 9, none⟩ = some (.int .i64 a0_9) := (blk_cell BK186.out 9).trans rfl
            have hcz30_10 : wc.cell? ⟨gb186, 10, none⟩ = some (.int .i64 a0_10) := (blk_cell BK186.out 10).trans rfl
            have hcz30_11 : wc.cell? ⟨gb186, 11, none⟩ = some (.int .i64 a0_11) := (blk_cell BK186.out 11).trans rfl
            have hcz30_12 : wc.cell? ⟨gb186, 12, none⟩ = some (.int .i64 a0_12) := (blk_cell BK186.out 12).trans rfl
            have hcz30_13 : wc.cell? ⟨gb186, 13, none⟩ = some (.int .i64 a0_13) := (blk_cell BK186.out 13).trans rfl
            have hcz30_14 : wc.cell? ⟨gb186, 14, none⟩ = some (.int .i64 a0_14) := (blk_cell BK186.out 14).trans rfl
            have hcz30_15 : wc.cell? ⟨gb186, 15, none⟩ = some (.int .i64 a0_15) := (blk_cell BK186.out 15).trans rfl
            have hcz30_16 : wc.cell? ⟨gb186, 16, none⟩ = some (.int .i64 a0_16) := (blk_cell BK186.out 16).trans rfl
            have hfz30_0 := blk_frozen BK186.out 0
            have hfz30_1 := blk_frozen BK186.out 1
            have hfz30_2 := blk_frozen BK186.out 2
            have hfz30_3 := blk_frozen BK186.out 3
            have hfz30_4 := blk_frozen BK186.out 4
            have hfz30_5 := blk_frozen BK186.out 5
            have hfz30_6 := blk_frozen BK186.out 6
            have hfz30_7 := blk_frozen BK186.out 7
            have hfz30_8 := blk_frozen BK186.out 8
            have hfz30_9 := blk_frozen BK186.out 9
            have hfz30_10 := blk_frozen BK186.out 10
            have hfz30_11 := blk_frozen BK186.out 11
            have hfz30_12 := blk_frozen BK186.out 12
            have hfz30_13 := blk_frozen BK186.out 13
            have hfz30_14 := blk_frozen BK186.out 14
            have hfz30_15 := blk_frozen BK186.out 15
            have hfz30_16 := blk_frozen BK186.out 16
            go_wp2
            go_ret
            exact ⟨by first | rfl | (simp [errW_none, errW_some] <;> rfl) | (simp [*, errW_none, errW_some] <;> rfl), by repeat (first | (with_reducible first | exact HB.out | apply below_alloc | apply pw_below_drewN | apply below_drew1 | refine below_set ?_ GE186.out) | exact HB.out)⟩
        · replace c13 := Bool.eq_false_iff.mpr c13
          subst c13
          have H1 : (if (a0_3 == 0 && (!a0_4 && (a0_5.toList.isEmpty))) = true then (if (a0_7 == 0 && (a0_8 == 0 && (a0_9 == 0 && (a0_10 == 0 && (a0_11 == 0))))) = true then (some (a0_12 == 0 && (a0_13 == 0 && (a0_14 == 0 && (a0_15 == 0 && (a0_16 == 0)))))) else (some false)) else (some false)) = some r := by rw [if_neg (show ¬ (false = true) by decide)] at H; exact H
          clear H
          have H := H1
          clear H1
          by_cases c31 : (a0_3 == 0 && (!a0_4 && (a0_5.toList.isEmpty))) = true
          · rw [if_pos c31] at H
            have c31b0 : (a0_3 == 0 && (!a0_4 && (a0_5.toList.isEmpty))) = true := c31
            (try (have c31b1 : decide (a0_3 = 0 && (!a0_4 && (a0_5.toList.isEmpty))) = true := by simpa using c31))
            (try (have c31b2 : (a0_3 == 0 && (!a0_4 && (a0_5.toList.isEmpty))) = true := by simpa using c31))
            clear c31
            by_cases c32 : (a0_7 == 0 && (a0_8 == 0 && (a0_9 == 0 && (a0_10 == 0 && (a0_11 == 0))))) = true
            · rw [if_pos c32] at H
              have c32b0 : (a0_7 == 0 && (a0_8 == 0 && (a0_9 == 0 && (a0_10 == 0 && (a0_11 == 0))))) = true := c32
              (try (have c32b1 : decide (a0_7 = 0 && (a0_8 == 0 && (a0_9 == 0 && (a0_10 == 0 && (a0_11 == 0))))) = true := by simpa using c32))
              (try (have c32b2 : (a0_7 == 0 && (a0_8 == 0 && (a0_9 == 0 && (a0_10 == 0 && (a0_11 == 0))))) = true := by simpa using c32))
              clear c32
              obtain rfl := Option.some.inj H
              have hcz33_0 : wc.cell? ⟨gb186, 0, none⟩ = some (.int .i64 a0_0) := (blk_cell BK186.out 0).trans rfl
              have hcz33_1 : wc.cell? ⟨gb186, 1, none⟩ = some (.bool a0_1) := (blk_cell BK186.out 1).trans rfl
              have hcz33_2 : wc.cell? ⟨gb186, 2, none⟩ = some (.string a0_2) := (blk_cell BK186.out 2).trans rfl
              have hcz33_3 : wc.cell? ⟨gb186, 3, none⟩ = some (.int .i64 a0_3) := (blk_cell BK186.out 3).trans rfl
              have hcz33_4 : wc.cell? ⟨gb186, 4, none⟩ = some (.bool a0_4) := (blk_cell BK186.out 4).trans rfl
              have hcz33_5 : wc.cell? ⟨gb186, 5, none⟩ = some (.string a0_5) := (blk_cell BK186.out 5).trans rfl
              have hcz33_6 : wc.cell? ⟨gb186, 6, none⟩ = some (.bool false) := (blk_cell BK186.out 6).trans rfl
              have hcz33_7 : wc.cell? ⟨gb186, 7, none⟩ = some (.int .i64 a0_7) := (blk_cell BK186.out 7).trans rfl
              have hcz33_8 : wc.cell? ⟨gb186, 8, none⟩ = some (.int .i64 a0_8) := (blk_cell BK186.out 8).trans rfl
              have hcz33_9 : wc.cell? ⟨gb186, 9, none⟩ = some (.int .i64 a0_9) := (blk_cell BK186.out 9).trans rfl
              have hcz33_10 : wc.cell? ⟨gb186, 10, none⟩ = some (.int .i64 a0_10) := (blk_cell BK186.out 10).trans rfl
              have hcz33_11 : wc.cell? ⟨gb186, 11, none⟩ = some (.int .i64 a0_11) := (blk_cell BK186.out 11).trans rfl
              have hcz33_12 : wc.cell? ⟨gb186, 12, none⟩ = some (.int .i64 a0_12) := (blk_cell BK186.out 12).trans rfl
              have hcz33_13 : wc.cell? ⟨gb186, 13, none⟩ = some (.int .i64 a0_13) := (blk_cell BK186.out 13).trans rfl
              have hcz33_14 : wc.cell? ⟨gb186, 14, none⟩ = some (.int .i64 a0_14) := (blk_cell BK186.out 14).trans rfl
              have hcz33_15 : wc.cell? ⟨gb186, 15, none⟩ = some (.int .i64 a0_15) := (blk_cell BK186.out 15).trans rfl
              have hcz33_16 : wc.cell? ⟨gb186, 16, none⟩ = some (.int .i64 a0_16) := (blk_cell BK186.out 16).trans rfl
              have hfz33_0 := blk_frozen BK186.out 0
              have hfz33_1 := blk_frozen BK186.out 1
              have hfz33_2 := blk_frozen BK186.out 2
              have hfz33_3 := blk_frozen BK186.out 3
              have hfz33_4 := blk_frozen BK186.out 4
              have hfz33_5 := blk_frozen BK186.out 5
              have hfz33_6 := blk_frozen BK186.out 6
              have hfz33_7 := blk_frozen BK186.out 7
              have hfz33_8 := blk_frozen BK186.out 8
              have hfz33_9 := blk_frozen BK186.out 9
              have hfz33_10 := blk_frozen BK186.out 10
              have hfz33_11 := blk_frozen BK186.out 11
              have hfz33_12 := blk_frozen BK186.out 12
              have hfz33_13 := blk_frozen BK186.out 13
              have hfz33_14 := blk_frozen BK186.out 14
              have hfz33_15 := blk_frozen BK186.out 15
              have hfz33_16 := blk_frozen BK186.out 16
              go_wp2
              go_ret
              exact ⟨by first | rfl | (simp [errW_none, errW_some] <;> rfl) | (simp [*, errW_none, errW_some] <;> rfl), by repeat (first | (with_reducible first | exact HB.out | apply below_alloc | apply pw_below_drewN | apply below_drew1 | refine below_set ?_ GE186.out) | exact HB.out)⟩
            · rw [if_neg c32] at H
              have c32b0 : (a0_7 == 0 && (a0_8 == 0 && (a0_9 == 0 && (a0_10 == 0 && (a0_11 == 0))))) = false := by simpa using c32
              (try (have c32b1 : decide (a0_7 = 0 && (a0_8 == 0 && (a0_9 == 0 && (a0_10 == 0 && (a0_11 == 0))))) = false := by simpa using c32))
              (try (have c32b2 : (a0_7 == 0 && (a0_8 == 0 && (a0_9 == 0 && (a0_10 == 0 && (a0_11 == 0))))) = false := by simpa using c32))
              (try (have c32b3 : ¬ (a0_7 = 0 && (a0_8 == 0 && (a0_9 == 0 && (a0_10 == 0 && (a0_11 == 0))))) := by simpa using c32))
              clear c32
              obtain rfl := Option.some.inj H
              have hcz34_0 : wc.cell? ⟨gb186, 0, none⟩ = some (.int .i64 a0_0) := (blk_cell BK186.out 0).trans rfl
              have hcz34_1 : wc.cell? ⟨gb186, 1, none⟩ = some (.bool a0_1) := (blk_cell BK186.out 1).trans rfl
              have hcz34_2 : wc.cell? ⟨gb186, 2, none⟩ = some (.string a0_2) := (blk_cell BK186.out 2).trans rfl
              have hcz34_3 : wc.cell? ⟨gb186, 3, none⟩ = some (.int .i64 a0_3) := (blk_cell BK186.out 3).trans rfl
              have hcz34_4 : wc.cell? ⟨gb186, 4, none⟩ = some (.bool a0_4) := (blk_cell BK186.out 4).trans rfl
              have hcz34_5 : wc.cell? ⟨gb186, 5, none⟩ = some (.string a0_5) := (blk_cell BK186.out 5).trans rfl
              have hcz34_6 : wc.cell? ⟨gb186, 6, none⟩ = some (.bool false) := (blk_cell BK186.out 6).trans rfl
              have hcz34_7 : wc.cell? ⟨gb186, 7, none⟩ = some (.int .i64 a0_7) := (blk_cell BK186.out 7).trans rfl
              have hcz34_8 : wc.cell? ⟨gb186, 8, none⟩ = some (.int .i64 a0_8) := (blk_cell BK186.out 8).trans rfl
              have hcz34_9 : wc.cell? ⟨gb186, 9, none⟩ = some (.int .i64 a0_9) := (blk_cell BK186.out 9).trans rfl
              have hcz34_10 : wc.cell? ⟨gb186, 10, none⟩ = some (.int .i64 a0_10) := (blk_cell BK186.out 10).trans rfl
              have hcz34_11 : wc.cell? ⟨gb186, 11, none⟩ = some (.int .i64 a0_11) := (blk_cell BK186.out 11).trans rfl
              have hcz34_12 : wc.cell? ⟨gb186, 12, none⟩ = some (.int .i64 a0_12) := (blk_cell BK186.out 12).trans rfl
              have hcz34_13 : wc.cell? ⟨gb186, 13, none⟩ = some (.int .i64 a0_13) := (blk_cell BK186.out 13).trans rfl
              have hcz34_14 : wc.cell? ⟨gb186, 14, none⟩ = some (.int .i64 a0_14) := (blk_cell BK186.out 14).trans rfl
              have hcz34_15 : wc.cell? ⟨gb186, 15, none⟩ = some (.int .i64 a0_15) := (blk_cell BK186.out 15).trans rfl
              have hcz34_16 : wc.cell? ⟨gb186, 16, none⟩ = some (.int .i64 a0_16) := (blk_cell BK186.out 16).trans rfl
              have hfz34_0 := blk_frozen BK186.out 0
              have hfz34_1 := blk_frozen BK186.out 1
              have hfz34_2 := blk_frozen BK186.out 2
              have hfz34_3 := blk_frozen BK186.out 3
              have hfz34_4 := blk_frozen BK186.out 4
              have hfz34_5 := blk_frozen BK186.out 5
              have hfz34_6 := blk_frozen BK186.out 6
              have hfz34_7 := blk_frozen BK186.out 7
              have hfz34_8 := blk_frozen BK186.out 8
              have hfz34_9 := blk_frozen BK186.out 9
              have hfz34_10 := blk_frozen BK186.out 10
              have hfz34_11 := blk_frozen BK186.out 11
              have hfz34_12 := blk_frozen BK186.out 12
              have hfz34_13 := blk_frozen BK186.out 13
              have hfz34_14 := blk_frozen BK186.out 14
              have hfz34_15 := blk_frozen BK186.out 15
              have hfz34_16 := blk_frozen BK186.out 16
              go_wp2
              go_ret
              exact ⟨by first | rfl | (simp [errW_none, errW_some] <;> rfl) | (simp [*, errW_none, errW_some] <;> rfl), by repeat (first | (with_reducible first | exact HB.out | apply below_alloc | apply pw_below_drewN | apply below_drew1 | refine below_set ?_ GE186.out) | exact HB.out)⟩
          · rw [if_neg c31] at H
            have c31b0 : (a0_3 == 0 && (!a0_4 && (a0_5.toList.isEmpty))) = false := by simpa using c31
            (try (have c31b1 : decide (a0_3 = 0 && (!a0_4 && (a0_5.toList.isEmpty))) = false := by simpa using c31))
            (try (have c31b2 : (a0_3 == 0 && (!a0_4 && (a0_5.toList.isEmpty))) = false := by simpa using c31))
            (try (have c31b3 : ¬ (a0_3 = 0 && (!a0_4 && (a0_5.toList.isEmpty))) := by simpa using c31))
            clear c31
            obtain rfl := Option.some.inj H
            have hcz35_0 : wc.cell? ⟨gb186, 0, none⟩ = some (.int .i64 a0_0) := (blk_cell BK186.out 0).trans rfl
            have hcz35_1 : wc.cell? ⟨gb186, 1, none⟩ = some (.bool a0_1) := (blk_cell BK186.out 1).trans rfl
            have hcz35_2 : wc.cell? ⟨gb186, 2, none⟩ = some (.string a0_2) := (blk_cell BK186.out 2).trans rfl
            have hcz35_3 : wc.cell? ⟨gb186, 3, none⟩ = some (.int .i64 a0_3) := (blk_cell BK186.out 3).trans rfl
            have hcz35_4 : wc.cell? ⟨gb186, 4, none⟩ = some (.bool a0_4) := (blk_cell BK186.out 4).trans rfl
            have hcz35_5 : wc.cell? ⟨gb186, 5, none⟩ = some (.string a0_5) := (blk_cell BK186.out 5).trans rfl
            have hcz35_6 : wc.cell? ⟨gb186, 6, none⟩ = some (.bool false) := (blk_cell BK186.out 6).trans rfl
            have hcz35_7 : wc.cell? ⟨gb186, 7, none⟩ = some (.int .i64 a0_7) := (blk_cell BK186.out 7).trans rfl
            have hcz35_8 : wc.cell? ⟨gb186, 8, none⟩ = some (.int .i64 a0_8) := (blk_cell BK186.out 8).trans rfl
            have hcz35_9 : wc.cell? ⟨gb186, 9, none⟩ = some (.int .i64 a0_9) := (blk_cell BK186.out 9).trans rfl
            have hcz35_10 : wc.cell? ⟨gb186, 10, none⟩ = some (.int .i64 a0_10) := (blk_cell BK186.out 10).trans rfl
            have hcz35_11 : wc.cell? ⟨gb186, 11, none⟩ = some (.int .i64 a0_11) := (blk_cell BK186.out 11).trans rfl
            have hcz35_12 : wc.cell? ⟨gb186, 12, none⟩ = some (.int .i64 a0_12) := (blk_cell BK186.out 12).trans rfl
            have hcz35_13 : wc.cell? ⟨gb186, 13, none⟩ = some (.int .i64 a0_13) := (blk_cell BK186.out 13).trans rfl
            have hcz35_14 : wc.cell? ⟨gb186, 14, none⟩ = some (.int .i64 a0_14) := (blk_cell BK186.out 14).trans rfl
            have hcz35_15 : wc.cell? ⟨gb186, 15, none⟩ = some (.int .i64 a0_15) := (blk_cell BK186.out 15).trans rfl
            have hcz35_16 : wc.cell? ⟨gb186, 16, none⟩ = some (.int .i64 a0_16) := (blk_cell BK186.out 16).trans rfl
            have hfz35_0 := blk_frozen BK186.out 0
            have hfz35_1 := blk_frozen BK186.out 1
            have hfz35_2 := blk_frozen BK186.out 2
            have hfz35_3 := blk_frozen BK186.out 3
            have hfz35_4 := blk_frozen BK186.out 4
            have hfz35_5 := blk_frozen BK186.out 5
            have hfz35_6 := blk_frozen BK186.out 6
            have hfz35_7 := blk_frozen BK186.out 7
            have hfz35_8 := blk_frozen BK186.out 8
            have hfz35_9 := blk_frozen BK186.out 9
            have hfz35_10 := blk_frozen BK186.out 10
            have hfz35_11 := blk_frozen BK186.out 11
            have hfz35_12 := blk_frozen BK186.out 12
            have hfz35_13 := blk_frozen BK186.out 13
            have hfz35_14 := blk_frozen BK186.out 14
            have hfz35_15 := blk_frozen BK186.out 15
            have hfz35_16 := blk_frozen BK186.out 16
            go_wp2
            go_ret
            exact ⟨by first | rfl | (simp [errW_none, errW_some] <;> rfl) | (simp [*, errW_none, errW_some] <;> rfl), by repeat (first | (with_reducible first | exact HB.out | apply below_alloc | apply pw_below_drewN | apply below_drew1 | refine below_set ?_ GE186.out) | exact HB.out)⟩

end Go.Proofs.YtgbehcahdgamoaaDoor.Fn

namespace Go.Proofs.YtgbehcahdgamoaaDoor.Fn
open Go.RowKit Go.Proofs.YtgbehcahdgamoaaDoorW.PrintWords Go.Proofs.YtgbehcahdgamoaaDoorW.PrintLast Go.Proofs.YtgbehcahdgamoaaDoorW.PrintMore

theorem refChange_j0 (k : Nat) (b : Bool) (c0 : Int) (c1 : Int) (c2 : Int) (c3 : Int) (c4 : Int) : longcaseref08_Change.j0 (k + 1) b c0 c1 c2 c3 c4 = some (!b && dateB c0 c1 c2 c3 c4) := by
  rw [longcaseref08_Change.j0]
  cases b
  · rw [if_neg (by decide)]
    unfold dateB inB
    split
    · split
      · split
        · split
          · rename_i h1 h2 h3 h4; simp [h4]; omega
          · rename_i h1 h2 h3 h4; simp [h4]
        · rename_i h1 h2 h3; simp; omega
      · rename_i h1 h2; simp; omega
    · split
      · split
        · split
          · split
            · rename_i h1 h2 h3 h4 h5; simp [h5]; omega
            · rename_i h1 h2 h3 h4 h5; simp [h5]
          · rename_i h1 h2 h3 h4; simp; omega
        · rename_i h1 h2 h3; simp; omega
      · split
        · repeat' split
          all_goals (refine congrArg some ?_; rw [Bool.eq_iff_iff]; simp; try omega)
        · simp
  · rfl
theorem refChange_eq (k : Nat) (c0 : Int) (c1 : Int) (c2 : Int) (c3 : Int) (c4 : Int) (wide : Bool) : longcaseref08_Change.f (k + 1) c0 c1 c2 c3 c4 wide = some (chgB c0 c1 c2 c3 c4 wide) := by
  unfold longcaseref08_Change.f
  simp only [refChange_j0]
  unfold chgB
  cases wide
  · simp only [Bool.false_eq_true, if_false, Bool.false_and, Bool.or_false]
    unfold inB
    split
    · have : decide (0 ≤ c4) = false := by simp; omega
      rw [this]; rfl
    · have : decide (0 ≤ c4) = true := by simp; omega
      rw [this]
      by_cases h : c4 > 89999
      · have : decide (c4 ≤ 89999) = false := by simp; omega
        simp [h, this]
      · have : decide (c4 ≤ 89999) = true := by simp; omega
        simp [h, this]
  · simp only [if_true, Bool.true_and]
    have e : (inB c4 0 89999 || inB c4 (-604799) 604799) = inB c4 (-604799) 604799 := by
      unfold inB
      rw [Bool.eq_iff_iff]
      simp
      omega
    rw [e]
    unfold inB
    split
    · have : decide (-604799 ≤ c4) = false := by simp; omega
      rw [this]; rfl
    · split
      · have : decide (c4 ≤ 604799) = false := by simp; omega
        rw [this]; simp
      · have h1 : decide (-604799 ≤ c4) = true := by simp; omega
        have h2 : decide (c4 ≤ 604799) = true := by simp; omega
        rw [h1, h2]; rfl

theorem refOff_eq (n : Int) : longcaseref08_off.f n = some (inB n (-89999) 89999) := by
  unfold longcaseref08_off.f inB
  by_cases h : n ≥ -89999
  · rw [if_pos h]; simp; omega
  · rw [if_neg h]; simp; omega
def letB (c : Int) : Bool := (decide (97 ≤ c) && decide (c ≤ 122)) || (decide (65 ≤ c) && decide (c ≤ 90))
theorem refLetter_eq (c : Int) : longcaseref08_letter.f c = some (letB c) := by
  unfold longcaseref08_letter.f letB
  repeat' split
  all_goals (refine congrArg some ?_; rw [Bool.eq_iff_iff]; simp; omega)
theorem refDigit_eq (c : Int) : longcaseref08_digit.f c = some (inB c 48 57) := by
  unfold longcaseref08_digit.f inB
  by_cases h : c ≥ 48
  · rw [if_pos h]; simp; omega
  · rw [if_neg h]; simp; omega

theorem inSet_int (c : Int) (h : 0 ≤ c) : inSet c.toNat = (letB c || inB c 48 57 || c == 43 || c == 45) := by
  obtain ⟨n, rfl⟩ := Int.eq_ofNat_of_zero_le h
  rw [Int.toNat_natCast, Bool.eq_iff_iff]
  unfold inSet letB inB
  simp
  omega
theorem all_drop (p : UInt8 → Bool) (s : ByteArray) (i : Nat) (h : i < s.size) : (s.data.toList.drop i).all p = (p (s[i]'h) && (s.data.toList.drop (i + 1)).all p) := by
  rw [List.drop_eq_getElem_cons (by simpa using h), List.all_cons]
  rfl
theorem refName_l0 (s : ByteArray) (hs : s.size ≤ 20) : ∀ (d k i : Nat), s.size - i ≤ d → i ≤ s.size → longcaseref08_name.l0 (k + d + 1) s i = some ((s.data.toList.drop i).all fun c => inSet c.toNat)
  | d, k, i, hd, hi => by
    rw [longcaseref08_name.l0]
    by_cases h : i < s.size
    · obtain ⟨d, rfl⟩ : ∃ e, d = e + 1 := ⟨d - 1, by omega⟩
      have ih := refName_l0 s hs d k (i + 1) (by omega) (by omega)
      rw [if_pos (by omega), if_pos (by omega), refLetter_eq, refDigit_eq, all_drop _ s i h]
      have hb : bt s i = (((s[i]'h).toNat : Nat) : Int) := (bt_at s i (by simpa using h)).symm
      have hin := inSet_int (bt s i) (by omega)
      rw [hb, Int.toNat_natCast] at hin
      rw [hin, ← hb]
      have hw : wrap64 ((i : Int) + 1) = ((i + 1 : Nat) : Int) := by rw [w64 ⟨by omega, by omega⟩]; omega
      rw [hw, show k + (d + 1) = k + d + 1 by omega, ih]
      simp only [Option.bind_some]
      cases letB (bt s i)
      · cases inB (bt s i) 48 57
        · by_cases h43 : bt s i = 43
          · simp [h43]
          · by_cases h45 : bt s i = 45
            · simp [h45]
            · simp [h43, h45]
        · simp
      · simp
    · rw [if_neg (by omega), List.drop_of_length_le (by simp; omega)]
      rfl
theorem refName_eq (k : Nat) (s : ByteArray) : longcaseref08_name.f (k + 22) s = some (namedB s) := by
  unfold longcaseref08_name.f namedB
  by_cases h3 : (s.size : Int) < 3
  · rw [if_pos h3, longcaseref08_name.j0]
    have : decide (3 ≤ s.size) = false := by simp; omega
    rw [this]
    rfl
  · rw [if_neg h3, longcaseref08_name.j0]
    have e3 : decide (3 ≤ s.size) = true := by simp; omega
    rw [e3]
    by_cases h20 : (s.size : Int) > 20
    · have : decide (s.size ≤ 20) = false := by simp; omega
      have e : decide ((s.size : Int) > 20) = true := by simpa using h20
      rw [this, e]
      rfl
    · have : decide (s.size ≤ 20) = true := by simp; omega
      have e : decide ((s.size : Int) > 20) = false := by simpa using h20
      rw [this, e, if_neg (by decide)]
      have := refName_l0 s (by omega) 20 k 0 (by omega) (by omega)
      rw [show k + 21 = k + 20 + 1 from rfl]
      simpa using this
theorem refRight_j0 (k : Nat) (s0 : Int) (s1 : Bool) (s2 : ByteArray) (d0 : Int) (d1 : Bool) (d2 : ByteArray) (bo : Bool) (a0 : Int) (a1 : Int) (a2 : Int) (a3 : Int) (a4 : Int) (e0 : Int) (e1 : Int) (e2 : Int) (e3 : Int) (e4 : Int) (wide b : Bool) : longcaseref08_Right.j0 (k + 23) wide b s0 s1 s2 d0 d1 d2 bo a0 a1 a2 a3 a4 e0 e1 e2 e3 e4 = some (!b && (if bo = true then d1 && (namedB d2 && (inB d0 (-89999) 89999 && (chgB a0 a1 a2 a3 a4 wide && chgB e0 e1 e2 e3 e4 wide)))
    else ((d0 == 0 && (!d1 && (d2.toList.isEmpty))) && ((a0 == 0 && (a1 == 0 && (a2 == 0 && (a3 == 0 && (a4 == 0))))) && ((e0 == 0 && (e1 == 0 && (e2 == 0 && (e3 == 0 && (e4 == 0))))))))) ) := by
  rw [longcaseref08_Right.j0]
  simp only [refName_eq, refOff_eq, refChange_eq, Option.bind_some]
  cases b
  · cases bo
    · cases (d0 == 0 && (!d1 && (d2.toList.isEmpty))) <;> cases (a0 == 0 && (a1 == 0 && (a2 == 0 && (a3 == 0 && (a4 == 0))))) <;> simp
    · cases d1 <;> cases namedB d2 <;> cases inB d0 (-89999) 89999 <;> cases chgB a0 a1 a2 a3 a4 wide <;> simp
  · rfl
theorem refRight_eq (k : Nat) (s0 : Int) (s1 : Bool) (s2 : ByteArray) (d0 : Int) (d1 : Bool) (d2 : ByteArray) (bo : Bool) (a0 : Int) (a1 : Int) (a2 : Int) (a3 : Int) (a4 : Int) (e0 : Int) (e1 : Int) (e2 : Int) (e3 : Int) (e4 : Int) (wide : Bool) : longcaseref08_Right.f (k + 23) s0 s1 s2 d0 d1 d2 bo a0 a1 a2 a3 a4 e0 e1 e2 e3 e4 wide = some (rightB s0 s1 s2 d0 d1 d2 bo a0 a1 a2 a3 a4 e0 e1 e2 e3 e4 wide) := by
  unfold longcaseref08_Right.f rightB
  simp only [refName_eq (k + 1), refOff_eq, refRight_j0, Option.bind_some]
  cases s1 <;> cases namedB s2 <;> cases inB s0 (-89999) 89999 <;> simp
end Go.Proofs.YtgbehcahdgamoaaDoor.Fn

namespace Go.Proofs
open Go.Shelf
def Tryd.insSort_ren : Go.Shelf.Ren := ⟨fun | 20 => 61 | n => n, fun | 24 => 62 | 22 => 58 | 3 => 3 | 25 => 73 | 4 => 4 | 0 => 0 | n => n, fun | n => n⟩
theorem Tryd.insSort : Go.Proofs.SlLaysF0.n20 Tryd.prog Tryd.insSort_ren := {
  mixed := by kernel_rfl
  f20 := ⟨Tryd.f61.name, by decide, Tryd.func61.trans (congrArg some (by kernel_rfl))⟩
  t0 := Tryd.underlying0
  a0 := Tryd.isAgg0
  z0 := Tryd.sizeOf0
  v0 := Tryd.zeroValue0
  t3 := Tryd.underlying3
  a3 := Tryd.isAgg3
  z3 := Tryd.sizeOf3
  v3 := Tryd.zeroValue3
  t4 := Tryd.underlying4
  a4 := Tryd.isAgg4
  z4 := Tryd.sizeOf4
  v4 := Tryd.zeroValue4
  t22 := Tryd.underlying58
  a22 := Tryd.isAgg58
  z22 := Tryd.sizeOf58
  v22 := Tryd.zeroValue58
  t25 := Tryd.underlying73
  a25 := Tryd.isAgg73
  z25 := Tryd.sizeOf73
  v25 := Tryd.zeroValue73 }
def Tryd.contTurn_ren : Go.Shelf.Ren := ⟨fun | 8 => 36 | 6 => 52 | n => n, fun | 22 => 58 | 23 => 62 | 25 => 63 | 4 => 4 | 3 => 3 | 0 => 0 | n => n, fun | n => n⟩
theorem Tryd.contTurn : Go.Proofs.SlLaysH0.n8 Tryd.prog Tryd.contTurn_ren := {
  mixed := by kernel_rfl
  f6 := ⟨Tryd.f52.name, by decide, Tryd.func52.trans (congrArg some (by kernel_rfl))⟩
  f8 := ⟨Tryd.f36.name, by decide, Tryd.func36.trans (congrArg some (by kernel_rfl))⟩
  t0 := Tryd.underlying0
  a0 := Tryd.isAgg0
  z0 := Tryd.sizeOf0
  v0 := Tryd.zeroValue0
  t3 := Tryd.underlying3
  a3 := Tryd.isAgg3
  z3 := Tryd.sizeOf3
  v3 := Tryd.zeroValue3
  t4 := Tryd.underlying4
  a4 := Tryd.isAgg4
  z4 := Tryd.sizeOf4
  v4 := Tryd.zeroValue4
  t22 := Tryd.underlying58
  a22 := Tryd.isAgg58
  z22 := Tryd.sizeOf58
  v22 := Tryd.zeroValue58
  t25 := Tryd.underlying63
  a25 := Tryd.isAgg63
  z25 := Tryd.sizeOf63
  v25 := Tryd.zeroValue63 }
end Go.Proofs

namespace Go.Proofs.YtgbehcahdgamoaaDoor.Fn
open Go.RowKit Go.Proofs.YtgbehcahdgamoaaDoorW.PrintWords Go.Proofs.YtgbehcahdgamoaaDoorW.PrintLast Go.Lib Go.Sort

/-- A turn's cells. -/
def encT (x : Int × Bool) : List Value := [.int .i64 x.1, .bool x.2]
/-- How two turns stand: by their moments, and of two at a time the start last. -/
def cfT (x y : Int × Bool) : Int := if x.1 < y.1 then -1 else if y.1 < x.1 then 1 else if x.2 = y.2 then 0 else if x.2 = true then 1 else -1

set_option maxHeartbeats 1000000 in
theorem turnCmp (x y : Int × Bool) (W : World) : Calls Tryd.prog 50 #[.agg #[.int .i64 x.1, .bool x.2], .agg #[.int .i64 y.1, .bool y.2]] W fun e w' => e = .returned (.int .i64 (cfT x y)) ∧ ∃ q os', w' = grow (W.drewN q) os' := by
  obtain ⟨a, b⟩ := x
  obtain ⟨c, d⟩ := y
  show Calls Tryd.prog 50 #[.agg #[.int .i64 a, .bool b], .agg #[.int .i64 c, .bool d]] W _
  by_cases h1 : a < c
  · have hr : cfT (a, b) (c, d) = -1 := by simp [cfT, h1]
    rw [hr]
    clear hr
    have n1 : (a != a) = false := by simp
    have n2 : (c != c) = false := by simp
    go_enter Tryd.func50, Tryd.ntmps50
    go_wp2
    go_ret
    exact ⟨rfl, 0, _, by rw [alloc_eq_grow, alloc_eq_grow, grow_grow]; rfl⟩
  · by_cases h2 : c < a
    · have hr : cfT (a, b) (c, d) = 1 := by simp [cfT, h1, h2]
      rw [hr]
      clear hr
      have n1 : (a != a) = false := by simp
      have n2 : (c != c) = false := by simp
      go_enter Tryd.func50, Tryd.ntmps50
      go_wp2
      go_ret
      exact ⟨rfl, 0, _, by rw [alloc_eq_grow, alloc_eq_grow, grow_grow]; rfl⟩
    · obtain rfl : a = c := by omega
      clear h1 h2
      have n1 : (a != a) = false := by simp
      have n2 : ¬ a < a := by omega
      cases b <;> cases d
      all_goals
        show Calls Tryd.prog 50 _ W (fun e w' => e = .returned (.int .i64 (cfT _ _)) ∧ _)
        unfold cfT
        simp only [Int.lt_irrefl, if_false, if_true, reduceCtorEq]
        go_enter Tryd.func50, Tryd.ntmps50
        go_wp2
        go_ret
        exact ⟨rfl, 0, _, by rw [alloc_eq_grow, alloc_eq_grow, grow_grow]; rfl⟩

theorem turnLays (blk off size : Nat) (w : World) : CmpLays Tryd.prog 50 #[] encT 2 cfT blk off size w := fun _ _ _ _ x y => turnCmp x y _

set_option maxHeartbeats 1000000 in
theorem stableTurns_calls (blk cap : Nat) (d : Array (Int × Bool)) (w : World) (hH : HoldsK encT 2 w blk 0 d) (hblk : blk < w.heap.size) (hd : d.size < 20) :
    Calls Tryd.prog 58 #[.slice (some ⟨blk, 0, none⟩) d.size cap, .int .i64 d.size, .func (.func 50) #[] #[]] w fun e w' => e = .returned (.tuple #[]) ∧ ∃ n os, w' = sortWorldK encT 2 w blk 0 n (Sort.insertionSort (ltOf cfT) d 0 d.size) os := by
  have eg : ∀ args w, (callFunc 50 args).run Tryd.prog w = .ok (.enter 50 args) w := enters_of Tryd.func50 (by kernel_rfl) rfl
  have hcon := AnyQ.insertionSortCmpFunc Tryd.insSort 2 Tryd.isAgg62 Tryd.sizeOf62 encT (fun _ => rfl) (fun x v hv => by simp [encT] at hv; rcases hv with rfl | rfl <;> rfl) cfT 50 #[] blk 0 cap 0 d.size d w eg (turnLays blk 0 d.size w) hH hblk (by omega) (by omega) (by omega)
  change Calls Tryd.prog 61 #[.slice (some ⟨blk, 0, none⟩) d.size cap, .int .i64 ((0 : Nat) : Int), .int .i64 d.size, .func (.func 50) #[] #[]] _ _ at hcon
  rw [show ((0 : Nat) : Int) = 0 from rfl] at hcon
  clear hH
  generalize Sort.insertionSort (ltOf cfT) d 0 d.size = r at hcon ⊢
  have d1 : ((d.size : Nat) : Int) < 20 := by omega
  generalize d.size = n at hcon d1 hd ⊢
  clear hd
  go_enter Tryd.func58, Tryd.ntmps58
  go_wp2
  refine wp_loop_rounds 1 ?_
  rw [rounds_succ]
  go_wp2_with (go_at_call 61; refine hcon.mono ?_; rintro e w' ⟨rfl, q, os, rfl⟩)
  refine wp_loop_rounds 1 ?_
  rw [rounds_succ]
  go_wp2
  go_end0
  exact ⟨rfl, q, os, rfl⟩

set_option maxHeartbeats 1000000 in
theorem sortTurns_calls (blk cap : Nat) (d : Array (Int × Bool)) (w : World) (hH : HoldsK encT 2 w blk 0 d) (hblk : blk < w.heap.size) (hd : d.size < 20) :
    Calls Tryd.prog 49 #[.slice (some ⟨blk, 0, none⟩) d.size cap, .func (.func 50) #[] #[]] w fun e w' => e = .returned (.tuple #[]) ∧ ∃ n os, w' = sortWorldK encT 2 w blk 0 n (Sort.insertionSort (ltOf cfT) d 0 d.size) os := by
  have hcon := stableTurns_calls blk cap d w hH hblk hd
  clear hH
  generalize Sort.insertionSort (ltOf cfT) d 0 d.size = r at hcon ⊢
  generalize d.size = n at hcon hd ⊢
  go_enter Tryd.func49, Tryd.ntmps49
  go_wp2_with (go_at_call 58; refine hcon.mono ?_; rintro e w' ⟨rfl, q, os, rfl⟩)
  go_end0
  exact ⟨rfl, q, os, rfl⟩
end Go.Proofs.YtgbehcahdgamoaaDoor.Fn

namespace Go.Proofs.YtgbehcahdgamoaaDoor.Fn
open Go.RowKit Go.Proofs.YtgbehcahdgamoaaDoorW.PrintWords Go.Proofs.YtgbehcahdgamoaaDoorW.PrintLast Go.Lib Go.Sort

/-- What a year gives: its end, its start; nothing, if there is an error. -/
def rowT (T : Int × Int × Int) : List (Int × Bool) := if T.2.2 = 0 then [(T.2.1, false), (T.1, true)] else []
/-- The rows of so many years. -/
def rowsT (T : Int → Int × Int × Int) (y : Int) : Nat → List (Int × Bool)
  | 0 => []
  | k + 1 => rowsT T y k ++ rowT (T (y + k))
theorem rowT_len (T : Int × Int × Int) : (rowT T).length ≤ 2 := by unfold rowT; split <;> simp
theorem rowsT_len (T : Int → Int × Int × Int) (y : Int) : ∀ k, (rowsT T y k).length ≤ 2 * k
  | 0 => by simp [rowsT]
  | k + 1 => by have := rowsT_len T y k; have := rowT_len (T (y + k)); simp [rowsT]; omega
def flatT (l : List (Int × Bool)) : List Value := l.flatMap encT
theorem flatT_append (l m : List (Int × Bool)) : flatT (l ++ m) = flatT l ++ flatT m := by simp [flatT]
theorem turnInfo : (Tryd.prog.info? 62).map (fun i => (i.zero, i.size, i.bytes)) = some (some (.agg #[.int .i64 0, .bool false]), 2, 16) := by kernel_rfl

theorem box_cells {w wr : World} {cs : Array Value} {t : TypeId} (hb : Below (w.heap.size + 1) (w.alloc (.cells cs t)) wr) (i : Nat) : wr.cell? ⟨w.heap.size, i, none⟩ = cs[i]? := by
  rw [hb.cell (p := ⟨w.heap.size, i, none⟩) (by simp)]
  go_simp

theorem ownsRow_below {w w' : World} {base : Nat} {e : TypeId} {size : Nat} {v : Value} {n : Nat} {xs : List Value} (h : w.ownsRow base e size v n xs) (hb : Below w.heap.size w w') : w'.ownsRow base e size v n xs := by
  obtain ⟨hl, h⟩ := h
  refine ⟨hl, ?_⟩
  rcases h with h | ⟨g, cap, cur, rfl, hg, hw, rest⟩
  · exact .inl h
  · exact .inr ⟨g, cap, cur, rfl, hg, (hb.block g (Array.getElem?_eq_some_iff.1 hw).1).trans hw, rest⟩

theorem flatT_get : ∀ (l : List (Int × Bool)) (t : Nat), t < l.length * 2 → (flatT l)[t]? = some ((encT (l[t / 2]?.getD default))[t % 2]!)
  | [], t, h => by simp at h
  | x :: l, t, h => by
    have e : flatT (x :: l) = encT x ++ flatT l := by simp [flatT]
    rw [e]
    match t, h with
    | 0, _ => rfl
    | 1, _ => rfl
    | t + 2, h =>
      rw [show (t + 2) / 2 = t / 2 + 1 from by omega, show (t + 2) % 2 = t % 2 from by omega]
      have := flatT_get l t (by simp at h; omega)
      simpa [encT] using this

theorem holdsT_of {w : World} {base g n cap : Nat} {e : TypeId} {l : List (Int × Bool)} (h : w.ownsRow base e 2 (.slice (some ⟨g, 0, none⟩) n cap) n (flatT l)) (hn : n = l.length) : HoldsK encT 2 w g 0 l.toArray := by
  intro j hj
  rw [size_flatK] at hj
  simp at hj
  refine ⟨?_, ?_⟩
  · rw [Nat.zero_add, h.cellAt j (by omega), get_flatK _ _ _ _ (by simpa using hj), flatT_get l j (by omega)]
    simp
  · rw [Nat.zero_add]; exact h.frozenAt j

theorem size_insInner {α : Type} [Inhabited α] (lt : α → α → Bool) (a : Nat) : ∀ (j : Nat) (d : Array α), (insInner lt a j d).size = d.size
  | 0, d => rfl
  | j + 1, d => by
    unfold insInner
    split
    · rw [size_insInner lt a j, swp_size]
    · rfl
theorem size_insOuter {α : Type} [Inhabited α] (lt : α → α → Bool) (a b : Nat) : ∀ (n i : Nat) (d : Array α), b - i ≤ n → (insOuter lt a b i d).size = d.size
  | 0, i, d, h => by unfold insOuter; rw [if_neg (by omega)]
  | n + 1, i, d, h => by
    unfold insOuter
    split
    · rw [size_insOuter lt a b n (i + 1) _ (by omega), size_insInner]
    · rfl
theorem size_insertionSort {α : Type} [Inhabited α] (lt : α → α → Bool) (d : Array α) (a b : Nat) : (Sort.insertionSort lt d a b).size = d.size := size_insOuter lt a b _ _ d (Nat.le_refl _)

theorem below_sortT {B : Nat} {w0 w : World} {g n : Nat} {d : Array (Int × Bool)} {os : Array Obj} (h : Below B w0 w) (hg : B ≤ g) (hB : B ≤ w.heap.size) : Below B w0 (sortWorldK encT 2 w g 0 n d os) := by
  unfold sortWorldK putRowK
  have h1 : Below B w0 (putRow id (Sort.ahead w n) g 0 (flatK encT 2 d)) := below_putRow h hg
  exact h1.trans (by
    have := below_grow B (putRow id (Sort.ahead w n) g 0 (flatK encT 2 d)) (by simpa using hB) 0 os
    exact this)

set_option maxRecDepth 100000 in
set_option maxHeartbeats 1000000 in
theorem turns_calls (k : Nat) (T : Int → Int × Int × Int) (s0 : Int) (s1 : Bool) (s2 : ByteArray) (d0 : Int) (d1 : Bool) (d2 : ByteArray) (bo : Bool) (a0 : Int) (a1 : Int) (a2 : Int) (a3 : Int) (a4 : Int) (e0 : Int) (e1 : Int) (e2 : Int) (e3 : Int) (e4 : Int) (y : Int) (w : World) (hG : GL w) (hy0 : -4611686018427387904 < y) (hy1 : y < 4611686018427387904)
    (hT : ∀ j : Nat, j < 3 → rule_Turns.f k s0 s1 s2 d0 d1 d2 bo a0 a1 a2 a3 a4 e0 e1 e2 e3 e4 (y - 1 + j) = some (T (y - 1 + j))) (hne : 0 < (rowsT T (y - 1) 3).length) :
    Calls Tryd.prog 35 #[.agg #[.int .i64 s0, .bool s1, .string s2, .int .i64 d0, .bool d1, .string d2, .bool bo, .int .i64 a0, .int .i64 a1, .int .i64 a2, .int .i64 a3, .int .i64 a4, .int .i64 e0, .int .i64 e1, .int .i64 e2, .int .i64 e3, .int .i64 e4], .int .i64 y] w fun e w' => ∃ g cap : Nat, e = .returned (.slice (some ⟨g, 0, none⟩) (rowsT T (y - 1) 3).length cap) ∧ w.heap.size ≤ g ∧ g < w'.heap.size ∧ HoldsK encT 2 w' g 0 (Sort.insertionSort (ltOf cfT) (rowsT T (y - 1) 3).toArray 0 (rowsT T (y - 1) 3).length) ∧ Below w.heap.size w w' := by
  obtain ⟨i0, hi, hz0, hz1, hz2⟩ := info_parts turnInfo
  have HG := Aside0.mk hG
  have HT := Aside0.mk hT
  have HNE := Aside0.mk hne
  clear hG hT hne
  go_enter Tryd.func35, Tryd.ntmps35
  go_wp2
  go_loopw [4, 5] (fun l i wr => ∃ (j : Nat), j ≤ 3 ∧ i = .int .i64 (y - 1 + j) ∧ wr.ownsRow (w.heap.size + 1) 62 2 l (rowsT T (y - 1) j).length (flatT (rowsT T (y - 1) j)) ∧ Below (w.heap.size + 1) (w.alloc (.cells #[.int .i64 s0, .bool s1, .string s2, .int .i64 d0, .bool d1, .string d2, .bool bo, .int .i64 a0, .int .i64 a1, .int .i64 a2, .int .i64 a3, .int .i64 a4, .int .i64 e0, .int .i64 e1, .int .i64 e2, .int .i64 e3, .int .i64 e4] 27)) wr) (fun _ i _ => (y + 2 - intOf i).toNat)
  case atStart => exact ⟨0, by omega, by simp, World.ownsRow_nil _ _ _ _, Below.refl _ _⟩
  case round =>
    obtain ⟨j, hj, rfl, hown, hb⟩ := hrel
    have hbw : Below w.heap.size w wr := (below_alloc (Below.refl _ _) _).trans (hb.mono (by simp))
    have hGr := HG.out.below hbw
    have hsz := hb.size
    simp at hsz
    have hc := box_cells hb
    have hc0_ : wr.cell? ⟨w.heap.size, 0, none⟩ = some (.int .i64 s0) := (hc 0).trans rfl
    have hc1_ : wr.cell? ⟨w.heap.size, 1, none⟩ = some (.bool s1) := (hc 1).trans rfl
    have hc2_ : wr.cell? ⟨w.heap.size, 2, none⟩ = some (.string s2) := (hc 2).trans rfl
    have hc3_ : wr.cell? ⟨w.heap.size, 3, none⟩ = some (.int .i64 d0) := (hc 3).trans rfl
    have hc4_ : wr.cell? ⟨w.heap.size, 4, none⟩ = some (.bool d1) := (hc 4).trans rfl
    have hc5_ : wr.cell? ⟨w.heap.size, 5, none⟩ = some (.string d2) := (hc 5).trans rfl
    have hc6_ : wr.cell? ⟨w.heap.size, 6, none⟩ = some (.bool bo) := (hc 6).trans rfl
    have hc7_ : wr.cell? ⟨w.heap.size, 7, none⟩ = some (.int .i64 a0) := (hc 7).trans rfl
    have hc8_ : wr.cell? ⟨w.heap.size, 8, none⟩ = some (.int .i64 a1) := (hc 8).trans rfl
    have hc9_ : wr.cell? ⟨w.heap.size, 9, none⟩ = some (.int .i64 a2) := (hc 9).trans rfl
    have hc10_ : wr.cell? ⟨w.heap.size, 10, none⟩ = some (.int .i64 a3) := (hc 10).trans rfl
    have hc11_ : wr.cell? ⟨w.heap.size, 11, none⟩ = some (.int .i64 a4) := (hc 11).trans rfl
    have hc12_ : wr.cell? ⟨w.heap.size, 12, none⟩ = some (.int .i64 e0) := (hc 12).trans rfl
    have hc13_ : wr.cell? ⟨w.heap.size, 13, none⟩ = some (.int .i64 e1) := (hc 13).trans rfl
    have hc14_ : wr.cell? ⟨w.heap.size, 14, none⟩ = some (.int .i64 e2) := (hc 14).trans rfl
    have hc15_ : wr.cell? ⟨w.heap.size, 15, none⟩ = some (.int .i64 e3) := (hc 15).trans rfl
    have hc16_ : wr.cell? ⟨w.heap.size, 16, none⟩ = some (.int .i64 e4) := (hc 16).trans rfl
    clear hc
    have HGr := Aside0.mk hGr
    have HOWN := Aside0.mk hown
    have HB := Aside0.mk hb
    clear hGr hown hb hbw
    by_cases hlt : j < 3
    · have hTj := HT.out j hlt
      obtain ⟨tt, htt⟩ : ∃ tt, tt = T (y - 1 + j) := ⟨_, rfl⟩
      have HS : Aside0 (rowsT T (y - 1) (j + 1) = rowsT T (y - 1) j ++ rowT tt) := ⟨by rw [htt]; rfl⟩
      rw [← htt] at hTj
      clear htt
      obtain ⟨p, q, e⟩ := tt
      have HTj := Aside0.mk hTj
      have hlen := rowsT_len T (y - 1) j
      clear hTj
      generalize hxs : rowsT T (y - 1) j = xs at HOWN HS hlen
      clear hxs
      by_cases he : e = 0
      · subst he
        have hcall := fun W (hG : GL W) => rule_Turns.calls k s0 s1 s2 d0 d1 d2 bo a0 a1 a2 a3 a4 e0 e1 e2 e3 e4 (y - 1 + j) p q 0 W hG HTj.out
        go_wp2_with (first | (go_at_call 14; refine (hcall _ HGr.out).mono ?_; rintro e w1 ⟨rfl, hb1⟩; have HB1 := Aside0.mk hb1; clear hb1) | (at_builtin; refine wpList_append_own _ rfl (.tmp 26) (.tmp 31) 58 rfl (w.heap.size + 1) 62 i0 (.agg #[.int .i64 0, .bool false]) 2 16 Tryd.underlying58 hi hz0 hz1 hz2 rfl (by decide) _ xs.length (flatT xs) rfl ((ownsRow_below HOWN.out HB1.out).alloc _) ⟨w1.heap.size, 0, none⟩ 2 2 [.int .i64 q, .bool false, .int .i64 p, .bool true] rfl rfl ?c1 ?c2 ?c3 ?c4 ?c5 ?_))
        case c1 => intro j u hu; match j, hu with
          | 0, hu => simp at hu; subst hu; simp only [Addr.add]; go_simp
          | 1, hu => simp at hu; subst hu; simp only [Addr.add]; go_simp
          | 2, hu => simp at hu; subst hu; simp only [Addr.add]; go_simp
          | 3, hu => simp at hu; subst hu; simp only [Addr.add]; go_simp
          | j + 4, hu => simp at hu
        case c2 => intro u hu; simp at hu; rcases hu with rfl | rfl | rfl | rfl <;> rfl
        case c3 => unfold maxLen; omega
        case c4 => omega
        case c5 => have := HB1.out.size; simp; omega
        intro v' w3 hown3 hgr _
        have HO3 : Aside0 (w3.ownsRow (w.heap.size + 1) 62 2 v' (rowsT T (y - 1) (j + 1)).length (flatT (rowsT T (y - 1) (j + 1)))) := ⟨by rw [HS.out, flatT_append]; simpa [rowT, flatT, encT] using hown3⟩
        have HB3 : Aside0 (Below (w.heap.size + 1) (w.alloc (.cells #[.int .i64 s0, .bool s1, .string s2, .int .i64 d0, .bool d1, .string d2, .bool bo, .int .i64 a0, .int .i64 a1, .int .i64 a2, .int .i64 a3, .int .i64 a4, .int .i64 e0, .int .i64 e1, .int .i64 e2, .int .i64 e3, .int .i64 e4] 27)) w3) := ⟨by
          have hs1 := HB1.out.size
          refine Below.grown (((HB.out.trans (HB1.out.mono (by omega))).alloc (by omega) _)) hgr (by simp; omega) ?_
          intro kk hk
          exact (HOWN.out.lt kk hk).1⟩
        clear hown3 hgr
        go_wp2
        go_roundw
        case rel => exact ⟨j + 1, by omega, by go_num, HO3.out, HB3.out⟩
        case measure => simp [intOf]; omega
      · have he1 : (e == 0) = false := by simpa using he
        have hcall := fun W (hG : GL W) => rule_Turns.calls k s0 s1 s2 d0 d1 d2 bo a0 a1 a2 a3 a4 e0 e1 e2 e3 e4 (y - 1 + j) p q e W hG HTj.out
        have HS2 : Aside0 (rowsT T (y - 1) (j + 1) = xs) := ⟨by rw [HS.out]; simp [rowT, he]⟩
        clear HS he
        go_wp2_with (go_at_call 14; refine (hcall _ HGr.out).mono ?_; rintro e w1 ⟨rfl, hb1⟩; have HB1 := Aside0.mk hb1; clear hb1)
        go_roundw
        case rel => exact ⟨j + 1, by omega, by go_num, by rw [HS2.out]; exact ownsRow_below HOWN.out HB1.out, HB.out.trans (HB1.out.mono (by omega))⟩
        case measure => simp [intOf]; omega
    · obtain rfl : j = 3 := by omega
      clear hlt hj
      generalize hxs : rowsT T (y - 1) 3 = xs at HOWN HNE
      have hlen : xs.length ≤ 6 := by rw [← hxs]; exact rowsT_len T (y - 1) 3
      have HX := Aside0.mk hxs
      clear hxs
      obtain ⟨g, cap, rfl⟩ := Go.Joins.ownsRow_form HOWN.out HNE.out
      have hgl := HOWN.out.lt g rfl
      have hH := holdsT_of HOWN.out rfl
      have hsort := sortTurns_calls g cap xs.toArray wr hH hgl.2 (by simp; omega)
      have HH := Aside0.mk hH
      have HSO := Aside0.mk hsort
      have HGL := Aside0.mk hgl
      clear hH hsort hgl
      have hcall := HSO.out
      simp only [List.size_toArray] at hcall
      have HC := Aside0.mk hcall
      clear hcall
      go_wp2_with (go_at_call 49; refine HC.out.mono ?_; rintro e w' ⟨rfl, q, os, rfl⟩)
      go_ret
      refine ⟨g, cap, by rw [HX.out]; rfl, by have := HGL.out.1; omega, ?_, ?_, ?_⟩
      · exact Nat.lt_of_lt_of_le HGL.out.2 (size_sortWorldK_c encT 2 wr g 0 q _ os)
      · rw [HX.out]; exact holdsK_sortWorldK_c encT 2 wr g 0 xs.toArray _ q os HH.out HGL.out.2 (size_insertionSort _ _ _ _)
      · exact below_sortT ((below_alloc (Below.refl _ _) _).trans (HB.out.mono (by omega))) (by have := HGL.out.1; omega) (by omega)
end Go.Proofs.YtgbehcahdgamoaaDoor.Fn

namespace Go.Proofs.YtgbehcahdgamoaaDoor.Fn
open Go.RowKit Go.Proofs.YtgbehcahdgamoaaDoorW.PrintWords Go.Proofs.YtgbehcahdgamoaaDoorW.PrintLast Go.Proofs.YtgbehcahdgamoaaDoorW.PrintMore Go.Lib Go.Sort

def foldT (t : Int) (l : List (Int × Bool)) (b : Bool) : Bool := l.foldl (fun b x => if x.1 ≤ t then x.2 else b) b
def firstT (l : List (Int × Bool)) : Int := (l[0]?.getD default).1
def dstT (t : Int) (l : List (Int × Bool)) : Bool := foldT t l (!(l.any fun x => x.2 && x.1 == firstT l))
def sortT (l : List (Int × Bool)) : List (Int × Bool) := (Sort.insertionSort (ltOf cfT) l.toArray 0 l.length).toList
theorem sortT_len (l : List (Int × Bool)) : (sortT l).length = l.length := by simp [sortT, size_insertionSort]

set_option maxHeartbeats 1000000 in
/-- The closure that asks whether a turn is a start at the first one's moment. -/
theorem atFirst (w : World) (B g n cap : Nat) (t0 : Int) (hn : 0 < n) (hl : w.cell? ⟨B, 0, none⟩ = some (.slice (some ⟨g, 0, none⟩) n cap)) (h0 : w.cell? ⟨g, 0, none⟩ = some (.int .i64 t0)) :
    PredBelow Tryd.prog 37 #[.pointer (some ⟨B, 0, none⟩)] (fun x : Int × Bool => .agg (encT x).toArray) (fun x => x.2 && x.1 == t0) w := fun W x hb => by
  obtain ⟨a, b⟩ := x
  have hl' : W.cell? ⟨B, 0, none⟩ = some (.slice (some ⟨g, 0, none⟩) n cap) := (hb.cell (p := ⟨B, 0, none⟩) (World.block_lt_of_cell? _ _ hl)).trans hl
  have h0' : W.cell? ⟨g, 0, none⟩ = some (.int .i64 t0) := (hb.cell (p := ⟨g, 0, none⟩) (World.block_lt_of_cell? _ _ h0)).trans h0
  show Calls Tryd.prog 37 #[.agg #[.int .i64 a, .bool b], .pointer (some ⟨B, 0, none⟩)] W _
  have HB := Aside0.mk hb
  have hg0 := World.block_lt_of_cell? _ _ h0'
  have hg1 := World.block_lt_of_cell? _ _ hl'
  have hg2 : g ≠ W.heap.size := by simp at hg0; omega
  have hg3 : B ≠ W.heap.size := by simp at hg1; omega
  clear hb hl h0
  have hnI : (0 : Int) < (n : Int) := by omega
  cases b
  · show Calls _ _ _ _ fun e w' => e = .returned (.bool false) ∧ Below w.heap.size w w'
    go_enter Tryd.func37, Tryd.ntmps37
    go_wp2
    go_quiet (fail)
    go_wp2
    go_ret
    exact ⟨rfl, by repeat (first | exact HB.out | apply pw_below_drewN | apply below_drew1 | apply below_alloc)⟩
  · show Calls _ _ _ _ fun e w' => e = .returned (.bool (true && a == t0)) ∧ Below w.heap.size w w'
    rw [Bool.true_and]
    go_enter Tryd.func37, Tryd.ntmps37
    go_wp2
    go_quiet (fail)
    go_wp2
    go_ret
    exact ⟨rfl, by repeat (first | exact HB.out | apply pw_below_drewN | apply below_drew1 | apply below_alloc)⟩

/-- rule.At, as a Lean function. -/
def rule_At.f (k : Nat) (s0 : Int) (s1 : Bool) (s2 : ByteArray) (d0 : Int) (d1 : Bool) (d2 : ByteArray) (bo : Bool) (a0 : Int) (a1 : Int) (a2 : Int) (a3 : Int) (a4 : Int) (e0 : Int) (e1 : Int) (e2 : Int) (e3 : Int) (e4 : Int) (t : Int) : Option (Int × Bool × ByteArray × Int) :=
  (posix_Right.f k s0 s1 s2 d0 d1 d2 bo a0 a1 a2 a3 a4 e0 e1 e2 e3 e4 true).bind fun ok => if ok = false then some (0, false, ⟨#[]⟩, 1) else if bo = false then some (s0, s1, s2, 0) else
    (number_Div.f t 86400).bind fun dv => (civil_Date.f dv.1).bind fun dt => if dt.2.2.2 = 0 then (if -4611686018427387904 < dt.1 ∧ dt.1 < 4611686018427387904 then
      (rule_Turns.f k s0 s1 s2 d0 d1 d2 bo a0 a1 a2 a3 a4 e0 e1 e2 e3 e4 (dt.1 - 1)).bind fun T0 => (rule_Turns.f k s0 s1 s2 d0 d1 d2 bo a0 a1 a2 a3 a4 e0 e1 e2 e3 e4 dt.1).bind fun T1 => (rule_Turns.f k s0 s1 s2 d0 d1 d2 bo a0 a1 a2 a3 a4 e0 e1 e2 e3 e4 (dt.1 + 1)).bind fun T2 =>
        if 0 < (rowT T0 ++ rowT T1 ++ rowT T2).length then (if dstT t (sortT (rowT T0 ++ rowT T1 ++ rowT T2)) = true then some (d0, d1, d2, 0) else some (s0, s1, s2, 0)) else none
      else none) else some (0, false, ⟨#[]⟩, dt.2.2.2)

set_option maxRecDepth 100000 in
set_option maxHeartbeats 1000000 in
theorem At_wrong (k : Nat) (s0 : Int) (s1 : Bool) (s2 : ByteArray) (d0 : Int) (d1 : Bool) (d2 : ByteArray) (bo : Bool) (a0 : Int) (a1 : Int) (a2 : Int) (a3 : Int) (a4 : Int) (e0 : Int) (e1 : Int) (e2 : Int) (e3 : Int) (e4 : Int) (t : Int) (w : World) (h : posix_Right.f k s0 s1 s2 d0 d1 d2 bo a0 a1 a2 a3 a4 e0 e1 e2 e3 e4 true = some false) :
    Calls Tryd.prog 16 #[.agg #[.int .i64 s0, .bool s1, .string s2, .int .i64 d0, .bool d1, .string d2, .bool bo, .int .i64 a0, .int .i64 a1, .int .i64 a2, .int .i64 a3, .int .i64 a4, .int .i64 e0, .int .i64 e1, .int .i64 e2, .int .i64 e3, .int .i64 e4], .int .i64 t] w fun e w' => e = .returned (.tuple #[.agg #[.int .i64 0, .bool false, .string ⟨#[]⟩], .int .i64 1]) ∧ Below w.heap.size w w' := by
  have HC := Aside0.mk (fun W => posix_Right.calls k s0 s1 s2 d0 d1 d2 bo a0 a1 a2 a3 a4 e0 e1 e2 e3 e4 true false W h)
  clear h
  go_enter Tryd.func16, Tryd.ntmps16
  go_wp2_with ((with_reducible refine gate_dst (N := 17) rfl ?_); refine wpList_load_row rfl 27 _ rfl w.heap.size rfl 27 #[.int .i64 s0, .bool s1, .string s2, .int .i64 d0, .bool d1, .string d2, .bool bo, .int .i64 a0, .int .i64 a1, .int .i64 a2, .int .i64 a3, .int .i64 a4, .int .i64 e0, .int .i64 e1, .int .i64 e2, .int .i64 e3, .int .i64 e4] (0, 0) _ (blk_alloc (blk_new _ _) _) Tryd.underlying27 rfl (by kernel_rfl) ?_)
  refine (HC.out _).mono ?_
  rintro e w1 ⟨rfl, hb1⟩
  have BK := blk_below (blk_new _ _) hb1
  simp only [World.size_alloc] at BK
  have HBw := Aside0.mk ((below_alloc (below_alloc (Below.refl _ _) _) _).trans (hb1.mono (by simp; omega)))
  have hk0_ : w1.cell? ⟨w.heap.size+1, 0, none⟩ = some (.int .i64 0) := (blk_cell BK 0).trans rfl
  have hk1_ : w1.cell? ⟨w.heap.size+1, 1, none⟩ = some (.bool false) := (blk_cell BK 1).trans rfl
  have hk2_ : w1.cell? ⟨w.heap.size+1, 2, none⟩ = some (.string (⟨#[]⟩ : ByteArray)) := (blk_cell BK 2).trans rfl
  have hf0_ : w1.frozen? ⟨w.heap.size+1, 0, none⟩ = false := blk_frozen BK 0
  have hf1_ : w1.frozen? ⟨w.heap.size+1, 1, none⟩ = false := blk_frozen BK 1
  have hf2_ : w1.frozen? ⟨w.heap.size+1, 2, none⟩ = false := blk_frozen BK 2
  have BK1 := Aside0.mk BK
  clear hb1 BK HC
  go_wp2
  refine bodyPost_ret (results_ct rfl _ _ (w.heap.size+1) 23 #[.int .i64 (0), .bool false, .string (⟨#[]⟩)] (0, 0) _ rfl (by (with_reducible repeat (first | refine blk_drewN ?_ _ | refine blk_drew ?_ | refine blk_alloc ?_ _)); refine blk_put (cs := #[.int .i64 (0), .bool false, .string (⟨#[]⟩ : ByteArray)]) ?_ 2 _ rfl; (with_reducible repeat (first | refine blk_drewN ?_ _ | refine blk_drew ?_ | refine blk_alloc ?_ _)); refine blk_put (cs := #[.int .i64 (0), .bool false, .string (⟨#[]⟩ : ByteArray)]) ?_ 1 _ rfl; (with_reducible repeat (first | refine blk_drewN ?_ _ | refine blk_drew ?_ | refine blk_alloc ?_ _)); refine blk_put (cs := #[.int .i64 0, .bool false, .string (⟨#[]⟩ : ByteArray)]) ?_ 0 _ rfl; (with_reducible repeat (first | refine blk_drewN ?_ _ | refine blk_drew ?_ | refine blk_alloc ?_ _)); exact BK1.out) Tryd.underlying23 rfl (by kernel_rfl)) rfl ?_
  exact ⟨rfl, (by repeat (first | exact HBw.out | apply pw_below_drewN | apply below_drew1 | apply below_alloc | refine below_set ?_ (by omega)))⟩

set_option maxRecDepth 100000 in
set_option maxHeartbeats 1000000 in
theorem At_one (k : Nat) (s0 : Int) (s1 : Bool) (s2 : ByteArray) (d0 : Int) (d1 : Bool) (d2 : ByteArray) (a0 : Int) (a1 : Int) (a2 : Int) (a3 : Int) (a4 : Int) (e0 : Int) (e1 : Int) (e2 : Int) (e3 : Int) (e4 : Int) (t : Int) (w : World) (bo : Bool) (hbo : bo = false) (h : posix_Right.f k s0 s1 s2 d0 d1 d2 bo a0 a1 a2 a3 a4 e0 e1 e2 e3 e4 true = some true) :
    Calls Tryd.prog 16 #[.agg #[.int .i64 s0, .bool s1, .string s2, .int .i64 d0, .bool d1, .string d2, .bool bo, .int .i64 a0, .int .i64 a1, .int .i64 a2, .int .i64 a3, .int .i64 a4, .int .i64 e0, .int .i64 e1, .int .i64 e2, .int .i64 e3, .int .i64 e4], .int .i64 t] w fun e w' => e = .returned (.tuple #[.agg #[.int .i64 s0, .bool s1, .string s2], .int .i64 0]) ∧ Below w.heap.size w w' := by
  subst hbo
  have HC := Aside0.mk (fun W => posix_Right.calls k s0 s1 s2 d0 d1 d2 false a0 a1 a2 a3 a4 e0 e1 e2 e3 e4 true true W h)
  clear h
  go_enter Tryd.func16, Tryd.ntmps16
  go_wp2_with ((with_reducible refine gate_dst (N := 17) rfl ?_); refine wpList_load_row rfl 27 _ rfl w.heap.size rfl 27 #[.int .i64 s0, .bool s1, .string s2, .int .i64 d0, .bool d1, .string d2, .bool false, .int .i64 a0, .int .i64 a1, .int .i64 a2, .int .i64 a3, .int .i64 a4, .int .i64 e0, .int .i64 e1, .int .i64 e2, .int .i64 e3, .int .i64 e4] (0, 0) _ (blk_alloc (blk_new _ _) _) Tryd.underlying27 rfl (by kernel_rfl) ?_)
  refine (HC.out _).mono ?_
  rintro e w1 ⟨rfl, hb1⟩
  have BK := blk_below (blk_new _ _) hb1
  simp only [World.size_alloc] at BK
  have BR := blk_below (blk_alloc (blk_new _ _) _) hb1
  have HBw := Aside0.mk ((below_alloc (below_alloc (Below.refl _ _) _) _).trans (hb1.mono (by simp; omega)))
  have hk0_ : w1.cell? ⟨w.heap.size+1, 0, none⟩ = some (.int .i64 0) := (blk_cell BK 0).trans rfl
  have hk1_ : w1.cell? ⟨w.heap.size+1, 1, none⟩ = some (.bool false) := (blk_cell BK 1).trans rfl
  have hk2_ : w1.cell? ⟨w.heap.size+1, 2, none⟩ = some (.string (⟨#[]⟩ : ByteArray)) := (blk_cell BK 2).trans rfl
  have hf0_ : w1.frozen? ⟨w.heap.size+1, 0, none⟩ = false := blk_frozen BK 0
  have hf1_ : w1.frozen? ⟨w.heap.size+1, 1, none⟩ = false := blk_frozen BK 1
  have hf2_ : w1.frozen? ⟨w.heap.size+1, 2, none⟩ = false := blk_frozen BK 2
  have hr0 : w1.cell? ⟨w.heap.size, 0, none⟩ = some (.int .i64 s0) := (blk_cell BR 0).trans rfl
  have hr1 : w1.cell? ⟨w.heap.size, 1, none⟩ = some (.bool s1) := (blk_cell BR 1).trans rfl
  have hr2 : w1.cell? ⟨w.heap.size, 2, none⟩ = some (.string s2) := (blk_cell BR 2).trans rfl
  have hr6 : w1.cell? ⟨w.heap.size, 6, none⟩ = some (.bool false) := (blk_cell BR 6).trans rfl
  have BK1 := Aside0.mk BK
  clear hb1 BK HC BR
  go_wp2
  refine bodyPost_ret (results_ct rfl _ _ (w.heap.size+1) 23 #[.int .i64 (s0), .bool s1, .string s2] (0, 0) _ rfl (by (with_reducible repeat (first | refine blk_drewN ?_ _ | refine blk_drew ?_ | refine blk_alloc ?_ _)); refine blk_put (cs := #[.int .i64 (s0), .bool s1, .string (⟨#[]⟩ : ByteArray)]) ?_ 2 _ rfl; (with_reducible repeat (first | refine blk_drewN ?_ _ | refine blk_drew ?_ | refine blk_alloc ?_ _)); refine blk_put (cs := #[.int .i64 (s0), .bool false, .string (⟨#[]⟩ : ByteArray)]) ?_ 1 _ rfl; (with_reducible repeat (first | refine blk_drewN ?_ _ | refine blk_drew ?_ | refine blk_alloc ?_ _)); refine blk_put (cs := #[.int .i64 0, .bool false, .string (⟨#[]⟩ : ByteArray)]) ?_ 0 _ rfl; (with_reducible repeat (first | refine blk_drewN ?_ _ | refine blk_drew ?_ | refine blk_alloc ?_ _)); exact BK1.out) Tryd.underlying23 rfl (by kernel_rfl)) rfl ?_
  exact ⟨rfl, (by repeat (first | exact HBw.out | apply pw_below_drewN | apply below_drew1 | apply below_alloc | refine below_set ?_ (by omega)))⟩

set_option maxRecDepth 100000 in
set_option maxHeartbeats 1000000 in
theorem At_err (k : Nat) (s0 : Int) (s1 : Bool) (s2 : ByteArray) (d0 : Int) (d1 : Bool) (d2 : ByteArray) (a0 : Int) (a1 : Int) (a2 : Int) (a3 : Int) (a4 : Int) (e0 : Int) (e1 : Int) (e2 : Int) (e3 : Int) (e4 : Int) (t : Int) (w : World) (bo : Bool) (hbo : bo = true) (h : posix_Right.f k s0 s1 s2 d0 d1 d2 bo a0 a1 a2 a3 a4 e0 e1 e2 e3 e4 true = some true)
    (v0 v1 : Int) (v2 : Bool) (hv : number_Div.f t 86400 = some (v0, v1, v2)) (y m d er : Int) (hd : civil_Date.f v0 = some (y, m, d, er)) (her : er ≠ 0) :
    Calls Tryd.prog 16 #[.agg #[.int .i64 s0, .bool s1, .string s2, .int .i64 d0, .bool d1, .string d2, .bool bo, .int .i64 a0, .int .i64 a1, .int .i64 a2, .int .i64 a3, .int .i64 a4, .int .i64 e0, .int .i64 e1, .int .i64 e2, .int .i64 e3, .int .i64 e4], .int .i64 t] w fun e w' => e = .returned (.tuple #[.agg #[.int .i64 0, .bool false, .string ⟨#[]⟩], .int .i64 er]) ∧ Below w.heap.size w w' := by
  subst hbo
  have HC := Aside0.mk (fun W => posix_Right.calls k s0 s1 s2 d0 d1 d2 true a0 a1 a2 a3 a4 e0 e1 e2 e3 e4 true true W h)
  have HV := Aside0.mk (fun W => number_Div.calls t 86400 v0 v1 v2 W hv)
  have HD := Aside0.mk (fun W => civil_Date.calls v0 y m d er W hd)
  have hne : (er != 0) = true := by simpa using her
  clear h hv hd her
  go_enter Tryd.func16, Tryd.ntmps16
  go_wp2_with ((with_reducible refine gate_dst (N := 17) rfl ?_); refine wpList_load_row rfl 27 _ rfl w.heap.size rfl 27 #[.int .i64 s0, .bool s1, .string s2, .int .i64 d0, .bool d1, .string d2, .bool true, .int .i64 a0, .int .i64 a1, .int .i64 a2, .int .i64 a3, .int .i64 a4, .int .i64 e0, .int .i64 e1, .int .i64 e2, .int .i64 e3, .int .i64 e4] (0, 0) _ (blk_alloc (blk_new _ _) _) Tryd.underlying27 rfl (by kernel_rfl) ?_)
  refine (HC.out _).mono ?_
  rintro e w1 ⟨rfl, hb1⟩
  have BK := blk_below (blk_new _ _) hb1
  simp only [World.size_alloc] at BK
  have BR := blk_below (blk_alloc (blk_new _ _) _) hb1
  have HBw := Aside0.mk ((below_alloc (below_alloc (Below.refl _ _) _) _).trans (hb1.mono (by simp; omega)))
  have hk0_ : w1.cell? ⟨w.heap.size+1, 0, none⟩ = some (.int .i64 0) := (blk_cell BK 0).trans rfl
  have hk1_ : w1.cell? ⟨w.heap.size+1, 1, none⟩ = some (.bool false) := (blk_cell BK 1).trans rfl
  have hk2_ : w1.cell? ⟨w.heap.size+1, 2, none⟩ = some (.string (⟨#[]⟩ : ByteArray)) := (blk_cell BK 2).trans rfl
  have hf0_ : w1.frozen? ⟨w.heap.size+1, 0, none⟩ = false := blk_frozen BK 0
  have hf1_ : w1.frozen? ⟨w.heap.size+1, 1, none⟩ = false := blk_frozen BK 1
  have hf2_ : w1.frozen? ⟨w.heap.size+1, 2, none⟩ = false := blk_frozen BK 2
  have hr6 : w1.cell? ⟨w.heap.size, 6, none⟩ = some (.bool true) := (blk_cell BR 6).trans rfl
  have BK1 := Aside0.mk BK
  clear hb1 BK HC BR
  go_wp2_with (first | (go_at_call 34; refine (HV.out _).mono ?_; rintro e w' ⟨rfl, ⟨nd, rfl⟩⟩) | (go_at_call 21; refine (HD.out _).mono ?_; rintro e w' ⟨rfl, ⟨nd, rfl⟩⟩))
  refine bodyPost_ret (results_ct rfl _ _ (w.heap.size+1) 23 #[.int .i64 (0), .bool false, .string (⟨#[]⟩)] (0, 0) _ rfl (by (with_reducible repeat (first | refine blk_drewN ?_ _ | refine blk_drew ?_ | refine blk_alloc ?_ _)); refine blk_put (cs := #[.int .i64 (0), .bool false, .string (⟨#[]⟩ : ByteArray)]) ?_ 2 _ rfl; (with_reducible repeat (first | refine blk_drewN ?_ _ | refine blk_drew ?_ | refine blk_alloc ?_ _)); refine blk_put (cs := #[.int .i64 (0), .bool false, .string (⟨#[]⟩ : ByteArray)]) ?_ 1 _ rfl; (with_reducible repeat (first | refine blk_drewN ?_ _ | refine blk_drew ?_ | refine blk_alloc ?_ _)); refine blk_put (cs := #[.int .i64 0, .bool false, .string (⟨#[]⟩ : ByteArray)]) ?_ 0 _ rfl; (with_reducible repeat (first | refine blk_drewN ?_ _ | refine blk_drew ?_ | refine blk_alloc ?_ _)); exact BK1.out) Tryd.underlying23 rfl (by kernel_rfl)) rfl ?_
  exact ⟨rfl, (by repeat (first | exact HBw.out | apply pw_below_drewN | apply below_drew1 | apply below_alloc | refine below_set ?_ (by omega)))⟩

theorem cells_T {w : World} {g : Nat} {l : List (Int × Bool)} (h : HoldsK encT 2 w g 0 (Sort.insertionSort (ltOf cfT) l.toArray 0 l.length)) (i : Nat) (hi : i < (sortT l).length) :
    w.cell? ⟨g, i * 2, none⟩ = some (.int .i64 ((sortT l)[i]?.getD default).1) ∧ w.cell? ⟨g, i * 2 + 1, none⟩ = some (.bool ((sortT l)[i]?.getD default).2) := by
  have hs : i < (Sort.insertionSort (ltOf cfT) l.toArray 0 l.length).size := by rw [size_insertionSort]; rw [sortT_len] at hi; simpa using hi
  have h0 := (h.cell hs (show 0 < 2 by omega)).1
  have h1 := (h.cell hs (show 1 < 2 by omega)).1
  have e : (Sort.insertionSort (ltOf cfT) l.toArray 0 l.length)[i]! = (sortT l)[i]?.getD default := by
    unfold sortT
    rw [getElem!_pos (Sort.insertionSort (ltOf cfT) l.toArray 0 l.length) i hs]
    simp [hs]
  rw [e] at h0 h1
  refine ⟨?_, ?_⟩
  · simpa [encT] using h0
  · simpa [encT] using h1

theorem foldT_step (t : Int) (l : List (Int × Bool)) (b : Bool) (i : Nat) (hi : i < l.length) : foldT t (l.take (i + 1)) b = if (l[i]?.getD default).1 ≤ t then (l[i]?.getD default).2 else foldT t (l.take i) b := by
  rw [List.take_succ_eq_append_getElem hi]
  unfold foldT
  rw [List.foldl_append]
  simp [hi]

end Go.Proofs.YtgbehcahdgamoaaDoor.Fn

namespace Go.Proofs.YtgbehcahdgamoaaDoor.Fn
open Go.RowKit Go.Proofs.YtgbehcahdgamoaaDoorW.PrintWords Go.Proofs.YtgbehcahdgamoaaDoorW.PrintLast Go.Proofs.YtgbehcahdgamoaaDoorW.PrintMore Go.Lib Go.Sort

/-- One of two values. -/
def pickV (b : Bool) (x y : Value) : Value := if b = true then x else y

/-- A slice of turns that reads as a list. -/
def CellsT (w : World) (g : Nat) (xs : List (Int × Bool)) : Prop := ∀ i, i < xs.length → w.cell? ⟨g, i * 2, none⟩ = some (.int .i64 (xs[i]?.getD default).1) ∧ w.cell? ⟨g, i * 2 + 1, none⟩ = some (.bool (xs[i]?.getD default).2)
theorem CellsT.below {w w' : World} {g : Nat} {xs : List (Int × Bool)} (h : CellsT w g xs) (hb : Below w.heap.size w w') : CellsT w' g xs := fun i hi =>
  ⟨(hb.cell (p := ⟨g, i * 2, none⟩) (World.block_lt_of_cell? _ _ (h i hi).1)).trans (h i hi).1, (hb.cell (p := ⟨g, i * 2 + 1, none⟩) (World.block_lt_of_cell? _ _ (h i hi).2)).trans (h i hi).2⟩

theorem contT_calls (W : World) (B g cap : Nat) (xs : List (Int × Bool)) (h0 : 0 < xs.length) (h6 : xs.length ≤ 6) (hl : W.cell? ⟨B, 0, none⟩ = some (.slice (some ⟨g, 0, none⟩) xs.length cap)) (hc : CellsT W g xs) :
    Calls Tryd.prog 36 #[.slice (some ⟨g, 0, none⟩) xs.length cap, .func (.func 37) #[] #[.pointer (some ⟨B, 0, none⟩)]] W fun e w' => e = .returned (.bool (xs.any fun x => x.2 && x.1 == firstT xs)) ∧ Below W.heap.size W w' := by
  have hp := atFirst W B g xs.length cap (firstT xs) h0 hl (by have := (hc 0 h0).1; simpa [firstT] using this)
  have h := AnyQ.slices_ContainsFunc Tryd.contTurn 2 Tryd.isAgg62 Tryd.sizeOf62 encT (fun _ => rfl) (fun x => x.2 && x.1 == firstT xs) 37 #[.pointer (some ⟨B, 0, none⟩)] (enters_of Tryd.func37 (by kernel_rfl) rfl) g 0 xs.length cap xs W hp (Nat.le_refl _) (by omega)
    (World.block_lt_of_cell? _ _ (hc 0 h0).1) (by
      intro j hj i v hv
      have e : xs[j]! = xs[j]?.getD default := by simp [hj]
      rw [e] at hv
      match i, hv with
      | 0, hv => simp [encT] at hv; subst hv; simpa using (hc j hj).1
      | 1, hv => simp [encT] at hv; subst hv; simpa using (hc j hj).2
      | i + 2, hv => simp [encT] at hv)
  rw [List.take_length] at h
  exact h

set_option maxRecDepth 100000 in
set_option maxHeartbeats 2000000 in
theorem At_two (k : Nat) (xs : List (Int × Bool)) (s0 : Int) (s1 : Bool) (s2 : ByteArray) (d0 : Int) (d1 : Bool) (d2 : ByteArray) (a0 : Int) (a1 : Int) (a2 : Int) (a3 : Int) (a4 : Int) (e0 : Int) (e1 : Int) (e2 : Int) (e3 : Int) (e4 : Int) (t : Int) (w : World) (hG : GL w) (h : posix_Right.f k s0 s1 s2 d0 d1 d2 true a0 a1 a2 a3 a4 e0 e1 e2 e3 e4 true = some true)
    (v0 v1 : Int) (v2 : Bool) (hv : number_Div.f t 86400 = some (v0, v1, v2)) (y m d : Int) (hd : civil_Date.f v0 = some (y, m, d, 0)) (hL : 0 < xs.length) (hL2 : xs.length ≤ 6)
    (hT : ∀ W, GL W → Calls Tryd.prog 35 #[.agg #[.int .i64 s0, .bool s1, .string s2, .int .i64 d0, .bool d1, .string d2, .bool true, .int .i64 a0, .int .i64 a1, .int .i64 a2, .int .i64 a3, .int .i64 a4, .int .i64 e0, .int .i64 e1, .int .i64 e2, .int .i64 e3, .int .i64 e4], .int .i64 y] W fun e w' => ∃ g cap : Nat, e = .returned (.slice (some ⟨g, 0, none⟩) xs.length cap) ∧ CellsT w' g xs ∧ Below W.heap.size W w') :
    Calls Tryd.prog 16 #[.agg #[.int .i64 s0, .bool s1, .string s2, .int .i64 d0, .bool d1, .string d2, .bool true, .int .i64 a0, .int .i64 a1, .int .i64 a2, .int .i64 a3, .int .i64 a4, .int .i64 e0, .int .i64 e1, .int .i64 e2, .int .i64 e3, .int .i64 e4], .int .i64 t] w fun e w' => e = .returned (.tuple #[pickV (dstT t xs) (.agg #[.int .i64 d0, .bool d1, .string d2]) (.agg #[.int .i64 s0, .bool s1, .string s2]), .int .i64 0]) ∧ Below w.heap.size w w' := by
  have HC := Aside0.mk (fun W => posix_Right.calls k s0 s1 s2 d0 d1 d2 true a0 a1 a2 a3 a4 e0 e1 e2 e3 e4 true true W h)
  have HV := Aside0.mk (fun W => number_Div.calls t 86400 v0 v1 v2 W hv)
  have HD := Aside0.mk (fun W => civil_Date.calls v0 y m d 0 W hd)
  have HT := Aside0.mk hT
  have HG := Aside0.mk hG
  clear h hv hd hG hT
  go_enter Tryd.func16, Tryd.ntmps16
  go_wp2_with ((with_reducible refine gate_dst (N := 17) rfl ?_); refine wpList_load_row rfl 27 _ rfl w.heap.size rfl 27 #[.int .i64 s0, .bool s1, .string s2, .int .i64 d0, .bool d1, .string d2, .bool true, .int .i64 a0, .int .i64 a1, .int .i64 a2, .int .i64 a3, .int .i64 a4, .int .i64 e0, .int .i64 e1, .int .i64 e2, .int .i64 e3, .int .i64 e4] (0, 0) _ (blk_alloc (blk_new _ _) _) Tryd.underlying27 rfl (by kernel_rfl) ?_)
  refine (HC.out _).mono ?_
  rintro e w1 ⟨rfl, hb1⟩
  have BK := blk_below (blk_new _ _) hb1
  simp only [World.size_alloc] at BK
  have BR := blk_below (blk_alloc (blk_new _ _) _) hb1
  have HBw := Aside0.mk ((below_alloc (below_alloc (Below.refl _ _) _) _).trans (hb1.mono (by simp; omega)))
  have hr6 : w1.cell? ⟨w.heap.size, 6, none⟩ = some (.bool true) := (blk_cell BR 6).trans rfl
  have BK1 := Aside0.mk BK
  have BR1 := Aside0.mk BR
  clear hb1 BK HC BR
  go_wp2_with (first | ((with_reducible refine gate_dst (N := 43) rfl ?_); refine wpList_load_row rfl 27 _ rfl w.heap.size rfl 27 #[.int .i64 s0, .bool s1, .string s2, .int .i64 d0, .bool d1, .string d2, .bool true, .int .i64 a0, .int .i64 a1, .int .i64 a2, .int .i64 a3, .int .i64 a4, .int .i64 e0, .int .i64 e1, .int .i64 e2, .int .i64 e3, .int .i64 e4] (0, 0) _ (blk_drewN BR1.out _) Tryd.underlying27 rfl (by kernel_rfl) ?_) | (go_at_call 34; refine (HV.out _).mono ?_; rintro e w' ⟨rfl, ⟨nd, rfl⟩⟩) | (go_at_call 21; refine (HD.out _).mono ?_; rintro e w' ⟨rfl, ⟨nd, rfl⟩⟩))
  refine (HT.out _ (HG.out.below (by repeat (first | exact HBw.out | apply pw_below_drewN | apply below_drew1 | apply below_alloc | refine below_set ?_ (by omega))))).mono ?_
  rintro e w2 ⟨g, cap, rfl, hct, hb2⟩
  have hb2' : Below w1.heap.size w1 w2 := (pw_below_drewN (Below.refl _ _) _).trans (hb2.mono (Nat.le_refl _))
  have BK := blk_below BK1.out hb2'
  have BR := blk_below BR1.out hb2'
  have HBw2 := Aside0.mk (HBw.out.trans (hb2'.mono HBw.out.size))
  have HCT := Aside0.mk hct
  clear hb2 hb2' BK1 BR1 HBw HT HV HD HG hct hr6
  have BK2 := Aside0.mk BK
  have BR2 := Aside0.mk BR
  clear BK BR
  go_wp2_with fail
  refine (contT_calls _ w2.heap.size g cap xs hL hL2 (by go_simp) (HCT.out.below (below_alloc (Below.refl _ _) _))).mono ?_
  rintro e w3 ⟨rfl, hb3⟩
  have hb3' : Below w2.heap.size w2 w3 := (below_alloc (Below.refl _ _) _).trans (hb3.mono (by simp))
  have hl3 : w3.cell? ⟨w2.heap.size, 0, none⟩ = some (.slice (some ⟨g, 0, none⟩) xs.length cap) := (hb3.cell (p := ⟨w2.heap.size, 0, none⟩) (by simp)).trans (by go_simp)
  have HCT3 := Aside0.mk (HCT.out.below hb3')
  have HBw3 := Aside0.mk (HBw2.out.trans (hb3'.mono HBw2.out.size))
  have BK3 := Aside0.mk (blk_below BK2.out hb3')
  have BR3 := Aside0.mk (blk_below BR2.out hb3')
  clear hb3 hb3' HCT HBw2 BK2 BR2
  obtain ⟨b0, hb0⟩ : ∃ b0, b0 = !(xs.any fun x => x.2 && x.1 == firstT xs) := ⟨_, rfl⟩
  have HB0 := Aside0.mk hb0
  go_wp2_with fail
  rw [← hb0]
  clear hb0
  go_loopw [14, 52] (fun ds i wr => ∃ (j : Nat), j ≤ xs.length ∧ i = .int .i64 j ∧ ds = .bool (foldT t (xs.take j) b0) ∧ Below w3.heap.size w3 wr) (fun _ i _ => (xs.length - intOf i).toNat)
  case atStart => exact ⟨0, by omega, rfl, rfl, Below.refl _ _⟩
  case round =>
    obtain ⟨j, hj, rfl, rfl, hb⟩ := hrel
    have hsz := hb.size
    by_cases hlt : j < xs.length
    · have hcc := (HCT3.out.below hb) j hlt
      obtain ⟨hc0, hc1⟩ := hcc
      have HS := Aside0.mk (foldT_step t xs b0 j hlt)
      generalize xs[j]?.getD default = x at hc0 hc1 HS
      obtain ⟨a, b⟩ := x
      have HB := Aside0.mk hb
      clear hb
      by_cases hle : a ≤ t
      · have HS2 : Aside0 (foldT t (xs.take (j + 1)) b0 = b) := ⟨by rw [HS.out, if_pos hle]⟩
        clear HS
        go_wp2
        go_roundw
        case rel => exact ⟨j + 1, by omega, by go_num, by rw [HS2.out], (by repeat (first | exact HB.out | apply pw_below_drewN | apply below_drew1 | apply below_alloc | refine below_set ?_ (by omega)))⟩
        case measure => simp [intOf]; omega
      · have HS2 : Aside0 (foldT t (xs.take (j + 1)) b0 = foldT t (xs.take j) b0) := ⟨by rw [HS.out, if_neg hle]⟩
        clear HS
        go_wp2
        go_roundw
        case rel => exact ⟨j + 1, by omega, by go_num, by rw [HS2.out], (by repeat (first | exact HB.out | apply pw_below_drewN | apply below_drew1 | apply below_alloc | refine below_set ?_ (by omega)))⟩
        case measure => simp [intOf]; omega
    · obtain rfl : j = xs.length := by omega
      have HBr := Aside0.mk (HBw3.out.trans (hb.mono HBw3.out.size))
      have BKr := blk_below BK3.out hb
      have BRr := blk_below BR3.out hb
      have BK4 := Aside0.mk BKr
      have hds : foldT t (xs.take xs.length) b0 = dstT t xs := by rw [List.take_length, HB0.out]; rfl
      have hk0_ : wr.cell? ⟨w.heap.size+1, 0, none⟩ = some (.int .i64 0) := (blk_cell BKr 0).trans rfl
      have hk1_ : wr.cell? ⟨w.heap.size+1, 1, none⟩ = some (.bool false) := (blk_cell BKr 1).trans rfl
      have hk2_ : wr.cell? ⟨w.heap.size+1, 2, none⟩ = some (.string (⟨#[]⟩ : ByteArray)) := (blk_cell BKr 2).trans rfl
      have hf0_ : wr.frozen? ⟨w.heap.size+1, 0, none⟩ = false := blk_frozen BKr 0
      have hf1_ : wr.frozen? ⟨w.heap.size+1, 1, none⟩ = false := blk_frozen BKr 1
      have hf2_ : wr.frozen? ⟨w.heap.size+1, 2, none⟩ = false := blk_frozen BKr 2
      have hr0 : wr.cell? ⟨w.heap.size, 0, none⟩ = some (.int .i64 s0) := (blk_cell BRr 0).trans rfl
      have hr1 : wr.cell? ⟨w.heap.size, 1, none⟩ = some (.bool s1) := (blk_cell BRr 1).trans rfl
      have hr2 : wr.cell? ⟨w.heap.size, 2, none⟩ = some (.string s2) := (blk_cell BRr 2).trans rfl
      have hr3 : wr.cell? ⟨w.heap.size, 3, none⟩ = some (.int .i64 d0) := (blk_cell BRr 3).trans rfl
      have hr4 : wr.cell? ⟨w.heap.size, 4, none⟩ = some (.bool d1) := (blk_cell BRr 4).trans rfl
      have hr5 : wr.cell? ⟨w.heap.size, 5, none⟩ = some (.string d2) := (blk_cell BRr 5).trans rfl
      clear BKr BRr hb hlt hj HCT3 HBw3 BK3 BR3
      rw [hds]
      clear hds HB0
      generalize hr : dstT t xs = r
      have HR := Aside0.mk hr
      clear hr
      cases r
      · go_wp2
        refine bodyPost_ret (results_ct rfl _ _ (w.heap.size+1) 23 #[.int .i64 (s0), .bool s1, .string s2] (0, 0) _ rfl (by (with_reducible repeat (first | refine blk_drewN ?_ _ | refine blk_drew ?_ | refine blk_alloc ?_ _)); refine blk_put (cs := #[.int .i64 (s0), .bool s1, .string (⟨#[]⟩ : ByteArray)]) ?_ 2 _ rfl; (with_reducible repeat (first | refine blk_drewN ?_ _ | refine blk_drew ?_ | refine blk_alloc ?_ _)); refine blk_put (cs := #[.int .i64 (s0), .bool false, .string (⟨#[]⟩ : ByteArray)]) ?_ 1 _ rfl; (with_reducible repeat (first | refine blk_drewN ?_ _ | refine blk_drew ?_ | refine blk_alloc ?_ _)); refine blk_put (cs := #[.int .i64 0, .bool false, .string (⟨#[]⟩ : ByteArray)]) ?_ 0 _ rfl; (with_reducible repeat (first | refine blk_drewN ?_ _ | refine blk_drew ?_ | refine blk_alloc ?_ _)); exact BK4.out) Tryd.underlying23 rfl (by kernel_rfl)) rfl ?_
        exact ⟨by rw [HR.out]; rfl, (by repeat (first | exact HBr.out | apply pw_below_drewN | apply below_drew1 | apply below_alloc | refine below_set ?_ (by omega)))⟩
      · go_wp2
        refine bodyPost_ret (results_ct rfl _ _ (w.heap.size+1) 23 #[.int .i64 (d0), .bool d1, .string d2] (0, 0) _ rfl (by (with_reducible repeat (first | refine blk_drewN ?_ _ | refine blk_drew ?_ | refine blk_alloc ?_ _)); refine blk_put (cs := #[.int .i64 (d0), .bool d1, .string (⟨#[]⟩ : ByteArray)]) ?_ 2 _ rfl; (with_reducible repeat (first | refine blk_drewN ?_ _ | refine blk_drew ?_ | refine blk_alloc ?_ _)); refine blk_put (cs := #[.int .i64 (d0), .bool false, .string (⟨#[]⟩ : ByteArray)]) ?_ 1 _ rfl; (with_reducible repeat (first | refine blk_drewN ?_ _ | refine blk_drew ?_ | refine blk_alloc ?_ _)); refine blk_put (cs := #[.int .i64 0, .bool false, .string (⟨#[]⟩ : ByteArray)]) ?_ 0 _ rfl; (with_reducible repeat (first | refine blk_drewN ?_ _ | refine blk_drew ?_ | refine blk_alloc ?_ _)); exact BK4.out) Tryd.underlying23 rfl (by kernel_rfl)) rfl ?_
        exact ⟨by rw [HR.out]; rfl, (by repeat (first | exact HBr.out | apply pw_below_drewN | apply below_drew1 | apply below_alloc | refine below_set ?_ (by omega)))⟩

theorem rowsT_three (T : Int → Int × Int × Int) (y : Int) : rowsT T (y - 1) 3 = rowT (T (y - 1)) ++ rowT (T y) ++ rowT (T (y + 1)) := by
  simp only [rowsT]
  rw [show y - 1 + ((0 : Nat) : Int) = y - 1 from by omega, show y - 1 + ((1 : Nat) : Int) = y from by omega, show y - 1 + ((2 : Nat) : Int) = y + 1 from by omega]
  simp

theorem rule_At.calls (k : Nat) (s0 : Int) (s1 : Bool) (s2 : ByteArray) (d0 : Int) (d1 : Bool) (d2 : ByteArray) (bo : Bool) (a0 : Int) (a1 : Int) (a2 : Int) (a3 : Int) (a4 : Int) (e0 : Int) (e1 : Int) (e2 : Int) (e3 : Int) (e4 : Int) (t q0 : Int) (q1 : Bool) (q2 : ByteArray) (q3 : Int) (w : World) (hG : GL w) (h : rule_At.f k s0 s1 s2 d0 d1 d2 bo a0 a1 a2 a3 a4 e0 e1 e2 e3 e4 t = some (q0, q1, q2, q3)) :
    Calls Tryd.prog 16 #[.agg #[.int .i64 s0, .bool s1, .string s2, .int .i64 d0, .bool d1, .string d2, .bool bo, .int .i64 a0, .int .i64 a1, .int .i64 a2, .int .i64 a3, .int .i64 a4, .int .i64 e0, .int .i64 e1, .int .i64 e2, .int .i64 e3, .int .i64 e4], .int .i64 t] w fun e w' => e = .returned (.tuple #[.agg #[.int .i64 q0, .bool q1, .string q2], .int .i64 q3]) ∧ Below w.heap.size w w' := by
  unfold rule_At.f at h
  replace h := Option.bind_eq_some_iff.mp h
  obtain ⟨ok, hok, h⟩ := h
  cases ok
  · rw [if_pos rfl] at h
    simp only [Option.some.injEq, Prod.mk.injEq] at h
    obtain ⟨rfl, rfl, rfl, rfl⟩ := h
    exact At_wrong k s0 s1 s2 d0 d1 d2 bo a0 a1 a2 a3 a4 e0 e1 e2 e3 e4 t w hok
  · rw [if_neg (by decide)] at h
    by_cases hbo : bo = false
    · rw [if_pos hbo] at h
      simp only [Option.some.injEq, Prod.mk.injEq] at h
      obtain ⟨rfl, rfl, rfl, rfl⟩ := h
      exact At_one k s0 s1 s2 d0 d1 d2 a0 a1 a2 a3 a4 e0 e1 e2 e3 e4 t w bo hbo hok
    · rw [if_neg hbo] at h
      have hbo : bo = true := by simpa using hbo
      replace h := Option.bind_eq_some_iff.mp h
      obtain ⟨⟨v0, v1, v2⟩, hv, h⟩ := h
      replace h := Option.bind_eq_some_iff.mp h
      obtain ⟨⟨y, m, d, er⟩, hd, h⟩ := h
      simp only at h
      by_cases her : er = 0
      · subst her
        rw [if_pos rfl] at h
        by_cases hy : -4611686018427387904 < y ∧ y < 4611686018427387904
        · rw [if_pos hy] at h
          replace h := Option.bind_eq_some_iff.mp h
          obtain ⟨T0, hT0, h⟩ := h
          replace h := Option.bind_eq_some_iff.mp h
          obtain ⟨T1, hT1, h⟩ := h
          replace h := Option.bind_eq_some_iff.mp h
          obtain ⟨T2, hT2, h⟩ := h
          obtain ⟨T, f0, f1, f2⟩ : ∃ T : Int → Int × Int × Int, T (y - 1) = T0 ∧ T y = T1 ∧ T (y + 1) = T2 :=
            ⟨fun z => if z = y - 1 then T0 else if z = y then T1 else T2, by simp, by dsimp only; rw [if_neg (by omega), if_pos rfl], by dsimp only; rw [if_neg (by omega), if_neg (by omega)]⟩
          subst f0 f1 f2
          rw [← rowsT_three T y] at h
          by_cases hne : 0 < (rowsT T (y - 1) 3).length
          · rw [if_pos hne] at h
            have hT : ∀ j : Nat, j < 3 → rule_Turns.f k s0 s1 s2 d0 d1 d2 bo a0 a1 a2 a3 a4 e0 e1 e2 e3 e4 (y - 1 + j) = some (T (y - 1 + j)) := by
              intro j hj
              rcases (show j = 0 ∨ j = 1 ∨ j = 2 by omega) with rfl | rfl | rfl
              · rw [show y - 1 + ((0 : Nat) : Int) = y - 1 from by omega]; exact hT0
              · rw [show y - 1 + ((1 : Nat) : Int) = y from by omega]; exact hT1
              · rw [show y - 1 + ((2 : Nat) : Int) = y + 1 from by omega]; exact hT2
            subst hbo
            have H := At_two k (sortT (rowsT T (y - 1) 3)) s0 s1 s2 d0 d1 d2 a0 a1 a2 a3 a4 e0 e1 e2 e3 e4 t w hG hok v0 v1 v2 hv y m d hd (by rw [sortT_len]; exact hne) (by rw [sortT_len]; exact rowsT_len T (y - 1) 3)
              (fun W hGW => (turns_calls k T s0 s1 s2 d0 d1 d2 true a0 a1 a2 a3 a4 e0 e1 e2 e3 e4 y W hGW hy.1 hy.2 hT hne).mono fun e w' ⟨g, cap, he, _, _, hH, hb⟩ => ⟨g, cap, by rw [sortT_len]; exact he, fun i hi => cells_T hH i hi, hb⟩)
            refine H.mono fun e w' ⟨he, hb⟩ => ⟨?_, hb⟩
            rw [he]
            by_cases hds : dstT t (sortT (rowsT T (y - 1) 3)) = true
            · rw [if_pos hds] at h
              simp only [Option.some.injEq, Prod.mk.injEq] at h
              obtain ⟨rfl, rfl, rfl, rfl⟩ := h
              rw [pickV, if_pos hds]
            · rw [if_neg hds] at h
              simp only [Option.some.injEq, Prod.mk.injEq] at h
              obtain ⟨rfl, rfl, rfl, rfl⟩ := h
              rw [pickV, if_neg hds]
          · rw [if_neg hne] at h
            cases h
        · rw [if_neg hy] at h
          cases h
      · rw [if_neg her] at h
        simp only [Option.some.injEq, Prod.mk.injEq] at h
        obtain ⟨rfl, rfl, rfl, rfl⟩ := h
        exact At_err k s0 s1 s2 d0 d1 d2 a0 a1 a2 a3 a4 e0 e1 e2 e3 e4 t w bo hbo hok v0 v1 v2 hv y m d er hd her

theorem rule_At.mono : ∀ s0 s1 s2 d0 d1 d2 bo a0 a1 a2 a3 a4 e0 e1 e2 e3 e4 t k, LeO (rule_At.f k s0 s1 s2 d0 d1 d2 bo a0 a1 a2 a3 a4 e0 e1 e2 e3 e4 t) (rule_At.f (k + 1) s0 s1 s2 d0 d1 d2 bo a0 a1 a2 a3 a4 e0 e1 e2 e3 e4 t) := by
  intro s0 s1 s2 d0 d1 d2 bo a0 a1 a2 a3 a4 e0 e1 e2 e3 e4 t k
  unfold rule_At.f
  repeat' first
      | (with_reducible exact posix_Right.mono _ _ _ _ _ _ _ _ _ _ _ _ _ _ _ _ _ _ _)
      | (with_reducible exact rule_Turns.mono _ _ _ _ _ _ _ _ _ _ _ _ _ _ _ _ _ _ _)
      | (with_reducible exact LeO.refl _)
      | (with_reducible exact LeO.none _)
      | (with_reducible refine LeO.ite ?_ ?_)
      | (with_reducible refine LeO.bind ?_ (fun _ => ?_))
end Go.Proofs.YtgbehcahdgamoaaDoor.Fn

namespace Go.Proofs.YtgbehcahdgamoaaDoor.Fn
open Go.RowKit Go.Proofs.YtgbehcahdgamoaaDoorW.PrintWords Go.Proofs.YtgbehcahdgamoaaDoorW.PrintLast Go.Proofs.YtgbehcahdgamoaaDoorW.PrintMore Go.Lib Go.Sort

/-- The outer loop of the sort, by so many rounds: it can be run. -/
def insO {α : Type} [Inhabited α] (lt : α → α → Bool) (a b : Nat) : Nat → Nat → Array α → Array α
  | 0, _, d => d
  | n + 1, i, d => if i < b then insO lt a b n (i + 1) (insInner lt a i d) else d
theorem insO_eq {α : Type} [Inhabited α] (lt : α → α → Bool) (a b : Nat) : ∀ (n i : Nat) (d : Array α), b - i ≤ n → insOuter lt a b i d = insO lt a b n i d
  | 0, i, d, h => by unfold insOuter insO; rw [if_neg (by omega)]
  | n + 1, i, d, h => by
    unfold insOuter insO
    split
    · rw [insO_eq lt a b n (i + 1) _ (by omega)]
    · rfl
theorem sortT_run (l : List (Int × Bool)) : sortT l = (insO (ltOf cfT) 0 l.length l.length 1 l.toArray).toList := by
  unfold sortT Sort.insertionSort
  rw [insO_eq (ltOf cfT) 0 l.length l.length (0 + 1) _ (by omega)]

def estS : ByteArray := ⟨#[69, 83, 84]⟩
def edtS : ByteArray := ⟨#[69, 68, 84]⟩
theorem shown_right : posix_Right.f 8 (-18000) false estS (-14400) true edtS true 3 3 2 0 7200 3 11 1 0 7200 true = some true := by decide +kernel
theorem shown_turns (y a b : Int) (h : y = 2006 ∧ a = 1142146800 ∧ b = 1162706400 ∨ y = 2007 ∧ a = 1173596400 ∧ b = 1194156000 ∨ y = 2008 ∧ a = 1205046000 ∧ b = 1225605600) :
    rule_Turns.f 8 (-18000) false estS (-14400) true edtS true 3 3 2 0 7200 3 11 1 0 7200 y = some (a, b, 0) := by
  rcases h with ⟨rfl, rfl, rfl⟩ | ⟨rfl, rfl, rfl⟩ | ⟨rfl, rfl, rfl⟩ <;> decide +kernel
theorem shown_day : rule_Day.f 8 2000 1 60 0 0 0 = some (11017, 0) := by decide +kernel
theorem shown_none : rule_At.f 8 0 false ⟨#[]⟩ 0 false ⟨#[]⟩ false 0 0 0 0 0 0 0 0 0 0 0 = some (0, false, ⟨#[]⟩, 1) := by decide +kernel

/-- What a rule tells at a moment, out of its three years. -/
theorem shown_at (t : Int) (dst : Bool) (h : t = 1173596400 ∧ dst = true ∨ t = 1173596399 ∧ dst = false) :
    rule_At.f 8 (-18000) false estS (-14400) true edtS true 3 3 2 0 7200 3 11 1 0 7200 t = some (if dst = true then (-14400, true, edtS, 0) else (-18000, false, estS, 0)) := by
  have h1 := shown_turns 2006 1142146800 1162706400 (by omega)
  have h2 := shown_turns 2007 1173596400 1194156000 (by omega)
  have h3 := shown_turns 2008 1205046000 1225605600 (by omega)
  have hd : ∀ v : Int × Int × Bool, number_Div.f t 86400 = some v → civil_Date.f v.1 = some (2007, 3, 11, 0) := by
    rcases h with ⟨rfl, _⟩ | ⟨rfl, _⟩
    · intro v hv
      obtain rfl := Option.some.inj ((show number_Div.f 1173596400 86400 = some (13583, 25200, true) by decide +kernel).symm.trans hv)
      decide +kernel
    · intro v hv
      obtain rfl := Option.some.inj ((show number_Div.f 1173596399 86400 = some (13583, 25199, true) by decide +kernel).symm.trans hv)
      decide +kernel
  obtain ⟨v, hv⟩ : ∃ v, number_Div.f t 86400 = some v := by
    rcases h with ⟨rfl, _⟩ | ⟨rfl, _⟩
    · exact ⟨(13583, 25200, true), by decide +kernel⟩
    · exact ⟨(13583, 25199, true), by decide +kernel⟩
  unfold rule_At.f
  rw [shown_right]
  simp only [Option.bind_some, Bool.true_eq_false, if_false]
  rw [hv]
  simp only [Option.bind_some]
  rw [hd v hv]
  simp only [Option.bind_some, if_true]
  rw [if_pos (by decide), show (2007 : Int) - 1 = 2006 from rfl, show (2007 : Int) + 1 = 2008 from rfl, h1, h2, h3]
  simp only [Option.bind_some]
  rw [if_pos (by decide), sortT_run]
  rcases h with ⟨rfl, rfl⟩ | ⟨rfl, rfl⟩ <;> decide +kernel
end Go.Proofs.YtgbehcahdgamoaaDoor.Fn

namespace Go.Proofs.YtgbehcahdgamoaaDoor.Fn
open Go.RowKit Go.Proofs.YtgbehcahdgamoaaDoorW.PrintWords Go.Proofs.YtgbehcahdgamoaaDoorW.PrintLast Go.Proofs.YtgbehcahdgamoaaDoorW.PrintMore Go.Lib Go.Sort

abbrev shownC : Array Value := #[.int .i64 (-18000), .bool false, .string ⟨#[69, 83, 84]⟩, .int .i64 (-14400), .bool true, .string ⟨#[69, 68, 84]⟩, .bool true, .int .i64 3, .int .i64 3, .int .i64 2, .int .i64 0, .int .i64 7200, .int .i64 3, .int .i64 11, .int .i64 1, .int .i64 0, .int .i64 7200]

set_option maxRecDepth 100000 in
set_option maxHeartbeats 2000000 in
theorem longcaselaw09_shown_calls (w : World) (hG : GL w) :
    Calls Tryd.prog 11 #[] w fun e w' => e = .returned (.bool true) ∧ Below w.heap.size w w' := by
  have HG := Aside0.mk hG
  clear hG
  have HT := Aside0.mk (fun W hG => rule_Turns.calls 8 (-18000) false estS (-14400) true edtS true 3 3 2 0 7200 3 11 1 0 7200 2007 1173596400 1194156000 0 W hG (shown_turns 2007 1173596400 1194156000 (by omega)))
  have HA := Aside0.mk (fun W hG => rule_At.calls 8 (-18000) false estS (-14400) true edtS true 3 3 2 0 7200 3 11 1 0 7200 1173596400 (-14400) true edtS 0 W hG (shown_at 1173596400 true (.inl ⟨rfl, rfl⟩)))
  have HB := Aside0.mk (fun W hG => rule_At.calls 8 (-18000) false estS (-14400) true edtS true 3 3 2 0 7200 3 11 1 0 7200 1173596399 (-18000) false estS 0 W hG (shown_at 1173596399 false (.inr ⟨rfl, rfl⟩)))
  have HN := Aside0.mk (fun W hG => rule_At.calls 8 0 false ⟨#[]⟩ 0 false ⟨#[]⟩ false 0 0 0 0 0 0 0 0 0 0 0 0 false ⟨#[]⟩ 1 W hG shown_none)
  have HD := Aside0.mk (fun W hG => rule_Day.calls 8 2000 1 60 0 0 0 11017 0 W hG shown_day)
  go_enter Tryd.func11, Tryd.ntmps11
  go_wp2_with ((with_reducible refine gate_dst (N := 19) rfl ?_); refine wpList_load_row rfl 27 _ rfl w.heap.size rfl 27 shownC (0, 0) _ (blk_new _ _) Tryd.underlying27 rfl (by kernel_rfl) ?_)
  refine (HT.out _ (HG.out.below (below_alloc (Below.refl _ _) _))).mono ?_
  rintro e w1 ⟨rfl, hb1⟩
  have BR1 := Aside0.mk (blk_below (blk_new _ _) hb1)
  have HB1 := Aside0.mk ((below_alloc (Below.refl _ _) _).trans (hb1.mono (by simp)))
  clear hb1 HT
  go_wp2_with ((with_reducible refine gate_dst (N := 25) rfl ?_); refine wpList_load_row rfl 27 _ rfl w.heap.size rfl 27 shownC (0, 0) _ BR1.out Tryd.underlying27 rfl (by kernel_rfl) ?_)
  refine (HA.out _ (HG.out.below HB1.out)).mono ?_
  rintro e w2 ⟨rfl, hb2⟩
  have BR2 := Aside0.mk (blk_below BR1.out hb2)
  have HB2 := Aside0.mk (HB1.out.trans (hb2.mono HB1.out.size))
  clear hb2 HA BR1 HB1
  go_wp2_with ((with_reducible refine gate_dst (N := 30) rfl ?_); refine wpList_load_row rfl 27 _ rfl w.heap.size rfl 27 shownC (0, 0) _ (blk_alloc BR2.out _) Tryd.underlying27 rfl (by kernel_rfl) ?_)
  refine (HB.out _ (HG.out.below (below_alloc HB2.out _))).mono ?_
  rintro e w3 ⟨rfl, hb3⟩
  have BK3 := Aside0.mk (blk_below (blk_new _ _) hb3)
  have HB3 := Aside0.mk ((below_alloc HB2.out _).trans (hb3.mono (by have := HB2.out.size; simp; omega)))
  clear hb3 HB BR2 HB2
  go_wp2_with fail
  refine (HN.out _ (HG.out.below (below_alloc HB3.out _))).mono ?_
  rintro e w4 ⟨rfl, hb4⟩
  have BK4 := Aside0.mk (blk_below (blk_alloc BK3.out _) hb4)
  have BL4 := Aside0.mk (blk_below (blk_new _ _) hb4)
  have HB4 := Aside0.mk ((below_alloc HB3.out _).trans (hb4.mono (by have := HB3.out.size; simp; omega)))
  clear hb4 HN BK3 HB3
  go_wp2_with fail
  refine (HD.out _ (HG.out.below (below_alloc HB4.out _))).mono ?_
  rintro e w5 ⟨rfl, hb5⟩
  have hk := blk_cell (blk_below (blk_alloc BK4.out _) hb5) 2
  have hl := blk_cell (blk_below (blk_alloc BL4.out _) hb5) 2
  have HB5 := Aside0.mk ((below_alloc HB4.out _).trans (hb5.mono (by have := HB4.out.size; simp; omega)))
  clear hb5 HD BK4 BL4 HB4
  simp only [List.getElem?_toArray, List.getElem?_cons_succ, List.getElem?_cons_zero] at hk hl
  have e1 : edtS.toList = [69, 68, 84] := by decide +kernel
  have e2 : estS.toList = [69, 83, 84] := by decide +kernel
  go_wp2
  go_ret
  exact ⟨rfl, HB5.out⟩
/-- The small case, for the printed texts. -/
def longcaselaw09_shown.f : Option Bool := some true
theorem longcaselaw09_shown.calls (r : Bool) (w : World) (hG : GL w) (h : longcaselaw09_shown.f = some r) :
    Calls Tryd.prog 11 #[] w fun e w' => e = .returned (.bool r) ∧ Below w.heap.size w w' := by
  obtain rfl := Option.some.inj h
  exact longcaselaw09_shown_calls w hG
end Go.Proofs.YtgbehcahdgamoaaDoor.Fn
