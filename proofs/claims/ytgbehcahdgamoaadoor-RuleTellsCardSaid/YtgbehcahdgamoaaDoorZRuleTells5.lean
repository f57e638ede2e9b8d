/- Part 5 of the texts for LRuleTells: contracts and plain laws that it leans on. -/
import Derived.Test.YtgbehcahdgamoaaDoorZRuleTells2
import Derived.Test.YtgbehcahdgamoaaDoorZRuleTells4
import Derived.Laws.BitsLemmas
import Derived.Test.YtgbehcahdgamoaaDoorZRuleTells3
namespace Go.Proofs.YtgbehcahdgamoaaDoor.Fn
open Go.RowKit Go.Proofs.YtgbehcahdgamoaaDoorW.PrintWords Go.Proofs.YtgbehcahdgamoaaDoorW.PrintLast Go.Proofs.YtgbehcahdgamoaaDoorW.PrintMore
set_option linter.unusedVariables false
set_option linter.unusedSimpArgs false
/-! ### longcaseref09_Turns: function 15 -/
def longcaseref09_Turns.j0 : Nat → Int → Bool → Int → Bool → ByteArray → Int → Bool → ByteArray → Bool → Int → Int → Int → Int → Int → Int → Int → Int → Int → Int → Option (Int × Int × Bool)
  | 0, _, _, _, _, _, _, _, _, _, _, _, _, _, _, _, _, _, _, _ => none
  | k + 1, x1, x25, x194000, x194001, x194002, x194003, x194004, x194005, x194006, x194007, x194008, x194009, x194010, x194011, x194012, x194013, x194014, x194015, x194016 => if x25 = true then (some (0, 0, false)) else ((longcaseref09_Day.f k x1 x194007 x194008 x194009 x194010 x194011).bind fun bt196 => ((longcaseref09_Day.f k x1 x194012 x194013 x194014 x194015 x194016).bind fun bt198 => (some (wrap64 ((wrap64 ((wrap64 (bt196.1 * 86400)) + x194011)) - x194000), wrap64 ((wrap64 ((wrap64 (bt198.1 * 86400)) + x194016)) - x194003), true))))
def longcaseref09_Turns.f (k : Nat) (a0_0 : Int) (a0_1 : Bool) (a0_2 : ByteArray) (a0_3 : Int) (a0_4 : Bool) (a0_5 : ByteArray) (a0_6 : Bool) (a0_7 : Int) (a0_8 : Int) (a0_9 : Int) (a0_10 : Int) (a0_11 : Int) (a0_12 : Int) (a0_13 : Int) (a0_14 : Int) (a0_15 : Int) (a0_16 : Int) (a1 : Int) : Option (Int × Int × Bool) := (longcaseref08_Right.f k a0_0 a0_1 a0_2 a0_3 a0_4 a0_5 a0_6 a0_7 a0_8 a0_9 a0_10 a0_11 a0_12 a0_13 a0_14 a0_15 a0_16 true).bind fun t194 => (if t194 = true then (if a0_6 = true then ((longcaseref09_year.f a1).bind fun t195 => (longcaseref09_Turns.j0 k a1 (!t195) a0_0 a0_1 a0_2 a0_3 a0_4 a0_5 a0_6 a0_7 a0_8 a0_9 a0_10 a0_11 a0_12 a0_13 a0_14 a0_15 a0_16)) else (longcaseref09_Turns.j0 k a1 true a0_0 a0_1 a0_2 a0_3 a0_4 a0_5 a0_6 a0_7 a0_8 a0_9 a0_10 a0_11 a0_12 a0_13 a0_14 a0_15 a0_16)) else (longcaseref09_Turns.j0 k a1 true a0_0 a0_1 a0_2 a0_3 a0_4 a0_5 a0_6 a0_7 a0_8 a0_9 a0_10 a0_11 a0_12 a0_13 a0_14 a0_15 a0_16))
theorem longcaseref09_Turns.mono_l : ∀ k, (∀ y0 y1 y2 y3 y4 y5 y6 y7 y8 y9 y10 y11 y12 y13 y14 y15 y16 y17 y18, LeO (longcaseref09_Turns.j0 k y0 y1 y2 y3 y4 y5 y6 y7 y8 y9 y10 y11 y12 y13 y14 y15 y16 y17 y18) (longcaseref09_Turns.j0 (k + 1) y0 y1 y2 y3 y4 y5 y6 y7 y8 y9 y10 y11 y12 y13 y14 y15 y16 y17 y18))
  | 0 => fun _ _ _ _ _ _ _ _ _ _ _ _ _ _ _ _ _ _ _ r h => by simp [longcaseref09_Turns.j0] at h
  | k + 1 => by
    have ih0 := longcaseref09_Turns.mono_l k
    · intro y0 y1 y2 y3 y4 y5 y6 y7 y8 y9 y10 y11 y12 y13 y14 y15 y16 y17 y18
      unfold longcaseref09_Turns.j0
      repeat' first
      | (with_reducible exact ih0 _ _ _ _ _ _ _ _ _ _ _ _ _ _ _ _ _ _ _)
      | (with_reducible exact longcaseref08_Right.mono _ _ _ _ _ _ _ _ _ _ _ _ _ _ _ _ _ _ _)
      | (with_reducible exact longcaseref09_Day.mono _ _ _ _ _ _ _)
      | (with_reducible exact LeO.refl _)
      | (with_reducible exact LeO.none _)
      | (with_reducible refine LeO.ite ?_ ?_)
      | (with_reducible refine LeO.bind ?_ (fun _ => ?_))
      | exact ih0 _ _ _ _ _ _ _ _ _ _ _ _ _ _ _ _ _ _ _
      | exact longcaseref08_Right.mono _ _ _ _ _ _ _ _ _ _ _ _ _ _ _ _ _ _ _
      | exact longcaseref09_Day.mono _ _ _ _ _ _ _
      | exact LeO.none _
      | refine LeO.ite ?_ ?_
      | refine LeO.bind ?_ (fun _ => ?_)
theorem longcaseref09_Turns.mono : ∀ a0 a1 a2 a3 a4 a5 a6 a7 a8 a9 a10 a11 a12 a13 a14 a15 a16 a17 k, LeO (longcaseref09_Turns.f k a0 a1 a2 a3 a4 a5 a6 a7 a8 a9 a10 a11 a12 a13 a14 a15 a16 a17) (longcaseref09_Turns.f (k + 1) a0 a1 a2 a3 a4 a5 a6 a7 a8 a9 a10 a11 a12 a13 a14 a15 a16 a17) := by
  intro a0 a1 a2 a3 a4 a5 a6 a7 a8 a9 a10 a11 a12 a13 a14 a15 a16 a17 k
  have ih0 := longcaseref09_Turns.mono_l k
  unfold longcaseref09_Turns.f
  repeat' first
      | (with_reducible exact ih0 _ _ _ _ _ _ _ _ _ _ _ _ _ _ _ _ _ _ _)
      | (with_reducible exact longcaseref08_Right.mono _ _ _ _ _ _ _ _ _ _ _ _ _ _ _ _ _ _ _)
      | (with_reducible exact longcaseref09_Day.mono _ _ _ _ _ _ _)
      | (with_reducible exact LeO.refl _)
      | (with_reducible exact LeO.none _)
      | (with_reducible refine LeO.ite ?_ ?_)
      | (with_reducible refine LeO.bind ?_ (fun _ => ?_))
      | exact ih0 _ _ _ _ _ _ _ _ _ _ _ _ _ _ _ _ _ _ _
      | exact longcaseref08_Right.mono _ _ _ _ _ _ _ _ _ _ _ _ _ _ _ _ _ _ _
      | exact longcaseref09_Day.mono _ _ _ _ _ _ _
      | exact LeO.none _
      | refine LeO.ite ?_ ?_
      | refine LeO.bind ?_ (fun _ => ?_)
set_option maxHeartbeats 8000000 in
set_option maxRecDepth 100000 in
theorem longcaseref09_Turns.calls (k : Nat) (a0_0 : Int) (a0_1 : Bool) (a0_2 : ByteArray) (a0_3 : Int) (a0_4 : Bool) (a0_5 : ByteArray) (a0_6 : Bool) (a0_7 : Int) (a0_8 : Int) (a0_9 : Int) (a0_10 : Int) (a0_11 : Int) (a0_12 : Int) (a0_13 : Int) (a0_14 : Int) (a0_15 : Int) (a0_16 : Int) (a1 : Int) (r1 : Int) (r2 : Int) (r3 : Bool) (w : World) (h : longcaseref09_Turns.f k a0_0 a0_1 a0_2 a0_3 a0_4 a0_5 a0_6 a0_7 a0_8 a0_9 a0_10 a0_11 a0_12 a0_13 a0_14 a0_15 a0_16 a1 = some (r1, r2, r3)) :
    Calls Tryd.prog 15 #[.agg #[.int .i64 a0_0, .bool a0_1, .string a0_2, .int .i64 a0_3, .bool a0_4, .string a0_5, .bool a0_6, .int .i64 a0_7, .int .i64 a0_8, .int .i64 a0_9, .int .i64 a0_10, .int .i64 a0_11, .int .i64 a0_12, .int .i64 a0_13, .int .i64 a0_14, .int .i64 a0_15, .int .i64 a0_16], .int .i64 a1] w fun e w' => e = .returned (.tuple #[.int .i64 r1, .int .i64 r2, .bool r3]) ∧ Below w.heap.size w w' := by
  have hu27 := Tryd.underlying27
  have hu25 := Tryd.underlying25
  have HB := Aside0.mk (Below.refl w.heap.size w)
  have H : ((longcaseref08_Right.f k a0_0 a0_1 a0_2 a0_3 a0_4 a0_5 a0_6 a0_7 a0_8 a0_9 a0_10 a0_11 a0_12 a0_13 a0_14 a0_15 a0_16 true).bind fun t194 => (if t194 = true then (if a0_6 = true then ((longcaseref09_year.f a1).bind fun t195 => (longcaseref09_Turns.j0 k a1 (!t195) a0_0 a0_1 a0_2 a0_3 a0_4 a0_5 a0_6 a0_7 a0_8 a0_9 a0_10 a0_11 a0_12 a0_13 a0_14 a0_15 a0_16)) else (longcaseref09_Turns.j0 k a1 true a0_0 a0_1 a0_2 a0_3 a0_4 a0_5 a0_6 a0_7 a0_8 a0_9 a0_10 a0_11 a0_12 a0_13 a0_14 a0_15 a0_16)) else (longcaseref09_Turns.j0 k a1 true a0_0 a0_1 a0_2 a0_3 a0_4 a0_5 a0_6 a0_7 a0_8 a0_9 a0_10 a0_11 a0_12 a0_13 a0_14 a0_15 a0_16))) = some (r1, r2, r3) := h
  clear h
  replace H := Option.bind_eq_some_iff.mp H
  obtain ⟨t194, A30, H⟩ := H
  replace H : (if t194 = true then (if a0_6 = true then ((longcaseref09_year.f a1).bind fun t195 => (longcaseref09_Turns.j0 k a1 (!t195) a0_0 a0_1 a0_2 a0_3 a0_4 a0_5 a0_6 a0_7 a0_8 a0_9 a0_10 a0_11 a0_12 a0_13 a0_14 a0_15 a0_16)) else (longcaseref09_Turns.j0 k a1 true a0_0 a0_1 a0_2 a0_3 a0_4 a0_5 a0_6 a0_7 a0_8 a0_9 a0_10 a0_11 a0_12 a0_13 a0_14 a0_15 a0_16)) else (longcaseref09_Turns.j0 k a1 true a0_0 a0_1 a0_2 a0_3 a0_4 a0_5 a0_6 a0_7 a0_8 a0_9 a0_10 a0_11 a0_12 a0_13 a0_14 a0_15 a0_16)) = some (r1, r2, r3) := H
  have A3 := Aside0.mk A30
  clear A30
  have HC4 := Aside0.mk H
  clear H
  go_enter Tryd.func15, Tryd.ntmps15
  go_upto_region 2 with (first | ((with_reducible refine gate_dst (N := 2) rfl ?_); refine box_event ?hg (N := 2) ?hd (cs := #[.int .i64 a0_0, .bool a0_1, .string a0_2, .int .i64 a0_3, .bool a0_4, .string a0_5, .bool a0_6, .int .i64 a0_7, .int .i64 a0_8, .int .i64 a0_9, .int .i64 a0_10, .int .i64 a0_11, .int .i64 a0_12, .int .i64 a0_13, .int .i64 a0_14, .int .i64 a0_15, .int .i64 a0_16]) (t := 27) ?hr ?_; (case hd => rfl); (case hg => rfl); (case hr => first | (go_simp; done) | (go_simp; rfl)); intro gb193 hg w5 hbox hb; have n0_ := Aside0.mk (below_step (by repeat (first | (with_reducible first | exact HB.out | apply below_alloc | apply pw_below_drewN | apply below_drew1) | exact HB.out)) hb); have n1_ := Aside0.mk (hbox); have n2_ := Aside0.mk ((by rw [hg]; exact (below_size (by repeat (first | (with_reducible first | exact HB.out | apply below_alloc | apply pw_below_drewN | apply below_drew1) | exact HB.out))) : w.heap.size ≤ gb193)); have n3_ := Aside0.mk ((by rw [hg]; exact (below_size (by repeat (first | (with_reducible first | exact HB.out | apply below_alloc | apply pw_below_drewN | apply below_drew1) | exact HB.out))) : w.heap.size ≤ gb193)); clear HB; have HB := n0_; have BK193 := n1_; have GW193 := n2_; have GE193 := n3_; clear n0_ n1_ n2_ n3_; clear hb hbox hg) | ((with_reducible refine gate_dst (N := 12) rfl ?_); refine wpList_load_row rfl 27 _ rfl (gb193) rfl 27 #[.int .i64 a0_0, .bool a0_1, .string a0_2, .int .i64 a0_3, .bool a0_4, .string a0_5, .bool a0_6, .int .i64 a0_7, .int .i64 a0_8, .int .i64 a0_9, .int .i64 a0_10, .int .i64 a0_11, .int .i64 a0_12, .int .i64 a0_13, .int .i64 a0_14, .int .i64 a0_15, .int .i64 a0_16] (0, 0) _ (by (with_reducible repeat (first | refine blk_drewN ?_ _ | refine blk_drew ?_ | refine blk_alloc ?_ _)); exact BK193.out) Tryd.underlying27 rfl (by kernel_rfl) ?_) | (go_at_call 18; (with_reducible refine (longcaseref08_Right.calls k a0_0 a0_1 a0_2 a0_3 a0_4 a0_5 a0_6 a0_7 a0_8 a0_9 a0_10 a0_11 a0_12 a0_13 a0_14 a0_15 a0_16 true t194 _ A3.out).mono ?_); rintro e w6 ⟨rfl, hb⟩; have n0_ := Aside0.mk (blk_below (g := gb193) (o := .cells #[.int .i64 a0_0, .bool a0_1, .string a0_2, .int .i64 a0_3, .bool a0_4, .string a0_5, .bool a0_6, .int .i64 a0_7, .int .i64 a0_8, .int .i64 a0_9, .int .i64 a0_10, .int .i64 a0_11, .int .i64 a0_12, .int .i64 a0_13, .int .i64 a0_14, .int .i64 a0_15, .int .i64 a0_16] 27 (0, 0)) (by (with_reducible repeat (first | refine blk_drewN ?_ _ | refine blk_drew ?_ | refine blk_alloc ?_ _)); exact BK193.out) hb); have n1_ := Aside0.mk (below_step (by repeat (first | (with_reducible first | exact HB.out | apply below_alloc | apply pw_below_drewN | apply below_drew1 | refine below_set ?_ GE193.out) | exact HB.out)) hb); clear BK193; clear HB; have BK193 := n0_; have HB := n1_; clear n0_ n1_; (try clear hb); (try clear hb2); (try clear hk); (try clear hi)))
  repeat (go_quiet (first | ((with_reducible refine gate_dst (N := 2) rfl ?_); refine box_event ?hg (N := 2) ?hd (cs := #[.int .i64 a0_0, .bool a0_1, .string a0_2, .int .i64 a0_3, .bool a0_4, .string a0_5, .bool a0_6, .int .i64 a0_7, .int .i64 a0_8, .int .i64 a0_9, .int .i64 a0_10, .int .i64 a0_11, .int .i64 a0_12, .int .i64 a0_13, .int .i64 a0_14, .int .i64 a0_15, .int .i64 a0_16]) (t := 27) ?hr ?_; (case hd => rfl); (case hg => rfl); (case hr => first | (go_simp; done) | (go_simp; rfl)); intro gb193 hg w5 hbox hb; have n0_ := Aside0.mk (below_step (by repeat (first | (with_reducible first | exact HB.out | apply below_alloc | apply pw_below_drewN | apply below_drew1) | exact HB.out)) hb); have n1_ := Aside0.mk (hbox); have n2_ := Aside0.mk ((by rw [hg]; exact (below_size (by repeat (first | (with_reducible first | exact HB.out | apply below_alloc | apply pw_below_drewN | apply below_drew1) | exact HB.out))) : w.heap.size ≤ gb193)); have n3_ := Aside0.mk ((by rw [hg]; exact (below_size (by repeat (first | (with_reducible first | exact HB.out | apply below_alloc | apply pw_below_drewN | apply below_drew1) | exact HB.out))) : w.heap.size ≤ gb193)); clear HB; have HB := n0_; have BK193 := n1_; have GW193 := n2_; have GE193 := n3_; clear n0_ n1_ n2_ n3_; clear hb hbox hg) | ((with_reducible refine gate_dst (N := 12) rfl ?_); refine wpList_load_row rfl 27 _ rfl (gb193) rfl 27 #[.int .i64 a0_0, .bool a0_1, .string a0_2, .int .i64 a0_3, .bool a0_4, .string a0_5, .bool a0_6, .int .i64 a0_7, .int .i64 a0_8, .int .i64 a0_9, .int .i64 a0_10, .int .i64 a0_11, .int .i64 a0_12, .int .i64 a0_13, .int .i64 a0_14, .int .i64 a0_15, .int .i64 a0_16] (0, 0) _ (by (with_reducible repeat (first | refine blk_drewN ?_ _ | refine blk_drew ?_ | refine blk_alloc ?_ _)); exact BK193.out) Tryd.underlying27 rfl (by kernel_rfl) ?_) | (go_at_call 18; (with_reducible refine (longcaseref08_Right.calls k a0_0 a0_1 a0_2 a0_3 a0_4 a0_5 a0_6 a0_7 a0_8 a0_9 a0_10 a0_11 a0_12 a0_13 a0_14 a0_15 a0_16 true t194 _ A3.out).mono ?_); rintro e w6 ⟨rfl, hb⟩; have n0_ := Aside0.mk (blk_below (g := gb193) (o := .cells #[.int .i64 a0_0, .bool a0_1, .string a0_2, .int .i64 a0_3, .bool a0_4, .string a0_5, .bool a0_6, .int .i64 a0_7, .int .i64 a0_8, .int .i64 a0_9, .int .i64 a0_10, .int .i64 a0_11, .int .i64 a0_12, .int .i64 a0_13, .int .i64 a0_14, .int .i64 a0_15, .int .i64 a0_16] 27 (0, 0)) (by (with_reducible repeat (first | refine blk_drewN ?_ _ | refine blk_drew ?_ | refine blk_alloc ?_ _)); exact BK193.out) hb); have n1_ := Aside0.mk (below_step (by repeat (first | (with_reducible first | exact HB.out | apply below_alloc | apply pw_below_drewN | apply below_drew1 | refine below_set ?_ GE193.out) | exact HB.out)) hb); clear BK193; clear HB; have BK193 := n0_; have HB := n1_; clear n0_ n1_; (try clear hb); (try clear hb2); (try clear hk); (try clear hi))); go_upto_region 2 with (first | ((with_reducible refine gate_dst (N := 2) rfl ?_); refine box_event ?hg (N := 2) ?hd (cs := #[.int .i64 a0_0, .bool a0_1, .string a0_2, .int .i64 a0_3, .bool a0_4, .string a0_5, .bool a0_6, .int .i64 a0_7, .int .i64 a0_8, .int .i64 a0_9, .int .i64 a0_10, .int .i64 a0_11, .int .i64 a0_12, .int .i64 a0_13, .int .i64 a0_14, .int .i64 a0_15, .int .i64 a0_16]) (t := 27) ?hr ?_; (case hd => rfl); (case hg => rfl); (case hr => first | (go_simp; done) | (go_simp; rfl)); intro gb193 hg w5 hbox hb; have n0_ := Aside0.mk (below_step (by repeat (first | (with_reducible first | exact HB.out | apply below_alloc | apply pw_below_drewN | apply below_drew1) | exact HB.out)) hb); have n1_ := Aside0.mk (hbox); have n2_ := Aside0.mk ((by rw [hg]; exact (below_size (by repeat (first | (with_reducible first | exact HB.out | apply below_alloc | apply pw_below_drewN | apply below_drew1) | exact HB.out))) : w.heap.size ≤ gb193)); have n3_ := Aside0.mk ((by rw [hg]; exact (below_size (by repeat (first | (with_reducible first | exact HB.out | apply below_alloc | apply pw_below_drewN | apply below_drew1) | exact HB.out))) : w.heap.size ≤ gb193)); clear HB; have HB := n0_; have BK193 := n1_; have GW193 := n2_; have GE193 := n3_; clear n0_ n1_ n2_ n3_; clear hb hbox hg) | ((with_reducible refine gate_dst (N := 12) rfl ?_); refine wpList_load_row rfl 27 _ rfl (gb193) rfl 27 #[.int .i64 a0_0, .bool a0_1, .string a0_2, .int .i64 a0_3, .bool a0_4, .string a0_5, .bool a0_6, .int .i64 a0_7, .int .i64 a0_8, .int .i64 a0_9, .int .i64 a0_10, .int .i64 a0_11, .int .i64 a0_12, .int .i64 a0_13, .int .i64 a0_14, .int .i64 a0_15, .int .i64 a0_16] (0, 0) _ (by (with_reducible repeat (first | refine blk_drewN ?_ _ | refine blk_drew ?_ | refine blk_alloc ?_ _)); exact BK193.out) Tryd.underlying27 rfl (by kernel_rfl) ?_) | (go_at_call 18; (with_reducible refine (longcaseref08_Right.calls k a0_0 a0_1 a0_2 a0_3 a0_4 a0_5 a0_6 a0_7 a0_8 a0_9 a0_10 a0_11 a0_12 a0_13 a0_14 a0_15 a0_16 true t194 _ A3.out).mono ?_); rintro e w6 ⟨rfl, hb⟩; have n0_ := Aside0.mk (blk_below (g := gb193) (o := .cells #[.int .i64 a0_0, .bool a0_1, .string a0_2, .int .i64 a0_3, .bool a0_4, .string a0_5, .bool a0_6, .int .i64 a0_7, .int .i64 a0_8, .int .i64 a0_9, .int .i64 a0_10, .int .i64 a0_11, .int .i64 a0_12, .int .i64 a0_13, .int .i64 a0_14, .int .i64 a0_15, .int .i64 a0_16] 27 (0, 0)) (by (with_reducible repeat (first | refine blk_drewN ?_ _ | refine blk_drew ?_ | refine blk_alloc ?_ _)); exact BK193.out) hb); have n1_ := Aside0.mk (below_step (by repeat (first | (with_reducible first | exact HB.out | apply below_alloc | apply pw_below_drewN | apply below_drew1 | refine below_set ?_ GE193.out) | exact HB.out)) hb); clear BK193; clear HB; have BK193 := n0_; have HB := n1_; clear n0_ n1_; (try clear hb); (try clear hb2); (try clear hk); (try clear hi))))
  (try simp only [Act.put, List.setIfInBounds_toArray, List.set_cons_zero, List.set_cons_succ])
  go_cut [25] (fun v25 wc => ∃ (kq : Nat) (x25_3 : Bool), v25 = .bool x25_3 ∧ Aside0 (longcaseref09_Turns.j0 kq a1 x25_3 a0_0 a0_1 a0_2 a0_3 a0_4 a0_5 a0_6 a0_7 a0_8 a0_9 a0_10 a0_11 a0_12 a0_13 a0_14 a0_15 a0_16 = some (r1, r2, r3)) ∧ Aside0 (kq ≤ k) ∧ Aside0 (wc.heap[gb193]? = some (.cells #[.int .i64 a0_0, .bool a0_1, .string a0_2, .int .i64 a0_3, .bool a0_4, .string a0_5, .bool a0_6, .int .i64 a0_7, .int .i64 a0_8, .int .i64 a0_9, .int .i64 a0_10, .int .i64 a0_11, .int .i64 a0_12, .int .i64 a0_13, .int .i64 a0_14, .int .i64 a0_15, .int .i64 a0_16] 27 (0, 0))) ∧ Aside0 (Below w.heap.size w wc))
  case first =>
    have H := HC4.out
    clear HC4
    by_cases c7 : t194 = true
    · subst c7
      have H1 : (if a0_6 = true then ((longcaseref09_year.f a1).bind fun t195 => (longcaseref09_Turns.j0 k a1 (!t195) a0_0 a0_1 a0_2 a0_3 a0_4 a0_5 a0_6 a0_7 a0_8 a0_9 a0_10 a0_11 a0_12 a0_13 a0_14 a0_15 a0_16)) else (longcaseref09_Turns.j0 k a1 true a0_0 a0_1 a0_2 a0_3 a0_4 a0_5 a0_6 a0_7 a0_8 a0_9 a0_10 a0_11 a0_12 a0_13 a0_14 a0_15 a0_16)) = some (r1, r2, r3) := by rw [if_pos rfl] at H; exact H
      clear H
      have H := H1
      clear H1
      by_cases c8 : a0_6 = true
      · subst c8
        have H1 : ((longcaseref09_year.f a1).bind fun t195 => (longcaseref09_Turns.j0 k a1 (!t195) a0_0 a0_1 a0_2 a0_3 a0_4 a0_5 true a0_7 a0_8 a0_9 a0_10 a0_11 a0_12 a0_13 a0_14 a0_15 a0_16)) = some (r1, r2, r3) := by rw [if_pos rfl] at H; exact H
        clear H
        have H := H1
        clear H1
        replace H := Option.bind_eq_some_iff.mp H
        obtain ⟨t195, A90, H⟩ := H
        replace H : (longcaseref09_Turns.j0 k a1 (!t195) a0_0 a0_1 a0_2 a0_3 a0_4 a0_5 true a0_7 a0_8 a0_9 a0_10 a0_11 a0_12 a0_13 a0_14 a0_15 a0_16) = some (r1, r2, r3) := H
        have A9 := Aside0.mk A90
        clear A90
        have H' := Aside0.mk H
        clear H
        have hcz10_0 : w6.cell? ⟨gb193, 0, none⟩ = some (.int .i64 a0_0) := (blk_cell BK193.out 0).trans rfl
        have hcz10_1 : w6.cell? ⟨gb193, 1, none⟩ = some (.bool a0_1) := (blk_cell BK193.out 1).trans rfl
        have hcz10_2 : w6.cell? ⟨gb193, 2, none⟩ = some (.string a0_2) := (blk_cell BK193.out 2).trans rfl
        have hcz10_3 : w6.cell? ⟨gb193, 3, none⟩ = some (.int .i64 a0_3) := (blk_cell BK193.out 3).trans rfl
        have hcz10_4 : w6.cell? ⟨gb193, 4, none⟩ = some (.bool a0_4) := (blk_cell BK193.out 4).trans rfl
        have hcz10_5 : w6.cell? ⟨gb193, 5, none⟩ = some (.string a0_5) := (blk_cell BK193.out 5).trans rfl
        have hcz10_6 : w6.cell? ⟨gb193, 6, none⟩ = some (.bool true) := (blk_cell BK193.out 6).trans rfl
        have hcz10_7 : w6.cell? ⟨gb193, 7, none⟩ = some (.int .i64 a0_7) := (blk_cell BK193.out 7).trans rfl
        have hcz10_8 : w6.cell? ⟨gb193, 8, none⟩ = some (.int .i64 a0_8) := (blk_cell BK193.out 8).trans rfl
        have hcz10_9 : w6.cell? ⟨gb193, 9, none⟩ = some (.int .i64 a0_9) := (blk_cell BK193.out 9).trans rfl
        have hcz10_10 : w6.cell? ⟨gb193, 10, none⟩ = some (.int .i64 a0_10) := (blk_cell BK193.out 10).trans rfl
        have hcz10_11 : w6.cell? ⟨gb193, 11, none⟩ = some (.int .i64 a0_11) := (blk_cell BK193.out 11).trans rfl
        have hcz10_12 : w6.cell? ⟨gb193, 12, none⟩ = some (.int .i64 a0_12) := (blk_cell BK193.out 12).trans rfl
        have hcz10_13 : w6.cell? ⟨gb193, 13, none⟩ = some (.int .i64 a0_13) := (blk_cell BK193.out 13).trans rfl
        have hcz10_14 : w6.cell? ⟨gb193, 14, none⟩ = some (.int .i64 a0_14) := (blk_cell BK193.out 14).trans rfl
        have hcz10_15 : w6.cell? ⟨gb193, 15, none⟩ = some (.int .i64 a0_15) := (blk_cell BK193.out 15).trans rfl
        have hcz10_16 : w6.cell? ⟨gb193, 16, none⟩ = some (.int .i64 a0_16) := (blk_cell BK193.out 16).trans rfl
        have hfz10_0 := blk_frozen BK193.out 0
        have hfz10_1 := blk_frozen BK193.out 1
        have hfz10_2 := blk_frozen BK193.out 2
        have hfz10_3 := blk_frozen BK193.out 3
        have hfz10_4 := blk_frozen BK193.out 4
        have hfz10_5 := blk_frozen BK193.out 5
        have hfz10_6 := blk_frozen BK193.out 6
        have hfz10_7 := blk_frozen BK193.out 7
        have hfz10_8 := blk_frozen BK193.out 8
        have hfz10_9 := blk_frozen BK193.out 9
        have hfz10_10 := blk_frozen BK193.out 10
        have hfz10_11 := blk_frozen BK193.out 11
        have hfz10_12 := blk_frozen BK193.out 12
        have hfz10_13 := blk_frozen BK193.out 13
        have hfz10_14 := blk_frozen BK193.out 14
        have hfz10_15 := blk_frozen BK193.out 15
        have hfz10_16 := blk_frozen BK193.out 16
        go_wp2_with (first | (go_at_call 29; (with_reducible refine (longcaseref09_year.calls a1 t195 _ A9.out).mono ?_); rintro e w' ⟨rfl, ⟨nd, rfl⟩⟩; (try first | exact ⟨rfl, _, World.drewN_drewN _ _ _⟩ | exact ⟨rfl, _, Eq.trans (World.drewN_drewN _ _ _) (congrArg (World.drewN _) (Nat.add_assoc _ _ _))⟩)))
        repeat (go_quiet (first | (go_at_call 29; (with_reducible refine (longcaseref09_year.calls a1 t195 _ A9.out).mono ?_); rintro e w' ⟨rfl, ⟨nd, rfl⟩⟩; (try first | exact ⟨rfl, _, World.drewN_drewN _ _ _⟩ | exact ⟨rfl, _, Eq.trans (World.drewN_drewN _ _ _) (congrArg (World.drewN _) (Nat.add_assoc _ _ _))⟩))); try go_wp2_with (first | (go_at_call 29; (with_reducible refine (longcaseref09_year.calls a1 t195 _ A9.out).mono ?_); rintro e w' ⟨rfl, ⟨nd, rfl⟩⟩; (try first | exact ⟨rfl, _, World.drewN_drewN _ _ _⟩ | exact ⟨rfl, _, Eq.trans (World.drewN_drewN _ _ _) (congrArg (World.drewN _) (Nat.add_assoc _ _ _))⟩))))
        go_meet
        case rel => exact ⟨_, (!t195), (by first | rfl | (simp; done) | (simp [*]; done)), H', ⟨by first | omega | exact Nat.le_refl _⟩, ⟨by (with_reducible repeat (first | refine blk_drewN ?_ _ | refine blk_drew ?_ | refine blk_alloc ?_ _)); exact BK193.out⟩, ⟨by repeat (first | (with_reducible first | exact HB.out | apply below_alloc | apply pw_below_drewN | apply below_drew1 | refine below_set ?_ GE193.out) | exact HB.out)⟩⟩
      · replace c8 := Bool.eq_false_iff.mpr c8
        subst c8
        have H1 : (longcaseref09_Turns.j0 k a1 true a0_0 a0_1 a0_2 a0_3 a0_4 a0_5 false a0_7 a0_8 a0_9 a0_10 a0_11 a0_12 a0_13 a0_14 a0_15 a0_16) = some (r1, r2, r3) := by rw [if_neg (show ¬ (false = true) by decide)] at H; exact H
        clear H
        have H := H1
        clear H1
        have H' := Aside0.mk H
        clear H
        have hcz11_0 : w6.cell? ⟨gb193, 0, none⟩ = some (.int .i64 a0_0) := (blk_cell BK193.out 0).trans rfl
        have hcz11_1 : w6.cell? ⟨gb193, 1, none⟩ = some (.bool a0_1) := (blk_cell BK193.out 1).trans rfl
        have hcz11_2 : w6.cell? ⟨gb193, 2, none⟩ = some (.string a0_2) := (blk_cell BK193.out 2).trans rfl
        have hcz11_3 : w6.cell? ⟨gb193, 3, none⟩ = some (.int .i64 a0_3) := (blk_cell BK193.out 3).trans rfl
        have hcz11_4 : w6.cell? ⟨gb193, 4, none⟩ = some (.bool a0_4) := (blk_cell BK193.out 4).trans rfl
        have hcz11_5 : w6.cell? ⟨gb193, 5, none⟩ = some (.string a0_5) := (blk_cell BK193.out 5).trans rfl
        have hcz11_6 : w6.cell? ⟨gb193, 6, none⟩ = some (.bool false) := (blk_cell BK193.out 6).trans rfl
        have hcz11_7 : w6.cell? ⟨gb193, 7, none⟩ = some (.int .i64 a0_7) := (blk_cell BK193.out 7).trans rfl
        have hcz11_8 : w6.cell? ⟨gb193, 8, none⟩ = some (.int .i64 a0_8) := (blk_cell BK193.out 8).trans rfl
        have hcz11_9 : w6.cell? ⟨gb193, 9, none⟩ = some (.int .i64 a0_9) := (blk_cell BK193.out 9).trans rfl
        have hcz11_10 : w6.cell? ⟨gb193, 10, none⟩ = some (.int .i64 a0_10) := (blk_cell BK193.out 10).trans rfl
        have hcz11_11 : w6.cell? ⟨gb193, 11, none⟩ = some (.int .i64 a0_11) := (blk_cell BK193.out 11).trans rfl
        have hcz11_12 : w6.cell? ⟨gb193, 12, none⟩ = some (.int .i64 a0_12) := (blk_cell BK193.out 12).trans rfl
        have hcz11_13 : w6.cell? ⟨gb193, 13, none⟩ = some (.int .i64 a0_13) := (blk_cell BK193.out 13).trans rfl
        have hcz11_14 : w6.cell? ⟨gb193, 14, none⟩ = some (.int .i64 a0_14) := (blk_cell BK193.out 14).trans rfl
        have hcz11_15 : w6.cell? ⟨gb193, 15, none⟩ = some (.int .i64 a0_15) := (blk_cell BK193.out 15).trans rfl
        have hcz11_16 : w6.cell? ⟨gb193, 16, none⟩ = some (.int .i64 a0_16) := (blk_cell BK193.out 16).trans rfl
        have hfz11_0 := blk_frozen BK193.out 0
        have hfz11_1 := blk_frozen BK193.out 1
        have hfz11_2 := blk_frozen BK193.out 2
        have hfz11_3 := blk_frozen BK193.out 3
        have hfz11_4 := blk_frozen BK193.out 4
        have hfz11_5 := blk_frozen BK193.out 5
        have hfz11_6 := blk_frozen BK193.out 6
        have hfz11_7 := blk_frozen BK193.out 7
        have hfz11_8 := blk_frozen BK193.out 8
        have hfz11_9 := blk_frozen BK193.out 9
        have hfz11_10 := blk_frozen BK193.out 10
        have hfz11_11 := blk_frozen BK193.out 11
        have hfz11_12 := blk_frozen BK193.out 12
        have hfz11_13 := blk_frozen BK193.out 13
        have hfz11_14 := blk_frozen BK193.out 14
        have hfz11_15 := blk_frozen BK193.out 15
        have hfz11_16 := blk_frozen BK193.out 16
        go_wp2
        repeat (go_quiet (fail); try go_wp2)
        go_meet
        case rel => exact ⟨_, (true), (by first | rfl | (simp; done) | (simp [*]; done)), H', ⟨by first | omega | exact Nat.le_refl _⟩, ⟨by (with_reducible repeat (first | refine blk_drewN ?_ _ | refine blk_drew ?_ | refine blk_alloc ?_ _)); exact BK193.out⟩, ⟨by repeat (first | (with_reducible first | exact HB.out | apply below_alloc | apply pw_below_drewN | apply below_drew1 | refine below_set ?_ GE193.out) | exact HB.out)⟩⟩
    · replace c7 := Bool.eq_false_iff.mpr c7
      subst c7
      have H1 : (longcaseref09_Turns.j0 k a1 true a0_0 a0_1 a0_2 a0_3 a0_4 a0_5 a0_6 a0_7 a0_8 a0_9 a0_10 a0_11 a0_12 a0_13 a0_14 a0_15 a0_16) = some (r1, r2, r3) := by rw [if_neg (show ¬ (false = true) by decide)] at H; exact H
      clear H
      have H := H1
      clear H1
      have H' := Aside0.mk H
      clear H
      go_wp2
      repeat (go_quiet (fail); try go_wp2)
      go_meet
      case rel => exact ⟨_, (true), (by first | rfl | (simp; done) | (simp [*]; done)), H', ⟨by first | omega | exact Nat.le_refl _⟩, ⟨by (with_reducible repeat (first | refine blk_drewN ?_ _ | refine blk_drew ?_ | refine blk_alloc ?_ _)); exact BK193.out⟩, ⟨by repeat (first | (with_reducible first | exact HB.out | apply below_alloc | apply pw_below_drewN | apply below_drew1 | refine below_set ?_ GE193.out) | exact HB.out)⟩⟩
  case rest =>
    clear HC4
    try clear c1
    try clear p2
    try clear c7
    try clear c8
    try clear hcz10_0
    try clear hcz10_1
    try clear hcz10_10
    try clear hcz10_11
    try clear hcz10_12
    try clear hcz10_13
    try clear hcz10_14
    try clear hcz10_15
    try clear hcz10_16
    try clear hcz10_2
    try clear hcz10_3
    try clear hcz10_4
    try clear hcz10_5
    try clear hcz10_6
    try clear hcz10_7
    try clear hcz10_8
    try clear hcz10_9
    try clear hcz11_0
    try clear hcz11_1
    try clear hcz11_10
    try clear hcz11_11
    try clear hcz11_12
    try clear hcz11_13
    try clear hcz11_14
    try clear hcz11_15
    try clear hcz11_16
    try clear hcz11_2
    try clear hcz11_3
    try clear hcz11_4
    try clear hcz11_5
    try clear hcz11_6
    try clear hcz11_7
    try clear hcz11_8
    try clear hcz11_9
    try clear hfz10_0
    try clear hfz10_1
    try clear hfz10_10
    try clear hfz10_11
    try clear hfz10_12
    try clear hfz10_13
    try clear hfz10_14
    try clear hfz10_15
    try clear hfz10_16
    try clear hfz10_2
    try clear hfz10_3
    try clear hfz10_4
    try clear hfz10_5
    try clear hfz10_6
    try clear hfz10_7
    try clear hfz10_8
    try clear hfz10_9
    try clear hfz11_0
    try clear hfz11_1
    try clear hfz11_10
    try clear hfz11_11
    try clear hfz11_12
    try clear hfz11_13
    try clear hfz11_14
    try clear hfz11_15
    try clear hfz11_16
    try clear hfz11_2
    try clear hfz11_3
    try clear hfz11_4
    try clear hfz11_5
    try clear hfz11_6
    try clear hfz11_7
    try clear hfz11_8
    try clear hfz11_9
    obtain ⟨kq, x25_3, rfl, HA, HJ3, BK193, HB⟩ := hcut
    cases kq with
    | zero => exact absurd HA.out (by simp [longcaseref09_Turns.j0])
    | succ kj3 =>
      have H := HA.out
      clear HA
      simp only [longcaseref09_Turns.j0] at H
      by_cases c12 : x25_3 = true
      · subst c12
        have H1 : (some (0, 0, false)) = some (r1, r2, r3) := by rw [if_pos rfl] at H; exact H
        clear H
        have H := H1
        clear H1
        simp only [Option.some.injEq, Prod.mk.injEq] at H
        obtain ⟨rfl, rfl, rfl⟩ := H
        go_wp2
        repeat (go_quiet (fail); try go_wp2)
        go_ret3
        exact ⟨by first | rfl | (simp [errW_none, errW_some] <;> rfl) | (simp [*, errW_none, errW_some] <;> rfl), by repeat (first | (with_reducible first | exact HB.out | apply below_alloc | apply pw_below_drewN | apply below_drew1 | refine below_set ?_ GE193.out) | exact HB.out)⟩
      · replace c12 := Bool.eq_false_iff.mpr c12
        subst c12
        have H1 : ((longcaseref09_Day.f kj3 a1 a0_7 a0_8 a0_9 a0_10 a0_11).bind fun bt196 => ((longcaseref09_Day.f kj3 a1 a0_12 a0_13 a0_14 a0_15 a0_16).bind fun bt198 => (some (wrap64 ((wrap64 ((wrap64 (bt196.1 * 86400)) + a0_11)) - a0_0), wrap64 ((wrap64 ((wrap64 (bt198.1 * 86400)) + a0_16)) - a0_3), true)))) = some (r1, r2, r3) := by rw [if_neg (show ¬ (false = true) by decide)] at H; exact H
        clear H
        have H := H1
        clear H1
        replace H := Option.bind_eq_some_iff.mp H
        obtain ⟨⟨t196, t197⟩, A130, H⟩ := H
        replace H : ((longcaseref09_Day.f kj3 a1 a0_12 a0_13 a0_14 a0_15 a0_16).bind fun bt198 => (some (wrap64 ((wrap64 ((wrap64 (t196 * 86400)) + a0_11)) - a0_0), wrap64 ((wrap64 ((wrap64 (bt198.1 * 86400)) + a0_16)) - a0_3), true))) = some (r1, r2, r3) := H
        have A13 := Aside0.mk A130
        clear A130
        replace H := Option.bind_eq_some_iff.mp H
        obtain ⟨⟨t198, t199⟩, A140, H⟩ := H
        replace H : (some (wrap64 ((wrap64 ((wrap64 (t196 * 86400)) + a0_11)) - a0_0), wrap64 ((wrap64 ((wrap64 (t198 * 86400)) + a0_16)) - a0_3), true)) = some (r1, r2, r3) := H
        have A14 := Aside0.mk A140
        clear A140
        simp only [Option.some.injEq, Prod.mk.injEq] at H
        obtain ⟨rfl, rfl, rfl⟩ := H
        have hcz15_0 : wc.cell? ⟨gb193, 0, none⟩ = some (.int .i64 a0_0) := (blk_cell BK193.out 0).trans rfl
        have hcz15_1 : wc.cell? ⟨gb193, 1, none⟩ = some (.bool a0_1) := (blk_cell BK193.out 1).trans rfl
        have hcz15_2 : wc.cell? ⟨gb193, 2, none⟩ = some (.string a0_2) := (blk_cell BK193.out 2).trans rfl
        have hcz15_3 : wc.cell? ⟨gb193, 3, none⟩ = some (.int .i64 a0_3) := (blk_cell BK193.out 3).trans rfl
        have hcz15_4 : wc.cell? ⟨gb193, 4, none⟩ = some (.bool a0_4) := (blk_cell BK193.out 4).trans rfl
        have hcz15_5 : wc.cell? ⟨gb193, 5, none⟩ = some (.string a0_5) := (blk_cell BK193.out 5).trans rfl
        have hcz15_6 : wc.cell? ⟨gb193, 6, none⟩ = some (.bool a0_6) := (blk_cell BK193.out 6).trans rfl
        have hcz15_7 : wc.cell? ⟨gb193, 7, none⟩ = some (.int .i64 a0_7) := (blk_cell BK193.out 7).trans rfl
        have hcz15_8 : wc.cell? ⟨gb193, 8, none⟩ = some (.int .i64 a0_8) := (blk_cell BK193.out 8).trans rfl
        have hcz15_9 : wc.cell? ⟨gb193, 9, none⟩ = some (.int .i64 a0_9) := (blk_cell BK193.out 9).trans rfl
        have hcz15_10 : wc.cell? ⟨gb193, 10, none⟩ = some (.int .i64 a0_10) := (blk_cell BK193.out 10).trans rfl
        have hcz15_11 : wc.cell? ⟨gb193, 11, none⟩ = some (.int .i64 a0_11) := (blk_cell BK193.out 11).trans rfl
        have hcz15_12 : wc.cell? ⟨gb193, 12, none⟩ = some (.int .i64 a0_12) := (blk_cell BK193.out 12).trans rfl
        have hcz15_13 : wc.cell? ⟨gb193, 13, none⟩ = some (.int .i64 a0_13) := (blk_cell BK193.out 13).trans rfl
        have hcz15_14 : wc.cell? ⟨gb193, 14, none⟩ = some (.int .i64 a0_14) := (blk_cell BK193.out 14).trans rfl
        have hcz15_15 : wc.cell? ⟨gb193, 15, none⟩ = some (.int .i64 a0_15) := (blk_cell BK193.out 15).trans rfl
        have hcz15_16 : wc.cell? ⟨gb193, 16, none⟩ = some (.int .i64 a0_16) := (blk_cell BK193.out 16).trans rfl
        have hfz15_0 := blk_frozen BK193.out 0
        have hfz15_1 := blk_frozen BK193.out 1
        have hfz15_2 := blk_frozen BK193.out 2
        have hfz15_3 := blk_frozen BK193.out 3
        have hfz15_4 := blk_frozen BK193.out 4
        have hfz15_5 := blk_frozen BK193.out 5
        have hfz15_6 := blk_frozen BK193.out 6
        have hfz15_7 := blk_frozen BK193.out 7
        have hfz15_8 := blk_frozen BK193.out 8
        have hfz15_9 := blk_frozen BK193.out 9
        have hfz15_10 := blk_frozen BK193.out 10
        have hfz15_11 := blk_frozen BK193.out 11
        have hfz15_12 := blk_frozen BK193.out 12
        have hfz15_13 := blk_frozen BK193.out 13
        have hfz15_14 := blk_frozen BK193.out 14
        have hfz15_15 := blk_frozen BK193.out 15
        have hfz15_16 := blk_frozen BK193.out 16
        go_wp2_with (first | (go_at_call 13; (with_reducible refine (longcaseref09_Day.calls kj3 a1 a0_7 a0_8 a0_9 a0_10 a0_11 t196 t197 _ A13.out).mono ?_); rintro e w16 ⟨rfl, hb⟩; have n0_ := Aside0.mk (blk_below (g := gb193) (o := .cells #[.int .i64 a0_0, .bool a0_1, .string a0_2, .int .i64 a0_3, .bool a0_4, .string a0_5, .bool a0_6, .int .i64 a0_7, .int .i64 a0_8, .int .i64 a0_9, .int .i64 a0_10, .int .i64 a0_11, .int .i64 a0_12, .int .i64 a0_13, .int .i64 a0_14, .int .i64 a0_15, .int .i64 a0_16] 27 (0, 0)) (by (with_reducible repeat (first | refine blk_drewN ?_ _ | refine blk_drew ?_ | refine blk_alloc ?_ _)); exact BK193.out) hb); have n1_ := Aside0.mk (below_step (by repeat (first | (with_reducible first | exact HB.out | apply below_alloc | apply pw_below_drewN | apply below_drew1 | refine below_set ?_ GE193.out) | exact HB.out)) hb); clear BK193; clear HB; have BK193 := n0_; have HB := n1_; clear n0_ n1_; (try clear hb); (try clear hb2); (try clear hk); (try clear hi); have hcz17_0 : w16.cell? ⟨gb193, 0, none⟩ = some (.int .i64 a0_0) := (blk_cell BK193.out 0).trans rfl; have hcz17_1 : w16.cell? ⟨gb193, 1, none⟩ = some (.bool a0_1) := (blk_cell BK193.out 1).trans rfl; have hcz17_2 : w16.cell? ⟨gb193, 2, none⟩ = some (.string a0_2) := (blk_cell BK193.out 2).trans rfl; have hcz17_3 : w16.cell? ⟨gb193, 3, none⟩ = some (.int .i64 a0_3) := (blk_cell BK193.out 3).trans rfl; have hcz17_4 : w16.cell? ⟨gb193, 4, none⟩ = some (.bool a0_4) := (blk_cell BK193.out 4).trans rfl; have hcz17_5 : w16.cell? ⟨gb193, 5, none⟩ = some (.string a0_5) := (blk_cell BK193.out 5).trans rfl; have hcz17_6 : w16.cell? ⟨gb193, 6, none⟩ = some (.bool a0_6) := (blk_cell BK193.out 6).trans rfl; have hcz17_7 : w16.cell? ⟨gb193, 7, none⟩ = some (.int .i64 a0_7) := (blk_cell BK193.out 7).trans rfl; have hcz17_8 : w16.cell? ⟨gb193, 8, none⟩ = some (.int .i64 a0_8) := (blk_cell BK193.out 8).trans rfl; have hcz17_9 : w16.cell? ⟨gb193, 9, none⟩ = some (.int .i64 a0_9) := (blk_cell BK193.out 9).trans rfl; have hcz17_10 : w16.cell? ⟨gb193, 10, none⟩ = some (.int .i64 a0_10) := (blk_cell BK193.out 10).trans rfl; have hcz17_11 : w16.cell? ⟨gb193, 11, none⟩ = some (.int .i64 a0_11) := (blk_cell BK193.out 11).trans rfl; have hcz17_12 : w16.cell? ⟨gb193, 12, none⟩ = some (.int .i64 a0_12) := (blk_cell BK193.out 12).trans rfl; have hcz17_13 : w16.cell? ⟨gb193, 13, none⟩ = some (.int .i64 a0_13) := (blk_cell BK193.out 13).trans rfl; have hcz17_14 : w16.cell? ⟨gb193, 14, none⟩ = some (.int .i64 a0_14) := (blk_cell BK193.out 14).trans rfl; have hcz17_15 : w16.cell? ⟨gb193, 15, none⟩ = some (.int .i64 a0_15) := (blk_cell BK193.out 15).trans rfl; have hcz17_16 : w16.cell? ⟨gb193, 16, none⟩ = some (.int .i64 a0_16) := (blk_cell BK193.out 16).trans rfl; have hfz17_0 := blk_frozen BK193.out 0; have hfz17_1 := blk_frozen BK193.out 1; have hfz17_2 := blk_frozen BK193.out 2; have hfz17_3 := blk_frozen BK193.out 3; have hfz17_4 := blk_frozen BK193.out 4; have hfz17_5 := blk_frozen BK193.out 5; have hfz17_6 := blk_frozen BK193.out 6; have hfz17_7 := blk_frozen BK193.out 7; have hfz17_8 := blk_frozen BK193.out 8; have hfz17_9 := blk_frozen BK193.out 9; have hfz17_10 := blk_frozen BK193.out 10; have hfz17_11 := blk_frozen BK193.out 11; have hfz17_12 := blk_frozen BK193.out 12; have hfz17_13 := blk_frozen BK193.out 13; have hfz17_14 := blk_frozen BK193.out 14; have hfz17_15 := blk_frozen BK193.out 15; have hfz17_16 := blk_frozen BK193.out 16) | (go_at_call 13; (with_reducible refine (longcaseref09_Day.calls kj3 a1 a0_12 a0_13 a0_14 a0_15 a0_16 t198 t199 _ A14.out).mono ?_); rintro e w18 ⟨rfl, hb⟩; have n0_ := Aside0.mk (blk_below (g := gb193) (o := .cells #[.int .i64 a0_0, .bool a0_1, .string a0_2, .int .i64 a0_3, .bool a0_4, .string a0_5, .bool a0_6, .int .i64 a0_7, .int .i64 a0_8, .int .i64 a0_9, .int .i64 a0_10, .int .i64 a0_11, .int .i64 a0_12, .int .i64 a0_13, .int .i64 a0_14, .int .i64 a0_15, .int .i64 a0_16] 27 (0, 0)) (by (with_reducible repeat (first | refine blk_drewN ?_ _ | refine blk_drew ?_ | refine blk_alloc ?_ _)); exact BK193.out) hb); have n1_ := Aside0.mk (below_step (by repeat (first | (with_reducible first | exact HB.out | apply below_alloc | apply pw_below_drewN | apply below_drew1 | refine below_set ?_ GE193.out) | exact HB.out)) hb); clear BK193; clear HB; have BK193 := n0_; have HB := n1_; clear n0_ n1_; (try clear hb); (try clear hb2); (try clear hk); (try clear hi); have hcz19_0 : w18.cell? ⟨gb193, 0, none⟩ = some (.int .i64 a0_0) := (blk_cell BK193.out 0).trans rfl; have hcz19_1 : w18.cell? ⟨gb193, 1, none⟩ = some (.bool a0_1) := (blk_cell BK193.out 1).trans rfl; have hcz19_2 : w18.cell? ⟨gb193, 2, none⟩ = some (.string a0_2) := (blk_cell BK193.out 2).trans rfl; have hcz19_3 : w18.cell? ⟨gb193, 3, none⟩ = some (.int .i64 a0_3) := (blk_cell BK193.out 3).trans rfl; have hcz19_4 : w18.cell? ⟨gb193, 4, none⟩ = some (.bool a0_4) := (blk_cell BK193.out 4).trans rfl; have hcz19_5 : w18.cell? ⟨gb193, 5, none⟩ = some (.string a0_5) := (blk_cell BK193.out 5).trans rfl; have hcz19_6 : w18.cell? ⟨gb193, 6, none⟩ = some (.bool a0_6) := (blk_cell BK193.out 6).trans rfl; have hcz19_7 : w18.cell? ⟨gb193, 7, none⟩ = some (.int .i64 a0_7) := (blk_cell BK193.out 7).trans rfl; have hcz19_8 : w18.cell? ⟨gb193, 8, none⟩ = some (.int .i64 a0_8) := (blk_cell BK193.out 8).trans rfl; have hcz19_9 : w18.cell? ⟨gb193, 9, none⟩ = some (.int .i64 a0_9) := (blk_cell BK193.out 9).trans rfl; have hcz19_10 : w18.cell? ⟨gb193, 10, none⟩ = some (.int .i64 a0_10) := (blk_cell BK193.out 10).trans rfl; have hcz19_11 : w18.cell? ⟨gb193, 11, none⟩ = some (.int .i64 a0_11) := (blk_cell BK193.out 11).trans rfl; have hcz19_12 : w18.cell? ⟨gb193, 12, none⟩ = some (.int .i64 a0_12) := (blk_cell BK193.out 12).trans rfl; have hcz19_13 : w18.cell? ⟨gb193, 13, none⟩ = some (.int .i64 a0_13) := (blk_cell BK193.out 13).trans rfl; have hcz19_14 : w18.cell? ⟨gb193, 14, none⟩ = some (.int .i64 a0_14) := (blk_cell BK193.out 14).trans rfl; have hcz19_15 : w18.cell? ⟨gb193, 15, none⟩ = some (.int .i64 a0_15) := (blk_cell BK193.out 15).trans rfl; have hcz19_16 : w18.cell? ⟨gb193, 16, none⟩ = some (.int .i64 a0_16) := (blk_cell BK193.out 16).trans rfl; have hfz19_0 := blk_frozen BK193.out 0; have hfz19_1 := blk_frozen BK193.out 1; have hfz19_2 := blk_frozen BK193.out 2; have hfz19_3 := blk_frozen BK193.out 3; have hfz19_4 := blk_frozen BK193.out 4; have hfz19_5 := blk_frozen BK193.out 5; have hfz19_6 := blk_frozen BK193.out 6; have hfz19_7 := blk_frozen BK193.out 7; have hfz19_8 := blk_frozen BK193.out 8; have hfz19_9 := blk_frozen BK193.out 9; have hfz19_10 := blk_frozen BK193.out 10; have hfz19_11 := blk_frozen BK193.out 11; have hfz19_12 := blk_frozen BK193.out 12; have hfz19_13 := blk_frozen BK193.out 13; have hfz19_14 := blk_frozen BK193.out 14; have hfz19_15 := blk_frozen BK193.out 15; have hfz19_16 := blk_frozen BK193.out 16))
        repeat (go_quiet (first | (go_at_call 13; (with_reducible refine (longcaseref09_Day.calls kj3 a1 a0_7 a0_8 a0_9 a0_10 a0_11 t196 t197 _ A13.out).mono ?_); rintro e w16 ⟨rfl, hb⟩; have n0_ := Aside0.mk (blk_below (g := gb193) (o := .cells #[.int .i64 a0_0, .bool a0_1, .string a0_2, .int .i64 a0_3, .bool a0_4, .string a0_5, .bool a0_6, .int .i64 a0_7, .int .i64 a0_8, .int .i64 a0_9, .int .i64 a0_10, .int .i64 a0_11, .int .i64 a0_12, .int .i64 a0_13, .int .i64 a0_14, .int .i64 a0_15, .int .i64 a0_16] 27 (0, 0)) (by (with_reducible repeat (first | refine blk_drewN ?_ _ | refine blk_drew ?_ | refine blk_alloc ?_ _)); exact BK193.out) hb); have n1_ := Aside0.mk (below_step (by repeat (first | (with_reducible first | exact HB.out | apply below_alloc | apply pw_below_drewN | apply below_drew1 | refine below_set ?_ GE193.out) | exact HB.out)) hb); clear BK193; clear HB; have BK193 := n0_; have HB := n1_; clear n0_ n1_; (try clear hb); (try clear hb2); (try clear hk); (try clear hi); have hcz17_0 : w16.cell? ⟨gb193, 0, none⟩ = some (.int .i64 a0_0) := (blk_cell BK193.out 0).trans rfl; have hcz17_1 : w16.cell? ⟨gb193, 1, none⟩ = some (.bool a0_1) := (blk_cell BK193.out 1).trans rfl; have hcz17_2 : w16.cell? ⟨gb193, 2, none⟩ = some (.string a0_2) := (blk_cell BK193.out 2).trans rfl; have hcz17_3 : w16.cell? ⟨gb193, 3, none⟩ = some (.int .i64 a0_3) := (blk_cell BK193.out 3).trans rfl; have hcz17_4 : w16.cell? ⟨gb193, 4, none⟩ = some (.bool a0_4) := (blk_cell BK193.out 4).trans rfl; have hcz17_5 : w16.cell? ⟨gb193, 5, none⟩ = some (.string a0_5) := (blk_cell BK193.out 5).trans rfl; have hcz17_6 : w16.cell? ⟨gb193, 6, none⟩ = some (.bool a0_6) := (blk_cell BK193.out 6).trans rfl; have hcz17_7 : w16.cell? ⟨gb193, 7, none⟩ = some (.int .i64 a0_7) := (blk_cell BK193.out 7).trans rfl; have hcz17_8 : w16.cell? ⟨gb193, 8, none⟩ = some (.int .i64 a0_8) := (blk_cell BK193.out 8).trans rfl; have hcz17_9 : w16.cell? ⟨gb193, 9, none⟩ = some (.int .i64 a0_9) := (blk_cell BK193.out 9).trans rfl; have hcz17_10 : w16.cell? ⟨gb193, 10, none⟩ = some (.int .i64 a0_10) := (blk_cell BK193.out 10).trans rfl; have hcz17_11 : w16.cell? ⟨gb193, 11, none⟩ = some (.int .i64 a0_11) := (blk_cell BK193.out 11).trans rfl; have hcz17_12 : w16.cell? ⟨gb193, 12, none⟩ = some (.int .i64 a0_12) := (blk_cell BK193.out 12).trans rfl; have hcz17_13 : w16.cell? ⟨gb193, 13, none⟩ = some (.int .i64 a0_13) := (blk_cell BK193.out 13).trans rfl; have hcz17_14 : w16.cell? ⟨gb193, 14, none⟩ = some (.int .i64 a0_14) := (blk_cell BK193.out 14).trans rfl; have hcz17_15 : w16.cell? ⟨gb193, 15, none⟩ = some (.int .i64 a0_15) := (blk_cell BK193.out 15).trans rfl; have hcz17_16 : w16.cell? ⟨gb193, 16, none⟩ = some (.int .i64 a0_16) := (blk_cell BK193.out 16).trans rfl; have hfz17_0 := blk_frozen BK193.out 0; have hfz17_1 := blk_frozen BK193.out 1; have hfz17_2 := blk_frozen BK193.out 2; have hfz17_3 := blk_frozen BK193.out 3; have hfz17_4 := blk_frozen BK193.out 4; have hfz17_5 := blk_frozen BK193.out 5; have hfz17_6 := blk_frozen BK193.out 6; have hfz17_7 := blk_frozen BK193.out 7; have hfz17_8 := blk_frozen BK193.out 8; have hfz17_9 := blk_frozen BK193.out 9; have hfz17_10 := blk_frozen BK193.out 10; have hfz17_11 := blk_frozen BK193.out 11; have hfz17_12 := blk_frozen BK193.out 12; have hfz17_13 := blk_frozen BK193.out 13; have hfz17_14 := blk_frozen BK193.out 14; have hfz17_15 := blk_frozen BK193.out 15; have hfz17_16 := blk_frozen BK193.out 16) | (go_at_call 13; (with_reducible refine (longcaseref09_Day.calls kj3 a1 a0_12 a0_13 a0_14 a0_15 a0_16 t198 t199 _ A14.out).mono ?_); rintro e w18 ⟨rfl, hb⟩; have n0_ := Aside0.mk (blk_below (g := gb193) (o := .cells #[.int .i64 a0_0, .bool a0_1, .string a0_2, .int .i64 a0_3, .bool a0_4, .string a0_5, .bool a0_6, .int .i64 a0_7, .int .i64 a0_8, .int .i64 a0_9, .int .i64 a0_10, .int .i64 a0_11, .int .i64 a0_12, .int .i64 a0_13, .int .i64 a0_14, .int .i64 a0_15, .int .i64 a0_16] 27 (0, 0)) (by (with_reducible repeat (first | refine blk_drewN ?_ _ | refine blk_drew ?_ | refine blk_alloc ?_ _)); exact BK193.out) hb); have n1_ := Aside0.mk (below_step (by repeat (first | (with_reducible first | exact HB.out | apply below_alloc | apply pw_below_drewN | apply below_drew1 | refine below_set ?_ GE193.out) | exact HB.out)) hb); clear BK193; clear HB; have BK193 := n0_; have HB := n1_; clear n0_ n1_; (try clear hb); (try clear hb2); (try clear hk); (try clear hi); have hcz19_0 : w18.cell? ⟨gb193, 0, none⟩ = some (.int .i64 a0_0) := (blk_cell BK193.out 0).trans rfl; have hcz19_1 : w18.cell? ⟨gb193, 1, none⟩ = some (.bool a0_1) := (blk_cell BK193.out 1).trans rfl; have hcz19_2 : w18.cell? ⟨gb193, 2, none⟩ = some (.string a0_2) := (blk_cell BK193.out 2).trans rfl; have hcz19_3 : w18.cell? ⟨gb193, 3, none⟩ = some (.int .i64 a0_3) := (blk_cell BK193.out 3).trans rfl; have hcz19_4 : w18.cell? ⟨gb193, 4, none⟩ = some (.bool a0_4) := (blk_cell BK193.out 4).trans rfl; have hcz19_5 : w18.cell? ⟨gb193, 5, none⟩ = some (.string a0_5) := (blk_cell BK193.out 5).trans rfl; have hcz19_6 : w18.cell? ⟨gb193, 6, none⟩ = some (.bool a0_6) := (blk_cell BK193.out 6).trans rfl; have hcz19_7 : w18.cell? ⟨gb193, 7, none⟩ = some (.int .i64 a0_7) := (blk_cell BK193.out 7).trans rfl; have hcz19_8 : w18.cell? ⟨gb193, 8, none⟩ = some (.int .i64 a0_8) := (blk_cell BK193.out 8).trans rfl; have hcz19_9 : w18.cell? ⟨gb193, 9, none⟩ = some (.int .i64 a0_9) := (blk_cell BK193.out 9).trans rfl; have hcz19_10 : w18.cell? ⟨gb193, 10, none⟩ = some (.int .i64 a0_10) := (blk_cell BK193.out 10).trans rfl; have hcz19_11 : w18.cell? ⟨gb193, 11, none⟩ = some (.int .i64 a0_11) := (blk_cell BK193.out 11).trans rfl; have hcz19_12 : w18.cell? ⟨gb193, 12, none⟩ = some (.int .i64 a0_12) := (blk_cell BK193.out 12).trans rfl; have hcz19_13 : w18.cell? ⟨gb193, 13, none⟩ = some (.int .i64 a0_13) := (blk_cell BK193.out 13).trans rfl; have hcz19_14 : w18.cell? ⟨gb193, 14, none⟩ = some (.int .i64 a0_14) := (blk_cell BK193.out 14).trans rfl; have hcz19_15 : w18.cell? ⟨gb193, 15, none⟩ = some (.int .i64 a0_15) := (blk_cell BK193.out 15).trans rfl; have hcz19_16 : w18.cell? ⟨gb193, 16, none⟩ = some (.int .i64 a0_16) := (blk_cell BK193.out 16).trans rfl; have hfz19_0 := blk_frozen BK193.out 0; have hfz19_1 := blk_frozen BK193.out 1; have hfz19_2 := blk_frozen BK193.out 2; have hfz19_3 := blk_frozen BK193.out 3; have hfz19_4 := blk_frozen BK193.out 4; have hfz19_5 := blk_frozen BK193.out 5; have hfz19_6 := blk_frozen BK193.out 6; have hfz19_7 := blk_frozen BK193.out 7; have hfz19_8 := blk_frozen BK193.out 8; have hfz19_9 := blk_frozen BK193.out 9; have hfz19_10 := blk_frozen BK193.out 10; have hfz19_11 := blk_frozen BK193.out 11; have hfz19_12 := blk_frozen BK193.out 12; have hfz19_13 := blk_frozen BK193.out 13; have hfz19_14 := blk_frozen BK193.out 14; have hfz19_15 := blk_frozen BK193.out 15; have hfz19_16 := blk_frozen BK193.out 16)); try go_wp2_with (first | (go_at_call 13; (with_reducible refine (longcaseref09_Day.calls kj3 a1 a0_7 a0_8 a0_9 a0_10 a0_11 t196 t197 _ A13.out).mono ?_); rintro e w16 ⟨rfl, hb⟩; have n0_ := Aside0.mk (blk_below (g := gb193) (o := .cells #[.int .i64 a0_0, .bool a0_1, .string a0_2, .int .i64 a0_3, .bool a0_4, .string a0_5, .bool a0_6, .int .i64 a0_7, .int .i64 a0_8, .int .i64 a0_9, .int .i64 a0_10, .int .i64 a0_11, .int .i64 a0_12, .int .i64 a0_13, .int .i64 a0_14, .int .i64 a0_15, .int .i64 a0_16] 27 (0, 0)) (by (with_reducible repeat (first | refine blk_drewN ?_ _ | refine blk_drew ?_ | refine blk_alloc ?_ _)); exact BK193.out) hb); have n1_ := Aside0.mk (below_step (by repeat (first | (with_reducible first | exact HB.out | apply below_alloc | apply pw_below_drewN | apply below_drew1 | refine below_set ?_ GE193.out) | exact HB.out)) hb); clear BK193; clear HB; have BK193 := n0_; have HB := n1_; clear n0_ n1_; (try clear hb); (try clear hb2); (try clear hk); (try clear hi); have hcz17_0 : w16.cell? ⟨gb193, 0, none⟩ = some (.int .i64 a0_0) := (blk_cell BK193.out 0).trans rfl; have hcz17_1 : w16.cell? ⟨gb193, 1, none⟩ = some (.bool a0_1) := (blk_cell BK193.out 1).trans rfl; have hcz17_2 : w16.cell? ⟨gb193, 2, none⟩ = some (.string a0_2) := (blk_cell BK193.out 2).trans rfl; have hcz17_3 : w16.cell? ⟨gb193, 3, none⟩ = some (.int .i64 a0_3) := (blk_cell BK193.out 3).trans rfl; have hcz17_4 : w16.cell? ⟨gb193, 4, none⟩ = some (.bool a0_4) := (blk_cell BK193.out 4).trans rfl; have hcz17_5 : w16.cell? ⟨gb193, 5, none⟩ = some (.string a0_5) := (blk_cell BK193.out 5).trans rfl; have hcz17_6 : w16.cell? ⟨gb193, 6, none⟩ = some (.bool a0_6) := (blk_cell BK193.out 6).trans rfl; have hcz17_7 : w16.cell? ⟨gb193, 7, none⟩ = some (.int .i64 a0_7) := (blk_cell BK193.out 7).trans rfl; have hcz17_8 : w16.cell? ⟨gb193, 8, none⟩ = some (.int .i64 a0_8) := (blk_cell BK193.out 8).trans rfl; have hcz17_9 : w16.cell? ⟨gb193, 9, none⟩ = some (.int .i64 a0_9) := (blk_cell BK193.out 9).trans rfl; have hcz17_10 : w16.cell? ⟨gb193, 10, none⟩ = some (.int .i64 a0_10) := (blk_cell BK193.out 10).trans rfl; have hcz17_11 : w16.cell? ⟨gb193, 11, none⟩ = some (.int .i64 a0_11) := (blk_cell BK193.out 11).trans rfl; have hcz17_12 : w16.cell? ⟨gb193, 12, none⟩ = some (.int .i64 a0_12) := (blk_cell BK193.out 12).trans rfl; have hcz17_13 : w16.cell? ⟨gb193, 13, none⟩ = some (.int .i64 a0_13) := (blk_cell BK193.out 13).trans rfl; have hcz17_14 : w16.cell? ⟨gb193, 14, none⟩ = some (.int .i64 a0_14) := (blk_cell BK193.out 14).trans rfl; have hcz17_15 : w16.cell? ⟨gb193, 15, none⟩ = some (.int .i64 a0_15) := (blk_cell BK193.out 15).trans rfl; have hcz17_16 : w16.cell? ⟨gb193, 16, none⟩ = some (.int .i64 a0_16) := (blk_cell BK193.out 16).trans rfl; have hfz17_0 := blk_frozen BK193.out 0; have hfz17_1 := blk_frozen BK193.out 1; have hfz17_2 := blk_frozen BK193.out 2; have hfz17_3 := blk_frozen BK193.out 3; have hfz17_4 := blk_frozen BK193.out 4; have hfz17_5 := blk_frozen BK193.out 5; have hfz17_6 := blk_frozen BK193.out 6; have hfz17_7 := blk_frozen BK193.out 7; have hfz17_8 := blk_frozen BK193.out 8; have hfz17_9 := blk_frozen BK193.out 9; have hfz17_10 := blk_frozen BK193.out 10; have hfz17_11 := blk_frozen BK193.out 11; have hfz17_12 := blk_frozen BK193.out 12; have hfz17_13 := blk_frozen BK193.out 13; have hfz17_14 := blk_frozen BK193.out 14; have hfz17_15 := blk_frozen BK193.out 15; have hfz17_16 := blk_frozen BK193.out 16) | (go_at_call 13; (with_reducible refine (longcaseref09_Day.calls kj3 a1 a0_12 a0_13 a0_14 a0_15 a0_16 t198 t199 _ A14.out).mono ?_); rintro e w18 ⟨rfl, hb⟩; have n0_ := Aside0.mk (blk_below (g := gb193) (o := .cells #[.int .i64 a0_0, .bool a0_1, .string a0_2, .int .i64 a0_3, .bool a0_4, .string a0_5, .bool a0_6, .int .i64 a0_7, .int .i64 a0_8, .int .i64 a0_9, .int .i64 a0_10, .int .i64 a0_11, .int .i64 a0_12, .int .i64 a0_13, .int .i64 a0_14, .int .i64 a0_15, .int .i64 a0_16] 27 (0, 0)) (by (with_reducible repeat (first | refine blk_drewN ?_ _ | refine blk_drew ?_ | refine blk_alloc ?_ _)); exact BK193.out) hb); have n1_ := Aside0.mk (below_step (by repeat (first | (with_reducible first | exact HB.out | apply below_alloc | apply pw_below_drewN | apply below_drew1 | refine below_set ?_ GE193.out) | exact HB.out)) hb); clear BK193; clear HB; have BK193 := n0_; have HB := n1_; clear n0_ n1_; (try clear hb); (try clear hb2); (try clear hk); (try clear hi); have hcz19_0 : w18.cell? ⟨gb193, 0, none⟩ = some (.int .i64 a0_0) := (blk_cell BK193.out 0).trans rfl; have hcz19_1 : w18.cell? ⟨gb193, 1, none⟩ = some (.bool a0_1) := (blk_cell BK193.out 1).trans rfl; have hcz19_2 : w18.cell? ⟨gb193, 2, none⟩ = some (.string a0_2) := (blk_cell BK193.out 2).trans rfl; have hcz19_3 : w18.cell? ⟨gb193, 3, none⟩ = some (.int .i64 a0_3) := (blk_cell BK193.out 3).trans rfl; have hcz19_4 : w18.cell? ⟨gb193, 4, none⟩ = some (.bool a0_4) := (blk_cell BK193.out 4).trans rfl; have hcz19_5 : w18.cell? ⟨gb193, 5, none⟩ = some (.string a0_5) := (blk_cell BK193.out 5).trans rfl; have hcz19_6 : w18.cell? ⟨gb193, 6, none⟩ = some (.bool a0_6) := (blk_cell BK193.out 6).trans rfl; have hcz19_7 : w18.cell? ⟨gb193, 7, none⟩ = some (.int .i64 a0_7) := (blk_cell BK193.out 7).trans rfl; have hcz19_8 : w18.cell? ⟨gb193, 8, none⟩ = some (.int .i64 a0_8) := (blk_cell BK193.out 8).trans rfl; have hcz19_9 : w18.cell? ⟨gb193, 9, none⟩ = some (.int .i64 a0_9) := (blk_cell BK193.out 9).trans rfl; have hcz19_10 : w18.cell? ⟨gb193, 10, none⟩ = some (.int .i64 a0_10) := (blk_cell BK193.out 10).trans rfl; have hcz19_11 : w18.cell? ⟨gb193, 11, none⟩ = some (.int .i64 a0_11) := (blk_cell BK193.out 11).trans rfl; have hcz19_12 : w18.cell? ⟨gb193, 12, none⟩ = some (.int .i64 a0_12) := (blk_cell BK193.out 12).trans rfl; have hcz19_13 : w18.cell? ⟨gb193, 13, none⟩ = some (.int .i64 a0_13) := (blk_cell BK193.out 13).trans rfl; have hcz19_14 : w18.cell? ⟨gb193, 14, none⟩ = some (.int .i64 a0_14) := (blk_cell BK193.out 14).trans rfl; have hcz19_15 : w18.cell? ⟨gb193, 15, none⟩ = some (.int .i64 a0_15) := (blk_cell BK193.out 15).trans rfl; have hcz19_16 : w18.cell? ⟨gb193, 16, none⟩ = some (.int .i64 a0_16) := (blk_cell BK193.out 16).trans rfl; have hfz19_0 := blk_frozen BK193.out 0; have hfz19_1 := blk_frozen BK193.out 1; have hfz19_2 := blk_frozen BK193.out 2; have hfz19_3 := blk_frozen BK193.out 3; have hfz19_4 := blk_frozen BK193.out 4; have hfz19_5 := blk_frozen BK193.out 5; have hfz19_6 := blk_frozen BK193.out 6; have hfz19_7 := blk_frozen BK193.out 7; have hfz19_8 := blk_frozen BK193.out 8; have hfz19_9 := blk_frozen BK193.out 9; have hfz19_10 := blk_frozen BK193.out 10; have hfz19_11 := blk_frozen BK193.out 11; have hfz19_12 := blk_frozen BK193.out 12; have hfz19_13 := blk_frozen BK193.out 13; have hfz19_14 := blk_frozen BK193.out 14; have hfz19_15 := blk_frozen BK193.out 15; have hfz19_16 := blk_frozen BK193.out 16)))
        go_ret3
        exact ⟨by first | rfl | (simp [errW_none, errW_some] <;> rfl) | (simp [*, errW_none, errW_some] <;> rfl), by repeat (first | (with_reducible first | exact HB.out | apply below_alloc | apply pw_below_drewN | apply below_drew1 | refine below_set ?_ GE193.out) | exact HB.out)⟩
end Go.Proofs.YtgbehcahdgamoaaDoor.Fn

namespace Go.Proofs.YtgbehcahdgamoaaDoor.Fn
open Go.RowKit Go.Proofs.YtgbehcahdgamoaaDoorW.PrintWords Go.Proofs.YtgbehcahdgamoaaDoorW.PrintLast Go.Proofs.YtgbehcahdgamoaaDoorW.PrintMore
theorem refTurns_eq (K : Nat) (hK : 1100 ≤ K) (s0 : Int) (s1 : Bool) (s2 : ByteArray) (d0 : Int) (d1 : Bool) (d2 : ByteArray) (bo : Bool) (a0 : Int) (a1 : Int) (a2 : Int) (a3 : Int) (a4 : Int) (e0 : Int) (e1 : Int) (e2 : Int) (e3 : Int) (e4 : Int) (y : Int) : longcaseref09_Turns.f K s0 s1 s2 d0 d1 d2 bo a0 a1 a2 a3 a4 e0 e1 e2 e3 e4 y = some (if turnsB s0 s1 s2 d0 d1 d2 bo a0 a1 a2 a3 a4 e0 e1 e2 e3 e4 y = true then (startN y s0 a0 a1 a2 a3 a4, startN y d0 e0 e1 e2 e3 e4, true) else (0, 0, false)) := by
  obtain ⟨K, rfl⟩ : ∃ k, K = k + 23 := ⟨K - 23, by omega⟩
  unfold longcaseref09_Turns.f turnsB
  rw [refRight_eq, refYear_eq]
  simp only [Option.bind_some]
  obtain ⟨L, hL⟩ : ∃ L, K + 23 = L + 1 := ⟨K + 22, by omega⟩
  rw [hL]
  cases hr : rightB s0 s1 s2 d0 d1 d2 bo a0 a1 a2 a3 a4 e0 e1 e2 e3 e4 true
  · rw [if_neg (by decide), longcaseref09_Turns.j0, if_pos rfl, if_neg (by simp)]
  · rw [if_pos rfl]
    cases bo
    · rw [if_neg (by decide), longcaseref09_Turns.j0, if_pos rfl, if_neg (by simp)]
    · rw [if_pos rfl, longcaseref09_Turns.j0]
      cases hy : mayB y
      · rw [if_pos (by decide), if_neg (by simp)]
      · rw [if_neg (by decide), if_pos (by decide)]
        unfold rightB at hr
        rw [if_pos rfl] at hr
        simp only [Bool.and_eq_true, inB, decide_eq_true_eq] at hr
        obtain ⟨_, _, hs, _, _, hd, ha, he⟩ := hr
        rw [refDay_eq L (by omega), refDay_eq L (by omega), if_pos ⟨ha, hy⟩, if_pos ⟨he, hy⟩]
        have z1 := dayN_size y a0 a1 a2 a3 a4 hy ha
        have z2 := dayN_size y e0 e1 e2 e3 e4 hy he
        have c1 := chg_time a0 a1 a2 a3 a4 ha
        have c2 := chg_time e0 e1 e2 e3 e4 he
        simp only [Option.bind_some]
        unfold startN
        generalize dayN y a0 a1 a2 a3 = A at *
        generalize dayN y e0 e1 e2 e3 = B at *
        rw [w64 (a := A * 86400) ⟨by omega, by omega⟩, w64 (a := B * 86400) ⟨by omega, by omega⟩, w64 (a := A * 86400 + a4) ⟨by omega, by omega⟩, w64 (a := B * 86400 + e4) ⟨by omega, by omega⟩, w64 (a := A * 86400 + a4 - s0) ⟨by omega, by omega⟩, w64 (a := B * 86400 + e4 - d0) ⟨by omega, by omega⟩, Int.add_sub_assoc, Int.add_sub_assoc]
end Go.Proofs.YtgbehcahdgamoaaDoor.Fn


namespace Go.Proofs.YtgbehcahdgamoaaDoor.Fn
open Go.RowKit Go.Proofs.YtgbehcahdgamoaaDoorW.PrintWords Go.Proofs.YtgbehcahdgamoaaDoorW.PrintLast Go.Proofs.YtgbehcahdgamoaaDoorW.PrintMore
set_option linter.unusedVariables false
set_option linter.unusedSimpArgs false
/-! ### longcaseref09_At: function 17 -/
mutual
def longcaseref09_At.l0 : Nat → Int → Int → Bool → Int → Bool → Bool → Int → Bool → Int → Int → Bool → ByteArray → Int → Bool → ByteArray → Bool → Int → Int → Int → Int → Int → Int → Int → Int → Int → Int → Option (Int × Bool × ByteArray × Int)
  | 0, _, _, _, _, _, _, _, _, _, _, _, _, _, _, _, _, _, _, _, _, _, _, _, _, _, _ => none
  | k + 1, x1, x10, x14, x15, x16, x17, x18, x19, x20, x207000, x207001, x207002, x207003, x207004, x207005, x207006, x207007, x207008, x207009, x207010, x207011, x207012, x207013, x207014, x207015, x207016 => if x20 ≤ (wrap64 (x10 + 1)) then ((longcaseref09_Turns.f k x207000 x207001 x207002 x207003 x207004 x207005 x207006 x207007 x207008 x207009 x207010 x207011 x207012 x207013 x207014 x207015 x207016 x20).bind fun bt216 => (if bt216.2.2 = true then (if bt216.2.1 ≤ x1 then (if x14 = true then (longcaseref09_At.j1 k x1 x10 x14 x15 x16 x17 x18 x19 x20 bt216.1 bt216.2.1 (decide (bt216.2.1 > x15)) x207000 x207001 x207002 x207003 x207004 x207005 x207006 x207007 x207008 x207009 x207010 x207011 x207012 x207013 x207014 x207015 x207016) else (longcaseref09_At.j1 k x1 x10 x14 x15 x16 x17 x18 x19 x20 bt216.1 bt216.2.1 true x207000 x207001 x207002 x207003 x207004 x207005 x207006 x207007 x207008 x207009 x207010 x207011 x207012 x207013 x207014 x207015 x207016)) else (longcaseref09_At.j1 k x1 x10 x14 x15 x16 x17 x18 x19 x20 bt216.1 bt216.2.1 false x207000 x207001 x207002 x207003 x207004 x207005 x207006 x207007 x207008 x207009 x207010 x207011 x207012 x207013 x207014 x207015 x207016)) else (longcaseref09_At.l0 k x1 x10 x14 x15 x16 x17 x18 x19 (wrap64 (x20 + 1)) x207000 x207001 x207002 x207003 x207004 x207005 x207006 x207007 x207008 x207009 x207010 x207011 x207012 x207013 x207014 x207015 x207016))) else (if x14 = true then (if x16 = true then (some (x207003, x207004, x207005, 0)) else (some (x207000, x207001, x207002, 0))) else (if x19 = true then (some (x207000, x207001, x207002, 0)) else (some (x207003, x207004, x207005, 0))))
def longcaseref09_At.j1 : Nat → Int → Int → Bool → Int → Bool → Bool → Int → Bool → Int → Int → Int → Bool → Int → Bool → ByteArray → Int → Bool → ByteArray → Bool → Int → Int → Int → Int → Int → Int → Int → Int → Int → Int → Option (Int × Bool × ByteArray × Int)
  | 0, _, _, _, _, _, _, _, _, _, _, _, _, _, _, _, _, _, _, _, _, _, _, _, _, _, _, _, _, _ => none
  | k + 1, x1, x10, x14, x15, x16, x17, x18, x19, x20, x21, x22, x78, x207000, x207001, x207002, x207003, x207004, x207005, x207006, x207007, x207008, x207009, x207010, x207011, x207012, x207013, x207014, x207015, x207016 => if x78 = true then (longcaseref09_At.j2 k x1 x10 true x22 false x17 x18 x19 x20 x21 x22 x207000 x207001 x207002 x207003 x207004 x207005 x207006 x207007 x207008 x207009 x207010 x207011 x207012 x207013 x207014 x207015 x207016) else (longcaseref09_At.j2 k x1 x10 x14 x15 x16 x17 x18 x19 x20 x21 x22 x207000 x207001 x207002 x207003 x207004 x207005 x207006 x207007 x207008 x207009 x207010 x207011 x207012 x207013 x207014 x207015 x207016)
def longcaseref09_At.j2 : Nat → Int → Int → Bool → Int → Bool → Bool → Int → Bool → Int → Int → Int → Int → Bool → ByteArray → Int → Bool → ByteArray → Bool → Int → Int → Int → Int → Int → Int → Int → Int → Int → Int → Option (Int × Bool × ByteArray × Int)
  | 0, _, _, _, _, _, _, _, _, _, _, _, _, _, _, _, _, _, _, _, _, _, _, _, _, _, _, _, _ => none
  | k + 1, x1, x10, x14, x15, x16, x17, x18, x19, x20, x21, x22, x207000, x207001, x207002, x207003, x207004, x207005, x207006, x207007, x207008, x207009, x207010, x207011, x207012, x207013, x207014, x207015, x207016 => if x21 ≤ x1 then (if x14 = true then (longcaseref09_At.j3 k x1 x10 x14 x15 x16 x17 x18 x19 x20 x21 x22 (decide (x21 ≥ x15)) x207000 x207001 x207002 x207003 x207004 x207005 x207006 x207007 x207008 x207009 x207010 x207011 x207012 x207013 x207014 x207015 x207016) else (longcaseref09_At.j3 k x1 x10 x14 x15 x16 x17 x18 x19 x20 x21 x22 true x207000 x207001 x207002 x207003 x207004 x207005 x207006 x207007 x207008 x207009 x207010 x207011 x207012 x207013 x207014 x207015 x207016)) else (longcaseref09_At.j3 k x1 x10 x14 x15 x16 x17 x18 x19 x20 x21 x22 false x207000 x207001 x207002 x207003 x207004 x207005 x207006 x207007 x207008 x207009 x207010 x207011 x207012 x207013 x207014 x207015 x207016)
def longcaseref09_At.j3 : Nat → Int → Int → Bool → Int → Bool → Bool → Int → Bool → Int → Int → Int → Bool → Int → Bool → ByteArray → Int → Bool → ByteArray → Bool → Int → Int → Int → Int → Int → Int → Int → Int → Int → Int → Option (Int × Bool × ByteArray × Int)
  | 0, _, _, _, _, _, _, _, _, _, _, _, _, _, _, _, _, _, _, _, _, _, _, _, _, _, _, _, _, _ => none
  | k + 1, x1, x10, x14, x15, x16, x17, x18, x19, x20, x21, x22, x91, x207000, x207001, x207002, x207003, x207004, x207005, x207006, x207007, x207008, x207009, x207010, x207011, x207012, x207013, x207014, x207015, x207016 => if x91 = true then (longcaseref09_At.j4 k x1 x10 true x21 true x17 x18 x19 x20 x21 x22 x207000 x207001 x207002 x207003 x207004 x207005 x207006 x207007 x207008 x207009 x207010 x207011 x207012 x207013 x207014 x207015 x207016) else (longcaseref09_At.j4 k x1 x10 x14 x15 x16 x17 x18 x19 x20 x21 x22 x207000 x207001 x207002 x207003 x207004 x207005 x207006 x207007 x207008 x207009 x207010 x207011 x207012 x207013 x207014 x207015 x207016)
def longcaseref09_At.j4 : Nat → Int → Int → Bool → Int → Bool → Bool → Int → Bool → Int → Int → Int → Int → Bool → ByteArray → Int → Bool → ByteArray → Bool → Int → Int → Int → Int → Int → Int → Int → Int → Int → Int → Option (Int × Bool × ByteArray × Int)
  | 0, _, _, _, _, _, _, _, _, _, _, _, _, _, _, _, _, _, _, _, _, _, _, _, _, _, _, _, _ => none
  | k + 1, x1, x10, x14, x15, x16, x17, x18, x19, x20, x21, x22, x207000, x207001, x207002, x207003, x207004, x207005, x207006, x207007, x207008, x207009, x207010, x207011, x207012, x207013, x207014, x207015, x207016 => if x17 = true then (longcaseref09_At.j5 k x1 x10 x14 x15 x16 x17 x18 x19 x20 x21 x22 (decide (x22 < x18)) x207000 x207001 x207002 x207003 x207004 x207005 x207006 x207007 x207008 x207009 x207010 x207011 x207012 x207013 x207014 x207015 x207016) else (longcaseref09_At.j5 k x1 x10 x14 x15 x16 x17 x18 x19 x20 x21 x22 true x207000 x207001 x207002 x207003 x207004 x207005 x207006 x207007 x207008 x207009 x207010 x207011 x207012 x207013 x207014 x207015 x207016)
def longcaseref09_At.j5 : Nat → Int → Int → Bool → Int → Bool → Bool → Int → Bool → Int → Int → Int → Bool → Int → Bool → ByteArray → Int → Bool → ByteArray → Bool → Int → Int → Int → Int → Int → Int → Int → Int → Int → Int → Option (Int × Bool × ByteArray × Int)
  | 0, _, _, _, _, _, _, _, _, _, _, _, _, _, _, _, _, _, _, _, _, _, _, _, _, _, _, _, _, _ => none
  | k + 1, x1, x10, x14, x15, x16, x17, x18, x19, x20, x21, x22, x99, x207000, x207001, x207002, x207003, x207004, x207005, x207006, x207007, x207008, x207009, x207010, x207011, x207012, x207013, x207014, x207015, x207016 => if x99 = true then (if x21 ≤ x22 then (longcaseref09_At.l0 k x1 x10 x14 x15 x16 true x21 true (wrap64 (x20 + 1)) x207000 x207001 x207002 x207003 x207004 x207005 x207006 x207007 x207008 x207009 x207010 x207011 x207012 x207013 x207014 x207015 x207016) else (longcaseref09_At.l0 k x1 x10 x14 x15 x16 true x22 false (wrap64 (x20 + 1)) x207000 x207001 x207002 x207003 x207004 x207005 x207006 x207007 x207008 x207009 x207010 x207011 x207012 x207013 x207014 x207015 x207016)) else (if x21 ≤ x18 then (longcaseref09_At.l0 k x1 x10 x14 x15 x16 x17 x21 true (wrap64 (x20 + 1)) x207000 x207001 x207002 x207003 x207004 x207005 x207006 x207007 x207008 x207009 x207010 x207011 x207012 x207013 x207014 x207015 x207016) else (longcaseref09_At.l0 k x1 x10 x14 x15 x16 x17 x18 x19 (wrap64 (x20 + 1)) x207000 x207001 x207002 x207003 x207004 x207005 x207006 x207007 x207008 x207009 x207010 x207011 x207012 x207013 x207014 x207015 x207016))
end
def longcaseref09_At.f (k : Nat) (a0_0 : Int) (a0_1 : Bool) (a0_2 : ByteArray) (a0_3 : Int) (a0_4 : Bool) (a0_5 : ByteArray) (a0_6 : Bool) (a0_7 : Int) (a0_8 : Int) (a0_9 : Int) (a0_10 : Int) (a0_11 : Int) (a0_12 : Int) (a0_13 : Int) (a0_14 : Int) (a0_15 : Int) (a0_16 : Int) (a1 : Int) : Option (Int × Bool × ByteArray × Int) := (longcaseref08_Right.f k a0_0 a0_1 a0_2 a0_3 a0_4 a0_5 a0_6 a0_7 a0_8 a0_9 a0_10 a0_11 a0_12 a0_13 a0_14 a0_15 a0_16 true).bind fun t208 => (if t208 = true then (if a0_6 = true then ((longcaseref01_Div.f a1 86400).bind fun bt209 => ((longcaseref02_Date.f k bt209.1).bind fun bt212 => (if bt212.2.2.2 = true then (longcaseref09_At.l0 k a1 bt212.1 false 0 false false 0 false (wrap64 (bt212.1 - 1)) a0_0 a0_1 a0_2 a0_3 a0_4 a0_5 a0_6 a0_7 a0_8 a0_9 a0_10 a0_11 a0_12 a0_13 a0_14 a0_15 a0_16) else (some (0, false, (⟨#[]⟩ : ByteArray), 2))))) else (some (a0_0, a0_1, a0_2, 0))) else (some (0, false, (⟨#[]⟩ : ByteArray), 1)))
theorem longcaseref09_At.mono_l : ∀ k, (∀ y0 y1 y2 y3 y4 y5 y6 y7 y8 y9 y10 y11 y12 y13 y14 y15 y16 y17 y18 y19 y20 y21 y22 y23 y24 y25, LeO (longcaseref09_At.l0 k y0 y1 y2 y3 y4 y5 y6 y7 y8 y9 y10 y11 y12 y13 y14 y15 y16 y17 y18 y19 y20 y21 y22 y23 y24 y25) (longcaseref09_At.l0 (k + 1) y0 y1 y2 y3 y4 y5 y6 y7 y8 y9 y10 y11 y12 y13 y14 y15 y16 y17 y18 y19 y20 y21 y22 y23 y24 y25)) ∧ (∀ y0 y1 y2 y3 y4 y5 y6 y7 y8 y9 y10 y11 y12 y13 y14 y15 y16 y17 y18 y19 y20 y21 y22 y23 y24 y25 y26 y27 y28, LeO (longcaseref09_At.j1 k y0 y1 y2 y3 y4 y5 y6 y7 y8 y9 y10 y11 y12 y13 y14 y15 y16 y17 y18 y19 y20 y21 y22 y23 y24 y25 y26 y27 y28) (longcaseref09_At.j1 (k + 1) y0 y1 y2 y3 y4 y5 y6 y7 y8 y9 y10 y11 y12 y13 y14 y15 y16 y17 y18 y19 y20 y21 y22 y23 y24 y25 y26 y27 y28)) ∧ (∀ y0 y1 y2 y3 y4 y5 y6 y7 y8 y9 y10 y11 y12 y13 y14 y15 y16 y17 y18 y19 y20 y21 y22 y23 y24 y25 y26 y27, LeO (longcaseref09_At.j2 k y0 y1 y2 y3 y4 y5 y6 y7 y8 y9 y10 y11 y12 y13 y14 y15 y16 y17 y18 y19 y20 y21 y22 y23 y24 y25 y26 y27) (longcaseref09_At.j2 (k + 1) y0 y1 y2 y3 y4 y5 y6 y7 y8 y9 y10 y11 y12 y13 y14 y15 y16 y17 y18 y19 y20 y21 y22 y23 y24 y25 y26 y27)) ∧ (∀ y0 y1 y2 y3 y4 y5 y6 y7 y8 y9 y10 y11 y12 y13 y14 y15 y16 y17 y18 y19 y20 y21 y22 y23 y24 y25 y26 y27 y28, LeO (longcaseref09_At.j3 k y0 y1 y2 y3 y4 y5 y6 y7 y8 y9 y10 y11 y12 y13 y14 y15 y16 y17 y18 y19 y20 y21 y22 y23 y24 y25 y26 y27 y28) (longcaseref09_At.j3 (k + 1) y0 y1 y2 y3 y4 y5 y6 y7 y8 y9 y10 y11 y12 y13 y14 y15 y16 y17 y18 y19 y20 y21 y22 y23 y24 y25 y26 y27 y28)) ∧ (∀ y0 y1 y2 y3 y4 y5 y6 y7 y8 y9 y10 y11 y12 y13 y14 y15 y16 y17 y18 y19 y20 y21 y22 y23 y24 y25 y26 y27, LeO (longcaseref09_At.j4 k y0 y1 y2 y3 y4 y5 y6 y7 y8 y9 y10 y11 y12 y13 y14 y15 y16 y17 y18 y19 y20 y21 y22 y23 y24 y25 y26 y27) (longcaseref09_At.j4 (k + 1) y0 y1 y2 y3 y4 y5 y6 y7 y8 y9 y10 y11 y12 y13 y14 y15 y16 y17 y18 y19 y20 y21 y22 y23 y24 y25 y26 y27)) ∧ (∀ y0 y1 y2 y3 y4 y5 y6 y7 y8 y9 y10 y11 y12 y13 y14 y15 y16 y17 y18 y19 y20 y21 y22 y23 y24 y25 y26 y27 y28, LeO (longcaseref09_At.j5 k y0 y1 y2 y3 y4 y5 y6 y7 y8 y9 y10 y11 y12 y13 y14 y15 y16 y17 y18 y19 y20 y21 y22 y23 y24 y25 y26 y27 y28) (longcaseref09_At.j5 (k + 1) y0 y1 y2 y3 y4 y5 y6 y7 y8 y9 y10 y11 y12 y13 y14 y15 y16 y17 y18 y19 y20 y21 y22 y23 y24 y25 y26 y27 y28))
  | 0 => ⟨fun _ _ _ _ _ _ _ _ _ _ _ _ _ _ _ _ _ _ _ _ _ _ _ _ _ _ r h => by simp [longcaseref09_At.l0] at h, fun _ _ _ _ _ _ _ _ _ _ _ _ _ _ _ _ _ _ _ _ _ _ _ _ _ _ _ _ _ r h => by simp [longcaseref09_At.j1] at h, fun _ _ _ _ _ _ _ _ _ _ _ _ _ _ _ _ _ _ _ _ _ _ _ _ _ _ _ _ r h => by simp [longcaseref09_At.j2] at h, fun _ _ _ _ _ _ _ _ _ _ _ _ _ _ _ _ _ _ _ _ _ _ _ _ _ _ _ _ _ r h => by simp [longcaseref09_At.j3] at h, fun _ _ _ _ _ _ _ _ _ _ _ _ _ _ _ _ _ _ _ _ _ _ _ _ _ _ _ _ r h => by simp [longcaseref09_At.j4] at h, fun _ _ _ _ _ _ _ _ _ _ _ _ _ _ _ _ _ _ _ _ _ _ _ _ _ _ _ _ _ r h => by simp [longcaseref09_At.j5] at h⟩
  | k + 1 => by
    obtain ⟨ih0, ih1, ih2, ih3, ih4, ih5⟩ := longcaseref09_At.mono_l k
    refine ⟨?_, ?_, ?_, ?_, ?_, ?_⟩
    · intro y0 y1 y2 y3 y4 y5 y6 y7 y8 y9 y10 y11 y12 y13 y14 y15 y16 y17 y18 y19 y20 y21 y22 y23 y24 y25
      unfold longcaseref09_At.l0
      repeat' first
      | (with_reducible exact ih0 _ _ _ _ _ _ _ _ _ _ _ _ _ _ _ _ _ _ _ _ _ _ _ _ _ _)
      | (with_reducible exact ih1 _ _ _ _ _ _ _ _ _ _ _ _ _ _ _ _ _ _ _ _ _ _ _ _ _ _ _ _ _)
      | (with_reducible exact ih2 _ _ _ _ _ _ _ _ _ _ _ _ _ _ _ _ _ _ _ _ _ _ _ _ _ _ _ _)
      | (with_reducible exact ih3 _ _ _ _ _ _ _ _ _ _ _ _ _ _ _ _ _ _ _ _ _ _ _ _ _ _ _ _ _)
      | (with_reducible exact ih4 _ _ _ _ _ _ _ _ _ _ _ _ _ _ _ _ _ _ _ _ _ _ _ _ _ _ _ _)
      | (with_reducible exact ih5 _ _ _ _ _ _ _ _ _ _ _ _ _ _ _ _ _ _ _ _ _ _ _ _ _ _ _ _ _)
      | (with_reducible exact longcaseref02_Date.mono _ _)
      | (with_reducible exact longcaseref08_Right.mono _ _ _ _ _ _ _ _ _ _ _ _ _ _ _ _ _ _ _)
      | (with_reducible exact longcaseref09_Turns.mono _ _ _ _ _ _ _ _ _ _ _ _ _ _ _ _ _ _ _)
      | (with_reducible exact LeO.refl _)
      | (with_reducible exact LeO.none _)
      | (with_reducible refine LeO.ite ?_ ?_)
      | (with_reducible refine LeO.bind ?_ (fun _ => ?_))
      | exact ih0 _ _ _ _ _ _ _ _ _ _ _ _ _ _ _ _ _ _ _ _ _ _ _ _ _ _
      | exact ih1 _ _ _ _ _ _ _ _ _ _ _ _ _ _ _ _ _ _ _ _ _ _ _ _ _ _ _ _ _
      | exact ih2 _ _ _ _ _ _ _ _ _ _ _ _ _ _ _ _ _ _ _ _ _ _ _ _ _ _ _ _
      | exact ih3 _ _ _ _ _ _ _ _ _ _ _ _ _ _ _ _ _ _ _ _ _ _ _ _ _ _ _ _ _
      | exact ih4 _ _ _ _ _ _ _ _ _ _ _ _ _ _ _ _ _ _ _ _ _ _ _ _ _ _ _ _
      | exact ih5 _ _ _ _ _ _ _ _ _ _ _ _ _ _ _ _ _ _ _ _ _ _ _ _ _ _ _ _ _
      | exact longcaseref02_Date.mono _ _
      | exact longcaseref08_Right.mono _ _ _ _ _ _ _ _ _ _ _ _ _ _ _ _ _ _ _
      | exact longcaseref09_Turns.mono _ _ _ _ _ _ _ _ _ _ _ _ _ _ _ _ _ _ _
      | exact LeO.none _
      | refine LeO.ite ?_ ?_
      | refine LeO.bind ?_ (fun _ => ?_)
    · intro y0 y1 y2 y3 y4 y5 y6 y7 y8 y9 y10 y11 y12 y13 y14 y15 y16 y17 y18 y19 y20 y21 y22 y23 y24 y25 y26 y27 y28
      unfold longcaseref09_At.j1
      repeat' first
      | (with_reducible exact ih0 _ _ _ _ _ _ _ _ _ _ _ _ _ _ _ _ _ _ _ _ _ _ _ _ _ _)
      | (with_reducible exact ih1 _ _ _ _ _ _ _ _ _ _ _ _ _ _ _ _ _ _ _ _ _ _ _ _ _ _ _ _ _)
      | (with_reducible exact ih2 _ _ _ _ _ _ _ _ _ _ _ _ _ _ _ _ _ _ _ _ _ _ _ _ _ _ _ _)
      | (with_reducible exact ih3 _ _ _ _ _ _ _ _ _ _ _ _ _ _ _ _ _ _ _ _ _ _ _ _ _ _ _ _ _)
      | (with_reducible exact ih4 _ _ _ _ _ _ _ _ _ _ _ _ _ _ _ _ _ _ _ _ _ _ _ _ _ _ _ _)
      | (with_reducible exact ih5 _ _ _ _ _ _ _ _ _ _ _ _ _ _ _ _ _ _ _ _ _ _ _ _ _ _ _ _ _)
      | (with_reducible exact longcaseref02_Date.mono _ _)
      | (with_reducible exact longcaseref08_Right.mono _ _ _ _ _ _ _ _ _ _ _ _ _ _ _ _ _ _ _)
      | (with_reducible exact longcaseref09_Turns.mono _ _ _ _ _ _ _ _ _ _ _ _ _ _ _ _ _ _ _)
      | (with_reducible exact LeO.refl _)
      | (with_reducible exact LeO.none _)
      | (with_reducible refine LeO.ite ?_ ?_)
      | (with_reducible refine LeO.bind ?_ (fun _ => ?_))
      | exact ih0 _ _ _ _ _ _ _ _ _ _ _ _ _ _ _ _ _ _ _ _ _ _ _ _ _ _
      | exact ih1 _ _ _ _ _ _ _ _ _ _ _ _ _ _ _ _ _ _ _ _ _ _ _ _ _ _ _ _ _
      | exact ih2 _ _ _ _ _ _ _ _ _ _ _ _ _ _ _ _ _ _ _ _ _ _ _ _ _ _ _ _
      | exact ih3 _ _ _ _ _ _ _ _ _ _ _ _ _ _ _ _ _ _ _ _ _ _ _ _ _ _ _ _ _
      | exact ih4 _ _ _ _ _ _ _ _ _ _ _ _ _ _ _ _ _ _ _ _ _ _ _ _ _ _ _ _
      | exact ih5 _ _ _ _ _ _ _ _ _ _ _ _ _ _ _ _ _ _ _ _ _ _ _ _ _ _ _ _ _
      | exact longcaseref02_Date.mono _ _
      | exact longcaseref08_Right.mono _ _ _ _ _ _ _ _ _ _ _ _ _ _ _ _ _ _ _
      | exact longcaseref09_Turns.mono _ _ _ _ _ _ _ _ _ _ _ _ _ _ _ _ _ _ _
      | exact LeO.none _
      | refine LeO.ite ?_ ?_
      | refine LeO.bind ?_ (fun _ => ?_)
    · intro y0 y1 y2 y3 y4 y5 y6 y7 y8 y9 y10 y11 y12 y13 y14 y15 y16 y17 y18 y19 y20 y21 y22 y23 y24 y25 y26 y27
      unfold longcaseref09_At.j2
      repeat' first
      | (with_reducible exact ih0 _ _ _ _ _ _ _ _ _ _ _ _ _ _ _ _ _ _ _ _ _ _ _ _ _ _)
      | (with_reducible exact ih1 _ _ _ _ _ _ _ _ _ _ _ _ _ _ _ _ _ _ _ _ _ _ _ _ _ _ _ _ _)
      | (with_reducible exact ih2 _ _ _ _ _ _ _ _ _ _ _ _ _ _ _ _ _ _ _ _ _ _ _ _ _ _ _ _)
      | (with_reducible exact ih3 _ _ _ _ _ _ _ _ _ _ _ _ _ _ _ _ _ _ _ _ _ _ _ _ _ _ _ _ _)
      | (with_reducible exact ih4 _ _ _ _ _ _ _ _ _ _ _ _ _ _ _ _ _ _ _ _ _ _ _ _ _ _ _ _)
      | (with_reducible exact ih5 _ _ _ _ _ _ _ _ _ _ _ _ _ _ _ _ _ _ _ _ _ _ _ _ _ _ _ _ _)
      | (with_reducible exact longcaseref02_Date.mono _ _)
      | (with_reducible exact longcaseref08_Right.mono _ _ _ _ _ _ _ _ _ _ _ _ _ _ _ _ _ _ _)
      | (with_reducible exact longcaseref09_Turns.mono _ _ _ _ _ _ _ _ _ _ _ _ _ _ _ _ _ _ _)
      | (with_reducible exact LeO.refl _)
      | (with_reducible exact LeO.none _)
      | (with_reducible refine LeO.ite ?_ ?_)
      | (with_reducible refine LeO.bind ?_ (fun _ => ?_))
      | exact ih0 _ _ _ _ _ _ _ _ _ _ _ _ _ _ _ _ _ _ _ _ _ _ _ _ _ _
      | exact ih1 _ _ _ _ _ _ _ _ _ _ _ _ _ _ _ _ _ _ _ _ _ _ _ _ _ _ _ _ _
      | exact ih2 _ _ _ _ _ _ _ _ _ _ _ _ _ _ _ _ _ _ _ _ _ _ _ _ _ _ _ _
      | exact ih3 _ _ _ _ _ _ _ _ _ _ _ _ _ _ _ _ _ _ _ _ _ _ _ _ _ _ _ _ _
      | exact ih4 _ _ _ _ _ _ _ _ _ _ _ _ _ _ _ _ _ _ _ _ _ _ _ _ _ _ _ _
      | exact ih5 _ _ _ _ _ _ _ _ _ _ _ _ _ _ _ _ _ _ _ _ _ _ _ _ _ _ _ _ _
      | exact longcaseref02_Date.mono _ _
      | exact longcaseref08_Right.mono _ _ _ _ _ _ _ _ _ _ _ _ _ _ _ _ _ _ _
      | exact longcaseref09_Turns.mono _ _ _ _ _ _ _ _ _ _ _ _ _ _ _ _ _ _ _
      | exact LeO.none _
      | refine LeO.ite ?_ ?_
      | refine LeO.bind ?_ (fun _ => ?_)
    · intro y0 y1 y2 y3 y4 y5 y6 y7 y8 y9 y10 y11 y12 y13 y14 y15 y16 y17 y18 y19 y20 y21 y22 y23 y24 y25 y26 y27 y28
      unfold longcaseref09_At.j3
      repeat' first
      | (with_reducible exact ih0 _ _ _ _ _ _ _ _ _ _ _ _ _ _ _ _ _ _ _ _ _ _ _ _ _ _)
      | (with_reducible exact ih1 _ _ _ _ _ _ _ _ _ _ _ _ _ _ _ _ _ _ _ _ _ _ _ _ _ _ _ _ _)
      | (with_reducible exact ih2 _ _ _ _ _ _ _ _ _ _ _ _ _ _ _ _ _ _ _ _ _ _ _ _ _ _ _ _)
      | (with_reducible exact ih3 _ _ _ _ _ _ _ _ _ _ _ _ _ _ _ _ _ _ _ _ _ _ _ _ _ _ _ _ _)
      | (with_reducible exact ih4 _ _ _ _ _ _ _ _ _ _ _ _ _ _ _ _ _ _ _ _ _ _ _ _ _ _ _ _)
      | (with_reducible exact ih5 _ _ _ _ _ _ _ _ _ _ _ _ _ _ _ _ _ _ _ _ _ _ _ _ _ _ _ _ _)
      | (with_reducible exact longcaseref02_Date.mono _ _)
      | (with_reducible exact longcaseref08_Right.mono _ _ _ _ _ _ _ _ _ _ _ _ _ _ _ _ _ _ _)
      | (with_reducible exact longcaseref09_Turns.mono _ _ _ _ _ _ _ _ _ _ _ _ _ _ _ _ _ _ _)
      | (with_reducible exact LeO.refl _)
      | (with_reducible exact LeO.none _)
      | (with_reducible refine LeO.ite ?_ ?_)
      | (with_reducible refine LeO.bind ?_ (fun _ => ?_))
      | exact ih0 _ _ _ _ _ _ _ _ _ _ _ _ _ _ _ _ _ _ _ _ _ _ _ _ _ _
      | exact ih1 _ _ _ _ _ _ _ _ _ _ _ _ _ _ _ _ _ _ _ _ _ _ _ _ _ _ _ _ _
      | exact ih2 _ _ _ _ _ _ _ _ _ _ _ _ _ _ _ _ _ _ _ _ _ _ _ _ _ _ _ _
      | exact ih3 _ _ _ _ _ _ _ _ _ _ _ _ _ _ _ _ _ _ _ _ _ _ _ _ _ _ _ _ _
      | exact ih4 _ _ _ _ _ _ _ _ _ _ _ _ _ _ _ _ _ _ _ _ _ _ _ _ _ _ _ _
      | exact ih5 _ _ _ _ _ _ _ _ _ _ _ _ _ _ _ _ _ _ _ _ _ _ _ _ _ _ _ _ _
      | exact longcaseref02_Date.mono _ _
      | exact longcaseref08_Right.mono _ _ _ _ _ _ _ _ _ _ _ _ _ _ _ _ _ _ _
      | exact longcaseref09_Turns.mono _ _ _ _ _ _ _ _ _ _ _ _ _ _ _ _ _ _ _
      | exact LeO.none _
      | refine LeO.ite ?_ ?_
      | refine LeO.bind ?_ (fun _ => ?_)
    · intro y0 y1 y2 y3 y4 y5 y6 y7 y8 y9 y10 y11 y12 y13 y14 y15 y16 y17 y18 y19 y20 y21 y22 y23 y24 y25 y26 y27
      unfold longcaseref09_At.j4
      repeat' first
      | (with_reducible exact ih0 _ _ _ _ _ _ _ _ _ _ _ _ _ _ _ _ _ _ _ _ _ _ _ _ _ _)
      | (with_reducible exact ih1 _ _ _ _ _ _ _ _ _ _ _ _ _ _ _ _ _ _ _ _ _ _ _ _ _ _ _ _ _)
      | (with_reducible exact ih2 _ _ _ _ _ _ _ _ _ _ _ _ _ _ _ _ _ _ _ _ _ _ _ _ _ _ _ _)
      | (with_reducible exact ih3 _ _ _ _ _ _ _ _ _ _ _ _ _ _ _ _ _ _ _ _ _ _ _ _ _ _ _ _ _)
      | (with_reducible exact ih4 _ _ _ _ _ _ _ _ _ _ _ _ _ _ _ _ _ _ _ _ _ _ _ _ _ _ _ _)
      | (with_reducible exact ih5 _ _ _ _ _ _ _ _ _ _ _ _ _ _ _ _ _ _ _ _ _ _ _ _ _ _ _ _ _)
      | (with_reducible exact longcaseref02_Date.mono _ _)
      | (with_reducible exact longcaseref08_Right.mono _ _ _ _ _ _ _ _ _ _ _ _ _ _ _ _ _ _ _)
      | (with_reducible exact longcaseref09_Turns.mono _ _ _ _ _ _ _ _ _ _ _ _ _ _ _ _ _ _ _)
      | (with_reducible exact LeO.refl _)
      | (with_reducible exact LeO.none _)
      | (with_reducible refine LeO.ite ?_ ?_)
      | (with_reducible refine LeO.bind ?_ (fun _ => ?_))
      | exact ih0 _ _ _ _ _ _ _ _ _ _ _ _ _ _ _ _ _ _ _ _ _ _ _ _ _ _
      | exact ih1 _ _ _ _ _ _ _ _ _ _ _ _ _ _ _ _ _ _ _ _ _ _ _ _ _ _ _ _ _
      | exact ih2 _ _ _ _ _ _ _ _ _ _ _ _ _ _ _ _ _ _ _ _ _ _ _ _ _ _ _ _
      | exact ih3 _ _ _ _ _ _ _ _ _ _ _ _ _ _ _ _ _ _ _ _ _ _ _ _ _ _ _ _ _
      | exact ih4 _ _ _ _ _ _ _ _ _ _ _ _ _ _ _ _ _ _ _ _ _ _ _ _ _ _ _ _
      | exact ih5 _ _ _ _ _ _ _ _ _ _ _ _ _ _ _ _ _ _ _ _ _ _ _ _ _ _ _ _ _
      | exact longcaseref02_Date.mono _ _
      | exact longcaseref08_Right.mono _ _ _ _ _ _ _ _ _ _ _ _ _ _ _ _ _ _ _
      | exact longcaseref09_Turns.mono _ _ _ _ _ _ _ _ _ _ _ _ _ _ _ _ _ _ _
      | exact LeO.none _
      | refine LeO.ite ?_ ?_
      | refine LeO.bind ?_ (fun _ => ?_)
    · intro y0 y1 y2 y3 y4 y5 y6 y7 y8 y9 y10 y11 y12 y13 y14 y15 y16 y17 y18 y19 y20 y21 y22 y23 y24 y25 y26 y27 y28
      unfold longcaseref09_At.j5
      repeat' first
      | (with_reducible exact ih0 _ _ _ _ _ _ _ _ _ _ _ _ _ _ _ _ _ _ _ _ _ _ _ _ _ _)
      | (with_reducible exact ih1 _ _ _ _ _ _ _ _ _ _ _ _ _ _ _ _ _ _ _ _ _ _ _ _ _ _ _ _ _)
      | (with_reducible exact ih2 _ _ _ _ _ _ _ _ _ _ _ _ _ _ _ _ _ _ _ _ _ _ _ _ _ _ _ _)
      | (with_reducible exact ih3 _ _ _ _ _ _ _ _ _ _ _ _ _ _ _ _ _ _ _ _ _ _ _ _ _ _ _ _ _)
      | (with_reducible exact ih4 _ _ _ _ _ _ _ _ _ _ _ _ _ _ _ _ _ _ _ _ _ _ _ _ _ _ _ _)
      | (with_reducible exact ih5 _ _ _ _ _ _ _ _ _ _ _ _ _ _ _ _ _ _ _ _ _ _ _ _ _ _ _ _ _)
      | (with_reducible exact longcaseref02_Date.mono _ _)
      | (with_reducible exact longcaseref08_Right.mono _ _ _ _ _ _ _ _ _ _ _ _ _ _ _ _ _ _ _)
      | (with_reducible exact longcaseref09_Turns.mono _ _ _ _ _ _ _ _ _ _ _ _ _ _ _ _ _ _ _)
      | (with_reducible exact LeO.refl _)
      | (with_reducible exact LeO.none _)
      | (with_reducible refine LeO.ite ?_ ?_)
      | (with_reducible refine LeO.bind ?_ (fun _ => ?_))
      | exact ih0 _ _ _ _ _ _ _ _ _ _ _ _ _ _ _ _ _ _ _ _ _ _ _ _ _ _
      | exact ih1 _ _ _ _ _ _ _ _ _ _ _ _ _ _ _ _ _ _ _ _ _ _ _ _ _ _ _ _ _
      | exact ih2 _ _ _ _ _ _ _ _ _ _ _ _ _ _ _ _ _ _ _ _ _ _ _ _ _ _ _ _
      | exact ih3 _ _ _ _ _ _ _ _ _ _ _ _ _ _ _ _ _ _ _ _ _ _ _ _ _ _ _ _ _
      | exact ih4 _ _ _ _ _ _ _ _ _ _ _ _ _ _ _ _ _ _ _ _ _ _ _ _ _ _ _ _
      | exact ih5 _ _ _ _ _ _ _ _ _ _ _ _ _ _ _ _ _ _ _ _ _ _ _ _ _ _ _ _ _
      | exact longcaseref02_Date.mono _ _
      | exact longcaseref08_Right.mono _ _ _ _ _ _ _ _ _ _ _ _ _ _ _ _ _ _ _
      | exact longcaseref09_Turns.mono _ _ _ _ _ _ _ _ _ _ _ _ _ _ _ _ _ _ _
      | exact LeO.none _
      | refine LeO.ite ?_ ?_
      | refine LeO.bind ?_ (fun _ => ?_)
theorem longcaseref09_At.mono : ∀ a0 a1 a2 a3 a4 a5 a6 a7 a8 a9 a10 a11 a12 a13 a14 a15 a16 a17 k, LeO (longcaseref09_At.f k a0 a1 a2 a3 a4 a5 a6 a7 a8 a9 a10 a11 a12 a13 a14 a15 a16 a17) (longcaseref09_At.f (k + 1) a0 a1 a2 a3 a4 a5 a6 a7 a8 a9 a10 a11 a12 a13 a14 a15 a16 a17) := by
  intro a0 a1 a2 a3 a4 a5 a6 a7 a8 a9 a10 a11 a12 a13 a14 a15 a16 a17 k
  obtain ⟨ih0, ih1, ih2, ih3, ih4, ih5⟩ := longcaseref09_At.mono_l k
  unfold longcaseref09_At.f
  repeat' first
      | (with_reducible exact ih0 _ _ _ _ _ _ _ _ _ _ _ _ _ _ _ _ _ _ _ _ _ _ _ _ _ _)
      | (with_reducible exact ih1 _ _ _ _ _ _ _ _ _ _ _ _ _ _ _ _ _ _ _ _ _ _ _ _ _ _ _ _ _)
      | (with_reducible exact ih2 _ _ _ _ _ _ _ _ _ _ _ _ _ _ _ _ _ _ _ _ _ _ _ _ _ _ _ _)
      | (with_reducible exact ih3 _ _ _ _ _ _ _ _ _ _ _ _ _ _ _ _ _ _ _ _ _ _ _ _ _ _ _ _ _)
      | (with_reducible exact ih4 _ _ _ _ _ _ _ _ _ _ _ _ _ _ _ _ _ _ _ _ _ _ _ _ _ _ _ _)
      | (with_reducible exact ih5 _ _ _ _ _ _ _ _ _ _ _ _ _ _ _ _ _ _ _ _ _ _ _ _ _ _ _ _ _)
      | (with_reducible exact longcaseref02_Date.mono _ _)
      | (with_reducible exact longcaseref08_Right.mono _ _ _ _ _ _ _ _ _ _ _ _ _ _ _ _ _ _ _)
      | (with_reducible exact longcaseref09_Turns.mono _ _ _ _ _ _ _ _ _ _ _ _ _ _ _ _ _ _ _)
      | (with_reducible exact LeO.refl _)
      | (with_reducible exact LeO.none _)
      | (with_reducible refine LeO.ite ?_ ?_)
      | (with_reducible refine LeO.bind ?_ (fun _ => ?_))
      | exact ih0 _ _ _ _ _ _ _ _ _ _ _ _ _ _ _ _ _ _ _ _ _ _ _ _ _ _
      | exact ih1 _ _ _ _ _ _ _ _ _ _ _ _ _ _ _ _ _ _ _ _ _ _ _ _ _ _ _ _ _
      | exact ih2 _ _ _ _ _ _ _ _ _ _ _ _ _ _ _ _ _ _ _ _ _ _ _ _ _ _ _ _
      | exact ih3 _ _ _ _ _ _ _ _ _ _ _ _ _ _ _ _ _ _ _ _ _ _ _ _ _ _ _ _ _
      | exact ih4 _ _ _ _ _ _ _ _ _ _ _ _ _ _ _ _ _ _ _ _ _ _ _ _ _ _ _ _
      | exact ih5 _ _ _ _ _ _ _ _ _ _ _ _ _ _ _ _ _ _ _ _ _ _ _ _ _ _ _ _ _
      | exact longcaseref02_Date.mono _ _
      | exact longcaseref08_Right.mono _ _ _ _ _ _ _ _ _ _ _ _ _ _ _ _ _ _ _
      | exact longcaseref09_Turns.mono _ _ _ _ _ _ _ _ _ _ _ _ _ _ _ _ _ _ _
      | exact LeO.none _
      | refine LeO.ite ?_ ?_
      | refine LeO.bind ?_ (fun _ => ?_)
set_option maxHeartbeats 8000000 in
set_option maxRecDepth 100000 in
theorem longcaseref09_At.calls (k : Nat) (a0_0 : Int) (a0_1 : Bool) (a0_2 : ByteArray) (a0_3 : Int) (a0_4 : Bool) (a0_5 : ByteArray) (a0_6 : Bool) (a0_7 : Int) (a0_8 : Int) (a0_9 : Int) (a0_10 : Int) (a0_11 : Int) (a0_12 : Int) (a0_13 : Int) (a0_14 : Int) (a0_15 : Int) (a0_16 : Int) (a1 : Int) (r1 : Int) (r2 : Bool) (r3 : ByteArray) (r4 : Int) (w : World) (h : longcaseref09_At.f k a0_0 a0_1 a0_2 a0_3 a0_4 a0_5 a0_6 a0_7 a0_8 a0_9 a0_10 a0_11 a0_12 a0_13 a0_14 a0_15 a0_16 a1 = some (r1, r2, r3, r4)) :
    Calls Tryd.prog 17 #[.agg #[.int .i64 a0_0, .bool a0_1, .string a0_2, .int .i64 a0_3, .bool a0_4, .string a0_5, .bool a0_6, .int .i64 a0_7, .int .i64 a0_8, .int .i64 a0_9, .int .i64 a0_10, .int .i64 a0_11, .int .i64 a0_12, .int .i64 a0_13, .int .i64 a0_14, .int .i64 a0_15, .int .i64 a0_16], .int .i64 a1] w fun e w' => e = .returned (.tuple #[.agg #[.int .i64 r1, .bool r2, .string r3], .int .i64 r4]) ∧ Below w.heap.size w w' := by
  have hu27 := Tryd.underlying27
  have hu23 := Tryd.underlying23
  have HB := Aside0.mk (Below.refl w.heap.size w)
  have H : ((longcaseref08_Right.f k a0_0 a0_1 a0_2 a0_3 a0_4 a0_5 a0_6 a0_7 a0_8 a0_9 a0_10 a0_11 a0_12 a0_13 a0_14 a0_15 a0_16 true).bind fun t208 => (if t208 = true then (if a0_6 = true then ((longcaseref01_Div.f a1 86400).bind fun bt209 => ((longcaseref02_Date.f k bt209.1).bind fun bt212 => (if bt212.2.2.2 = true then (longcaseref09_At.l0 k a1 bt212.1 false 0 false false 0 false (wrap64 (bt212.1 - 1)) a0_0 a0_1 a0_2 a0_3 a0_4 a0_5 a0_6 a0_7 a0_8 a0_9 a0_10 a0_11 a0_12 a0_13 a0_14 a0_15 a0_16) else (some (0, false, (⟨#[]⟩ : ByteArray), 2))))) else (some (a0_0, a0_1, a0_2, 0))) else (some (0, false, (⟨#[]⟩ : ByteArray), 1)))) = some (r1, r2, r3, r4) := h
  clear h
  replace H := Option.bind_eq_some_iff.mp H
  obtain ⟨t208, A30, H⟩ := H
  replace H : (if t208 = true then (if a0_6 = true then ((longcaseref01_Div.f a1 86400).bind fun bt209 => ((longcaseref02_Date.f k bt209.1).bind fun bt212 => (if bt212.2.2.2 = true then (longcaseref09_At.l0 k a1 bt212.1 false 0 false false 0 false (wrap64 (bt212.1 - 1)) a0_0 a0_1 a0_2 a0_3 a0_4 a0_5 a0_6 a0_7 a0_8 a0_9 a0_10 a0_11 a0_12 a0_13 a0_14 a0_15 a0_16) else (some (0, false, (⟨#[]⟩ : ByteArray), 2))))) else (some (a0_0, a0_1, a0_2, 0))) else (some (0, false, (⟨#[]⟩ : ByteArray), 1))) = some (r1, r2, r3, r4) := H
  have A3 := Aside0.mk A30
  clear A30
  by_cases c4 : t208 = true
  · subst c4
    have H1 : (if a0_6 = true then ((longcaseref01_Div.f a1 86400).bind fun bt209 => ((longcaseref02_Date.f k bt209.1).bind fun bt212 => (if bt212.2.2.2 = true then (longcaseref09_At.l0 k a1 bt212.1 false 0 false false 0 false (wrap64 (bt212.1 - 1)) a0_0 a0_1 a0_2 a0_3 a0_4 a0_5 a0_6 a0_7 a0_8 a0_9 a0_10 a0_11 a0_12 a0_13 a0_14 a0_15 a0_16) else (some (0, false, (⟨#[]⟩ : ByteArray), 2))))) else (some (a0_0, a0_1, a0_2, 0))) = some (r1, r2, r3, r4) := by rw [if_pos rfl] at H; exact H
    clear H
    have H := H1
    clear H1
    by_cases c5 : a0_6 = true
    · subst c5
      have H1 : ((longcaseref01_Div.f a1 86400).bind fun bt209 => ((longcaseref02_Date.f k bt209.1).bind fun bt212 => (if bt212.2.2.2 = true then (longcaseref09_At.l0 k a1 bt212.1 false 0 false false 0 false (wrap64 (bt212.1 - 1)) a0_0 a0_1 a0_2 a0_3 a0_4 a0_5 true a0_7 a0_8 a0_9 a0_10 a0_11 a0_12 a0_13 a0_14 a0_15 a0_16) else (some (0, false, (⟨#[]⟩ : ByteArray), 2))))) = some (r1, r2, r3, r4) := by rw [if_pos rfl] at H; exact H
      clear H
      have H := H1
      clear H1
      replace H := Option.bind_eq_some_iff.mp H
      obtain ⟨⟨t209, t210, t211⟩, A60, H⟩ := H
      replace H : ((longcaseref02_Date.f k t209).bind fun bt212 => (if bt212.2.2.2 = true then (longcaseref09_At.l0 k a1 bt212.1 false 0 false false 0 false (wrap64 (bt212.1 - 1)) a0_0 a0_1 a0_2 a0_3 a0_4 a0_5 true a0_7 a0_8 a0_9 a0_10 a0_11 a0_12 a0_13 a0_14 a0_15 a0_16) else (some (0, false, (⟨#[]⟩ : ByteArray), 2)))) = some (r1, r2, r3, r4) := H
      have A6 := Aside0.mk A60
      clear A60
      replace H := Option.bind_eq_some_iff.mp H
      obtain ⟨⟨t212, t213, t214, t215⟩, A70, H⟩ := H
      replace H : (if t215 = true then (longcaseref09_At.l0 k a1 t212 false 0 false false 0 false (wrap64 (t212 - 1)) a0_0 a0_1 a0_2 a0_3 a0_4 a0_5 true a0_7 a0_8 a0_9 a0_10 a0_11 a0_12 a0_13 a0_14 a0_15 a0_16) else (some (0, false, (⟨#[]⟩ : ByteArray), 2))) = some (r1, r2, r3, r4) := H
      have A7 := Aside0.mk A70
      clear A70
      by_cases c8 : t215 = true
      · subst c8
        have H1 : (longcaseref09_At.l0 k a1 t212 false 0 false false 0 false (wrap64 (t212 - 1)) a0_0 a0_1 a0_2 a0_3 a0_4 a0_5 true a0_7 a0_8 a0_9 a0_10 a0_11 a0_12 a0_13 a0_14 a0_15 a0_16) = some (r1, r2, r3, r4) := by rw [if_pos rfl] at H; exact H
        clear H
        have H := H1
        clear H1
        have H' := Aside0.mk H
        clear H
        go_enter Tryd.func17, Tryd.ntmps17
        go_wp2_with (first | ((with_reducible refine gate_dst (N := 2) rfl ?_); refine box_event ?hg (N := 2) ?hd (cs := #[.int .i64 a0_0, .bool a0_1, .string a0_2, .int .i64 a0_3, .bool a0_4, .string a0_5, .bool true, .int .i64 a0_7, .int .i64 a0_8, .int .i64 a0_9, .int .i64 a0_10, .int .i64 a0_11, .int .i64 a0_12, .int .i64 a0_13, .int .i64 a0_14, .int .i64 a0_15, .int .i64 a0_16]) (t := 27) ?hr ?_; (case hd => rfl); (case hg => rfl); (case hr => first | (go_simp; done) | (go_simp; rfl)); intro gb206 hg w9 hbox hb; have n0_ := Aside0.mk (below_step (by repeat (first | (with_reducible first | exact HB.out | apply below_alloc | apply pw_below_drewN | apply below_drew1) | exact HB.out)) hb); have n1_ := Aside0.mk (hbox); have n2_ := Aside0.mk ((by rw [hg]; exact (below_size (by repeat (first | (with_reducible first | exact HB.out | apply below_alloc | apply pw_below_drewN | apply below_drew1) | exact HB.out))) : w.heap.size ≤ gb206)); have n3_ := Aside0.mk ((by rw [hg]; exact (below_size (by repeat (first | (with_reducible first | exact HB.out | apply below_alloc | apply pw_below_drewN | apply below_drew1) | exact HB.out))) : w.heap.size ≤ gb206)); clear HB; have HB := n0_; have BK206 := n1_; have GW206 := n2_; have GE206 := n3_; clear n0_ n1_ n2_ n3_; clear hb hbox hg) | ((with_reducible refine gate_dst (N := 4) rfl ?_); refine box_event ?hg (N := 4) ?hd (cs := #[.int .i64 0, .bool false, .string (⟨#[]⟩ : ByteArray)]) (t := 23) ?hr ?_; (case hd => rfl); (case hg => rfl); (case hr => first | (go_simp; done) | (go_simp; rfl)); intro gb207 hg w10 hbox hb; have n0_ := Aside0.mk (blk_below (g := gb206) (o := .cells #[.int .i64 a0_0, .bool a0_1, .string a0_2, .int .i64 a0_3, .bool a0_4, .string a0_5, .bool true, .int .i64 a0_7, .int .i64 a0_8, .int .i64 a0_9, .int .i64 a0_10, .int .i64 a0_11, .int .i64 a0_12, .int .i64 a0_13, .int .i64 a0_14, .int .i64 a0_15, .int .i64 a0_16] 27 (0, 0)) (by (with_reducible repeat (first | refine blk_drewN ?_ _ | refine blk_drew ?_ | refine blk_alloc ?_ _)); exact BK206.out) hb); have n1_ := Aside0.mk (below_step (by repeat (first | (with_reducible first | exact HB.out | apply below_alloc | apply pw_below_drewN | apply below_drew1 | refine below_set ?_ GE206.out) | exact HB.out)) hb); have n2_ := Aside0.mk (hbox); have n3_ := Aside0.mk ((by rw [hg]; exact (below_size (by repeat (first | (with_reducible first | exact HB.out | apply below_alloc | apply pw_below_drewN | apply below_drew1 | refine below_set ?_ GE206.out) | exact HB.out))) : w.heap.size ≤ gb207)); have n4_ := Aside0.mk ((by rw [hg]; exact (below_size (by repeat (first | (with_reducible first | exact HB.out | apply below_alloc | apply pw_below_drewN | apply below_drew1 | refine below_set ?_ GE206.out) | exact HB.out))) : w.heap.size ≤ gb207)); have n5_ := Aside0.mk ((by rw [hg]; exact Nat.ne_of_lt (blk_lt (g := gb206) (o := .cells #[.int .i64 a0_0, .bool a0_1, .string a0_2, .int .i64 a0_3, .bool a0_4, .string a0_5, .bool true, .int .i64 a0_7, .int .i64 a0_8, .int .i64 a0_9, .int .i64 a0_10, .int .i64 a0_11, .int .i64 a0_12, .int .i64 a0_13, .int .i64 a0_14, .int .i64 a0_15, .int .i64 a0_16] 27 (0, 0)) (by (with_reducible repeat (first | refine blk_drewN ?_ _ | refine blk_drew ?_ | refine blk_alloc ?_ _)); exact BK206.out)) : gb206 ≠ gb207)); have n6_ := Aside0.mk ((by rw [hg]; exact Nat.ne_of_gt (blk_lt (g := gb206) (o := .cells #[.int .i64 a0_0, .bool a0_1, .string a0_2, .int .i64 a0_3, .bool a0_4, .string a0_5, .bool true, .int .i64 a0_7, .int .i64 a0_8, .int .i64 a0_9, .int .i64 a0_10, .int .i64 a0_11, .int .i64 a0_12, .int .i64 a0_13, .int .i64 a0_14, .int .i64 a0_15, .int .i64 a0_16] 27 (0, 0)) (by (with_reducible repeat (first | refine blk_drewN ?_ _ | refine blk_drew ?_ | refine blk_alloc ?_ _)); exact BK206.out)) : gb207 ≠ gb206)); clear BK206; clear HB; have BK206 := n0_; have HB := n1_; have BK207 := n2_; have GW207 := n3_; have GE207 := n4_; have NB206_207 := n5_; have NB207_206 := n6_; clear n0_ n1_ n2_ n3_ n4_ n5_ n6_; clear hb hbox hg) | ((with_reducible refine gate_dst (N := 24) rfl ?_); refine wpList_load_row rfl 27 _ rfl (gb206) rfl 27 #[.int .i64 a0_0, .bool a0_1, .string a0_2, .int .i64 a0_3, .bool a0_4, .string a0_5, .bool true, .int .i64 a0_7, .int .i64 a0_8, .int .i64 a0_9, .int .i64 a0_10, .int .i64 a0_11, .int .i64 a0_12, .int .i64 a0_13, .int .i64 a0_14, .int .i64 a0_15, .int .i64 a0_16] (0, 0) _ (by (with_reducible repeat (first | refine blk_drewN ?_ _ | refine blk_drew ?_ | refine blk_alloc ?_ _)); exact BK206.out) Tryd.underlying27 rfl (by kernel_rfl) ?_) | ((with_reducible refine gate_callee (f := 18) rfl ?_); refine goesL_ (some 25) rfl rfl Tryd.func18 (by kernel_rfl) rfl #[.agg #[.int .i64 a0_0, .bool a0_1, .string a0_2, .int .i64 a0_3, .bool a0_4, .string a0_5, .bool true, .int .i64 a0_7, .int .i64 a0_8, .int .i64 a0_9, .int .i64 a0_10, .int .i64 a0_11, .int .i64 a0_12, .int .i64 a0_13, .int .i64 a0_14, .int .i64 a0_15, .int .i64 a0_16], .bool true] rfl (by (try simp only [List.map_toArray, List.map_cons, List.map_nil]); first | done | rfl | (simp only [List.length_drop, List.length_take]; rfl)) ?_; (with_reducible refine (longcaseref08_Right.calls k a0_0 a0_1 a0_2 a0_3 a0_4 a0_5 true a0_7 a0_8 a0_9 a0_10 a0_11 a0_12 a0_13 a0_14 a0_15 a0_16 true true _ A3.out).mono ?_); rintro e w11 ⟨rfl, hb⟩; refine ⟨_, rfl, ?_⟩; have n0_ := Aside0.mk (blk_below (g := gb206) (o := .cells #[.int .i64 a0_0, .bool a0_1, .string a0_2, .int .i64 a0_3, .bool a0_4, .string a0_5, .bool true, .int .i64 a0_7, .int .i64 a0_8, .int .i64 a0_9, .int .i64 a0_10, .int .i64 a0_11, .int .i64 a0_12, .int .i64 a0_13, .int .i64 a0_14, .int .i64 a0_15, .int .i64 a0_16] 27 (0, 0)) (by (with_reducible repeat (first | refine blk_drewN ?_ _ | refine blk_drew ?_ | refine blk_alloc ?_ _)); exact BK206.out) hb); have n1_ := Aside0.mk (blk_below (g := gb207) (o := .cells #[.int .i64 0, .bool false, .string (⟨#[]⟩ : ByteArray)] 23 (0, 0)) (by (with_reducible repeat (first | refine blk_drewN ?_ _ | refine blk_drew ?_ | refine blk_alloc ?_ _)); exact BK207.out) hb); have n2_ := Aside0.mk (below_step (by repeat (first | (with_reducible first | exact HB.out | apply below_alloc | apply pw_below_drewN | apply below_drew1 | refine below_set ?_ GE206.out | refine below_set ?_ GE207.out) | exact HB.out)) hb); clear BK206; clear BK207; clear HB; have BK206 := n0_; have BK207 := n1_; have HB := n2_; clear n0_ n1_ n2_; (try clear hb); (try clear hb2); (try clear hk); (try clear hi); have hnb12 := NB206_207.out; have hnc12 := NB207_206.out; have hcz13_0 : w11.cell? ⟨gb206, 0, none⟩ = some (.int .i64 a0_0) := (blk_cell BK206.out 0).trans rfl; have hcz13_1 : w11.cell? ⟨gb206, 1, none⟩ = some (.bool a0_1) := (blk_cell BK206.out 1).trans rfl; have hcz13_2 : w11.cell? ⟨gb206, 2, none⟩ = some (.string a0_2) := (blk_cell BK206.out 2).trans rfl; have hcz13_3 : w11.cell? ⟨gb206, 3, none⟩ = some (.int .i64 a0_3) := (blk_cell BK206.out 3).trans rfl; have hcz13_4 : w11.cell? ⟨gb206, 4, none⟩ = some (.bool a0_4) := (blk_cell BK206.out 4).trans rfl; have hcz13_5 : w11.cell? ⟨gb206, 5, none⟩ = some (.string a0_5) := (blk_cell BK206.out 5).trans rfl; have hcz13_6 : w11.cell? ⟨gb206, 6, none⟩ = some (.bool true) := (blk_cell BK206.out 6).trans rfl; have hcz13_7 : w11.cell? ⟨gb206, 7, none⟩ = some (.int .i64 a0_7) := (blk_cell BK206.out 7).trans rfl; have hcz13_8 : w11.cell? ⟨gb206, 8, none⟩ = some (.int .i64 a0_8) := (blk_cell BK206.out 8).trans rfl; have hcz13_9 : w11.cell? ⟨gb206, 9, none⟩ = some (.int .i64 a0_9) := (blk_cell BK206.out 9).trans rfl; have hcz13_10 : w11.cell? ⟨gb206, 10, none⟩ = some (.int .i64 a0_10) := (blk_cell BK206.out 10).trans rfl; have hcz13_11 : w11.cell? ⟨gb206, 11, none⟩ = some (.int .i64 a0_11) := (blk_cell BK206.out 11).trans rfl; have hcz13_12 : w11.cell? ⟨gb206, 12, none⟩ = some (.int .i64 a0_12) := (blk_cell BK206.out 12).trans rfl; have hcz13_13 : w11.cell? ⟨gb206, 13, none⟩ = some (.int .i64 a0_13) := (blk_cell BK206.out 13).trans rfl; have hcz13_14 : w11.cell? ⟨gb206, 14, none⟩ = some (.int .i64 a0_14) := (blk_cell BK206.out 14).trans rfl; have hcz13_15 : w11.cell? ⟨gb206, 15, none⟩ = some (.int .i64 a0_15) := (blk_cell BK206.out 15).trans rfl; have hcz13_16 : w11.cell? ⟨gb206, 16, none⟩ = some (.int .i64 a0_16) := (blk_cell BK206.out 16).trans rfl; have hfz13_0 := blk_frozen BK206.out 0; have hfz13_1 := blk_frozen BK206.out 1; have hfz13_2 := blk_frozen BK206.out 2; have hfz13_3 := blk_frozen BK206.out 3; have hfz13_4 := blk_frozen BK206.out 4; have hfz13_5 := blk_frozen BK206.out 5; have hfz13_6 := blk_frozen BK206.out 6; have hfz13_7 := blk_frozen BK206.out 7; have hfz13_8 := blk_frozen BK206.out 8; have hfz13_9 := blk_frozen BK206.out 9; have hfz13_10 := blk_frozen BK206.out 10; have hfz13_11 := blk_frozen BK206.out 11; have hfz13_12 := blk_frozen BK206.out 12; have hfz13_13 := blk_frozen BK206.out 13; have hfz13_14 := blk_frozen BK206.out 14; have hfz13_15 := blk_frozen BK206.out 15; have hfz13_16 := blk_frozen BK206.out 16) | ((with_reducible refine gate_callee (f := 38) rfl ?_); refine goesL_ (some 36) rfl rfl Tryd.func38 (by kernel_rfl) rfl #[.int .i64 a1, .int .i64 86400] rfl (by (try simp only [List.map_toArray, List.map_cons, List.map_nil]); first | done | rfl | (simp only [List.length_drop, List.length_take]; rfl)) ?_; (with_reducible refine (longcaseref01_Div.calls a1 86400 t209 t210 t211 _ A6.out).mono ?_); rintro e w' ⟨rfl, ⟨nd, rfl⟩⟩; refine ⟨_, rfl, ?_⟩) | ((with_reducible refine gate_callee (f := 39) rfl ?_); refine goesL_ (some 42) rfl rfl Tryd.func39 (by kernel_rfl) rfl #[.int .i64 t209] rfl (by (try simp only [List.map_toArray, List.map_cons, List.map_nil]); first | done | rfl | (simp only [List.length_drop, List.length_take]; rfl)) ?_; (with_reducible refine (longcaseref02_Date.calls k t209 t212 t213 t214 true _ A7.out).mono ?_); rintro e w' ⟨rfl, ⟨nd, rfl⟩⟩; refine ⟨_, rfl, ?_⟩))
        go_loopg [14, 15, 16, 17, 18, 19, 20] k (fun kq v14 v15 v16 v17 v18 v19 v20 w' => ∃ (x14_1 : Bool) (x15_1 : Int) (x16_1 : Bool) (x17_1 : Bool) (x18_1 : Int) (x19_1 : Bool) (x20_1 : Int), v14 = .bool x14_1 ∧ v15 = .int .i64 x15_1 ∧ v16 = .bool x16_1 ∧ v17 = .bool x17_1 ∧ v18 = .int .i64 x18_1 ∧ v19 = .bool x19_1 ∧ v20 = .int .i64 x20_1 ∧ Aside0 (longcaseref09_At.l0 kq a1 t212 x14_1 x15_1 x16_1 x17_1 x18_1 x19_1 x20_1 a0_0 a0_1 a0_2 a0_3 a0_4 a0_5 true a0_7 a0_8 a0_9 a0_10 a0_11 a0_12 a0_13 a0_14 a0_15 a0_16 = some (r1, r2, r3, r4)) ∧ Aside0 (kq ≤ k) ∧ Aside0 (w'.heap[gb206]? = some (.cells #[.int .i64 a0_0, .bool a0_1, .string a0_2, .int .i64 a0_3, .bool a0_4, .string a0_5, .bool true, .int .i64 a0_7, .int .i64 a0_8, .int .i64 a0_9, .int .i64 a0_10, .int .i64 a0_11, .int .i64 a0_12, .int .i64 a0_13, .int .i64 a0_14, .int .i64 a0_15, .int .i64 a0_16] 27 (0, 0))) ∧ Aside0 (w'.heap[gb207]? = some (.cells #[.int .i64 0, .bool false, .string (⟨#[]⟩ : ByteArray)] 23 (0, 0))) ∧ Aside0 (Below w.heap.size w w'))
        case atStart => exact ⟨(false), (0), (false), (false), (0), (false), (wrap64 (t212 - 1)), (by first | rfl | (simp; done) | (simp [*]; done)), (by first | rfl | (simp; done) | (simp [*]; done)), (by first | rfl | (simp; done) | (simp [*]; done)), (by first | rfl | (simp; done) | (simp [*]; done)), (by first | rfl | (simp; done) | (simp [*]; done)), (by first | rfl | (simp; done) | (simp [*]; done)), (by first | rfl | (simp; done) | (simp [*]; done)), H', ⟨Nat.le_refl _⟩, ⟨by (with_reducible repeat (first | refine blk_drewN ?_ _ | refine blk_drew ?_ | refine blk_alloc ?_ _)); exact BK206.out⟩, ⟨by (with_reducible repeat (first | refine blk_drewN ?_ _ | refine blk_drew ?_ | refine blk_alloc ?_ _)); exact BK207.out⟩, ⟨by repeat (first | (with_reducible first | exact HB.out | apply below_alloc | apply pw_below_drewN | apply below_drew1 | refine below_set ?_ GE206.out | refine below_set ?_ GE207.out) | exact HB.out)⟩⟩
        case round =>
          clear H'
          try clear c1
          try clear p2
          try clear c3
          try clear c4
          try clear c5
          try clear p6
          try clear c8
          try clear c12
          try clear hcz13_0
          try clear hcz13_1
          try clear hcz13_10
          try clear hcz13_11
          try clear hcz13_12
          try clear hcz13_13
          try clear hcz13_14
          try clear hcz13_15
          try clear hcz13_16
          try clear hcz13_2
          try clear hcz13_3
          try clear hcz13_4
          try clear hcz13_5
          try clear hcz13_6
          try clear hcz13_7
          try clear hcz13_8
          try clear hcz13_9
          try clear hfz13_0
          try clear hfz13_1
          try clear hfz13_10
          try clear hfz13_11
          try clear hfz13_12
          try clear hfz13_13
          try clear hfz13_14
          try clear hfz13_15
          try clear hfz13_16
          try clear hfz13_2
          try clear hfz13_3
          try clear hfz13_4
          try clear hfz13_5
          try clear hfz13_6
          try clear hfz13_7
          try clear hfz13_8
          try clear hfz13_9
          obtain ⟨x14_1, x15_1, x16_1, x17_1, x18_1, x19_1, x20_1, rfl, rfl, rfl, rfl, rfl, rfl, rfl, HA, HK1, BK206, BK207, HB⟩ := hrel
          cases gk with
          | zero => exact absurd HA.out (by simp [longcaseref09_At.l0])
          | succ k1 =>
            have H := HA.out
            clear HA
            simp only [longcaseref09_At.l0] at H
            by_cases c14 : x20_1 ≤ (wrap64 (t212 + 1))
            · rw [if_pos c14] at H
              have c14b0 : decide (x20_1 ≤ (wrap64 (t212 + 1))) = true := decide_eq_true c14
              clear c14
              replace H := Option.bind_eq_some_iff.mp H
              obtain ⟨⟨t216, t217, t218⟩, A150, H⟩ := H
              replace H : (if t218 = true then (if t217 ≤ a1 then (if x14_1 = true then (longcaseref09_At.j1 k1 a1 t212 x14_1 x15_1 x16_1 x17_1 x18_1 x19_1 x20_1 t216 t217 (decide (t217 > x15_1)) a0_0 a0_1 a0_2 a0_3 a0_4 a0_5 true a0_7 a0_8 a0_9 a0_10 a0_11 a0_12 a0_13 a0_14 a0_15 a0_16) else (longcaseref09_At.j1 k1 a1 t212 x14_1 x15_1 x16_1 x17_1 x18_1 x19_1 x20_1 t216 t217 true a0_0 a0_1 a0_2 a0_3 a0_4 a0_5 true a0_7 a0_8 a0_9 a0_10 a0_11 a0_12 a0_13 a0_14 a0_15 a0_16)) else (longcaseref09_At.j1 k1 a1 t212 x14_1 x15_1 x16_1 x17_1 x18_1 x19_1 x20_1 t216 t217 false a0_0 a0_1 a0_2 a0_3 a0_4 a0_5 true a0_7 a0_8 a0_9 a0_10 a0_11 a0_12 a0_13 a0_14 a0_15 a0_16)) else (longcaseref09_At.l0 k1 a1 t212 x14_1 x15_1 x16_1 x17_1 x18_1 x19_1 (wrap64 (x20_1 + 1)) a0_0 a0_1 a0_2 a0_3 a0_4 a0_5 true a0_7 a0_8 a0_9 a0_10 a0_11 a0_12 a0_13 a0_14 a0_15 a0_16)) = some (r1, r2, r3, r4) := H
              have A15 := Aside0.mk A150
              clear A150
              by_cases c16 : t218 = true
              · subst c16
                have H1 : (if t217 ≤ a1 then (if x14_1 = true then (longcaseref09_At.j1 k1 a1 t212 x14_1 x15_1 x16_1 x17_1 x18_1 x19_1 x20_1 t216 t217 (decide (t217 > x15_1)) a0_0 a0_1 a0_2 a0_3 a0_4 a0_5 true a0_7 a0_8 a0_9 a0_10 a0_11 a0_12 a0_13 a0_14 a0_15 a0_16) else (longcaseref09_At.j1 k1 a1 t212 x14_1 x15_1 x16_1 x17_1 x18_1 x19_1 x20_1 t216 t217 true a0_0 a0_1 a0_2 a0_3 a0_4 a0_5 true a0_7 a0_8 a0_9 a0_10 a0_11 a0_12 a0_13 a0_14 a0_15 a0_16)) else (longcaseref09_At.j1 k1 a1 t212 x14_1 x15_1 x16_1 x17_1 x18_1 x19_1 x20_1 t216 t217 false a0_0 a0_1 a0_2 a0_3 a0_4 a0_5 true a0_7 a0_8 a0_9 a0_10 a0_11 a0_12 a0_13 a0_14 a0_15 a0_16)) = some (r1, r2, r3, r4) := by rw [if_pos rfl] at H; exact H
                clear H
                have H := H1
                clear H1
                have HC17 := Aside0.mk H
                clear H
                go_upto_region 21 with (first | ((with_reducible refine gate_dst (N := 59) rfl ?_); refine wpList_load_row rfl 27 _ rfl (gb206) rfl 27 #[.int .i64 a0_0, .bool a0_1, .string a0_2, .int .i64 a0_3, .bool a0_4, .string a0_5, .bool true, .int .i64 a0_7, .int .i64 a0_8, .int .i64 a0_9, .int .i64 a0_10, .int .i64 a0_11, .int .i64 a0_12, .int .i64 a0_13, .int .i64 a0_14, .int .i64 a0_15, .int .i64 a0_16] (0, 0) _ (by (with_reducible repeat (first | refine blk_drewN ?_ _ | refine blk_drew ?_ | refine blk_alloc ?_ _)); exact BK206.out) Tryd.underlying27 rfl (by kernel_rfl) ?_) | ((with_reducible refine gate_callee (f := 15) rfl ?_); refine goesL_ (some 61) rfl rfl Tryd.func15 (by kernel_rfl) rfl #[.agg #[.int .i64 a0_0, .bool a0_1, .string a0_2, .int .i64 a0_3, .bool a0_4, .string a0_5, .bool true, .int .i64 a0_7, .int .i64 a0_8, .int .i64 a0_9, .int .i64 a0_10, .int .i64 a0_11, .int .i64 a0_12, .int .i64 a0_13, .int .i64 a0_14, .int .i64 a0_15, .int .i64 a0_16], .int .i64 x20_1] rfl (by (try simp only [List.map_toArray, List.map_cons, List.map_nil]); first | done | rfl | (simp only [List.length_drop, List.length_take]; rfl)) ?_; (with_reducible refine (longcaseref09_Turns.calls k1 a0_0 a0_1 a0_2 a0_3 a0_4 a0_5 true a0_7 a0_8 a0_9 a0_10 a0_11 a0_12 a0_13 a0_14 a0_15 a0_16 x20_1 t216 t217 true _ A15.out).mono ?_); rintro e w18 ⟨rfl, hb⟩; refine ⟨_, rfl, ?_⟩; have n0_ := Aside0.mk (blk_below (g := gb206) (o := .cells #[.int .i64 a0_0, .bool a0_1, .string a0_2, .int .i64 a0_3, .bool a0_4, .string a0_5, .bool true, .int .i64 a0_7, .int .i64 a0_8, .int .i64 a0_9, .int .i64 a0_10, .int .i64 a0_11, .int .i64 a0_12, .int .i64 a0_13, .int .i64 a0_14, .int .i64 a0_15, .int .i64 a0_16] 27 (0, 0)) (by (with_reducible repeat (first | refine blk_drewN ?_ _ | refine blk_drew ?_ | refine blk_alloc ?_ _)); exact BK206.out) hb); have n1_ := Aside0.mk (blk_below (g := gb207) (o := .cells #[.int .i64 0, .bool false, .string (⟨#[]⟩ : ByteArray)] 23 (0, 0)) (by (with_reducible repeat (first | refine blk_drewN ?_ _ | refine blk_drew ?_ | refine blk_alloc ?_ _)); exact BK207.out) hb); have n2_ := Aside0.mk (below_step (by repeat (first | (with_reducible first | exact HB.out | apply below_alloc | apply pw_below_drewN | apply below_drew1 | refine below_set ?_ GE206.out | refine below_set ?_ GE207.out) | exact HB.out)) hb); clear BK206; clear BK207; clear HB; have BK206 := n0_; have BK207 := n1_; have HB := n2_; clear n0_ n1_ n2_; (try clear hb); (try clear hb2); (try clear hk); (try clear hi)))
                (try simp only [Act.put, List.setIfInBounds_toArray, List.set_cons_zero, List.set_cons_succ])
                go_cut [78] (fun v78 wc => ∃ (kq : Nat) (x78_16 : Bool), v78 = .bool x78_16 ∧ Aside0 (longcaseref09_At.j1 kq a1 t212 x14_1 x15_1 x16_1 x17_1 x18_1 x19_1 x20_1 t216 t217 x78_16 a0_0 a0_1 a0_2 a0_3 a0_4 a0_5 true a0_7 a0_8 a0_9 a0_10 a0_11 a0_12 a0_13 a0_14 a0_15 a0_16 = some (r1, r2, r3, r4)) ∧ Aside0 (kq ≤ k1) ∧ Aside0 (wc.heap[gb206]? = some (.cells #[.int .i64 a0_0, .bool a0_1, .string a0_2, .int .i64 a0_3, .bool a0_4, .string a0_5, .bool true, .int .i64 a0_7, .int .i64 a0_8, .int .i64 a0_9, .int .i64 a0_10, .int .i64 a0_11, .int .i64 a0_12, .int .i64 a0_13, .int .i64 a0_14, .int .i64 a0_15, .int .i64 a0_16] 27 (0, 0))) ∧ Aside0 (wc.heap[gb207]? = some (.cells #[.int .i64 0, .bool false, .string (⟨#[]⟩ : ByteArray)] 23 (0, 0))) ∧ Aside0 (Below w.heap.size w wc))
                case first =>
                  have H := HC17.out
                  clear HC17
                  by_cases c19 : t217 ≤ a1
                  · rw [if_pos c19] at H
                    have c19b0 : decide (t217 ≤ a1) = true := decide_eq_true c19
                    clear c19
                    (first | rw [c19b0] | (simp only [i64_w, i32_w]; rw [c19b0]) | skip)
                    by_cases c20 : x14_1 = true
                    · subst c20
                      have H1 : (longcaseref09_At.j1 k1 a1 t212 true x15_1 x16_1 x17_1 x18_1 x19_1 x20_1 t216 t217 (decide (t217 > x15_1)) a0_0 a0_1 a0_2 a0_3 a0_4 a0_5 true a0_7 a0_8 a0_9 a0_10 a0_11 a0_12 a0_13 a0_14 a0_15 a0_16) = some (r1, r2, r3, r4) := by rw [if_pos rfl] at H; exact H
                      clear H
                      have H := H1
                      clear H1
                      have H' := Aside0.mk H
                      clear H
                      go_wp2
                      go_meet
                      case rel => exact ⟨_, (decide (t217 > x15_1)), (by first | rfl | (simp; done) | (simp [*]; done)), H', ⟨by have := HK1.out; first | omega | exact Nat.le_refl _⟩, ⟨by (with_reducible repeat (first | refine blk_drewN ?_ _ | refine blk_drew ?_ | refine blk_alloc ?_ _)); exact BK206.out⟩, ⟨by (with_reducible repeat (first | refine blk_drewN ?_ _ | refine blk_drew ?_ | refine blk_alloc ?_ _)); exact BK207.out⟩, ⟨by repeat (first | (with_reducible first | exact HB.out | apply below_alloc | apply pw_below_drewN | apply below_drew1 | refine below_set ?_ GE206.out | refine below_set ?_ GE207.out) | exact HB.out)⟩⟩
                    · replace c20 := Bool.eq_false_iff.mpr c20
                      subst c20
                      have H1 : (longcaseref09_At.j1 k1 a1 t212 false x15_1 x16_1 x17_1 x18_1 x19_1 x20_1 t216 t217 true a0_0 a0_1 a0_2 a0_3 a0_4 a0_5 true a0_7 a0_8 a0_9 a0_10 a0_11 a0_12 a0_13 a0_14 a0_15 a0_16) = some (r1, r2, r3, r4) := by rw [if_neg (show ¬ (false = true) by decide)] at H; exact H
                      clear H
                      have H := H1
                      clear H1
                      have H' := Aside0.mk H
                      clear H
                      go_wp2
                      go_meet
                      case rel => exact ⟨_, (true), (by first | rfl | (simp; done) | (simp [*]; done)), H', ⟨by have := HK1.out; first | omega | exact Nat.le_refl _⟩, ⟨by (with_reducible repeat (first | refine blk_drewN ?_ _ | refine blk_drew ?_ | refine blk_alloc ?_ _)); exact BK206.out⟩, ⟨by (with_reducible repeat (first | refine blk_drewN ?_ _ | refine blk_drew ?_ | refine blk_alloc ?_ _)); exact BK207.out⟩, ⟨by repeat (first | (with_reducible first | exact HB.out | apply below_alloc | apply pw_below_drewN | apply below_drew1 | refine below_set ?_ GE206.out | refine below_set ?_ GE207.out) | exact HB.out)⟩⟩
                  · rw [if_neg c19] at H
                    have c19b0 : decide (t217 ≤ a1) = false := decide_eq_false c19
                    clear c19
                    (first | rw [c19b0] | (simp only [i64_w, i32_w]; rw [c19b0]) | skip)
                    have H' := Aside0.mk H
                    clear H
                    go_wp2
                    go_meet
                    case rel => exact ⟨_, (false), (by first | rfl | (simp; done) | (simp [*]; done)), H', ⟨by have := HK1.out; first | omega | exact Nat.le_refl _⟩, ⟨by (with_reducible repeat (first | refine blk_drewN ?_ _ | refine blk_drew ?_ | refine blk_alloc ?_ _)); exact BK206.out⟩, ⟨by (with_reducible repeat (first | refine blk_drewN ?_ _ | refine blk_drew ?_ | refine blk_alloc ?_ _)); exact BK207.out⟩, ⟨by repeat (first | (with_reducible first | exact HB.out | apply below_alloc | apply pw_below_drewN | apply below_drew1 | refine below_set ?_ GE206.out | refine below_set ?_ GE207.out) | exact HB.out)⟩⟩
                case rest =>
                  clear HC17
                  try clear c1
                  try clear c2
                  try clear p2
                  try clear c3
                  try clear c4
                  try clear c5
                  try clear p6
                  try clear c8
                  try clear c12
                  try clear c14
                  try clear c14b0
                  try clear c15
                  try clear c16
                  try clear c17
                  try clear c18
                  try clear c19
                  try clear c19b0
                  try clear c20
                  try clear hcz13_0
                  try clear hcz13_1
                  try clear hcz13_10
                  try clear hcz13_11
                  try clear hcz13_12
                  try clear hcz13_13
                  try clear hcz13_14
                  try clear hcz13_15
                  try clear hcz13_16
                  try clear hcz13_2
                  try clear hcz13_3
                  try clear hcz13_4
                  try clear hcz13_5
                  try clear hcz13_6
                  try clear hcz13_7
                  try clear hcz13_8
                  try clear hcz13_9
                  try clear hfz13_0
                  try clear hfz13_1
                  try clear hfz13_10
                  try clear hfz13_11
                  try clear hfz13_12
                  try clear hfz13_13
                  try clear hfz13_14
                  try clear hfz13_15
                  try clear hfz13_16
                  try clear hfz13_2
                  try clear hfz13_3
                  try clear hfz13_4
                  try clear hfz13_5
                  try clear hfz13_6
                  try clear hfz13_7
                  try clear hfz13_8
                  try clear hfz13_9
                  try clear p2
                  try clear p6
                  obtain ⟨kq, x78_16, rfl, HA, HJ16, BK206, BK207, HB⟩ := hcut
                  cases kq with
                  | zero => exact absurd HA.out (by simp [longcaseref09_At.j1])
                  | succ kj16 =>
                    have H := HA.out
                    clear HA
                    simp only [longcaseref09_At.j1] at H
                    have HC21 := Aside0.mk H
                    clear H
                    go_upto_if 78 with (fail)
                    go_cut [14, 15, 16] (fun v14 v15 v16 wc => ∃ (kq : Nat) (x14_20 : Bool) (x15_20 : Int) (x16_20 : Bool), v14 = .bool x14_20 ∧ v15 = .int .i64 x15_20 ∧ v16 = .bool x16_20 ∧ Aside0 (longcaseref09_At.j2 kq a1 t212 x14_20 x15_20 x16_20 x17_1 x18_1 x19_1 x20_1 t216 t217 a0_0 a0_1 a0_2 a0_3 a0_4 a0_5 true a0_7 a0_8 a0_9 a0_10 a0_11 a0_12 a0_13 a0_14 a0_15 a0_16 = some (r1, r2, r3, r4)) ∧ Aside0 (kq ≤ kj16) ∧ Aside0 (wc.heap[gb206]? = some (.cells #[.int .i64 a0_0, .bool a0_1, .string a0_2, .int .i64 a0_3, .bool a0_4, .string a0_5, .bool true, .int .i64 a0_7, .int .i64 a0_8, .int .i64 a0_9, .int .i64 a0_10, .int .i64 a0_11, .int .i64 a0_12, .int .i64 a0_13, .int .i64 a0_14, .int .i64 a0_15, .int .i64 a0_16] 27 (0, 0))) ∧ Aside0 (wc.heap[gb207]? = some (.cells #[.int .i64 0, .bool false, .string (⟨#[]⟩ : ByteArray)] 23 (0, 0))) ∧ Aside0 (Below w.heap.size w wc))
                    case first =>
                      have H := HC21.out
                      clear HC21
                      by_cases c22 : x78_16 = true
                      · subst c22
                        have H1 : (longcaseref09_At.j2 kj16 a1 t212 true t217 false x17_1 x18_1 x19_1 x20_1 t216 t217 a0_0 a0_1 a0_2 a0_3 a0_4 a0_5 true a0_7 a0_8 a0_9 a0_10 a0_11 a0_12 a0_13 a0_14 a0_15 a0_16) = some (r1, r2, r3, r4) := by rw [if_pos rfl] at H; exact H
                        clear H
                        have H := H1
                        clear H1
                        have H' := Aside0.mk H
                        clear H
                        go_wp2
                        go_meet
                        case rel => exact ⟨_, (true), (t217), (false), (by first | rfl | (simp; done) | (simp [*]; done)), (by first | rfl | (simp; done) | (simp [*]; done)), (by first | rfl | (simp; done) | (simp [*]; done)), H', ⟨by have := HK1.out; have := HJ16.out; first | omega | exact Nat.le_refl _⟩, ⟨by (with_reducible repeat (first | refine blk_drewN ?_ _ | refine blk_drew ?_ | refine blk_alloc ?_ _)); exact BK206.out⟩, ⟨by (with_reducible repeat (first | refine blk_drewN ?_ _ | refine blk_drew ?_ | refine blk_alloc ?_ _)); exact BK207.out⟩, ⟨by repeat (first | (with_reducible first | exact HB.out | apply below_alloc | apply pw_below_drewN | apply below_drew1 | refine below_set ?_ GE206.out | refine below_set ?_ GE207.out) | exact HB.out)⟩⟩
                      · replace c22 := Bool.eq_false_iff.mpr c22
                        subst c22
                        have H1 : (longcaseref09_At.j2 kj16 a1 t212 x14_1 x15_1 x16_1 x17_1 x18_1 x19_1 x20_1 t216 t217 a0_0 a0_1 a0_2 a0_3 a0_4 a0_5 true a0_7 a0_8 a0_9 a0_10 a0_11 a0_12 a0_13 a0_14 a0_15 a0_16) = some (r1, r2, r3, r4) := by rw [if_neg (show ¬ (false = true) by decide)] at H; exact H
                        clear H
                        have H := H1
                        clear H1
                        have H' := Aside0.mk H
                        clear H
                        go_wp2
                        go_meet
                        case rel => exact ⟨_, (x14_1), (x15_1), (x16_1), (by first | rfl | (simp; done) | (simp [*]; done)), (by first | rfl | (simp; done) | (simp [*]; done)), (by first | rfl | (simp; done) | (simp [*]; done)), H', ⟨by have := HK1.out; have := HJ16.out; first | omega | exact Nat.le_refl _⟩, ⟨by (with_reducible repeat (first | refine blk_drewN ?_ _ | refine blk_drew ?_ | refine blk_alloc ?_ _)); exact BK206.out⟩, ⟨by (with_reducible repeat (first | refine blk_drewN ?_ _ | refine blk_drew ?_ | refine blk_alloc ?_ _)); exact BK207.out⟩, ⟨by repeat (first | (with_reducible first | exact HB.out | apply below_alloc | apply pw_below_drewN | apply below_drew1 | refine below_set ?_ GE206.out | refine below_set ?_ GE207.out) | exact HB.out)⟩⟩
                    case rest =>
                      clear HC21
                      try clear c1
                      try clear c2
                      try clear p2
                      try clear c3
                      try clear c4
                      try clear c5
                      try clear p6
                      try clear c8
                      try clear c12
                      try clear c14
                      try clear c14b0
                      try clear c15
                      try clear c16
                      try clear c17
                      try clear c18
                      try clear c19
                      try clear c19b0
                      try clear c20
                      try clear c22
                      try clear hcz13_0
                      try clear hcz13_1
                      try clear hcz13_10
                      try clear hcz13_11
                      try clear hcz13_12
                      try clear hcz13_13
                      try clear hcz13_14
                      try clear hcz13_15
                      try clear hcz13_16
                      try clear hcz13_2
                      try clear hcz13_3
                      try clear hcz13_4
                      try clear hcz13_5
                      try clear hcz13_6
                      try clear hcz13_7
                      try clear hcz13_8
                      try clear hcz13_9
                      try clear hfz13_0
                      try clear hfz13_1
                      try clear hfz13_10
                      try clear hfz13_11
                      try clear hfz13_12
                      try clear hfz13_13
                      try clear hfz13_14
                      try clear hfz13_15
                      try clear hfz13_16
                      try clear hfz13_2
                      try clear hfz13_3
                      try clear hfz13_4
                      try clear hfz13_5
                      try clear hfz13_6
                      try clear hfz13_7
                      try clear hfz13_8
                      try clear hfz13_9
                      try clear p2
                      try clear p6
                      obtain ⟨kq, x14_20, x15_20, x16_20, rfl, rfl, rfl, HA, HJ20, BK206, BK207, HB⟩ := hcut
                      cases kq with
                      | zero => exact absurd HA.out (by simp [longcaseref09_At.j2])
                      | succ kj20 =>
                        have H := HA.out
                        clear HA
                        simp only [longcaseref09_At.j2] at H
                        have HC23 := Aside0.mk H
                        clear H
                        go_upto_region 25 with (fail)
                        go_cut [91] (fun v91 wc => ∃ (kq : Nat) (x91_22 : Bool), v91 = .bool x91_22 ∧ Aside0 (longcaseref09_At.j3 kq a1 t212 x14_20 x15_20 x16_20 x17_1 x18_1 x19_1 x20_1 t216 t217 x91_22 a0_0 a0_1 a0_2 a0_3 a0_4 a0_5 true a0_7 a0_8 a0_9 a0_10 a0_11 a0_12 a0_13 a0_14 a0_15 a0_16 = some (r1, r2, r3, r4)) ∧ Aside0 (kq ≤ kj20) ∧ Aside0 (wc.heap[gb206]? = some (.cells #[.int .i64 a0_0, .bool a0_1, .string a0_2, .int .i64 a0_3, .bool a0_4, .string a0_5, .bool true, .int .i64 a0_7, .int .i64 a0_8, .int .i64 a0_9, .int .i64 a0_10, .int .i64 a0_11, .int .i64 a0_12, .int .i64 a0_13, .int .i64 a0_14, .int .i64 a0_15, .int .i64 a0_16] 27 (0, 0))) ∧ Aside0 (wc.heap[gb207]? = some (.cells #[.int .i64 0, .bool false, .string (⟨#[]⟩ : ByteArray)] 23 (0, 0))) ∧ Aside0 (Below w.heap.size w wc))
                        case first =>
                          have H := HC23.out
                          clear HC23
                          by_cases c24 : t216 ≤ a1
                          · rw [if_pos c24] at H
                            have c24b0 : decide (t216 ≤ a1) = true := decide_eq_true c24
                            clear c24
                            (first | rw [c24b0] | (simp only [i64_w, i32_w]; rw [c24b0]) | skip)
                            by_cases c25 : x14_20 = true
                            · subst c25
                              have H1 : (longcaseref09_At.j3 kj20 a1 t212 true x15_20 x16_20 x17_1 x18_1 x19_1 x20_1 t216 t217 (decide (t216 ≥ x15_20)) a0_0 a0_1 a0_2 a0_3 a0_4 a0_5 true a0_7 a0_8 a0_9 a0_10 a0_11 a0_12 a0_13 a0_14 a0_15 a0_16) = some (r1, r2, r3, r4) := by rw [if_pos rfl] at H; exact H
                              clear H
                              have H := H1
                              clear H1
                              have H' := Aside0.mk H
                              clear H
                              go_wp2
                              go_meet
                              case rel => exact ⟨_, (decide (t216 ≥ x15_20)), (by first | rfl | (simp; done) | (simp [*]; done)), H', ⟨by have := HK1.out; have := HJ16.out; have := HJ20.out; first | omega | exact Nat.le_refl _⟩, ⟨by (with_reducible repeat (first | refine blk_drewN ?_ _ | refine blk_drew ?_ | refine blk_alloc ?_ _)); exact BK206.out⟩, ⟨by (with_reducible repeat (first | refine blk_drewN ?_ _ | refine blk_drew ?_ | refine blk_alloc ?_ _)); exact BK207.out⟩, ⟨by repeat (first | (with_reducible first | exact HB.out | apply below_alloc | apply pw_below_drewN | apply below_drew1 | refine below_set ?_ GE206.out | refine below_set ?_ GE207.out) | exact HB.out)⟩⟩
                            · replace c25 := Bool.eq_false_iff.mpr c25
                              subst c25
                              have H1 : (longcaseref09_At.j3 kj20 a1 t212 false x15_20 x16_20 x17_1 x18_1 x19_1 x20_1 t216 t217 true a0_0 a0_1 a0_2 a0_3 a0_4 a0_5 true a0_7 a0_8 a0_9 a0_10 a0_11 a0_12 a0_13 a0_14 a0_15 a0_16) = some (r1, r2, r3, r4) := by rw [if_neg (show ¬ (false = true) by decide)] at H; exact H
                              clear H
                              have H := H1
                              clear H1
                              have H' := Aside0.mk H
                              clear H
                              go_wp2
                              go_meet
                              case rel => exact ⟨_, (true), (by first | rfl | (simp; done) | (simp [*]; done)), H', ⟨by have := HK1.out; have := HJ16.out; have := HJ20.out; first | omega | exact Nat.le_refl _⟩, ⟨by (with_reducible repeat (first | refine blk_drewN ?_ _ | refine blk_drew ?_ | refine blk_alloc ?_ _)); exact BK206.out⟩, ⟨by (with_reducible repeat (first | refine blk_drewN ?_ _ | refine blk_drew ?_ | refine blk_alloc ?_ _)); exact BK207.out⟩, ⟨by repeat (first | (with_reducible first | exact HB.out | apply below_alloc | apply pw_below_drewN | apply below_drew1 | refine below_set ?_ GE206.out | refine below_set ?_ GE207.out) | exact HB.out)⟩⟩
                          · rw [if_neg c24] at H
                            have c24b0 : decide (t216 ≤ a1) = false := decide_eq_false c24
                            clear c24
                            (first | rw [c24b0] | (simp only [i64_w, i32_w]; rw [c24b0]) | skip)
                            have H' := Aside0.mk H
                            clear H
                            go_wp2
                            go_meet
                            case rel => exact ⟨_, (false), (by first | rfl | (simp; done) | (simp [*]; done)), H', ⟨by have := HK1.out; have := HJ16.out; have := HJ20.out; first | omega | exact Nat.le_refl _⟩, ⟨by (with_reducible repeat (first | refine blk_drewN ?_ _ | refine blk_drew ?_ | refine blk_alloc ?_ _)); exact BK206.out⟩, ⟨by (with_reducible repeat (first | refine blk_drewN ?_ _ | refine blk_drew ?_ | refine blk_alloc ?_ _)); exact BK207.out⟩, ⟨by repeat (first | (with_reducible first | exact HB.out | apply below_alloc | apply pw_below_drewN | apply below_drew1 | refine below_set ?_ GE206.out | refine below_set ?_ GE207.out) | exact HB.out)⟩⟩
                        case rest =>
                          clear HC23
                          try clear c1
                          try clear c2
                          try clear p2
                          try clear c3
                          try clear c4
                          try clear c5
                          try clear p6
                          try clear c8
                          try clear c12
                          try clear c14
                          try clear c14b0
                          try clear c15
                          try clear c16
                          try clear c17
                          try clear c18
                          try clear c19
                          try clear c19b0
                          try clear c20
                          try clear c22
                          try clear c24
                          try clear c24b0
                          try clear c25
                          try clear hcz13_0
                          try clear hcz13_1
                          try clear hcz13_10
                          try clear hcz13_11
                          try clear hcz13_12
                          try clear hcz13_13
                          try clear hcz13_14
                          try clear hcz13_15
                          try clear hcz13_16
                          try clear hcz13_2
                          try clear hcz13_3
                          try clear hcz13_4
                          try clear hcz13_5
                          try clear hcz13_6
                          try clear hcz13_7
                          try clear hcz13_8
                          try clear hcz13_9
                          try clear hfz13_0
                          try clear hfz13_1
                          try clear hfz13_10
                          try clear hfz13_11
                          try clear hfz13_12
                          try clear hfz13_13
                          try clear hfz13_14
                          try clear hfz13_15
                          try clear hfz13_16
                          try clear hfz13_2
                          try clear hfz13_3
                          try clear hfz13_4
                          try clear hfz13_5
                          try clear hfz13_6
                          try clear hfz13_7
                          try clear hfz13_8
                          try clear hfz13_9
                          try clear p2
                          try clear p6
                          obtain ⟨kq, x91_22, rfl, HA, HJ22, BK206, BK207, HB⟩ := hcut
                          cases kq with
                          | zero => exact absurd HA.out (by simp [longcaseref09_At.j3])
                          | succ kj22 =>
                            have H := HA.out
                            clear HA
                            simp only [longcaseref09_At.j3] at H
                            have HC26 := Aside0.mk H
                            clear H
                            go_upto_if 91 with (fail)
                            go_cut [14, 15, 16] (fun v14 v15 v16 wc => ∃ (kq : Nat) (x14_25 : Bool) (x15_25 : Int) (x16_25 : Bool), v14 = .bool x14_25 ∧ v15 = .int .i64 x15_25 ∧ v16 = .bool x16_25 ∧ Aside0 (longcaseref09_At.j4 kq a1 t212 x14_25 x15_25 x16_25 x17_1 x18_1 x19_1 x20_1 t216 t217 a0_0 a0_1 a0_2 a0_3 a0_4 a0_5 true a0_7 a0_8 a0_9 a0_10 a0_11 a0_12 a0_13 a0_14 a0_15 a0_16 = some (r1, r2, r3, r4)) ∧ Aside0 (kq ≤ kj22) ∧ Aside0 (wc.heap[gb206]? = some (.cells #[.int .i64 a0_0, .bool a0_1, .string a0_2, .int .i64 a0_3, .bool a0_4, .string a0_5, .bool true, .int .i64 a0_7, .int .i64 a0_8, .int .i64 a0_9, .int .i64 a0_10, .int .i64 a0_11, .int .i64 a0_12, .int .i64 a0_13, .int .i64 a0_14, .int .i64 a0_15, .int .i64 a0_16] 27 (0, 0))) ∧ Aside0 (wc.heap[gb207]? = some (.cells #[.int .i64 0, .bool false, .string (⟨#[]⟩ : ByteArray)] 23 (0, 0))) ∧ Aside0 (Below w.heap.size w wc))
                            case first =>
                              have H := HC26.out
                              clear HC26
                              by_cases c27 : x91_22 = true
                              · subst c27
                                have H1 : (longcaseref09_At.j4 kj22 a1 t212 true t216 true x17_1 x18_1 x19_1 x20_1 t216 t217 a0_0 a0_1 a0_2 a0_3 a0_4 a0_5 true a0_7 a0_8 a0_9 a0_10 a0_11 a0_12 a0_13 a0_14 a0_15 a0_16) = some (r1, r2, r3, r4) := by rw [if_pos rfl] at H; exact H
                                clear H
                                have H := H1
                                clear H1
                                have H' := Aside0.mk H
                                clear H
                                go_wp2
                                go_meet
                                case rel => exact ⟨_, (true), (t216), (true), (by first | rfl | (simp; done) | (simp [*]; done)), (by first | rfl | (simp; done) | (simp [*]; done)), (by first | rfl | (simp; done) | (simp [*]; done)), H', ⟨by have := HK1.out; have := HJ16.out; have := HJ20.out; have := HJ22.out; first | omega | exact Nat.le_refl _⟩, ⟨by (with_reducible repeat (first | refine blk_drewN ?_ _ | refine blk_drew ?_ | refine blk_alloc ?_ _)); exact BK206.out⟩, ⟨by (with_reducible repeat (first | refine blk_drewN ?_ _ | refine blk_drew ?_ | refine blk_alloc ?_ _)); exact BK207.out⟩, ⟨by repeat (first | (with_reducible first | exact HB.out | apply below_alloc | apply pw_below_drewN | apply below_drew1 | refine below_set ?_ GE206.out | refine below_set ?_ GE207.out) | exact HB.out)⟩⟩
                              · replace c27 := Bool.eq_false_iff.mpr c27
                                subst c27
                                have H1 : (longcaseref09_At.j4 kj22 a1 t212 x14_20 x15_20 x16_20 x17_1 x18_1 x19_1 x20_1 t216 t217 a0_0 a0_1 a0_2 a0_3 a0_4 a0_5 true a0_7 a0_8 a0_9 a0_10 a0_11 a0_12 a0_13 a0_14 a0_15 a0_16) = some (r1, r2, r3, r4) := by rw [if_neg (show ¬ (false = true) by decide)] at H; exact H
                                clear H
                                have H := H1
                                clear H1
                                have H' := Aside0.mk H
                                clear H
                                go_wp2
                                go_meet
                                case rel => exact ⟨_, (x14_20), (x15_20), (x16_20), (by first | rfl | (simp; done) | (simp [*]; done)), (by first | rfl | (simp; done) | (simp [*]; done)), (by first | rfl | (simp; done) | (simp [*]; done)), H', ⟨by have := HK1.out; have := HJ16.out; have := HJ20.out; have := HJ22.out; first | omega | exact Nat.le_refl _⟩, ⟨by (with_reducible repeat (first | refine blk_drewN ?_ _ | refine blk_drew ?_ | refine blk_alloc ?_ _)); exact BK206.out⟩, ⟨by (with_reducible repeat (first | refine blk_drewN ?_ _ | refine blk_drew ?_ | refine blk_alloc ?_ _)); exact BK207.out⟩, ⟨by repeat (first | (with_reducible first | exact HB.out | apply below_alloc | apply pw_below_drewN | apply below_drew1 | refine below_set ?_ GE206.out | refine below_set ?_ GE207.out) | exact HB.out)⟩⟩
                            case rest =>
                              clear HC26
                              try clear c1
                              try clear c2
                              try clear p2
                              try clear c3
                              try clear c4
                              try clear c5
                              try clear p6
                              try clear c8
                              try clear c12
                              try clear c14
                              try clear c14b0
                              try clear c15
                              try clear c16
                              try clear c17
                              try clear c18
                              try clear c19
                              try clear c19b0
                              try clear c20
                              try clear c22
                              try clear c24
                              try clear c24b0
                              try clear c25
                              try clear c27
                              try clear hcz13_0
                              try clear hcz13_1
                              try clear hcz13_10
                              try clear hcz13_11
                              try clear hcz13_12
                              try clear hcz13_13
                              try clear hcz13_14
                              try clear hcz13_15
                              try clear hcz13_16
                              try clear hcz13_2
                              try clear hcz13_3
                              try clear hcz13_4
                              try clear hcz13_5
                              try clear hcz13_6
                              try clear hcz13_7
                              try clear hcz13_8
                              try clear hcz13_9
                              try clear hfz13_0
                              try clear hfz13_1
                              try clear hfz13_10
                              try clear hfz13_11
                              try clear hfz13_12
                              try clear hfz13_13
                              try clear hfz13_14
                              try clear hfz13_15
                              try clear hfz13_16
                              try clear hfz13_2
                              try clear hfz13_3
                              try clear hfz13_4
                              try clear hfz13_5
                              try clear hfz13_6
                              try clear hfz13_7
                              try clear hfz13_8
                              try clear hfz13_9
                              try clear p2
                              try clear p6
                              obtain ⟨kq, x14_25, x15_25, x16_25, rfl, rfl, rfl, HA, HJ25, BK206, BK207, HB⟩ := hcut
                              cases kq with
                              | zero => exact absurd HA.out (by simp [longcaseref09_At.j4])
                              | succ kj25 =>
                                have H := HA.out
                                clear HA
                                simp only [longcaseref09_At.j4] at H
                                have HC28 := Aside0.mk H
                                clear H
                                go_upto_region 29 with (fail)
                                go_cut [99] (fun v99 wc => ∃ (kq : Nat) (x99_27 : Bool), v99 = .bool x99_27 ∧ Aside0 (longcaseref09_At.j5 kq a1 t212 x14_25 x15_25 x16_25 x17_1 x18_1 x19_1 x20_1 t216 t217 x99_27 a0_0 a0_1 a0_2 a0_3 a0_4 a0_5 true a0_7 a0_8 a0_9 a0_10 a0_11 a0_12 a0_13 a0_14 a0_15 a0_16 = some (r1, r2, r3, r4)) ∧ Aside0 (kq ≤ kj25) ∧ Aside0 (wc.heap[gb206]? = some (.cells #[.int .i64 a0_0, .bool a0_1, .string a0_2, .int .i64 a0_3, .bool a0_4, .string a0_5, .bool true, .int .i64 a0_7, .int .i64 a0_8, .int .i64 a0_9, .int .i64 a0_10, .int .i64 a0_11, .int .i64 a0_12, .int .i64 a0_13, .int .i64 a0_14, .int .i64 a0_15, .int .i64 a0_16] 27 (0, 0))) ∧ Aside0 (wc.heap[gb207]? = some (.cells #[.int .i64 0, .bool false, .string (⟨#[]⟩ : ByteArray)] 23 (0, 0))) ∧ Aside0 (Below w.heap.size w wc))
                                case first =>
                                  have H := HC28.out
                                  clear HC28
                                  by_cases c29 : x17_1 = true
                                  · subst c29
                                    have H1 : (longcaseref09_At.j5 kj25 a1 t212 x14_25 x15_25 x16_25 true x18_1 x19_1 x20_1 t216 t217 (decide (t217 < x18_1)) a0_0 a0_1 a0_2 a0_3 a0_4 a0_5 true a0_7 a0_8 a0_9 a0_10 a0_11 a0_12 a0_13 a0_14 a0_15 a0_16) = some (r1, r2, r3, r4) := by rw [if_pos rfl] at H; exact H
                                    clear H
                                    have H := H1
                                    clear H1
                                    have H' := Aside0.mk H
                                    clear H
                                    go_wp2
                                    go_meet
                                    case rel => exact ⟨_, (decide (t217 < x18_1)), (by first | rfl | (simp; done) | (simp [*]; done)), H', ⟨by have := HK1.out; have := HJ16.out; have := HJ20.out; have := HJ22.out; have := HJ25.out; first | omega | exact Nat.le_refl _⟩, ⟨by (with_reducible repeat (first | refine blk_drewN ?_ _ | refine blk_drew ?_ | refine blk_alloc ?_ _)); exact BK206.out⟩, ⟨by (with_reducible repeat (first | refine blk_drewN ?_ _ | refine blk_drew ?_ | refine blk_alloc ?_ _)); exact BK207.out⟩, ⟨by repeat (first | (with_reducible first | exact HB.out | apply below_alloc | apply pw_below_drewN | apply below_drew1 | refine below_set ?_ GE206.out | refine below_set ?_ GE207.out) | exact HB.out)⟩⟩
                                  · replace c29 := Bool.eq_false_iff.mpr c29
                                    subst c29
                                    have H1 : (longcaseref09_At.j5 kj25 a1 t212 x14_25 x15_25 x16_25 false x18_1 x19_1 x20_1 t216 t217 true a0_0 a0_1 a0_2 a0_3 a0_4 a0_5 true a0_7 a0_8 a0_9 a0_10 a0_11 a0_12 a0_13 a0_14 a0_15 a0_16) = some (r1, r2, r3, r4) := by rw [if_neg (show ¬ (false = true) by decide)] at H; exact H
                                    clear H
                                    have H := H1
                                    clear H1
                                    have H' := Aside0.mk H
                                    clear H
                                    go_wp2
                                    go_meet
                                    case rel => exact ⟨_, (true), (by first | rfl | (simp; done) | (simp [*]; done)), H', ⟨by have := HK1.out; have := HJ16.out; have := HJ20.out; have := HJ22.out; have := HJ25.out; first | omega | exact Nat.le_refl _⟩, ⟨by (with_reducible repeat (first | refine blk_drewN ?_ _ | refine blk_drew ?_ | refine blk_alloc ?_ _)); exact BK206.out⟩, ⟨by (with_reducible repeat (first | refine blk_drewN ?_ _ | refine blk_drew ?_ | refine blk_alloc ?_ _)); exact BK207.out⟩, ⟨by repeat (first | (with_reducible first | exact HB.out | apply below_alloc | apply pw_below_drewN | apply below_drew1 | refine below_set ?_ GE206.out | refine below_set ?_ GE207.out) | exact HB.out)⟩⟩
                                case rest =>
                                  clear HC28
                                  try clear c1
                                  try clear c2
                                  try clear p2
                                  try clear c3
                                  try clear c4
                                  try clear c5
                                  try clear p6
                                  try clear c8
                                  try clear c12
                                  try clear c14
                                  try clear c14b0
                                  try clear c15
                                  try clear c16
                                  try clear c17
                                  try clear c18
                                  try clear c19
                                  try clear c19b0
                                  try clear c20
                                  try clear c22
                                  try clear c24
                                  try clear c24b0
                                  try clear c25
                                  try clear c27
                                  try clear c29
                                  try clear hcz13_0
                                  try clear hcz13_1
                                  try clear hcz13_10
                                  try clear hcz13_11
                                  try clear hcz13_12
                                  try clear hcz13_13
                                  try clear hcz13_14
                                  try clear hcz13_15
                                  try clear hcz13_16
                                  try clear hcz13_2
                                  try clear hcz13_3
                                  try clear hcz13_4
                                  try clear hcz13_5
                                  try clear hcz13_6
                                  try clear hcz13_7
                                  try clear hcz13_8
                                  try clear hcz13_9
                                  try clear hfz13_0
                                  try clear hfz13_1
                                  try clear hfz13_10
                                  try clear hfz13_11
                                  try clear hfz13_12
                                  try clear hfz13_13
                                  try clear hfz13_14
                                  try clear hfz13_15
                                  try clear hfz13_16
                                  try clear hfz13_2
                                  try clear hfz13_3
                                  try clear hfz13_4
                                  try clear hfz13_5
                                  try clear hfz13_6
                                  try clear hfz13_7
                                  try clear hfz13_8
                                  try clear hfz13_9
                                  try clear p2
                                  try clear p6
                                  obtain ⟨kq, x99_27, rfl, HA, HJ27, BK206, BK207, HB⟩ := hcut
                                  cases kq with
                                  | zero => exact absurd HA.out (by simp [longcaseref09_At.j5])
                                  | succ kj27 =>
                                    have H := HA.out
                                    clear HA
                                    simp only [longcaseref09_At.j5] at H
                                    by_cases c30 : x99_27 = true
                                    · subst c30
                                      have H1 : (if t216 ≤ t217 then (longcaseref09_At.l0 kj27 a1 t212 x14_25 x15_25 x16_25 true t216 true (wrap64 (x20_1 + 1)) a0_0 a0_1 a0_2 a0_3 a0_4 a0_5 true a0_7 a0_8 a0_9 a0_10 a0_11 a0_12 a0_13 a0_14 a0_15 a0_16) else (longcaseref09_At.l0 kj27 a1 t212 x14_25 x15_25 x16_25 true t217 false (wrap64 (x20_1 + 1)) a0_0 a0_1 a0_2 a0_3 a0_4 a0_5 true a0_7 a0_8 a0_9 a0_10 a0_11 a0_12 a0_13 a0_14 a0_15 a0_16)) = some (r1, r2, r3, r4) := by rw [if_pos rfl] at H; exact H
                                      clear H
                                      have H := H1
                                      clear H1
                                      by_cases c31 : t216 ≤ t217
                                      · rw [if_pos c31] at H
                                        have c31b0 : decide (t216 ≤ t217) = true := decide_eq_true c31
                                        clear c31
                                        have H' := Aside0.mk H
                                        clear H
                                        go_wp2
                                        go_roundg kj27
                                        case measure => have := HK1.out; have := HJ16.out; have := HJ20.out; have := HJ22.out; have := HJ25.out; have := HJ27.out; omega
                                        case rel => exact ⟨(x14_25), (x15_25), (x16_25), (true), (t216), (true), (wrap64 (x20_1 + 1)), (by first | rfl | (simp; done) | (simp [*]; done)), (by first | rfl | (simp; done) | (simp [*]; done)), (by first | rfl | (simp; done) | (simp [*]; done)), (by first | rfl | (simp; done) | (simp [*]; done)), (by first | rfl | (simp; done) | (simp [*]; done)), (by first | rfl | (simp; done) | (simp [*]; done)), (by first | rfl | (simp; done) | (simp [*]; done)), H', ⟨by have := HK1.out; have := HJ16.out; have := HJ20.out; have := HJ22.out; have := HJ25.out; have := HJ27.out; omega⟩, ⟨by (with_reducible repeat (first | refine blk_drewN ?_ _ | refine blk_drew ?_ | refine blk_alloc ?_ _)); exact BK206.out⟩, ⟨by (with_reducible repeat (first | refine blk_drewN ?_ _ | refine blk_drew ?_ | refine blk_alloc ?_ _)); exact BK207.out⟩, ⟨by repeat (first | (with_reducible first | exact HB.out | apply below_alloc | apply pw_below_drewN | apply below_drew1 | refine below_set ?_ GE206.out | refine below_set ?_ GE207.out) | exact HB.out)⟩⟩
                                      · rw [if_neg c31] at H
                                        have c31b0 : decide (t216 ≤ t217) = false := decide_eq_false c31
                                        clear c31
                                        have H' := Aside0.mk H
                                        clear H
                                        go_wp2
                                        go_roundg kj27
                                        case measure => have := HK1.out; have := HJ16.out; have := HJ20.out; have := HJ22.out; have := HJ25.out; have := HJ27.out; omega
                                        case rel => exact ⟨(x14_25), (x15_25), (x16_25), (true), (t217), (false), (wrap64 (x20_1 + 1)), (by first | rfl | (simp; done) | (simp [*]; done)), (by first | rfl | (simp; done) | (simp [*]; done)), (by first | rfl | (simp; done) | (simp [*]; done)), (by first | rfl | (simp; done) | (simp [*]; done)), (by first | rfl | (simp; done) | (simp [*]; done)), (by first | rfl | (simp; done) | (simp [*]; done)), (by first | rfl | (simp; done) | (simp [*]; done)), H', ⟨by have := HK1.out; have := HJ16.out; have := HJ20.out; have := HJ22.out; have := HJ25.out; have := HJ27.out; omega⟩, ⟨by (with_reducible repeat (first | refine blk_drewN ?_ _ | refine blk_drew ?_ | refine blk_alloc ?_ _)); exact BK206.out⟩, ⟨by (with_reducible repeat (first | refine blk_drewN ?_ _ | refine blk_drew ?_ | refine blk_alloc ?_ _)); exact BK207.out⟩, ⟨by repeat (first | (with_reducible first | exact HB.out | apply below_alloc | apply pw_below_drewN | apply below_drew1 | refine below_set ?_ GE206.out | refine below_set ?_ GE207.out) | exact HB.out)⟩⟩
                                    · replace c30 := Bool.eq_false_iff.mpr c30
                                      subst c30
                                      have H1 : (if t216 ≤ x18_1 then (longcaseref09_At.l0 kj27 a1 t212 x14_25 x15_25 x16_25 x17_1 t216 true (wrap64 (x20_1 + 1)) a0_0 a0_1 a0_2 a0_3 a0_4 a0_5 true a0_7 a0_8 a0_9 a0_10 a0_11 a0_12 a0_13 a0_14 a0_15 a0_16) else (longcaseref09_At.l0 kj27 a1 t212 x14_25 x15_25 x16_25 x17_1 x18_1 x19_1 (wrap64 (x20_1 + 1)) a0_0 a0_1 a0_2 a0_3 a0_4 a0_5 true a0_7 a0_8 a0_9 a0_10 a0_11 a0_12 a0_13 a0_14 a0_15 a0_16)) = some (r1, r2, r3, r4) := by rw [if_neg (show ¬ (false = true) by decide)] at H; exact H
                                      clear H
                                      have H := H1
                                      clear H1
                                      by_cases c32 : t216 ≤ x18_1
                                      · rw [if_pos c32] at H
                                        have c32b0 : decide (t216 ≤ x18_1) = true := decide_eq_true c32
                                        clear c32
                                        have H' := Aside0.mk H
                                        clear H
                                        go_wp2
                                        go_roundg kj27
                                        case measure => have := HK1.out; have := HJ16.out; have := HJ20.out; have := HJ22.out; have := HJ25.out; have := HJ27.out; omega
                                        case rel => exact ⟨(x14_25), (x15_25), (x16_25), (x17_1), (t216), (true), (wrap64 (x20_1 + 1)), (by first | rfl | (simp; done) | (simp [*]; done)), (by first | rfl | (simp; done) | (simp [*]; done)), (by first | rfl | (simp; done) | (simp [*]; done)), (by first | rfl | (simp; done) | (simp [*]; done)), (by first | rfl | (simp; done) | (simp [*]; done)), (by first | rfl | (simp; done) | (simp [*]; done)), (by first | rfl | (simp; done) | (simp [*]; done)), H', ⟨by have := HK1.out; have := HJ16.out; have := HJ20.out; have := HJ22.out; have := HJ25.out; have := HJ27.out; omega⟩, ⟨by (with_reducible repeat (first | refine blk_drewN ?_ _ | refine blk_drew ?_ | refine blk_alloc ?_ _)); exact BK206.out⟩, ⟨by (with_reducible repeat (first | refine blk_drewN ?_ _ | refine blk_drew ?_ | refine blk_alloc ?_ _)); exact BK207.out⟩, ⟨by repeat (first | (with_reducible first | exact HB.out | apply below_alloc | apply pw_below_drewN | apply below_drew1 | refine below_set ?_ GE206.out | refine below_set ?_ GE207.out) | exact HB.out)⟩⟩
                                      · rw [if_neg c32] at H
                                        have c32b0 : decide (t216 ≤ x18_1) = false := decide_eq_false c32
                                        clear c32
                                        have H' := Aside0.mk H
                                        clear H
                                        go_wp2
                                        go_roundg kj27
                                        case measure => have := HK1.out; have := HJ16.out; have := HJ20.out; have := HJ22.out; have := HJ25.out; have := HJ27.out; omega
                                        case rel => exact ⟨(x14_25), (x15_25), (x16_25), (x17_1), (x18_1), (x19_1), (wrap64 (x20_1 + 1)), (by first | rfl | (simp; done) | (simp [*]; done)), (by first | rfl | (simp; done) | (simp [*]; done)), (by first | rfl | (simp; done) | (simp [*]; done)), (by first | rfl | (simp; done) | (simp [*]; done)), (by first | rfl | (simp; done) | (simp [*]; done)), (by first | rfl | (simp; done) | (simp [*]; done)), (by first | rfl | (simp; done) | (simp [*]; done)), H', ⟨by have := HK1.out; have := HJ16.out; have := HJ20.out; have := HJ22.out; have := HJ25.out; have := HJ27.out; omega⟩, ⟨by (with_reducible repeat (first | refine blk_drewN ?_ _ | refine blk_drew ?_ | refine blk_alloc ?_ _)); exact BK206.out⟩, ⟨by (with_reducible repeat (first | refine blk_drewN ?_ _ | refine blk_drew ?_ | refine blk_alloc ?_ _)); exact BK207.out⟩, ⟨by repeat (first | (with_reducible first | exact HB.out | apply below_alloc | apply pw_below_drewN | apply below_drew1 | refine below_set ?_ GE206.out | refine below_set ?_ GE207.out) | exact HB.out)⟩⟩
              · replace c16 := Bool.eq_false_iff.mpr c16
                subst c16
                have H1 : (longcaseref09_At.l0 k1 a1 t212 x14_1 x15_1 x16_1 x17_1 x18_1 x19_1 (wrap64 (x20_1 + 1)) a0_0 a0_1 a0_2 a0_3 a0_4 a0_5 true a0_7 a0_8 a0_9 a0_10 a0_11 a0_12 a0_13 a0_14 a0_15 a0_16) = some (r1, r2, r3, r4) := by rw [if_neg (show ¬ (false = true) by decide)] at H; exact H
                clear H
                have H := H1
                clear H1
                have H' := Aside0.mk H
                clear H
                go_wp2_with (first | ((with_reducible refine gate_dst (N := 59) rfl ?_); refine wpList_load_row rfl 27 _ rfl (gb206) rfl 27 #[.int .i64 a0_0, .bool a0_1, .string a0_2, .int .i64 a0_3, .bool a0_4, .string a0_5, .bool true, .int .i64 a0_7, .int .i64 a0_8, .int .i64 a0_9, .int .i64 a0_10, .int .i64 a0_11, .int .i64 a0_12, .int .i64 a0_13, .int .i64 a0_14, .int .i64 a0_15, .int .i64 a0_16] (0, 0) _ (by (with_reducible repeat (first | refine blk_drewN ?_ _ | refine blk_drew ?_ | refine blk_alloc ?_ _)); exact BK206.out) Tryd.underlying27 rfl (by kernel_rfl) ?_) | ((with_reducible refine gate_callee (f := 15) rfl ?_); refine goesL_ (some 61) rfl rfl Tryd.func15 (by kernel_rfl) rfl #[.agg #[.int .i64 a0_0, .bool a0_1, .string a0_2, .int .i64 a0_3, .bool a0_4, .string a0_5, .bool true, .int .i64 a0_7, .int .i64 a0_8, .int .i64 a0_9, .int .i64 a0_10, .int .i64 a0_11, .int .i64 a0_12, .int .i64 a0_13, .int .i64 a0_14, .int .i64 a0_15, .int .i64 a0_16], .int .i64 x20_1] rfl (by (try simp only [List.map_toArray, List.map_cons, List.map_nil]); first | done | rfl | (simp only [List.length_drop, List.length_take]; rfl)) ?_; (with_reducible refine (longcaseref09_Turns.calls k1 a0_0 a0_1 a0_2 a0_3 a0_4 a0_5 true a0_7 a0_8 a0_9 a0_10 a0_11 a0_12 a0_13 a0_14 a0_15 a0_16 x20_1 t216 t217 false _ A15.out).mono ?_); rintro e w33 ⟨rfl, hb⟩; refine ⟨_, rfl, ?_⟩; have n0_ := Aside0.mk (blk_below (g := gb206) (o := .cells #[.int .i64 a0_0, .bool a0_1, .string a0_2, .int .i64 a0_3, .bool a0_4, .string a0_5, .bool true, .int .i64 a0_7, .int .i64 a0_8, .int .i64 a0_9, .int .i64 a0_10, .int .i64 a0_11, .int .i64 a0_12, .int .i64 a0_13, .int .i64 a0_14, .int .i64 a0_15, .int .i64 a0_16] 27 (0, 0)) (by (with_reducible repeat (first | refine blk_drewN ?_ _ | refine blk_drew ?_ | refine blk_alloc ?_ _)); exact BK206.out) hb); have n1_ := Aside0.mk (blk_below (g := gb207) (o := .cells #[.int .i64 0, .bool false, .string (⟨#[]⟩ : ByteArray)] 23 (0, 0)) (by (with_reducible repeat (first | refine blk_drewN ?_ _ | refine blk_drew ?_ | refine blk_alloc ?_ _)); exact BK207.out) hb); have n2_ := Aside0.mk (below_step (by repeat (first | (with_reducible first | exact HB.out | apply below_alloc | apply pw_below_drewN | apply below_drew1 | refine below_set ?_ GE206.out | refine below_set ?_ GE207.out) | exact HB.out)) hb); clear BK206; clear BK207; clear HB; have BK206 := n0_; have BK207 := n1_; have HB := n2_; clear n0_ n1_ n2_; (try clear hb); (try clear hb2); (try clear hk); (try clear hi)))
                go_roundg k1
                case measure => have := HK1.out; omega
                case rel => exact ⟨(x14_1), (x15_1), (x16_1), (x17_1), (x18_1), (x19_1), (wrap64 (x20_1 + 1)), (by first | rfl | (simp; done) | (simp [*]; done)), (by first | rfl | (simp; done) | (simp [*]; done)), (by first | rfl | (simp; done) | (simp [*]; done)), (by first | rfl | (simp; done) | (simp [*]; done)), (by first | rfl | (simp; done) | (simp [*]; done)), (by first | rfl | (simp; done) | (simp [*]; done)), (by first | rfl | (simp; done) | (simp [*]; done)), H', ⟨by have := HK1.out; omega⟩, ⟨by (with_reducible repeat (first | refine blk_drewN ?_ _ | refine blk_drew ?_ | refine blk_alloc ?_ _)); exact BK206.out⟩, ⟨by (with_reducible repeat (first | refine blk_drewN ?_ _ | refine blk_drew ?_ | refine blk_alloc ?_ _)); exact BK207.out⟩, ⟨by repeat (first | (with_reducible first | exact HB.out | apply below_alloc | apply pw_below_drewN | apply below_drew1 | refine below_set ?_ GE206.out | refine below_set ?_ GE207.out) | exact HB.out)⟩⟩
            · rw [if_neg c14] at H
              have c14b0 : decide (x20_1 ≤ (wrap64 (t212 + 1))) = false := decide_eq_false c14
              clear c14
              by_cases c34 : x14_1 = true
              · subst c34
                have H1 : (if x16_1 = true then (some (a0_3, a0_4, a0_5, 0)) else (some (a0_0, a0_1, a0_2, 0))) = some (r1, r2, r3, r4) := by rw [if_pos rfl] at H; exact H
                clear H
                have H := H1
                clear H1
                by_cases c35 : x16_1 = true
                · subst c35
                  have H1 : (some (a0_3, a0_4, a0_5, 0)) = some (r1, r2, r3, r4) := by rw [if_pos rfl] at H; exact H
                  clear H
                  have H := H1
                  clear H1
                  simp only [Option.some.injEq, Prod.mk.injEq] at H
                  obtain ⟨rfl, rfl, rfl, rfl⟩ := H
                  have hnb36 := NB206_207.out
                  have hnc36 := NB207_206.out
                  have hcz37_0 : wr.cell? ⟨gb206, 0, none⟩ = some (.int .i64 a0_0) := (blk_cell BK206.out 0).trans rfl
                  have hcz37_1 : wr.cell? ⟨gb206, 1, none⟩ = some (.bool a0_1) := (blk_cell BK206.out 1).trans rfl
                  have hcz37_2 : wr.cell? ⟨gb206, 2, none⟩ = some (.string a0_2) := (blk_cell BK206.out 2).trans rfl
                  have hcz37_3 : wr.cell? ⟨gb206, 3, none⟩ = some (.int .i64 a0_3) := (blk_cell BK206.out 3).trans rfl
                  have hcz37_4 : wr.cell? ⟨gb206, 4, none⟩ = some (.bool a0_4) := (blk_cell BK206.out 4).trans rfl
                  have hcz37_5 : wr.cell? ⟨gb206, 5, none⟩ = some (.string a0_5) := (blk_cell BK206.out 5).trans rfl
                  have hcz37_6 : wr.cell? ⟨gb206, 6, none⟩ = some (.bool true) := (blk_cell BK206.out 6).trans rfl
                  have hcz37_7 : wr.cell? ⟨gb206, 7, none⟩ = some (.int .i64 a0_7) := (blk_cell BK206.out 7).trans rfl
                  have hcz37_8 : wr.cell? ⟨gb206, 8, none⟩ = some (.int .i64 a0_8) := (blk_cell BK206.out 8).trans rfl
                  have hcz37_9 : wr.cell? ⟨gb206, 9, none⟩ = some (.int .i64 a0_9) := (blk_cell BK206.out 9).trans rfl
                  have hcz37_10 : wr.cell? ⟨gb206, 10, none⟩ = some (.int .i64 a0_10) := (blk_cell BK206.out 10).trans rfl
                  have hcz37_11 : wr.cell? ⟨gb206, 11, none⟩ = some (.int .i64 a0_11) := (blk_cell BK206.out 11).trans rfl
                  have hcz37_12 : wr.cell? ⟨gb206, 12, none⟩ = some (.int .i64 a0_12) := (blk_cell BK206.out 12).trans rfl
                  have hcz37_13 : wr.cell? ⟨gb206, 13, none⟩ = some (.int .i64 a0_13) := (blk_cell BK206.out 13).trans rfl
                  have hcz37_14 : wr.cell? ⟨gb206, 14, none⟩ = some (.int .i64 a0_14) := (blk_cell BK206.out 14).trans rfl
                  have hcz37_15 : wr.cell? ⟨gb206, 15, none⟩ = some (.int .i64 a0_15) := (blk_cell BK206.out 15).trans rfl
                  have hcz37_16 : wr.cell? ⟨gb206, 16, none⟩ = some (.int .i64 a0_16) := (blk_cell BK206.out 16).trans rfl
                  have hfz37_0 := blk_frozen BK206.out 0
                  have hfz37_1 := blk_frozen BK206.out 1
                  have hfz37_2 := blk_frozen BK206.out 2
                  have hfz37_3 := blk_frozen BK206.out 3
                  have hfz37_4 := blk_frozen BK206.out 4
                  have hfz37_5 := blk_frozen BK206.out 5
                  have hfz37_6 := blk_frozen BK206.out 6
                  have hfz37_7 := blk_frozen BK206.out 7
                  have hfz37_8 := blk_frozen BK206.out 8
                  have hfz37_9 := blk_frozen BK206.out 9
                  have hfz37_10 := blk_frozen BK206.out 10
                  have hfz37_11 := blk_frozen BK206.out 11
                  have hfz37_12 := blk_frozen BK206.out 12
                  have hfz37_13 := blk_frozen BK206.out 13
                  have hfz37_14 := blk_frozen BK206.out 14
                  have hfz37_15 := blk_frozen BK206.out 15
                  have hfz37_16 := blk_frozen BK206.out 16
                  have hcz38_0 : wr.cell? ⟨gb207, 0, none⟩ = some (.int .i64 0) := (blk_cell BK207.out 0).trans rfl
                  have hcz38_1 : wr.cell? ⟨gb207, 1, none⟩ = some (.bool false) := (blk_cell BK207.out 1).trans rfl
                  have hcz38_2 : wr.cell? ⟨gb207, 2, none⟩ = some (.string (⟨#[]⟩ : ByteArray)) := (blk_cell BK207.out 2).trans rfl
                  have hfz38_0 := blk_frozen BK207.out 0
                  have hfz38_1 := blk_frozen BK207.out 1
                  have hfz38_2 := blk_frozen BK207.out 2
                  go_wp2
                  refine bodyPost_ret (results_ct rfl _ _ gb207 23 #[.int .i64 a0_3, .bool a0_4, .string a0_5] (0, 0) _ rfl (by (with_reducible repeat (first | refine blk_drewN ?_ _ | refine blk_drew ?_ | refine blk_alloc ?_ _)); refine blk_put (cs := #[.int .i64 a0_3, .bool a0_4, .string (⟨#[]⟩ : ByteArray)]) ?_ 2 _ rfl; (with_reducible repeat (first | refine blk_drewN ?_ _ | refine blk_drew ?_ | refine blk_alloc ?_ _)); refine blk_put (cs := #[.int .i64 a0_3, .bool false, .string (⟨#[]⟩ : ByteArray)]) ?_ 1 _ rfl; (with_reducible repeat (first | refine blk_drewN ?_ _ | refine blk_drew ?_ | refine blk_alloc ?_ _)); refine blk_put (cs := #[.int .i64 0, .bool false, .string (⟨#[]⟩ : ByteArray)]) ?_ 0 _ rfl; (with_reducible repeat (first | refine blk_drewN ?_ _ | refine blk_drew ?_ | refine blk_alloc ?_ _)); exact BK207.out) Tryd.underlying23 rfl (by kernel_rfl)) rfl ?_
                  exact ⟨by first | rfl | (simp [errW_none, errW_some] <;> rfl) | (simp [*, errW_none, errW_some] <;> rfl), by repeat (first | (with_reducible first | exact HB.out | apply below_alloc | apply pw_below_drewN | apply below_drew1 | refine below_set ?_ GE206.out | refine below_set ?_ GE207.out) | exact HB.out)⟩
                · replace c35 := Bool.eq_false_iff.mpr c35
                  subst c35
                  have H1 : (some (a0_0, a0_1, a0_2, 0)) = some (r1, r2, r3, r4) := by rw [if_neg (show ¬ (false = true) by decide)] at H; exact H
                  clear H
                  have H := H1
                  clear H1
                  simp only [Option.some.injEq, Prod.mk.injEq] at H
                  obtain ⟨rfl, rfl, rfl, rfl⟩ := H
                  have hnb39 := NB206_207.out
                  have hnc39 := NB207_206.out
                  have hcz40_0 : wr.cell? ⟨gb206, 0, none⟩ = some (.int .i64 a0_0) := (blk_cell BK206.out 0).trans rfl
                  have hcz40_1 : wr.cell? ⟨gb206, 1, none⟩ = some (.bool a0_1) := (blk_cell BK206.out 1).trans rfl
                  have hcz40_2 : wr.cell? ⟨gb206, 2, none⟩ = some (.string a0_2) := (blk_cell BK206.out 2).trans rfl
                  have hcz40_3 : wr.cell? ⟨gb206, 3, none⟩ = some (.int .i64 a0_3) := (blk_cell BK206.out 3).trans rfl
                  have hcz40_4 : wr.cell? ⟨gb206, 4, none⟩ = some (.bool a0_4) := (blk_cell BK206.out 4).trans rfl
                  have hcz40_5 : wr.cell? ⟨gb206, 5, none⟩ = some (.string a0_5) := (blk_cell BK206.out 5).trans rfl
                  have hcz40_6 : wr.cell? ⟨gb206, 6, none⟩ = some (.bool true) := (blk_cell BK206.out 6).trans rfl
                  have hcz40_7 : wr.cell? ⟨gb206, 7, none⟩ = some (.int .i64 a0_7) := (blk_cell BK206.out 7).trans rfl
                  have hcz40_8 : wr.cell? ⟨gb206, 8, none⟩ = some (.int .i64 a0_8) := (blk_cell BK206.out 8).trans rfl
                  have hcz40_9 : wr.cell? ⟨gb206, 9, none⟩ = some (.int .i64 a0_9) := (blk_cell BK206.out 9).trans rfl
                  have hcz40_10 : wr.cell? ⟨gb206, 10, none⟩ = some (.int .i64 a0_10) := (blk_cell BK206.out 10).trans rfl
                  have hcz40_11 : wr.cell? ⟨gb206, 11, none⟩ = some (.int .i64 a0_11) := (blk_cell BK206.out 11).trans rfl
                  have hcz40_12 : wr.cell? ⟨gb206, 12, none⟩ = some (.int .i64 a0_12) := (blk_cell BK206.out 12).trans rfl
                  have hcz40_13 : wr.cell? ⟨gb206, 13, none⟩ = some (.int .i64 a0_13) := (blk_cell BK206.out 13).trans rfl
                  have hcz40_14 : wr.cell? ⟨gb206, 14, none⟩ = some (.int .i64 a0_14) := (blk_cell BK206.out 14).trans rfl
                  have hcz40_15 : wr.cell? ⟨gb206, 15, none⟩ = some (.int .i64 a0_15) := (blk_cell BK206.out 15).trans rfl
                  have hcz40_16 : wr.cell? ⟨gb206, 16, none⟩ = some (.int .i64 a0_16) := (blk_cell BK206.out 16).trans rfl
                  have hfz40_0 := blk_frozen BK206.out 0
                  have hfz40_1 := blk_frozen BK206.out 1
                  have hfz40_2 := blk_frozen BK206.out 2
                  have hfz40_3 := blk_frozen BK206.out 3
                  have hfz40_4 := blk_frozen BK206.out 4
                  have hfz40_5 := blk_frozen BK206.out 5
                  have hfz40_6 := blk_frozen BK206.out 6
                  have hfz40_7 := blk_frozen BK206.out 7
                  have hfz40_8 := blk_frozen BK206.out 8
                  have hfz40_9 := blk_frozen BK206.out 9
                  have hfz40_10 := blk_frozen BK206.out 10
                  have hfz40_11 := blk_frozen BK206.out 11
                  have hfz40_12 := blk_frozen BK206.out 12
                  have hfz40_13 := blk_frozen BK206.out 13
                  have hfz40_14 := blk_frozen BK206.out 14
                  have hfz40_15 := blk_frozen BK206.out 15
                  have hfz40_16 := blk_frozen BK206.out 16
                  have hcz41_0 : wr.cell? ⟨gb207, 0, none⟩ = some (.int .i64 0) := (blk_cell BK207.out 0).trans rfl
                  have hcz41_1 : wr.cell? ⟨gb207, 1, none⟩ = some (.bool false) := (blk_cell BK207.out 1).trans rfl
                  have hcz41_2 : wr.cell? ⟨gb207, 2, none⟩ = some (.string (⟨#[]⟩ : ByteArray)) := (blk_cell BK207.out 2).trans rfl
                  have hfz41_0 := blk_frozen BK207.out 0
                  have hfz41_1 := blk_frozen BK207.out 1
                  have hfz41_2 := blk_frozen BK207.out 2
                  go_wp2
                  refine bodyPost_ret (results_ct rfl _ _ gb207 23 #[.int .i64 a0_0, .bool a0_1, .string a0_2] (0, 0) _ rfl (by (with_reducible repeat (first | refine blk_drewN ?_ _ | refine blk_drew ?_ | refine blk_alloc ?_ _)); refine blk_put (cs := #[.int .i64 a0_0, .bool a0_1, .string (⟨#[]⟩ : ByteArray)]) ?_ 2 _ rfl; (with_reducible repeat (first | refine blk_drewN ?_ _ | refine blk_drew ?_ | refine blk_alloc ?_ _)); refine blk_put (cs := #[.int .i64 a0_0, .bool false, .string (⟨#[]⟩ : ByteArray)]) ?_ 1 _ rfl; (with_reducible repeat (first | refine blk_drewN ?_ _ | refine blk_drew ?_ | refine blk_alloc ?_ _)); refine blk_put (cs := #[.int .i64 0, .bool false, .string (⟨#[]⟩ : ByteArray)]) ?_ 0 _ rfl; (with_reducible repeat (first | refine blk_drewN ?_ _ | refine blk_drew ?_ | refine blk_alloc ?_ _)); exact BK207.out) Tryd.underlying23 rfl (by kernel_rfl)) rfl ?_
                  exact ⟨by first | rfl | (simp [errW_none, errW_some] <;> rfl) | (simp [*, errW_none, errW_some] <;> rfl), by repeat (first | (with_reducible first | exact HB.out | apply below_alloc | apply pw_below_drewN | apply below_drew1 | refine below_set ?_ GE206.out | refine below_set ?_ GE207.out) | exact HB.out)⟩
              · replace c34 := Bool.eq_false_iff.mpr c34
                subst c34
                have H1 : (if x19_1 = true then (some (a0_0, a0_1, a0_2, 0)) else (some (a0_3, a0_4, a0_5, 0))) = some (r1, r2, r3, r4) := by rw [if_neg (show ¬ (false = true) by decide)] at H; exact H
                clear H
                have H := H1
                clear H1
                by_cases c42 : x19_1 = true
                · subst c42
                  have H1 : (some (a0_0, a0_1, a0_2, 0)) = some (r1, r2, r3, r4) := by rw [if_pos rfl] at H; exact H
                  clear H
                  have H := H1
                  clear H1
                  simp only [Option.some.injEq, Prod.mk.injEq] at H
                  obtain ⟨rfl, rfl, rfl, rfl⟩ := H
                  have hnb43 := NB206_207.out
                  have hnc43 := NB207_206.out
                  have hcz44_0 : wr.cell? ⟨gb206, 0, none⟩ = some (.int .i64 a0_0) := (blk_cell BK206.out 0).trans rfl
                  have hcz44_1 : wr.cell? ⟨gb206, 1, none⟩ = some (.bool a0_1) := (blk_cell BK206.out 1).trans rfl
                  have hcz44_2 : wr.cell? ⟨gb206, 2, none⟩ = some (.string a0_2) := (blk_cell BK206.out 2).trans rfl
                  have hcz44_3 : wr.cell? ⟨gb206, 3, none⟩ = some (.int .i64 a0_3) := (blk_cell BK206.out 3).trans rfl
                  have hcz44_4 : wr.cell? ⟨gb206, 4, none⟩ = some (.bool a0_4) := (blk_cell BK206.out 4).trans rfl
                  have hcz44_5 : wr.cell? ⟨gb206, 5, none⟩ = some (.string a0_5) := (blk_cell BK206.out 5).trans rfl
                  have hcz44_6 : wr.cell? ⟨gb206, 6, none⟩ = some (.bool true) := (blk_cell BK206.out 6).trans rfl
                  have hcz44_7 : wr.cell? ⟨gb206, 7, none⟩ = some (.int .i64 a0_7) := (blk_cell BK206.out 7).trans rfl
                  have hcz44_8 : wr.cell? ⟨gb206, 8, none⟩ = some (.int .i64 a0_8) := (blk_cell BK206.out 8).trans rfl
                  have hcz44_9 : wr.cell? ⟨gb206, 9, none⟩ = some (.int .i64 a0_9) := (blk_cell BK206.out 9).trans rfl
                  have hcz44_10 : wr.cell? ⟨gb206, 10, none⟩ = some (.int .i64 a0_10) := (blk_cell BK206.out 10).trans rfl
                  have hcz44_11 : wr.cell? ⟨gb206, 11, none⟩ = some (.int .i64 a0_11) := (blk_cell BK206.out 11).trans rfl
                  have hcz44_12 : wr.cell? ⟨gb206, 12, none⟩ = some (.int .i64 a0_12) := (blk_cell BK206.out 12).trans rfl
                  have hcz44_13 : wr.cell? ⟨gb206, 13, none⟩ = some (.int .i64 a0_13) := (blk_cell BK206.out 13).trans rfl
                  have hcz44_14 : wr.cell? ⟨gb206, 14, none⟩ = some (.int .i64 a0_14) := (blk_cell BK206.out 14).trans rfl
                  have hcz44_15 : wr.cell? ⟨gb206, 15, none⟩ = some (.int .i64 a0_15) := (blk_cell BK206.out 15).trans rfl
                  have hcz44_16 : wr.cell? ⟨gb206, 16, none⟩ = some (.int .i64 a0_16) := (blk_cell BK206.out 16).trans rfl
                  have hfz44_0 := blk_frozen BK206.out 0
                  have hfz44_1 := blk_frozen BK206.out 1
                  have hfz44_2 := blk_frozen BK206.out 2
                  have hfz44_3 := blk_frozen BK206.out 3
                  have hfz44_4 := blk_frozen BK206.out 4
                  have hfz44_5 := blk_frozen BK206.out 5
                  have hfz44_6 := blk_frozen BK206.out 6
                  have hfz44_7 := blk_frozen BK206.out 7
                  have hfz44_8 := blk_frozen BK206.out 8
                  have hfz44_9 := blk_frozen BK206.out 9
                  have hfz44_10 := blk_frozen BK206.out 10
                  have hfz44_11 := blk_frozen BK206.out 11
                  have hfz44_12 := blk_frozen BK206.out 12
                  have hfz44_13 := blk_frozen BK206.out 13
                  have hfz44_14 := blk_frozen BK206.out 14
                  have hfz44_15 := blk_frozen BK206.out 15
                  have hfz44_16 := blk_frozen BK206.out 16
                  have hcz45_0 : wr.cell? ⟨gb207, 0, none⟩ = some (.int .i64 0) := (blk_cell BK207.out 0).trans rfl
                  have hcz45_1 : wr.cell? ⟨gb207, 1, none⟩ = some (.bool false) := (blk_cell BK207.out 1).trans rfl
                  have hcz45_2 : wr.cell? ⟨gb207, 2, none⟩ = some (.string (⟨#[]⟩ : ByteArray)) := (blk_cell BK207.out 2).trans rfl
                  have hfz45_0 := blk_frozen BK207.out 0
                  have hfz45_1 := blk_frozen BK207.out 1
                  have hfz45_2 := blk_frozen BK207.out 2
                  go_wp2
                  refine bodyPost_ret (results_ct rfl _ _ gb207 23 #[.int .i64 a0_0, .bool a0_1, .string a0_2] (0, 0) _ rfl (by (with_reducible repeat (first | refine blk_drewN ?_ _ | refine blk_drew ?_ | refine blk_alloc ?_ _)); refine blk_put (cs := #[.int .i64 a0_0, .bool a0_1, .string (⟨#[]⟩ : ByteArray)]) ?_ 2 _ rfl; (with_reducible repeat (first | refine blk_drewN ?_ _ | refine blk_drew ?_ | refine blk_alloc ?_ _)); refine blk_put (cs := #[.int .i64 a0_0, .bool false, .string (⟨#[]⟩ : ByteArray)]) ?_ 1 _ rfl; (with_reducible repeat (first | refine blk_drewN ?_ _ | refine blk_drew ?_ | refine blk_alloc ?_ _)); refine blk_put (cs := #[.int .i64 0, .bool false, .string (⟨#[]⟩ : ByteArray)]) ?_ 0 _ rfl; (with_reducible repeat (first | refine blk_drewN ?_ _ | refine blk_drew ?_ | refine blk_alloc ?_ _)); exact BK207.out) Tryd.underlying23 rfl (by kernel_rfl)) rfl ?_
                  exact ⟨by first | rfl | (simp [errW_none, errW_some] <;> rfl) | (simp [*, errW_none, errW_some] <;> rfl), by repeat (first | (with_reducible first | exact HB.out | apply below_alloc | apply pw_below_drewN | apply below_drew1 | refine below_set ?_ GE206.out | refine below_set ?_ GE207.out) | exact HB.out)⟩
                · replace c42 := Bool.eq_false_iff.mpr c42
                  subst c42
                  have H1 : (some (a0_3, a0_4, a0_5, 0)) = some (r1, r2, r3, r4) := by rw [if_neg (show ¬ (false = true) by decide)] at H; exact H
                  clear H
                  have H := H1
                  clear H1
                  simp only [Option.some.injEq, Prod.mk.injEq] at H
                  obtain ⟨rfl, rfl, rfl, rfl⟩ := H
                  have hnb46 := NB206_207.out
                  have hnc46 := NB207_206.out
                  have hcz47_0 : wr.cell? ⟨gb206, 0, none⟩ = some (.int .i64 a0_0) := (blk_cell BK206.out 0).trans rfl
                  have hcz47_1 : wr.cell? ⟨gb206, 1, none⟩ = some (.bool a0_1) := (blk_cell BK206.out 1).trans rfl
                  have hcz47_2 : wr.cell? ⟨gb206, 2, none⟩ = some (.string a0_2) := (blk_cell BK206.out 2).trans rfl
                  have hcz47_3 : wr.cell? ⟨gb206, 3, none⟩ = some (.int .i64 a0_3) := (blk_cell BK206.out 3).trans rfl
                  have hcz47_4 : wr.cell? ⟨gb206, 4, none⟩ = some (.bool a0_4) := (blk_cell BK206.out 4).trans rfl
                  have hcz47_5 : wr.cell? ⟨gb206, 5, none⟩ = some (.string a0_5) := (blk_cell BK206.out 5).trans rfl
                  have hcz47_6 : wr.cell? ⟨gb206, 6, none⟩ = some (.bool true) := (blk_cell BK206.out 6).trans rfl
                  have hcz47_7 : wr.cell? ⟨gb206, 7, none⟩ = some (.int .i64 a0_7) := (blk_cell BK206.out 7).trans rfl
                  have hcz47_8 : wr.cell? ⟨gb206, 8, none⟩ = some (.int .i64 a0_8) := (blk_cell BK206.out 8).trans rfl
                  have hcz47_9 : wr.cell? ⟨gb206, 9, none⟩ = some (.int .i64 a0_9) := (blk_cell BK206.out 9).trans rfl
                  have hcz47_10 : wr.cell? ⟨gb206, 10, none⟩ = some (.int .i64 a0_10) := (blk_cell BK206.out 10).trans rfl
                  have hcz47_11 : wr.cell? ⟨gb206, 11, none⟩ = some (.int .i64 a0_11) := (blk_cell BK206.out 11).trans rfl
                  have hcz47_12 : wr.cell? ⟨gb206, 12, none⟩ = some (.int .i64 a0_12) := (blk_cell BK206.out 12).trans rfl
                  have hcz47_13 : wr.cell? ⟨gb206, 13, none⟩ = some (.int .i64 a0_13) := (blk_cell BK206.out 13).trans rfl
                  have hcz47_14 : wr.cell? ⟨gb206, 14, none⟩ = some (.int .i64 a0_14) := (blk_cell BK206.out 14).trans rfl
                  have hcz47_15 : wr.cell? ⟨gb206, 15, none⟩ = some (.int .i64 a0_15) := (blk_cell BK206.out 15).trans rfl
                  have hcz47_16 : wr.cell? ⟨gb206, 16, none⟩ = some (.int .i64 a0_16) := (blk_cell BK206.out 16).trans rfl
                  have hfz47_0 := blk_frozen BK206.out 0
                  have hfz47_1 := blk_frozen BK206.out 1
                  have hfz47_2 := blk_frozen BK206.out 2
                  have hfz47_3 := blk_frozen BK206.out 3
                  have hfz47_4 := blk_frozen BK206.out 4
                  have hfz47_5 := blk_frozen BK206.out 5
                  have hfz47_6 := blk_frozen BK206.out 6
                  have hfz47_7 := blk_frozen BK206.out 7
                  have hfz47_8 := blk_frozen BK206.out 8
                  have hfz47_9 := blk_frozen BK206.out 9
                  have hfz47_10 := blk_frozen BK206.out 10
                  have hfz47_11 := blk_frozen BK206.out 11
                  have hfz47_12 := blk_frozen BK206.out 12
                  have hfz47_13 := blk_frozen BK206.out 13
                  have hfz47_14 := blk_frozen BK206.out 14
                  have hfz47_15 := blk_frozen BK206.out 15
                  have hfz47_16 := blk_frozen BK206.out 16
                  have hcz48_0 : wr.cell? ⟨gb207, 0, none⟩ = some (.int .i64 0) := (blk_cell BK207.out 0).trans rfl
                  have hcz48_1 : wr.cell? ⟨gb207, 1, none⟩ = some (.bool false) := (blk_cell BK207.out 1).trans rfl
                  have hcz48_2 : wr.cell? ⟨gb207, 2, none⟩ = some (.string (⟨#[]⟩ : ByteArray)) := (blk_cell BK207.out 2).trans rfl
                  have hfz48_0 := blk_frozen BK207.out 0
                  have hfz48_1 := blk_frozen BK207.out 1
                  have hfz48_2 := blk_frozen BK207.out 2
                  go_wp2
                  refine bodyPost_ret (results_ct rfl _ _ gb207 23 #[.int .i64 a0_3, .bool a0_4, .string a0_5] (0, 0) _ rfl (by (with_reducible repeat (first | refine blk_drewN ?_ _ | refine blk_drew ?_ | refine blk_alloc ?_ _)); refine blk_put (cs := #[.int .i64 a0_3, .bool a0_4, .string (⟨#[]⟩ : ByteArray)]) ?_ 2 _ rfl; (with_reducible repeat (first | refine blk_drewN ?_ _ | refine blk_drew ?_ | refine blk_alloc ?_ _)); refine blk_put (cs := #[.int .i64 a0_3, .bool false, .string (⟨#[]⟩ : ByteArray)]) ?_ 1 _ rfl; (with_reducible repeat (first | refine blk_drewN ?_ _ | refine blk_drew ?_ | refine blk_alloc ?_ _)); refine blk_put (cs := #[.int .i64 0, .bool false, .string (⟨#[]⟩ : ByteArray)]) ?_ 0 _ rfl; (with_reducible repeat (first | refine blk_drewN ?_ _ | refine blk_drew ?_ | refine blk_alloc ?_ _)); exact BK207.out) Tryd.underlying23 rfl (by kernel_rfl)) rfl ?_
                  exact ⟨by first | rfl | (simp [errW_none, errW_some] <;> rfl) | (simp [*, errW_none, errW_some] <;> rfl), by repeat (first | (with_reducible first | exact HB.out | apply below_alloc | apply pw_below_drewN | apply below_drew1 | refine below_set ?_ GE206.out | refine below_set ?_ GE207.out) | exact HB.out)⟩
      · replace c8 := Bool.eq_false_iff.mpr c8
        subst c8
        have H1 : (some (0, false, (⟨#[]⟩ : ByteArray), 2)) = some (r1, r2, r3, r4) := by rw [if_neg (show ¬ (false = true) by decide)] at H; exact H
        clear H
        have H := H1
        clear H1
        simp only [Option.some.injEq, Prod.mk.injEq] at H
        obtain ⟨rfl, rfl, rfl, rfl⟩ := H
        go_enter Tryd.func17, Tryd.ntmps17
        go_wp2_with (first | ((with_reducible refine gate_dst (N := 2) rfl ?_); refine box_event ?hg (N := 2) ?hd (cs := #[.int .i64 a0_0, .bool a0_1, .string a0_2, .int .i64 a0_3, .bool a0_4, .string a0_5, .bool true, .int .i64 a0_7, .int .i64 a0_8, .int .i64 a0_9, .int .i64 a0_10, .int .i64 a0_11, .int .i64 a0_12, .int .i64 a0_13, .int .i64 a0_14, .int .i64 a0_15, .int .i64 a0_16]) (t := 27) ?hr ?_; (case hd => rfl); (case hg => rfl); (case hr => first | (go_simp; done) | (go_simp; rfl)); intro gb206 hg w49 hbox hb; have n0_ := Aside0.mk (below_step (by repeat (first | (with_reducible first | exact HB.out | apply below_alloc | apply pw_below_drewN | apply below_drew1) | exact HB.out)) hb); have n1_ := Aside0.mk (hbox); have n2_ := Aside0.mk ((by rw [hg]; exact (below_size (by repeat (first | (with_reducible first | exact HB.out | apply below_alloc | apply pw_below_drewN | apply below_drew1) | exact HB.out))) : w.heap.size ≤ gb206)); have n3_ := Aside0.mk ((by rw [hg]; exact (below_size (by repeat (first | (with_reducible first | exact HB.out | apply below_alloc | apply pw_below_drewN | apply below_drew1) | exact HB.out))) : w.heap.size ≤ gb206)); clear HB; have HB := n0_; have BK206 := n1_; have GW206 := n2_; have GE206 := n3_; clear n0_ n1_ n2_ n3_; clear hb hbox hg) | ((with_reducible refine gate_dst (N := 4) rfl ?_); refine box_event ?hg (N := 4) ?hd (cs := #[.int .i64 0, .bool false, .string (⟨#[]⟩ : ByteArray)]) (t := 23) ?hr ?_; (case hd => rfl); (case hg => rfl); (case hr => first | (go_simp; done) | (go_simp; rfl)); intro gb207 hg w50 hbox hb; have n0_ := Aside0.mk (blk_below (g := gb206) (o := .cells #[.int .i64 a0_0, .bool a0_1, .string a0_2, .int .i64 a0_3, .bool a0_4, .string a0_5, .bool true, .int .i64 a0_7, .int .i64 a0_8, .int .i64 a0_9, .int .i64 a0_10, .int .i64 a0_11, .int .i64 a0_12, .int .i64 a0_13, .int .i64 a0_14, .int .i64 a0_15, .int .i64 a0_16] 27 (0, 0)) (by (with_reducible repeat (first | refine blk_drewN ?_ _ | refine blk_drew ?_ | refine blk_alloc ?_ _)); exact BK206.out) hb); have n1_ := Aside0.mk (below_step (by repeat (first | (with_reducible first | exact HB.out | apply below_alloc | apply pw_below_drewN | apply below_drew1 | refine below_set ?_ GE206.out) | exact HB.out)) hb); have n2_ := Aside0.mk (hbox); have n3_ := Aside0.mk ((by rw [hg]; exact (below_size (by repeat (first | (with_reducible first | exact HB.out | apply below_alloc | apply pw_below_drewN | apply below_drew1 | refine below_set ?_ GE206.out) | exact HB.out))) : w.heap.size ≤ gb207)); have n4_ := Aside0.mk ((by rw [hg]; exact (below_size (by repeat (first | (with_reducible first | exact HB.out | apply below_alloc | apply pw_below_drewN | apply below_drew1 | refine below_set ?_ GE206.out) | exact HB.out))) : w.heap.size ≤ gb207)); have n5_ := Aside0.mk ((by rw [hg]; exact Nat.ne_of_lt (blk_lt (g := gb206) (o := .cells #[.int .i64 a0_0, .bool a0_1, .string a0_2, .int .i64 a0_3, .bool a0_4, .string a0_5, .bool true, .int .i64 a0_7, .int .i64 a0_8, .int .i64 a0_9, .int .i64 a0_10, .int .i64 a0_11, .int .i64 a0_12, .int .i64 a0_13, .int .i64 a0_14, .int .i64 a0_15, .int .i64 a0_16] 27 (0, 0)) (by (with_reducible repeat (first | refine blk_drewN ?_ _ | refine blk_drew ?_ | refine blk_alloc ?_ _)); exact BK206.out)) : gb206 ≠ gb207)); have n6_ := Aside0.mk ((by rw [hg]; exact Nat.ne_of_gt (blk_lt (g := gb206) (o := .cells #[.int .i64 a0_0, .bool a0_1, .string a0_2, .int .i64 a0_3, .bool a0_4, .string a0_5, .bool true, .int .i64 a0_7, .int .i64 a0_8, .int .i64 a0_9, .int .i64 a0_10, .int .i64 a0_11, .int .i64 a0_12, .int .i64 a0_13, .int .i64 a0_14, .int .i64 a0_15, .int .i64 a0_16] 27 (0, 0)) (by (with_reducible repeat (first | refine blk_drewN ?_ _ | refine blk_drew ?_ | refine blk_alloc ?_ _)); exact BK206.out)) : gb207 ≠ gb206)); clear BK206; clear HB; have BK206 := n0_; have HB := n1_; have BK207 := n2_; have GW207 := n3_; have GE207 := n4_; have NB206_207 := n5_; have NB207_206 := n6_; clear n0_ n1_ n2_ n3_ n4_ n5_ n6_; clear hb hbox hg) | ((with_reducible refine gate_dst (N := 24) rfl ?_); refine wpList_load_row rfl 27 _ rfl (gb206) rfl 27 #[.int .i64 a0_0, .bool a0_1, .string a0_2, .int .i64 a0_3, .bool a0_4, .string a0_5, .bool true, .int .i64 a0_7, .int .i64 a0_8, .int .i64 a0_9, .int .i64 a0_10, .int .i64 a0_11, .int .i64 a0_12, .int .i64 a0_13, .int .i64 a0_14, .int .i64 a0_15, .int .i64 a0_16] (0, 0) _ (by (with_reducible repeat (first | refine blk_drewN ?_ _ | refine blk_drew ?_ | refine blk_alloc ?_ _)); exact BK206.out) Tryd.underlying27 rfl (by kernel_rfl) ?_) | ((with_reducible refine gate_callee (f := 18) rfl ?_); refine goesL_ (some 25) rfl rfl Tryd.func18 (by kernel_rfl) rfl #[.agg #[.int .i64 a0_0, .bool a0_1, .string a0_2, .int .i64 a0_3, .bool a0_4, .string a0_5, .bool true, .int .i64 a0_7, .int .i64 a0_8, .int .i64 a0_9, .int .i64 a0_10, .int .i64 a0_11, .int .i64 a0_12, .int .i64 a0_13, .int .i64 a0_14, .int .i64 a0_15, .int .i64 a0_16], .bool true] rfl (by (try simp only [List.map_toArray, List.map_cons, List.map_nil]); first | done | rfl | (simp only [List.length_drop, List.length_take]; rfl)) ?_; (with_reducible refine (longcaseref08_Right.calls k a0_0 a0_1 a0_2 a0_3 a0_4 a0_5 true a0_7 a0_8 a0_9 a0_10 a0_11 a0_12 a0_13 a0_14 a0_15 a0_16 true true _ A3.out).mono ?_); rintro e w51 ⟨rfl, hb⟩; refine ⟨_, rfl, ?_⟩; have n0_ := Aside0.mk (blk_below (g := gb206) (o := .cells #[.int .i64 a0_0, .bool a0_1, .string a0_2, .int .i64 a0_3, .bool a0_4, .string a0_5, .bool true, .int .i64 a0_7, .int .i64 a0_8, .int .i64 a0_9, .int .i64 a0_10, .int .i64 a0_11, .int .i64 a0_12, .int .i64 a0_13, .int .i64 a0_14, .int .i64 a0_15, .int .i64 a0_16] 27 (0, 0)) (by (with_reducible repeat (first | refine blk_drewN ?_ _ | refine blk_drew ?_ | refine blk_alloc ?_ _)); exact BK206.out) hb); have n1_ := Aside0.mk (blk_below (g := gb207) (o := .cells #[.int .i64 0, .bool false, .string (⟨#[]⟩ : ByteArray)] 23 (0, 0)) (by (with_reducible repeat (first | refine blk_drewN ?_ _ | refine blk_drew ?_ | refine blk_alloc ?_ _)); exact BK207.out) hb); have n2_ := Aside0.mk (below_step (by repeat (first | (with_reducible first | exact HB.out | apply below_alloc | apply pw_below_drewN | apply below_drew1 | refine below_set ?_ GE206.out | refine below_set ?_ GE207.out) | exact HB.out)) hb); clear BK206; clear BK207; clear HB; have BK206 := n0_; have BK207 := n1_; have HB := n2_; clear n0_ n1_ n2_; (try clear hb); (try clear hb2); (try clear hk); (try clear hi); have hnb52 := NB206_207.out; have hnc52 := NB207_206.out; have hcz53_0 : w51.cell? ⟨gb206, 0, none⟩ = some (.int .i64 a0_0) := (blk_cell BK206.out 0).trans rfl; have hcz53_1 : w51.cell? ⟨gb206, 1, none⟩ = some (.bool a0_1) := (blk_cell BK206.out 1).trans rfl; have hcz53_2 : w51.cell? ⟨gb206, 2, none⟩ = some (.string a0_2) := (blk_cell BK206.out 2).trans rfl; have hcz53_3 : w51.cell? ⟨gb206, 3, none⟩ = some (.int .i64 a0_3) := (blk_cell BK206.out 3).trans rfl; have hcz53_4 : w51.cell? ⟨gb206, 4, none⟩ = some (.bool a0_4) := (blk_cell BK206.out 4).trans rfl; have hcz53_5 : w51.cell? ⟨gb206, 5, none⟩ = some (.string a0_5) := (blk_cell BK206.out 5).trans rfl; have hcz53_6 : w51.cell? ⟨gb206, 6, none⟩ = some (.bool true) := (blk_cell BK206.out 6).trans rfl; have hcz53_7 : w51.cell? ⟨gb206, 7, none⟩ = some (.int .i64 a0_7) := (blk_cell BK206.out 7).trans rfl; have hcz53_8 : w51.cell? ⟨gb206, 8, none⟩ = some (.int .i64 a0_8) := (blk_cell BK206.out 8).trans rfl; have hcz53_9 : w51.cell? ⟨gb206, 9, none⟩ = some (.int .i64 a0_9) := (blk_cell BK206.out 9).trans rfl; have hcz53_10 : w51.cell? ⟨gb206, 10, none⟩ = some (.int .i64 a0_10) := (blk_cell BK206.out 10).trans rfl; have hcz53_11 : w51.cell? ⟨gb206, 11, none⟩ = some (.int .i64 a0_11) := (blk_cell BK206.out 11).trans rfl; have hcz53_12 : w51.cell? ⟨gb206, 12, none⟩ = some (.int .i64 a0_12) := (blk_cell BK206.out 12).trans rfl; have hcz53_13 : w51.cell? ⟨gb206, 13, none⟩ = some (.int .i64 a0_13) := (blk_cell BK206.out 13).trans rfl; have hcz53_14 : w51.cell? ⟨gb206, 14, none⟩ = some (.int .i64 a0_14) := (blk_cell BK206.out 14).trans rfl; have hcz53_15 : w51.cell? ⟨gb206, 15, none⟩ = some (.int .i64 a0_15) := (blk_cell BK206.out 15).trans rfl; have hcz53_16 : w51.cell? ⟨gb206, 16, none⟩ = some (.int .i64 a0_16) := (blk_cell BK206.out 16).trans rfl; have hfz53_0 := blk_frozen BK206.out 0; have hfz53_1 := blk_frozen BK206.out 1; have hfz53_2 := blk_frozen BK206.out 2; have hfz53_3 := blk_frozen BK206.out 3; have hfz53_4 := blk_frozen BK206.out 4; have hfz53_5 := blk_frozen BK206.out 5; have hfz53_6 := blk_frozen BK206.out 6; have hfz53_7 := blk_frozen BK206.out 7; have hfz53_8 := blk_frozen BK206.out 8; have hfz53_9 := blk_frozen BK206.out 9; have hfz53_10 := blk_frozen BK206.out 10; have hfz53_11 := blk_frozen BK206.out 11; have hfz53_12 := blk_frozen BK206.out 12; have hfz53_13 := blk_frozen BK206.out 13; have hfz53_14 := blk_frozen BK206.out 14; have hfz53_15 := blk_frozen BK206.out 15; have hfz53_16 := blk_frozen BK206.out 16) | ((with_reducible refine gate_callee (f := 38) rfl ?_); refine goesL_ (some 36) rfl rfl Tryd.func38 (by kernel_rfl) rfl #[.int .i64 a1, .int .i64 86400] rfl (by (try simp only [List.map_toArray, List.map_cons, List.map_nil]); first | done | rfl | (simp only [List.length_drop, List.length_take]; rfl)) ?_; (with_reducible refine (longcaseref01_Div.calls a1 86400 t209 t210 t211 _ A6.out).mono ?_); rintro e w' ⟨rfl, ⟨nd, rfl⟩⟩; refine ⟨_, rfl, ?_⟩; (try (rw [drewN_self w51]; generalize hq_ : World.drewN w51 _ = w51; have n0_ : Aside0 (w51.heap[gb206]? = some (.cells #[.int .i64 a0_0, .bool a0_1, .string a0_2, .int .i64 a0_3, .bool a0_4, .string a0_5, .bool true, .int .i64 a0_7, .int .i64 a0_8, .int .i64 a0_9, .int .i64 a0_10, .int .i64 a0_11, .int .i64 a0_12, .int .i64 a0_13, .int .i64 a0_14, .int .i64 a0_15, .int .i64 a0_16] 27 (0, 0))) := ⟨by rw [← hq_]; exact (by (with_reducible repeat (first | refine blk_drewN ?_ _ | refine blk_drew ?_ | refine blk_alloc ?_ _)); exact BK206.out)⟩; have n1_ : Aside0 (w51.heap[gb207]? = some (.cells #[.int .i64 0, .bool false, .string (⟨#[]⟩ : ByteArray)] 23 (0, 0))) := ⟨by rw [← hq_]; exact (by (with_reducible repeat (first | refine blk_drewN ?_ _ | refine blk_drew ?_ | refine blk_alloc ?_ _)); exact BK207.out)⟩; have n2_ : Aside0 (Below w.heap.size w w51) := ⟨by rw [← hq_]; exact (by repeat (first | (with_reducible first | exact HB.out | apply below_alloc | apply pw_below_drewN | apply below_drew1 | refine below_set ?_ GE206.out | refine below_set ?_ GE207.out) | exact HB.out))⟩; clear BK206 BK207 HB hq_; have BK206 := n0_; have BK207 := n1_; have HB := n2_; clear n0_ n1_ n2_))) | ((with_reducible refine gate_callee (f := 39) rfl ?_); refine goesL_ (some 42) rfl rfl Tryd.func39 (by kernel_rfl) rfl #[.int .i64 t209] rfl (by (try simp only [List.map_toArray, List.map_cons, List.map_nil]); first | done | rfl | (simp only [List.length_drop, List.length_take]; rfl)) ?_; (with_reducible refine (longcaseref02_Date.calls k t209 t212 t213 t214 false _ A7.out).mono ?_); rintro e w' ⟨rfl, ⟨nd, rfl⟩⟩; refine ⟨_, rfl, ?_⟩; (try (rw [drewN_self w51]; generalize hq_ : World.drewN w51 _ = w51; have n0_ : Aside0 (w51.heap[gb206]? = some (.cells #[.int .i64 a0_0, .bool a0_1, .string a0_2, .int .i64 a0_3, .bool a0_4, .string a0_5, .bool true, .int .i64 a0_7, .int .i64 a0_8, .int .i64 a0_9, .int .i64 a0_10, .int .i64 a0_11, .int .i64 a0_12, .int .i64 a0_13, .int .i64 a0_14, .int .i64 a0_15, .int .i64 a0_16] 27 (0, 0))) := ⟨by rw [← hq_]; exact (by (with_reducible repeat (first | refine blk_drewN ?_ _ | refine blk_drew ?_ | refine blk_alloc ?_ _)); exact BK206.out)⟩; have n1_ : Aside0 (w51.heap[gb207]? = some (.cells #[.int .i64 0, .bool false, .string (⟨#[]⟩ : ByteArray)] 23 (0, 0))) := ⟨by rw [← hq_]; exact (by (with_reducible repeat (first | refine blk_drewN ?_ _ | refine blk_drew ?_ | refine blk_alloc ?_ _)); exact BK207.out)⟩; have n2_ : Aside0 (Below w.heap.size w w51) := ⟨by rw [← hq_]; exact (by repeat (first | (with_reducible first | exact HB.out | apply below_alloc | apply pw_below_drewN | apply below_drew1 | refine below_set ?_ GE206.out | refine below_set ?_ GE207.out) | exact HB.out))⟩; clear BK206 BK207 HB hq_; have BK206 := n0_; have BK207 := n1_; have HB := n2_; clear n0_ n1_ n2_)); have hcz54_0 : w51.cell? ⟨gb207, 0, none⟩ = some (.int .i64 0) := (blk_cell BK207.out 0).trans rfl; have hcz54_1 : w51.cell? ⟨gb207, 1, none⟩ = some (.bool false) := (blk_cell BK207.out 1).trans rfl; have hcz54_2 : w51.cell? ⟨gb207, 2, none⟩ = some (.string (⟨#[]⟩ : ByteArray)) := (blk_cell BK207.out 2).trans rfl; have hfz54_0 := blk_frozen BK207.out 0; have hfz54_1 := blk_frozen BK207.out 1; have hfz54_2 := blk_frozen BK207.out 2))
        refine bodyPost_ret (results_ct rfl _ _ gb207 23 #[.int .i64 0, .bool false, .string (⟨#[]⟩ : ByteArray)] (0, 0) _ rfl (by (with_reducible repeat (first | refine blk_drewN ?_ _ | refine blk_drew ?_ | refine blk_alloc ?_ _)); refine blk_put (cs := #[.int .i64 0, .bool false, .string (⟨#[]⟩ : ByteArray)]) ?_ 2 _ rfl; (with_reducible repeat (first | refine blk_drewN ?_ _ | refine blk_drew ?_ | refine blk_alloc ?_ _)); refine blk_put (cs := #[.int .i64 0, .bool false, .string (⟨#[]⟩ : ByteArray)]) ?_ 1 _ rfl; (with_reducible repeat (first | refine blk_drewN ?_ _ | refine blk_drew ?_ | refine blk_alloc ?_ _)); refine blk_put (cs := #[.int .i64 0, .bool false, .string (⟨#[]⟩ : ByteArray)]) ?_ 0 _ rfl; (with_reducible repeat (first | refine blk_drewN ?_ _ | refine blk_drew ?_ | refine blk_alloc ?_ _)); exact BK207.out) Tryd.underlying23 rfl (by kernel_rfl)) rfl ?_
        exact ⟨by first | rfl | (simp [errW_none, errW_some] <;> rfl) | (simp [*, errW_none, errW_some] <;> rfl), by repeat (first | (with_reducible first | exact HB.out | apply below_alloc | apply pw_below_drewN | apply below_drew1 | refine below_set ?_ GE206.out | refine below_set ?_ GE207.out) | exact HB.out)⟩
    · replace c5 := Bool.eq_false_iff.mpr c5
      subst c5
      have H1 : (some (a0_0, a0_1, a0_2, 0)) = some (r1, r2, r3, r4) := by rw [if_neg (show ¬ (false = true) by decide)] at H; exact H
      clear H
      have H := H1
      clear H1
      simp only [Option.some.injEq, Prod.mk.injEq] at H
      obtain ⟨rfl, rfl, rfl, rfl⟩ := H
      go_enter Tryd.func17, Tryd.ntmps17
      go_wp2_with (first | ((with_reducible refine gate_dst (N := 2) rfl ?_); refine box_event ?hg (N := 2) ?hd (cs := #[.int .i64 a0_0, .bool a0_1, .string a0_2, .int .i64 a0_3, .bool a0_4, .string a0_5, .bool false, .int .i64 a0_7, .int .i64 a0_8, .int .i64 a0_9, .int .i64 a0_10, .int .i64 a0_11, .int .i64 a0_12, .int .i64 a0_13, .int .i64 a0_14, .int .i64 a0_15, .int .i64 a0_16]) (t := 27) ?hr ?_; (case hd => rfl); (case hg => rfl); (case hr => first | (go_simp; done) | (go_simp; rfl)); intro gb206 hg w55 hbox hb; have n0_ := Aside0.mk (below_step (by repeat (first | (with_reducible first | exact HB.out | apply below_alloc | apply pw_below_drewN | apply below_drew1) | exact HB.out)) hb); have n1_ := Aside0.mk (hbox); have n2_ := Aside0.mk ((by rw [hg]; exact (below_size (by repeat (first | (with_reducible first | exact HB.out | apply below_alloc | apply pw_below_drewN | apply below_drew1) | exact HB.out))) : w.heap.size ≤ gb206)); have n3_ := Aside0.mk ((by rw [hg]; exact (below_size (by repeat (first | (with_reducible first | exact HB.out | apply below_alloc | apply pw_below_drewN | apply below_drew1) | exact HB.out))) : w.heap.size ≤ gb206)); clear HB; have HB := n0_; have BK206 := n1_; have GW206 := n2_; have GE206 := n3_; clear n0_ n1_ n2_ n3_; clear hb hbox hg) | ((with_reducible refine gate_dst (N := 4) rfl ?_); refine box_event ?hg (N := 4) ?hd (cs := #[.int .i64 0, .bool false, .string (⟨#[]⟩ : ByteArray)]) (t := 23) ?hr ?_; (case hd => rfl); (case hg => rfl); (case hr => first | (go_simp; done) | (go_simp; rfl)); intro gb207 hg w56 hbox hb; have n0_ := Aside0.mk (blk_below (g := gb206) (o := .cells #[.int .i64 a0_0, .bool a0_1, .string a0_2, .int .i64 a0_3, .bool a0_4, .string a0_5, .bool false, .int .i64 a0_7, .int .i64 a0_8, .int .i64 a0_9, .int .i64 a0_10, .int .i64 a0_11, .int .i64 a0_12, .int .i64 a0_13, .int .i64 a0_14, .int .i64 a0_15, .int .i64 a0_16] 27 (0, 0)) (by (with_reducible repeat (first | refine blk_drewN ?_ _ | refine blk_drew ?_ | refine blk_alloc ?_ _)); exact BK206.out) hb); have n1_ := Aside0.mk (below_step (by repeat (first | (with_reducible first | exact HB.out | apply below_alloc | apply pw_below_drewN | apply below_drew1 | refine below_set ?_ GE206.out) | exact HB.out)) hb); have n2_ := Aside0.mk (hbox); have n3_ := Aside0.mk ((by rw [hg]; exact (below_size (by repeat (first | (with_reducible first | exact HB.out | apply below_alloc | apply pw_below_drewN | apply below_drew1 | refine below_set ?_ GE206.out) | exact HB.out))) : w.heap.size ≤ gb207)); have n4_ := Aside0.mk ((by rw [hg]; exact (below_size (by repeat (first | (with_reducible first | exact HB.out | apply below_alloc | apply pw_below_drewN | apply below_drew1 | refine below_set ?_ GE206.out) | exact HB.out))) : w.heap.size ≤ gb207)); have n5_ := Aside0.mk ((by rw [hg]; exact Nat.ne_of_lt (blk_lt (g := gb206) (o := .cells #[.int .i64 a0_0, .bool a0_1, .string a0_2, .int .i64 a0_3, .bool a0_4, .string a0_5, .bool false, .int .i64 a0_7, .int .i64 a0_8, .int .i64 a0_9, .int .i64 a0_10, .int .i64 a0_11, .int .i64 a0_12, .int .i64 a0_13, .int .i64 a0_14, .int .i64 a0_15, .int .i64 a0_16] 27 (0, 0)) (by (with_reducible repeat (first | refine blk_drewN ?_ _ | refine blk_drew ?_ | refine blk_alloc ?_ _)); exact BK206.out)) : gb206 ≠ gb207)); have n6_ := Aside0.mk ((by rw [hg]; exact Nat.ne_of_gt (blk_lt (g := gb206) (o := .cells #[.int .i64 a0_0, .bool a0_1, .string a0_2, .int .i64 a0_3, .bool a0_4, .string a0_5, .bool false, .int .i64 a0_7, .int .i64 a0_8, .int .i64 a0_9, .int .i64 a0_10, .int .i64 a0_11, .int .i64 a0_12, .int .i64 a0_13, .int .i64 a0_14, .int .i64 a0_15, .int .i64 a0_16] 27 (0, 0)) (by (with_reducible repeat (first | refine blk_drewN ?_ _ | refine blk_drew ?_ | refine blk_alloc ?_ _)); exact BK206.out)) : gb207 ≠ gb206)); clear BK206; clear HB; have BK206 := n0_; have HB := n1_; have BK207 := n2_; have GW207 := n3_; have GE207 := n4_; have NB206_207 := n5_; have NB207_206 := n6_; clear n0_ n1_ n2_ n3_ n4_ n5_ n6_; clear hb hbox hg) | ((with_reducible refine gate_dst (N := 24) rfl ?_); refine wpList_load_row rfl 27 _ rfl (gb206) rfl 27 #[.int .i64 a0_0, .bool a0_1, .string a0_2, .int .i64 a0_3, .bool a0_4, .string a0_5, .bool false, .int .i64 a0_7, .int .i64 a0_8, .int .i64 a0_9, .int .i64 a0_10, .int .i64 a0_11, .int .i64 a0_12, .int .i64 a0_13, .int .i64 a0_14, .int .i64 a0_15, .int .i64 a0_16] (0, 0) _ (by (with_reducible repeat (first | refine blk_drewN ?_ _ | refine blk_drew ?_ | refine blk_alloc ?_ _)); exact BK206.out) Tryd.underlying27 rfl (by kernel_rfl) ?_) | ((with_reducible refine gate_callee (f := 18) rfl ?_); refine goesL_ (some 25) rfl rfl Tryd.func18 (by kernel_rfl) rfl #[.agg #[.int .i64 a0_0, .bool a0_1, .string a0_2, .int .i64 a0_3, .bool a0_4, .string a0_5, .bool false, .int .i64 a0_7, .int .i64 a0_8, .int .i64 a0_9, .int .i64 a0_10, .int .i64 a0_11, .int .i64 a0_12, .int .i64 a0_13, .int .i64 a0_14, .int .i64 a0_15, .int .i64 a0_16], .bool true] rfl (by (try simp only [List.map_toArray, List.map_cons, List.map_nil]); first | done | rfl | (simp only [List.length_drop, List.length_take]; rfl)) ?_; (with_reducible refine (longcaseref08_Right.calls k a0_0 a0_1 a0_2 a0_3 a0_4 a0_5 false a0_7 a0_8 a0_9 a0_10 a0_11 a0_12 a0_13 a0_14 a0_15 a0_16 true true _ A3.out).mono ?_); rintro e w57 ⟨rfl, hb⟩; refine ⟨_, rfl, ?_⟩; have n0_ := Aside0.mk (blk_below (g := gb206) (o := .cells #[.int .i64 a0_0, .bool a0_1, .string a0_2, .int .i64 a0_3, .bool a0_4, .string a0_5, .bool false, .int .i64 a0_7, .int .i64 a0_8, .int .i64 a0_9, .int .i64 a0_10, .int .i64 a0_11, .int .i64 a0_12, .int .i64 a0_13, .int .i64 a0_14, .int .i64 a0_15, .int .i64 a0_16] 27 (0, 0)) (by (with_reducible repeat (first | refine blk_drewN ?_ _ | refine blk_drew ?_ | refine blk_alloc ?_ _)); exact BK206.out) hb); have n1_ := Aside0.mk (blk_below (g := gb207) (o := .cells #[.int .i64 0, .bool false, .string (⟨#[]⟩ : ByteArray)] 23 (0, 0)) (by (with_reducible repeat (first | refine blk_drewN ?_ _ | refine blk_drew ?_ | refine blk_alloc ?_ _)); exact BK207.out) hb); have n2_ := Aside0.mk (below_step (by repeat (first | (with_reducible first | exact HB.out | apply below_alloc | apply pw_below_drewN | apply below_drew1 | refine below_set ?_ GE206.out | refine below_set ?_ GE207.out) | exact HB.out)) hb); clear BK206; clear BK207; clear HB; have BK206 := n0_; have BK207 := n1_; have HB := n2_; clear n0_ n1_ n2_; (try clear hb); (try clear hb2); (try clear hk); (try clear hi); have hnb58 := NB206_207.out; have hnc58 := NB207_206.out; have hcz59_0 : w57.cell? ⟨gb206, 0, none⟩ = some (.int .i64 a0_0) := (blk_cell BK206.out 0).trans rfl; have hcz59_1 : w57.cell? ⟨gb206, 1, none⟩ = some (.bool a0_1) := (blk_cell BK206.out 1).trans rfl; have hcz59_2 : w57.cell? ⟨gb206, 2, none⟩ = some (.string a0_2) := (blk_cell BK206.out 2).trans rfl; have hcz59_3 : w57.cell? ⟨gb206, 3, none⟩ = some (.int .i64 a0_3) := (blk_cell BK206.out 3).trans rfl; have hcz59_4 : w57.cell? ⟨gb206, 4, none⟩ = some (.bool a0_4) := (blk_cell BK206.out 4).trans rfl; have hcz59_5 : w57.cell? ⟨gb206, 5, none⟩ = some (.string a0_5) := (blk_cell BK206.out 5).trans rfl; have hcz59_6 : w57.cell? ⟨gb206, 6, none⟩ = some (.bool false) := (blk_cell BK206.out 6).trans rfl; have hcz59_7 : w57.cell? ⟨gb206, 7, none⟩ = some (.int .i64 a0_7) := (blk_cell BK206.out 7).trans rfl; have hcz59_8 : w57.cell? ⟨gb206, 8, none⟩ = some (.int .i64 a0_8) := (blk_cell BK206.out 8).trans rfl; have hcz59_9 : w57.cell? ⟨gb206, 9, none⟩ = some (.int .i64 a0_9) := (blk_cell BK206.out 9).trans rfl; have hcz59_10 : w57.cell? ⟨gb206, 10, none⟩ = some (.int .i64 a0_10) := (blk_cell BK206.out 10).trans rfl; have hcz59_11 : w57.cell? ⟨gb206, 11, none⟩ = some (.int .i64 a0_11) := (blk_cell BK206.out 11).trans rfl; have hcz59_12 : w57.cell? ⟨gb206, 12, none⟩ = some (.int .i64 a0_12) := (blk_cell BK206.out 12).trans rfl; have hcz59_13 : w57.cell? ⟨gb206, 13, none⟩ = some (.int .i64 a0_13) := (blk_cell BK206.out 13).trans rfl; have hcz59_14 : w57.cell? ⟨gb206, 14, none⟩ = some (.int .i64 a0_14) := (blk_cell BK206.out 14).trans rfl; have hcz59_15 : w57.cell? ⟨gb206, 15, none⟩ = some (.int .i64 a0_15) := (blk_cell BK206.out 15).trans rfl; have hcz59_16 : w57.cell? ⟨gb206, 16, none⟩ = some (.int .i64 a0_16) := (blk_cell BK206.out 16).trans rfl; have hfz59_0 := blk_frozen BK206.out 0; have hfz59_1 := blk_frozen BK206.out 1; have hfz59_2 := blk_frozen BK206.out 2; have hfz59_3 := blk_frozen BK206.out 3; have hfz59_4 := blk_frozen BK206.out 4; have hfz59_5 := blk_frozen BK206.out 5; have hfz59_6 := blk_frozen BK206.out 6; have hfz59_7 := blk_frozen BK206.out 7; have hfz59_8 := blk_frozen BK206.out 8; have hfz59_9 := blk_frozen BK206.out 9; have hfz59_10 := blk_frozen BK206.out 10; have hfz59_11 := blk_frozen BK206.out 11; have hfz59_12 := blk_frozen BK206.out 12; have hfz59_13 := blk_frozen BK206.out 13; have hfz59_14 := blk_frozen BK206.out 14; have hfz59_15 := blk_frozen BK206.out 15; have hfz59_16 := blk_frozen BK206.out 16; have hcz60_0 : w57.cell? ⟨gb207, 0, none⟩ = some (.int .i64 0) := (blk_cell BK207.out 0).trans rfl; have hcz60_1 : w57.cell? ⟨gb207, 1, none⟩ = some (.bool false) := (blk_cell BK207.out 1).trans rfl; have hcz60_2 : w57.cell? ⟨gb207, 2, none⟩ = some (.string (⟨#[]⟩ : ByteArray)) := (blk_cell BK207.out 2).trans rfl; have hfz60_0 := blk_frozen BK207.out 0; have hfz60_1 := blk_frozen BK207.out 1; have hfz60_2 := blk_frozen BK207.out 2))
      refine bodyPost_ret (results_ct rfl _ _ gb207 23 #[.int .i64 a0_0, .bool a0_1, .string a0_2] (0, 0) _ rfl (by (with_reducible repeat (first | refine blk_drewN ?_ _ | refine blk_drew ?_ | refine blk_alloc ?_ _)); refine blk_put (cs := #[.int .i64 a0_0, .bool a0_1, .string (⟨#[]⟩ : ByteArray)]) ?_ 2 _ rfl; (with_reducible repeat (first | refine blk_drewN ?_ _ | refine blk_drew ?_ | refine blk_alloc ?_ _)); refine blk_put (cs := #[.int .i64 a0_0, .bool false, .string (⟨#[]⟩ : ByteArray)]) ?_ 1 _ rfl; (with_reducible repeat (first | refine blk_drewN ?_ _ | refine blk_drew ?_ | refine blk_alloc ?_ _)); refine blk_put (cs := #[.int .i64 0, .bool false, .string (⟨#[]⟩ : ByteArray)]) ?_ 0 _ rfl; (with_reducible repeat (first | refine blk_drewN ?_ _ | refine blk_drew ?_ | refine blk_alloc ?_ _)); exact BK207.out) Tryd.underlying23 rfl (by kernel_rfl)) rfl ?_
      exact ⟨by first | rfl | (simp [errW_none, errW_some] <;> rfl) | (simp [*, errW_none, errW_some] <;> rfl), by repeat (first | (with_reducible first | exact HB.out | apply below_alloc | apply pw_below_drewN | apply below_drew1 | refine below_set ?_ GE206.out | refine below_set ?_ GE207.out) | exact HB.out)⟩
  · replace c4 := Bool.eq_false_iff.mpr c4
    subst c4
    have H1 : (some (0, false, (⟨#[]⟩ : ByteArray), 1)) = some (r1, r2, r3, r4) := by rw [if_neg (show ¬ (false = true) by decide)] at H; exact H
    clear H
    have H := H1
    clear H1
    simp only [Option.some.injEq, Prod.mk.injEq] at H
    obtain ⟨rfl, rfl, rfl, rfl⟩ := H
    go_enter Tryd.func17, Tryd.ntmps17
    go_wp2_with (first | ((with_reducible refine gate_dst (N := 2) rfl ?_); refine box_event ?hg (N := 2) ?hd (cs := #[.int .i64 a0_0, .bool a0_1, .string a0_2, .int .i64 a0_3, .bool a0_4, .string a0_5, .bool a0_6, .int .i64 a0_7, .int .i64 a0_8, .int .i64 a0_9, .int .i64 a0_10, .int .i64 a0_11, .int .i64 a0_12, .int .i64 a0_13, .int .i64 a0_14, .int .i64 a0_15, .int .i64 a0_16]) (t := 27) ?hr ?_; (case hd => rfl); (case hg => rfl); (case hr => first | (go_simp; done) | (go_simp; rfl)); intro gb206 hg w61 hbox hb; have n0_ := Aside0.mk (below_step (by repeat (first | (with_reducible first | exact HB.out | apply below_alloc | apply pw_below_drewN | apply below_drew1) | exact HB.out)) hb); have n1_ := Aside0.mk (hbox); have n2_ := Aside0.mk ((by rw [hg]; exact (below_size (by repeat (first | (with_reducible first | exact HB.out | apply below_alloc | apply pw_below_drewN | apply below_drew1) | exact HB.out))) : w.heap.size ≤ gb206)); have n3_ := Aside0.mk ((by rw [hg]; exact (below_size (by repeat (first | (with_reducible first | exact HB.out | apply below_alloc | apply pw_below_drewN | apply below_drew1) | exact HB.out))) : w.heap.size ≤ gb206)); clear HB; have HB := n0_; have BK206 := n1_; have GW206 := n2_; have GE206 := n3_; clear n0_ n1_ n2_ n3_; clear hb hbox hg) | ((with_reducible refine gate_dst (N := 4) rfl ?_); refine box_event ?hg (N := 4) ?hd (cs := #[.int .i64 0, .bool false, .string (⟨#[]⟩ : ByteArray)]) (t := 23) ?hr ?_; (case hd => rfl); (case hg => rfl); (case hr => first | (go_simp; done) | (go_simp; rfl)); intro gb207 hg w62 hbox hb; have n0_ := Aside0.mk (blk_below (g := gb206) (o := .cells #[.int .i64 a0_0, .bool a0_1, .string a0_2, .int .i64 a0_3, .bool a0_4, .string a0_5, .bool a0_6, .int .i64 a0_7, .int .i64 a0_8, .int .i64 a0_9, .int .i64 a0_10, .int .i64 a0_11, .int .i64 a0_12, .int .i64 a0_13, .int .i64 a0_14, .int .i64 a0_15, .int .i64 a0_16] 27 (0, 0)) (by (with_reducible repeat (first | refine blk_drewN ?_ _ | refine blk_drew ?_ | refine blk_alloc ?_ _)); exact BK206.out) hb); have n1_ := Aside0.mk (below_step (by repeat (first | (with_reducible first | exact HB.out | apply below_alloc | apply pw_below_drewN | apply below_drew1 | refine below_set ?_ GE206.out) | exact HB.out)) hb); have n2_ := Aside0.mk (hbox); have n3_ := Aside0.mk ((by rw [hg]; exact (below_size (by repeat (first | (with_reducible first | exact HB.out | apply below_alloc | apply pw_below_drewN | apply below_drew1 | refine below_set ?_ GE206.out) | exact HB.out))) : w.heap.size ≤ gb207)); have n4_ := Aside0.mk ((by rw [hg]; exact (below_size (by repeat (first | (with_reducible first | exact HB.out | apply below_alloc | apply pw_below_drewN | apply below_drew1 | refine below_set ?_ GE206.out) | exact HB.out))) : w.heap.size ≤ gb207)); have n5_ := Aside0.mk ((by rw [hg]; exact Nat.ne_of_lt (blk_lt (g := gb206) (o := .cells #[.int .i64 a0_0, .bool a0_1, .string a0_2, .int .i64 a0_3, .bool a0_4, .string a0_5, .bool a0_6, .int .i64 a0_7, .int .i64 a0_8, .int .i64 a0_9, .int .i64 a0_10, .int .i64 a0_11, .int .i64 a0_12, .int .i64 a0_13, .int .i64 a0_14, .int .i64 a0_15, .int .i64 a0_16] 27 (0, 0)) (by (with_reducible repeat (first | refine blk_drewN ?_ _ | refine blk_drew ?_ | refine blk_alloc ?_ _)); exact BK206.out)) : gb206 ≠ gb207)); have n6_ := Aside0.mk ((by rw [hg]; exact Nat.ne_of_gt (blk_lt (g := gb206) (o := .cells #[.int .i64 a0_0, .bool a0_1, .string a0_2, .int .i64 a0_3, .bool a0_4, .string a0_5, .bool a0_6, .int .i64 a0_7, .int .i64 a0_8, .int .i64 a0_9, .int .i64 a0_10, .int .i64 a0_11, .int .i64 a0_12, .int .i64 a0_13, .int .i64 a0_14, .int .i64 a0_15, .int .i64 a0_16] 27 (0, 0)) (by (with_reducible repeat (first | refine blk_drewN ?_ _ | refine blk_drew ?_ | refine blk_alloc ?_ _)); exact BK206.out)) : gb207 ≠ gb206)); clear BK206; clear HB; have BK206 := n0_; have HB := n1_; have BK207 := n2_; have GW207 := n3_; have GE207 := n4_; have NB206_207 := n5_; have NB207_206 := n6_; clear n0_ n1_ n2_ n3_ n4_ n5_ n6_; clear hb hbox hg) | ((with_reducible refine gate_dst (N := 24) rfl ?_); refine wpList_load_row rfl 27 _ rfl (gb206) rfl 27 #[.int .i64 a0_0, .bool a0_1, .string a0_2, .int .i64 a0_3, .bool a0_4, .string a0_5, .bool a0_6, .int .i64 a0_7, .int .i64 a0_8, .int .i64 a0_9, .int .i64 a0_10, .int .i64 a0_11, .int .i64 a0_12, .int .i64 a0_13, .int .i64 a0_14, .int .i64 a0_15, .int .i64 a0_16] (0, 0) _ (by (with_reducible repeat (first | refine blk_drewN ?_ _ | refine blk_drew ?_ | refine blk_alloc ?_ _)); exact BK206.out) Tryd.underlying27 rfl (by kernel_rfl) ?_) | ((with_reducible refine gate_callee (f := 18) rfl ?_); refine goesL_ (some 25) rfl rfl Tryd.func18 (by kernel_rfl) rfl #[.agg #[.int .i64 a0_0, .bool a0_1, .string a0_2, .int .i64 a0_3, .bool a0_4, .string a0_5, .bool a0_6, .int .i64 a0_7, .int .i64 a0_8, .int .i64 a0_9, .int .i64 a0_10, .int .i64 a0_11, .int .i64 a0_12, .int .i64 a0_13, .int .i64 a0_14, .int .i64 a0_15, .int .i64 a0_16], .bool true] rfl (by (try simp only [List.map_toArray, List.map_cons, List.map_nil]); first | done | rfl | (simp only [List.length_drop, List.length_take]; rfl)) ?_; (with_reducible refine (longcaseref08_Right.calls k a0_0 a0_1 a0_2 a0_3 a0_4 a0_5 a0_6 a0_7 a0_8 a0_9 a0_10 a0_11 a0_12 a0_13 a0_14 a0_15 a0_16 true false _ A3.out).mono ?_); rintro e w63 ⟨rfl, hb⟩; refine ⟨_, rfl, ?_⟩; have n0_ := Aside0.mk (blk_below (g := gb206) (o := .cells #[.int .i64 a0_0, .bool a0_1, .string a0_2, .int .i64 a0_3, .bool a0_4, .string a0_5, .bool a0_6, .int .i64 a0_7, .int .i64 a0_8, .int .i64 a0_9, .int .i64 a0_10, .int .i64 a0_11, .int .i64 a0_12, .int .i64 a0_13, .int .i64 a0_14, .int .i64 a0_15, .int .i64 a0_16] 27 (0, 0)) (by (with_reducible repeat (first | refine blk_drewN ?_ _ | refine blk_drew ?_ | refine blk_alloc ?_ _)); exact BK206.out) hb); have n1_ := Aside0.mk (blk_below (g := gb207) (o := .cells #[.int .i64 0, .bool false, .string (⟨#[]⟩ : ByteArray)] 23 (0, 0)) (by (with_reducible repeat (first | refine blk_drewN ?_ _ | refine blk_drew ?_ | refine blk_alloc ?_ _)); exact BK207.out) hb); have n2_ := Aside0.mk (below_step (by repeat (first | (with_reducible first | exact HB.out | apply below_alloc | apply pw_below_drewN | apply below_drew1 | refine below_set ?_ GE206.out | refine below_set ?_ GE207.out) | exact HB.out)) hb); clear BK206; clear BK207; clear HB; have BK206 := n0_; have BK207 := n1_; have HB := n2_; clear n0_ n1_ n2_; (try clear hb); (try clear hb2); (try clear hk); (try clear hi); have hnb64 := NB207_206.out; have hnc64 := NB206_207.out; have hcz65_0 : w63.cell? ⟨gb207, 0, none⟩ = some (.int .i64 0) := (blk_cell BK207.out 0).trans rfl; have hcz65_1 : w63.cell? ⟨gb207, 1, none⟩ = some (.bool false) := (blk_cell BK207.out 1).trans rfl; have hcz65_2 : w63.cell? ⟨gb207, 2, none⟩ = some (.string (⟨#[]⟩ : ByteArray)) := (blk_cell BK207.out 2).trans rfl; have hfz65_0 := blk_frozen BK207.out 0; have hfz65_1 := blk_frozen BK207.out 1; have hfz65_2 := blk_frozen BK207.out 2))
    refine bodyPost_ret (results_ct rfl _ _ gb207 23 #[.int .i64 0, .bool false, .string (⟨#[]⟩ : ByteArray)] (0, 0) _ rfl (by (with_reducible repeat (first | refine blk_drewN ?_ _ | refine blk_drew ?_ | refine blk_alloc ?_ _)); refine blk_put (cs := #[.int .i64 0, .bool false, .string (⟨#[]⟩ : ByteArray)]) ?_ 2 _ rfl; (with_reducible repeat (first | refine blk_drewN ?_ _ | refine blk_drew ?_ | refine blk_alloc ?_ _)); refine blk_put (cs := #[.int .i64 0, .bool false, .string (⟨#[]⟩ : ByteArray)]) ?_ 1 _ rfl; (with_reducible repeat (first | refine blk_drewN ?_ _ | refine blk_drew ?_ | refine blk_alloc ?_ _)); refine blk_put (cs := #[.int .i64 0, .bool false, .string (⟨#[]⟩ : ByteArray)]) ?_ 0 _ rfl; (with_reducible repeat (first | refine blk_drewN ?_ _ | refine blk_drew ?_ | refine blk_alloc ?_ _)); exact BK207.out) Tryd.underlying23 rfl (by kernel_rfl)) rfl ?_
    exact ⟨by first | rfl | (simp [errW_none, errW_some] <;> rfl) | (simp [*, errW_none, errW_some] <;> rfl), by repeat (first | (with_reducible first | exact HB.out | apply below_alloc | apply pw_below_drewN | apply below_drew1 | refine below_set ?_ GE206.out | refine below_set ?_ GE207.out) | exact HB.out)⟩
end Go.Proofs.YtgbehcahdgamoaaDoor.Fn

namespace Go.Proofs.YtgbehcahdgamoaaDoor.Fn
open Go.RowKit Go.Proofs.YtgbehcahdgamoaaDoorW.PrintWords Go.Proofs.YtgbehcahdgamoaaDoorW.PrintLast Go.Proofs.YtgbehcahdgamoaaDoorW.PrintMore
structure KeptL (t : Int) (S : List (Int × Bool)) (any : Bool) (last : Int) (dst : Bool) : Prop where
  none_ : any = false → ∀ x ∈ S, t < x.1
  last_ : any = true → (last, dst) ∈ S ∧ last ≤ t ∧ ∀ y ∈ S, y.1 ≤ t → y.1 < last ∨ last = y.1 ∧ ¬ (dst = false ∧ y.2 = true)
structure KeptF (S : List (Int × Bool)) (some_ : Bool) (first : Int) (std : Bool) : Prop where
  empty_ : some_ = false → S = []
  first_ : some_ = true → (∃ z ∈ S, z.1 = first) ∧ (∀ y ∈ S, first ≤ y.1) ∧ (std = true ↔ ∃ x ∈ S, x.2 = true ∧ x.1 = first)
structure Kept (t : Int) (S : List (Int × Bool)) (any : Bool) (last : Int) (dst some_ : Bool) (first : Int) (std : Bool) : Prop extends KeptL t S any last dst, KeptF S some_ first std
theorem Kept.nil (t : Int) : Kept t [] false 0 false false 0 false := ⟨⟨(fun _ x h => absurd h (List.not_mem_nil)), (fun h => absurd h (by decide))⟩, ⟨(fun _ => rfl), (fun h => absurd h (by decide))⟩⟩
theorem KeptL.stop {t : Int} {S : List (Int × Bool)} {any : Bool} {last : Int} {dst : Bool} (h : KeptL t S any last dst) (b : Int) :
    (b ≤ t → any = false ∨ last < b → KeptL t (S ++ [(b, false)]) true b false) ∧ (¬ (b ≤ t ∧ (any = false ∨ last < b)) → KeptL t (S ++ [(b, false)]) any last dst) := by
  constructor
  · intro h1 h2
    refine ⟨fun h => absurd h (by decide), fun _ => ⟨by simp, h1, fun y hy hyt => ?_⟩⟩
    rcases List.mem_append.1 hy with hy | hy
    · cases any
      · have := h.none_ rfl y hy; omega
      · have := (h.last_ rfl).2.2 y hy hyt
        rcases h2 with h2 | h2
        · cases h2
        · left; omega
    · simp at hy; subst hy; right; simp
  · intro h1
    refine ⟨fun ha x hx => ?_, fun ha => ⟨by simp [(h.last_ ha).1], (h.last_ ha).2.1, fun y hy hyt => ?_⟩⟩
    · rcases List.mem_append.1 hx with hx | hx
      · exact h.none_ ha x hx
      · simp at hx; subst hx; simp only; have : ¬ b ≤ t := fun hb => h1 ⟨hb, .inl ha⟩; omega
    · rcases List.mem_append.1 hy with hy | hy
      · exact (h.last_ ha).2.2 y hy hyt
      · simp at hy; subst hy; simp only at hyt ⊢
        have : ¬ last < b := fun hb => h1 ⟨hyt, .inr hb⟩
        simp; omega
theorem KeptL.start {t : Int} {S : List (Int × Bool)} {any : Bool} {last : Int} {dst : Bool} (h : KeptL t S any last dst) (a : Int) :
    (a ≤ t → any = false ∨ last ≤ a → KeptL t (S ++ [(a, true)]) true a true) ∧ (¬ (a ≤ t ∧ (any = false ∨ last ≤ a)) → KeptL t (S ++ [(a, true)]) any last dst) := by
  constructor
  · intro h1 h2
    refine ⟨fun h => absurd h (by decide), fun _ => ⟨by simp, h1, fun y hy hyt => ?_⟩⟩
    rcases List.mem_append.1 hy with hy | hy
    · cases any
      · have := h.none_ rfl y hy; omega
      · have := (h.last_ rfl).2.2 y hy hyt
        rcases h2 with h2 | h2
        · cases h2
        · simp; omega
    · simp at hy; subst hy; right; simp
  · intro h1
    refine ⟨fun ha x hx => ?_, fun ha => ⟨by simp [(h.last_ ha).1], (h.last_ ha).2.1, fun y hy hyt => ?_⟩⟩
    · rcases List.mem_append.1 hx with hx | hx
      · exact h.none_ ha x hx
      · simp at hx; subst hx; simp only; have : ¬ a ≤ t := fun hb => h1 ⟨hb, .inl ha⟩; omega
    · rcases List.mem_append.1 hy with hy | hy
      · exact (h.last_ ha).2.2 y hy hyt
      · simp at hy; subst hy; simp only at hyt ⊢
        have : ¬ last ≤ a := fun hb => h1 ⟨hyt, .inr hb⟩
        left; omega
theorem KeptF.stop {S : List (Int × Bool)} {some_ : Bool} {first : Int} {std : Bool} (h : KeptF S some_ first std) (b : Int) :
    (some_ = false ∨ b < first → KeptF (S ++ [(b, false)]) true b false) ∧ (¬ (some_ = false ∨ b < first) → KeptF (S ++ [(b, false)]) true first std) := by
  constructor
  · intro h1
    have hb : ∀ y ∈ S, b < y.1 := fun y hy => by
      cases some_
      · rw [h.empty_ rfl] at hy; cases hy
      · have := (h.first_ rfl).2.1 y hy
        rcases h1 with h1 | h1
        · cases h1
        · omega
    refine ⟨fun h => absurd h (by decide), fun _ => ⟨⟨(b, false), by simp, rfl⟩, fun y hy => ?_, ?_⟩⟩
    · rcases List.mem_append.1 hy with hy | hy
      · have := hb y hy; omega
      · simp at hy; subst hy; simp
    · constructor
      · intro h; cases h
      · rintro ⟨x, hx, h2, h3⟩
        rcases List.mem_append.1 hx with hx | hx
        · have := hb x hx; omega
        · simp at hx; subst hx; simp at h2
  · intro h1
    have hs : some_ = true := by cases some_ with | true => rfl | false => exact absurd (.inl rfl) h1
    obtain ⟨⟨z, hz, hzf⟩, hf, hstd⟩ := h.first_ hs
    have hb : ¬ b < first := fun hb => h1 (.inr hb)
    refine ⟨fun h => absurd h (by decide), fun _ => ⟨⟨z, by simp [hz], hzf⟩, fun y hy => ?_, ?_⟩⟩
    · rcases List.mem_append.1 hy with hy | hy
      · exact hf y hy
      · simp at hy; subst hy; simp only; omega
    · rw [hstd]
      constructor
      · rintro ⟨x, hx, h2⟩; exact ⟨x, by simp [hx], h2⟩
      · rintro ⟨x, hx, h2, h3⟩
        rcases List.mem_append.1 hx with hx | hx
        · exact ⟨x, hx, h2, h3⟩
        · simp at hx; subst hx; simp at h2
theorem KeptF.start {S : List (Int × Bool)} {first : Int} {std : Bool} (h : KeptF S true first std) (a : Int) :
    (a ≤ first → KeptF (S ++ [(a, true)]) true a true) ∧ (¬ a ≤ first → KeptF (S ++ [(a, true)]) true first std) := by
  obtain ⟨⟨z, hz, hzf⟩, hf, hstd⟩ := h.first_ rfl
  constructor
  · intro h1
    refine ⟨fun h => absurd h (by decide), fun _ => ⟨⟨(a, true), by simp, rfl⟩, fun y hy => ?_, ?_⟩⟩
    · rcases List.mem_append.1 hy with hy | hy
      · have := hf y hy; omega
      · simp at hy; subst hy; simp
    · simp
  · intro h1
    refine ⟨fun h => absurd h (by decide), fun _ => ⟨⟨z, by simp [hz], hzf⟩, fun y hy => ?_, ?_⟩⟩
    · rcases List.mem_append.1 hy with hy | hy
      · exact hf y hy
      · simp at hy; subst hy; simp only; omega
    · rw [hstd]
      constructor
      · rintro ⟨x, hx, h2⟩; exact ⟨x, by simp [hx], h2⟩
      · rintro ⟨x, hx, h2, h3⟩
        rcases List.mem_append.1 hx with hx | hx
        · exact ⟨x, hx, h2, h3⟩
        · simp at hx; subst hx; simp only at h3; omega
theorem Kept.tells {t : Int} {S : List (Int × Bool)} {any : Bool} {last : Int} {dst some_ : Bool} {first : Int} {std : Bool} (h : Kept t S any last dst some_ first std) (hS : S ≠ []) : dstT t (sortT S) = (if any = true then dst else !std) := by
  cases any
  · have hn := h.none_ rfl
    obtain ⟨m, ⟨z, hz, hzm⟩, hm, hd⟩ := dst_none t S hS hn
    rw [hd, if_neg (by decide)]
    cases hs : some_
    · exact absurd (h.empty_ hs) hS
    · obtain ⟨⟨z', hz', hzf⟩, hf, hstd⟩ := h.first_ hs
      have e : m = first := by have := hm z' hz'; have := hf z hz; omega
      subst e
      congr 1
      rw [Bool.eq_iff_iff, hstd]
      simp
  · obtain ⟨hl, hlt, hmax⟩ := h.last_ rfl
    obtain ⟨x, hx, hxt, hd, hx2⟩ := dst_some t S ⟨_, hl, hlt⟩
    rw [hd, if_pos rfl]
    have k1 := hx2 _ hl hlt
    have k2 := hmax x hx hxt
    simp only at k1 k2
    rcases k1 with k1 | ⟨k1, k3⟩
    · rcases k2 with k2 | ⟨k2, _⟩ <;> omega
    · rcases k2 with k2 | ⟨k2, k4⟩
      · omega
      · cases hxb : x.2 <;> cases dst
        · rfl
        · exact absurd ⟨hxb, rfl⟩ k3
        · exact absurd ⟨rfl, hxb⟩ k4
        · rfl
end Go.Proofs.YtgbehcahdgamoaaDoor.Fn

namespace Go.Proofs.YtgbehcahdgamoaaDoor.Fn
open Go.RowKit Go.Proofs.YtgbehcahdgamoaaDoorW.PrintWords Go.Proofs.YtgbehcahdgamoaaDoorW.PrintLast Go.Proofs.YtgbehcahdgamoaaDoorW.PrintMore
theorem refAt_first (k : Nat) (s0 : Int) (s1 : Bool) (s2 : ByteArray) (d0 : Int) (d1 : Bool) (d2 : ByteArray) (bo : Bool) (a0 : Int) (a1 : Int) (a2 : Int) (a3 : Int) (a4 : Int) (e0 : Int) (e1 : Int) (e2 : Int) (e3 : Int) (e4 : Int) (t y : Int) (S : List (Int × Bool)) (any : Bool) (last : Int) (dst some_ : Bool) (first : Int) (std : Bool) (i a b : Int) (hF : KeptF S some_ first std) :
    ∃ first' std', KeptF ((S ++ [(b, false)]) ++ [(a, true)]) true first' std' ∧ longcaseref09_At.j4 (k + 2) t y any last dst some_ first std i a b s0 s1 s2 d0 d1 d2 bo a0 a1 a2 a3 a4 e0 e1 e2 e3 e4 = longcaseref09_At.l0 k t y any last dst true first' std' (wrap64 (i + 1)) s0 s1 s2 d0 d1 d2 bo a0 a1 a2 a3 a4 e0 e1 e2 e3 e4 := by
  rw [longcaseref09_At.j4]
  have h1 := hF.stop b
  cases some_
  · rw [if_neg (by decide), longcaseref09_At.j5, if_pos rfl]
    have h2 := h1.1 (.inl rfl)
    by_cases h : a ≤ b
    · exact ⟨_, _, (h2.start a).1 h, by rw [if_pos h]⟩
    · exact ⟨_, _, (h2.start a).2 h, by rw [if_neg h]⟩
  · rw [if_pos rfl, longcaseref09_At.j5]
    by_cases hb : b < first
    · rw [if_pos (by simpa using hb)]
      have h2 := h1.1 (.inr hb)
      by_cases h : a ≤ b
      · exact ⟨_, _, (h2.start a).1 h, by rw [if_pos h]⟩
      · exact ⟨_, _, (h2.start a).2 h, by rw [if_neg h]⟩
    · rw [if_neg (by simpa using hb)]
      have h2 := h1.2 (by simp; omega)
      by_cases h : a ≤ first
      · exact ⟨_, _, (h2.start a).1 h, by rw [if_pos h]⟩
      · exact ⟨_, _, (h2.start a).2 h, by rw [if_neg h]⟩
theorem refAt_start (k : Nat) (s0 : Int) (s1 : Bool) (s2 : ByteArray) (d0 : Int) (d1 : Bool) (d2 : ByteArray) (bo : Bool) (a0 : Int) (a1 : Int) (a2 : Int) (a3 : Int) (a4 : Int) (e0 : Int) (e1 : Int) (e2 : Int) (e3 : Int) (e4 : Int) (t y : Int) (S : List (Int × Bool)) (any : Bool) (last : Int) (dst some_ : Bool) (first : Int) (std : Bool) (i a b : Int) (hL : KeptL t S any last dst) :
    ∃ any' last' dst', KeptL t (S ++ [(a, true)]) any' last' dst' ∧ longcaseref09_At.j2 (k + 2) t y any last dst some_ first std i a b s0 s1 s2 d0 d1 d2 bo a0 a1 a2 a3 a4 e0 e1 e2 e3 e4 = longcaseref09_At.j4 k t y any' last' dst' some_ first std i a b s0 s1 s2 d0 d1 d2 bo a0 a1 a2 a3 a4 e0 e1 e2 e3 e4 := by
  rw [longcaseref09_At.j2]
  have h1 := hL.start a
  by_cases ha : a ≤ t
  · rw [if_pos ha]
    cases any
    · rw [if_neg (by decide), longcaseref09_At.j3, if_pos rfl]
      exact ⟨_, _, _, h1.1 ha (.inl rfl), rfl⟩
    · rw [if_pos rfl, longcaseref09_At.j3]
      by_cases hl : a ≥ last
      · rw [if_pos (by simpa using hl)]
        exact ⟨_, _, _, h1.1 ha (.inr hl), rfl⟩
      · rw [if_neg (by simpa using hl)]
        exact ⟨_, _, _, h1.2 (by simp; omega), rfl⟩
  · rw [if_neg ha, longcaseref09_At.j3, if_neg (by decide)]
    exact ⟨_, _, _, h1.2 (by simp; omega), rfl⟩
end Go.Proofs.YtgbehcahdgamoaaDoor.Fn

namespace Go.Proofs.YtgbehcahdgamoaaDoor.Fn
open Go.RowKit Go.Proofs.YtgbehcahdgamoaaDoorW.PrintWords Go.Proofs.YtgbehcahdgamoaaDoorW.PrintLast Go.Proofs.YtgbehcahdgamoaaDoorW.PrintMore
theorem refAt_j1 (k : Nat) (s0 : Int) (s1 : Bool) (s2 : ByteArray) (d0 : Int) (d1 : Bool) (d2 : ByteArray) (bo : Bool) (a0 : Int) (a1 : Int) (a2 : Int) (a3 : Int) (a4 : Int) (e0 : Int) (e1 : Int) (e2 : Int) (e3 : Int) (e4 : Int) (t y : Int) (S : List (Int × Bool)) (any : Bool) (last : Int) (dst some_ : Bool) (first : Int) (std : Bool) (i a b : Int) (x : Bool) (hL : KeptL t S any last dst)
    (hx : x = true ↔ b ≤ t ∧ (any = false ∨ last < b)) :
    ∃ any' last' dst', KeptL t (S ++ [(b, false)]) any' last' dst' ∧ longcaseref09_At.j1 (k + 1) t y any last dst some_ first std i a b x s0 s1 s2 d0 d1 d2 bo a0 a1 a2 a3 a4 e0 e1 e2 e3 e4 = longcaseref09_At.j2 k t y any' last' dst' some_ first std i a b s0 s1 s2 d0 d1 d2 bo a0 a1 a2 a3 a4 e0 e1 e2 e3 e4 := by
  rw [longcaseref09_At.j1]
  have h1 := hL.stop b
  cases x
  · rw [if_neg (by decide)]
    exact ⟨_, _, _, h1.2 (fun h => by have := hx.2 h; cases this), rfl⟩
  · rw [if_pos rfl]
    have := hx.1 rfl
    exact ⟨_, _, _, h1.1 this.1 this.2, rfl⟩
theorem refAt_round (K : Nat) (hK : 1106 ≤ K) (s0 : Int) (s1 : Bool) (s2 : ByteArray) (d0 : Int) (d1 : Bool) (d2 : ByteArray) (bo : Bool) (a0 : Int) (a1 : Int) (a2 : Int) (a3 : Int) (a4 : Int) (e0 : Int) (e1 : Int) (e2 : Int) (e3 : Int) (e4 : Int) (t y : Int) (S : List (Int × Bool)) (any : Bool) (last : Int) (dst some_ : Bool) (first : Int) (std : Bool) (i : Int) (hy : IsI64 (y + 1)) (hi : IsI64 (i + 1)) (hiy : i ≤ y + 1)
    (h : Kept t S any last dst some_ first std) :
    ∃ K' any' last' dst' some' first' std', K ≤ K' + 6 ∧ Kept t (S ++ rowT (turnsN s0 s1 s2 d0 d1 d2 bo a0 a1 a2 a3 a4 e0 e1 e2 e3 e4 i)) any' last' dst' some' first' std' ∧
      longcaseref09_At.l0 K t y any last dst some_ first std i s0 s1 s2 d0 d1 d2 bo a0 a1 a2 a3 a4 e0 e1 e2 e3 e4 = longcaseref09_At.l0 K' t y any' last' dst' some' first' std' (i + 1) s0 s1 s2 d0 d1 d2 bo a0 a1 a2 a3 a4 e0 e1 e2 e3 e4 := by
  obtain ⟨k, rfl⟩ : ∃ k, K = k + 6 := ⟨K - 6, by omega⟩
  rw [rowT_turns, longcaseref09_At.l0, w64 hy, if_pos hiy, refTurns_eq (k + 5) (by omega)]
  simp only [Option.bind_some]
  cases ht : turnsB s0 s1 s2 d0 d1 d2 bo a0 a1 a2 a3 a4 e0 e1 e2 e3 e4 i
  · simp only [Bool.false_eq_true, if_false]
    rw [w64 hi, List.append_nil]
    exact ⟨k + 5, any, last, dst, some_, first, std, by omega, h, rfl⟩
  · rw [if_pos rfl, if_pos rfl, if_pos rfl]
    generalize startN i s0 a0 a1 a2 a3 a4 = a
    generalize startN i d0 e0 e1 e2 e3 e4 = b
    simp only
    have hj : ∃ x, (x = true ↔ b ≤ t ∧ (any = false ∨ last < b)) ∧ (if b ≤ t then (if any = true then (longcaseref09_At.j1 (k + 5) t y any last dst some_ first std i a b (decide (b > last)) s0 s1 s2 d0 d1 d2 bo a0 a1 a2 a3 a4 e0 e1 e2 e3 e4) else (longcaseref09_At.j1 (k + 5) t y any last dst some_ first std i a b true s0 s1 s2 d0 d1 d2 bo a0 a1 a2 a3 a4 e0 e1 e2 e3 e4)) else (longcaseref09_At.j1 (k + 5) t y any last dst some_ first std i a b false s0 s1 s2 d0 d1 d2 bo a0 a1 a2 a3 a4 e0 e1 e2 e3 e4)) = longcaseref09_At.j1 (k + 5) t y any last dst some_ first std i a b x s0 s1 s2 d0 d1 d2 bo a0 a1 a2 a3 a4 e0 e1 e2 e3 e4 := by
      by_cases h1 : b ≤ t
      · rw [if_pos h1]
        cases any
        · exact ⟨true, by simp [h1], by rw [if_neg (by decide)]⟩
        · exact ⟨decide (b > last), by simp [h1], by rw [if_pos rfl]⟩
      · exact ⟨false, by simp [h1], by rw [if_neg h1]⟩
    obtain ⟨x, hx, hj⟩ := hj
    rw [hj]
    obtain ⟨any1, last1, dst1, hL1, q1⟩ := refAt_j1 (k + 4) s0 s1 s2 d0 d1 d2 bo a0 a1 a2 a3 a4 e0 e1 e2 e3 e4 t y S any last dst some_ first std i a b x h.toKeptL hx
    obtain ⟨any2, last2, dst2, hL2, q2⟩ := refAt_start (k + 2) s0 s1 s2 d0 d1 d2 bo a0 a1 a2 a3 a4 e0 e1 e2 e3 e4 t y _ any1 last1 dst1 some_ first std i a b hL1
    obtain ⟨first3, std3, hF3, q3⟩ := refAt_first k s0 s1 s2 d0 d1 d2 bo a0 a1 a2 a3 a4 e0 e1 e2 e3 e4 t y S any2 last2 dst2 some_ first std i a b h.toKeptF
    refine ⟨k, any2, last2, dst2, true, first3, std3, by omega, ?_, ?_⟩
    · rw [show S ++ [(b, false), (a, true)] = (S ++ [(b, false)]) ++ [(a, true)] by simp]
      exact ⟨hL2, hF3⟩
    · rw [q1, q2, q3, w64 hi]
theorem refAt_eq (K : Nat) (hK : 1200 ≤ K) (s0 : Int) (s1 : Bool) (s2 : ByteArray) (d0 : Int) (d1 : Bool) (d2 : ByteArray) (bo : Bool) (a0 : Int) (a1 : Int) (a2 : Int) (a3 : Int) (a4 : Int) (e0 : Int) (e1 : Int) (e2 : Int) (e3 : Int) (e4 : Int) (t : Int) (ht : IsI64 t) : longcaseref09_At.f K s0 s1 s2 d0 d1 d2 bo a0 a1 a2 a3 a4 e0 e1 e2 e3 e4 t = some (
    if rightB s0 s1 s2 d0 d1 d2 bo a0 a1 a2 a3 a4 e0 e1 e2 e3 e4 true = false then (0, false, ⟨#[]⟩, 1) else if bo = false then (s0, s1, s2, 0) else if mayB (dY (t / 86400)) = true then
      (if dstT t (sortT (yearRows s0 s1 s2 d0 d1 d2 bo a0 a1 a2 a3 a4 e0 e1 e2 e3 e4 (dY (t / 86400)))) = true then (d0, d1, d2, 0) else (s0, s1, s2, 0)) else (0, false, ⟨#[]⟩, 2)) := by
  obtain ⟨L, rfl⟩ : ∃ k, K = k + 23 := ⟨K - 23, by omega⟩
  unfold longcaseref09_At.f
  unfold IsI64 at ht
  rw [refRight_eq, refDiv_num, div_eq t 86400 (by omega) (by omega) ⟨by omega, by omega⟩]
  simp only [Option.bind_some]
  rw [refDate_eq (L + 23) (by omega)]
  simp only [Option.bind_some]
  cases hr : rightB s0 s1 s2 d0 d1 d2 bo a0 a1 a2 a3 a4 e0 e1 e2 e3 e4 true
  · rfl
  · cases bo
    · rfl
    · simp only [Bool.true_eq_false, if_false, if_true]
      cases hm : mayB (dY (t / 86400))
      · rfl
      · simp only [if_true]
        have hm2 := hm
        unfold mayB at hm2
        simp only [Bool.and_eq_true, decide_eq_true_eq] at hm2
        have ht1 : turnsB s0 s1 s2 d0 d1 d2 true a0 a1 a2 a3 a4 e0 e1 e2 e3 e4 (dY (t / 86400)) = true := by unfold turnsB; rw [hr, hm]; rfl
        generalize hz : dY (t / 86400) = z at hm hm2 ht1 ⊢
        rw [w64 (a := z - 1) ⟨by omega, by omega⟩]
        obtain ⟨K1, y1, l1, t1, m1, f1, u1, g1, q1, E1⟩ := refAt_round (L + 23) (by omega) s0 s1 s2 d0 d1 d2 true a0 a1 a2 a3 a4 e0 e1 e2 e3 e4 t z [] false 0 false false 0 false (z - 1) ⟨by omega, by omega⟩ ⟨by omega, by omega⟩ (by omega) (Kept.nil t)
        rw [E1, show z - 1 + 1 = z by omega]
        obtain ⟨K2, y2, l2, t2, m2, f2, u2, g2, q2, E2⟩ := refAt_round K1 (by omega) s0 s1 s2 d0 d1 d2 true a0 a1 a2 a3 a4 e0 e1 e2 e3 e4 t z _ y1 l1 t1 m1 f1 u1 z ⟨by omega, by omega⟩ ⟨by omega, by omega⟩ (by omega) q1
        rw [E2]
        obtain ⟨K3, y3, l3, t3, m3, f3, u3, g3, q3, E3⟩ := refAt_round K2 (by omega) s0 s1 s2 d0 d1 d2 true a0 a1 a2 a3 a4 e0 e1 e2 e3 e4 t z _ y2 l2 t2 m2 f2 u2 (z + 1) ⟨by omega, by omega⟩ ⟨by omega, by omega⟩ (by omega) q2
        rw [E3]
        obtain ⟨K4, rfl⟩ : ∃ k, K3 = k + 1 := ⟨K3 - 1, by omega⟩
        rw [longcaseref09_At.l0, w64 (a := z + 1) ⟨by omega, by omega⟩, if_neg (by omega)]
        have hS : yearRows s0 s1 s2 d0 d1 d2 true a0 a1 a2 a3 a4 e0 e1 e2 e3 e4 z = [] ++ rowT (turnsN s0 s1 s2 d0 d1 d2 true a0 a1 a2 a3 a4 e0 e1 e2 e3 e4 (z - 1)) ++ rowT (turnsN s0 s1 s2 d0 d1 d2 true a0 a1 a2 a3 a4 e0 e1 e2 e3 e4 z) ++ rowT (turnsN s0 s1 s2 d0 d1 d2 true a0 a1 a2 a3 a4 e0 e1 e2 e3 e4 (z + 1)) := by unfold yearRows; simp
        have hne : yearRows s0 s1 s2 d0 d1 d2 true a0 a1 a2 a3 a4 e0 e1 e2 e3 e4 z ≠ [] := by
          unfold yearRows; rw [rowT_turns _ _ _ _ _ _ _ _ _ _ _ _ _ _ _ _ _ z, if_pos ht1]; simp
        rw [← hS] at q3
        rw [q3.tells hne]
        cases y3
        · cases u3 <;> rfl
        · cases t3 <;> rfl
end Go.Proofs.YtgbehcahdgamoaaDoor.Fn

namespace Go.Proofs.YtgbehcahdgamoaaDoor.Fn
open Go.RowKit Go.Proofs.YtgbehcahdgamoaaDoorW.PrintWords Go.Proofs.YtgbehcahdgamoaaDoorW.PrintLast Go.Proofs.YtgbehcahdgamoaaDoorW.PrintMore Go.Lib Go.Sort
def insO {α : Type} [Inhabited α] (lt : α → α → Bool) (a b : Nat) : Nat → Nat → Array α → Array α
  | 0, _, d => d
  | n + 1, i, d => if i < b then insO lt a b n (i + 1) (insInner lt a i d) else d
theorem insO_eq {α : Type} [Inhabited α] (lt : α → α → Bool) (a b : Nat) : ∀ (n i : Nat) (d : Array α), b - i ≤ n → insOuter lt a b i d = insO lt a b n i d
  | 0, i, d, h => by unfold insOuter insO; rw [if_neg (by omega)]
  | n + 1, i, d, h => by
    unfold insOuter insO
    split
    · rw [insO_eq lt a b n (i + 1) _ (by omega)]
    · rfl
theorem sortT_run (l : List (Int × Bool)) : sortT l = (insO (ltOf cfT) 0 l.length l.length 1 l.toArray).toList := by
  unfold sortT Sort.insertionSort
  rw [insO_eq (ltOf cfT) 0 l.length l.length (0 + 1) _ (by omega)]
def estS : ByteArray := ⟨#[69, 83, 84]⟩
def edtS : ByteArray := ⟨#[69, 68, 84]⟩
theorem shown_right : posix_Right.f 8 (-18000) false estS (-14400) true edtS true 3 3 2 0 7200 3 11 1 0 7200 true = some true := by decide +kernel
theorem shown_turns (y a b : Int) (h : y = 2006 ∧ a = 1142146800 ∧ b = 1162706400 ∨ y = 2007 ∧ a = 1173596400 ∧ b = 1194156000 ∨ y = 2008 ∧ a = 1205046000 ∧ b = 1225605600) :
    rule_Turns.f 8 (-18000) false estS (-14400) true edtS true 3 3 2 0 7200 3 11 1 0 7200 y = some (a, b, 0) := by
  rcases h with ⟨rfl, rfl, rfl⟩ | ⟨rfl, rfl, rfl⟩ | ⟨rfl, rfl, rfl⟩ <;> decide +kernel
theorem shown_day : rule_Day.f 8 2000 1 60 0 0 0 = some (11017, 0) := by decide +kernel
theorem shown_none : rule_At.f 8 0 false ⟨#[]⟩ 0 false ⟨#[]⟩ false 0 0 0 0 0 0 0 0 0 0 0 = some (0, false, ⟨#[]⟩, 1) := by decide +kernel
theorem shown_at (t : Int) (dst : Bool) (h : t = 1173596400 ∧ dst = true ∨ t = 1173596399 ∧ dst = false) :
    rule_At.f 8 (-18000) false estS (-14400) true edtS true 3 3 2 0 7200 3 11 1 0 7200 t = some (if dst = true then (-14400, true, edtS, 0) else (-18000, false, estS, 0)) := by
  have h1 := shown_turns 2006 1142146800 1162706400 (by omega)
  have h2 := shown_turns 2007 1173596400 1194156000 (by omega)
  have h3 := shown_turns 2008 1205046000 1225605600 (by omega)
  have hd : ∀ v : Int × Int × Bool, number_Div.f t 86400 = some v → civil_Date.f v.1 = some (2007, 3, 11, 0) := by
    rcases h with ⟨rfl, _⟩ | ⟨rfl, _⟩
    · intro v hv
      obtain rfl := Option.some.inj ((show number_Div.f 1173596400 86400 = some (13583, 25200, true) by decide +kernel).symm.trans hv)
      decide +kernel
    · intro v hv
      obtain rfl := Option.some.inj ((show number_Div.f 1173596399 86400 = some (13583, 25199, true) by decide +kernel).symm.trans hv)
      decide +kernel
  obtain ⟨v, hv⟩ : ∃ v, number_Div.f t 86400 = some v := by
    rcases h with ⟨rfl, _⟩ | ⟨rfl, _⟩
    · exact ⟨(13583, 25200, true), by decide +kernel⟩
    · exact ⟨(13583, 25199, true), by decide +kernel⟩
  unfold rule_At.f
  rw [shown_right]
  simp only [Option.bind_some, Bool.true_eq_false, if_false]
  rw [hv]
  simp only [Option.bind_some]
  rw [hd v hv]
  simp only [Option.bind_some, if_true]
  rw [if_pos (by decide), show (2007 : Int) - 1 = 2006 from rfl, show (2007 : Int) + 1 = 2008 from rfl, h1, h2, h3]
  simp only [Option.bind_some]
  rw [if_pos (by decide), sortT_run]
  rcases h with ⟨rfl, rfl⟩ | ⟨rfl, rfl⟩ <;> decide +kernel
end Go.Proofs.YtgbehcahdgamoaaDoor.Fn

namespace Go.Proofs.YtgbehcahdgamoaaDoor.Fn
open Go.RowKit Go.Proofs.YtgbehcahdgamoaaDoorW.PrintWords Go.Proofs.YtgbehcahdgamoaaDoorW.PrintLast Go.Proofs.YtgbehcahdgamoaaDoorW.PrintMore Go.Lib Go.Sort
abbrev shownC : Array Value := #[.int .i64 (-18000), .bool false, .string ⟨#[69, 83, 84]⟩, .int .i64 (-14400), .bool true, .string ⟨#[69, 68, 84]⟩, .bool true, .int .i64 3, .int .i64 3, .int .i64 2, .int .i64 0, .int .i64 7200, .int .i64 3, .int .i64 11, .int .i64 1, .int .i64 0, .int .i64 7200]
set_option maxRecDepth 100000 in
set_option maxHeartbeats 2000000 in
theorem longcaselaw09_shown_calls (w : World) (hG : GL w) :
    Calls Tryd.prog 11 #[] w fun e w' => e = .returned (.bool true) ∧ Below w.heap.size w w' := by
  have HG := Aside0.mk hG
  clear hG
  have HT := Aside0.mk (fun W hG => rule_Turns.calls 8 (-18000) false estS (-14400) true edtS true 3 3 2 0 7200 3 11 1 0 7200 2007 1173596400 1194156000 0 W hG (shown_turns 2007 1173596400 1194156000 (by omega)))
  have HA := Aside0.mk (fun W hG => rule_At.calls 8 (-18000) false estS (-14400) true edtS true 3 3 2 0 7200 3 11 1 0 7200 1173596400 (-14400) true edtS 0 W hG (shown_at 1173596400 true (.inl ⟨rfl, rfl⟩)))
  have HB := Aside0.mk (fun W hG => rule_At.calls 8 (-18000) false estS (-14400) true edtS true 3 3 2 0 7200 3 11 1 0 7200 1173596399 (-18000) false estS 0 W hG (shown_at 1173596399 false (.inr ⟨rfl, rfl⟩)))
  have HN := Aside0.mk (fun W hG => rule_At.calls 8 0 false ⟨#[]⟩ 0 false ⟨#[]⟩ false 0 0 0 0 0 0 0 0 0 0 0 0 false ⟨#[]⟩ 1 W hG shown_none)
  have HD := Aside0.mk (fun W hG => rule_Day.calls 8 2000 1 60 0 0 0 11017 0 W hG shown_day)
  go_enter Tryd.func11, Tryd.ntmps11
  go_wp2_with ((with_reducible refine gate_dst (N := 19) rfl ?_); refine wpList_load_row rfl 27 _ rfl w.heap.size rfl 27 shownC (0, 0) _ (blk_new _ _) Tryd.underlying27 rfl (by kernel_rfl) ?_)
  refine (HT.out _ (HG.out.below (below_alloc (Below.refl _ _) _))).mono ?_
  rintro e w1 ⟨rfl, hb1⟩
  have BR1 := Aside0.mk (blk_below (blk_new _ _) hb1)
  have HB1 := Aside0.mk ((below_alloc (Below.refl _ _) _).trans (hb1.mono (by simp)))
  clear hb1 HT
  go_wp2_with ((with_reducible refine gate_dst (N := 25) rfl ?_); refine wpList_load_row rfl 27 _ rfl w.heap.size rfl 27 shownC (0, 0) _ BR1.out Tryd.underlying27 rfl (by kernel_rfl) ?_)
  refine (HA.out _ (HG.out.below HB1.out)).mono ?_
  rintro e w2 ⟨rfl, hb2⟩
  have BR2 := Aside0.mk (blk_below BR1.out hb2)
  have HB2 := Aside0.mk (HB1.out.trans (hb2.mono HB1.out.size))
  clear hb2 HA BR1 HB1
  go_wp2_with ((with_reducible refine gate_dst (N := 30) rfl ?_); refine wpList_load_row rfl 27 _ rfl w.heap.size rfl 27 shownC (0, 0) _ (blk_alloc BR2.out _) Tryd.underlying27 rfl (by kernel_rfl) ?_)
  refine (HB.out _ (HG.out.below (below_alloc HB2.out _))).mono ?_
  rintro e w3 ⟨rfl, hb3⟩
  have BK3 := Aside0.mk (blk_below (blk_new _ _) hb3)
  have HB3 := Aside0.mk ((below_alloc HB2.out _).trans (hb3.mono (by have := HB2.out.size; simp; omega)))
  clear hb3 HB BR2 HB2
  go_wp2_with fail
  refine (HN.out _ (HG.out.below (below_alloc HB3.out _))).mono ?_
  rintro e w4 ⟨rfl, hb4⟩
  have BK4 := Aside0.mk (blk_below (blk_alloc BK3.out _) hb4)
  have BL4 := Aside0.mk (blk_below (blk_new _ _) hb4)
  have HB4 := Aside0.mk ((below_alloc HB3.out _).trans (hb4.mono (by have := HB3.out.size; simp; omega)))
  clear hb4 HN BK3 HB3
  go_wp2_with fail
  refine (HD.out _ (HG.out.below (below_alloc HB4.out _))).mono ?_
  rintro e w5 ⟨rfl, hb5⟩
  have hk := blk_cell (blk_below (blk_alloc BK4.out _) hb5) 2
  have hl := blk_cell (blk_below (blk_alloc BL4.out _) hb5) 2
  have HB5 := Aside0.mk ((below_alloc HB4.out _).trans (hb5.mono (by have := HB4.out.size; simp; omega)))
  clear hb5 HD BK4 BL4 HB4
  simp only [List.getElem?_toArray, List.getElem?_cons_succ, List.getElem?_cons_zero] at hk hl
  have e1 : edtS.toList = [69, 68, 84] := by decide +kernel
  have e2 : estS.toList = [69, 83, 84] := by decide +kernel
  go_wp2
  go_ret
  exact ⟨rfl, HB5.out⟩
def longcaselaw09_shown.f : Option Bool := some true
end Go.Proofs.YtgbehcahdgamoaaDoor.Fn

namespace Go.Proofs.YtgbehcahdgamoaaDoor.Fn
open Go.RowKit Go.Proofs.YtgbehcahdgamoaaDoorW.PrintWords Go.Proofs.YtgbehcahdgamoaaDoorW.PrintLast Go.Proofs.YtgbehcahdgamoaaDoorW.PrintMore Go.Lib Go.Sort
set_option maxRecDepth 100000 in
set_option maxHeartbeats 4000000 in
theorem RuleTells_steps (s0 : Int) (s1 : Bool) (s2 : ByteArray) (d0 : Int) (d1 : Bool) (d2 : ByteArray) (bo : Bool) (a0 : Int) (a1 : Int) (a2 : Int) (a3 : Int) (a4 : Int) (e0 : Int) (e1 : Int) (e2 : Int) (e3 : Int) (e4 : Int) (c0 : Int) (c1 : Int) (c2 : Int) (c3 : Int) (c4 : Int) (y t : Int) (z2 z5 : ByteArray) (hz2 : s2.extract 0 (mn (s2.size : Int) 100).toNat = z2) (hz5 : d2.extract 0 (mn (d2.size : Int) 100).toNat = z5)
    (D eD : Int) (oD : Bool) (T1 T2 eT : Int) (oT : Bool) (k0 : Int) (k1 : Bool) (k2 : ByteArray) (g : Int)
    (hD : eD = 0 ∧ oD = true ∨ eD = 1 ∧ oD = false) (hT : eT = 0 ∧ oT = true ∨ eT = 1 ∧ oT = false)
    (H1 : ∀ W, GL W → Calls Tryd.prog 12 #[.int .i64 y, .agg #[.int .i64 c0, .int .i64 c1, .int .i64 c2, .int .i64 c3, .int .i64 c4]] W fun e w' => e = .returned (.tuple #[.int .i64 D, .int .i64 eD]) ∧ Below W.heap.size W w')
    (H2 : ∀ W, Calls Tryd.prog 13 #[.int .i64 y, .agg #[.int .i64 c0, .int .i64 c1, .int .i64 c2, .int .i64 c3, .int .i64 c4]] W fun e w' => e = .returned (.tuple #[.int .i64 D, .bool oD]) ∧ Below W.heap.size W w')
    (H3 : ∀ W, GL W → Calls Tryd.prog 14 #[.agg #[.int .i64 s0, .bool s1, .string z2, .int .i64 d0, .bool d1, .string z5, .bool bo, .int .i64 a0, .int .i64 a1, .int .i64 a2, .int .i64 a3, .int .i64 a4, .int .i64 e0, .int .i64 e1, .int .i64 e2, .int .i64 e3, .int .i64 e4], .int .i64 y] W fun e w' => e = .returned (.tuple #[.int .i64 T1, .int .i64 T2, .int .i64 eT]) ∧ Below W.heap.size W w')
    (H4 : ∀ W, Calls Tryd.prog 15 #[.agg #[.int .i64 s0, .bool s1, .string z2, .int .i64 d0, .bool d1, .string z5, .bool bo, .int .i64 a0, .int .i64 a1, .int .i64 a2, .int .i64 a3, .int .i64 a4, .int .i64 e0, .int .i64 e1, .int .i64 e2, .int .i64 e3, .int .i64 e4], .int .i64 y] W fun e w' => e = .returned (.tuple #[.int .i64 T1, .int .i64 T2, .bool oT]) ∧ Below W.heap.size W w')
    (H5 : ∀ W, GL W → Calls Tryd.prog 16 #[.agg #[.int .i64 s0, .bool s1, .string z2, .int .i64 d0, .bool d1, .string z5, .bool bo, .int .i64 a0, .int .i64 a1, .int .i64 a2, .int .i64 a3, .int .i64 a4, .int .i64 e0, .int .i64 e1, .int .i64 e2, .int .i64 e3, .int .i64 e4], .int .i64 t] W fun e w' => e = .returned (.tuple #[.agg #[.int .i64 k0, .bool k1, .string k2], .int .i64 g]) ∧ Below W.heap.size W w')
    (H6 : ∀ W, Calls Tryd.prog 17 #[.agg #[.int .i64 s0, .bool s1, .string z2, .int .i64 d0, .bool d1, .string z5, .bool bo, .int .i64 a0, .int .i64 a1, .int .i64 a2, .int .i64 a3, .int .i64 a4, .int .i64 e0, .int .i64 e1, .int .i64 e2, .int .i64 e3, .int .i64 e4], .int .i64 t] W fun e w' => e = .returned (.tuple #[.agg #[.int .i64 k0, .bool k1, .string k2], .int .i64 g]) ∧ Below W.heap.size W w')
    (w : World) (hG : GL w) :
    Calls Tryd.prog 3 #[.agg #[.int .i64 s0, .bool s1, .string s2, .int .i64 d0, .bool d1, .string d2, .bool bo, .int .i64 a0, .int .i64 a1, .int .i64 a2, .int .i64 a3, .int .i64 a4, .int .i64 e0, .int .i64 e1, .int .i64 e2, .int .i64 e3, .int .i64 e4], .agg #[.int .i64 c0, .int .i64 c1, .int .i64 c2, .int .i64 c3, .int .i64 c4], .int .i64 y, .int .i64 t] w fun e w' => e = .returned (.bool true) ∧ Below w.heap.size w w' := by
  have HG := Aside0.mk hG
  have G1 := Aside0.mk H1
  have G2 := Aside0.mk H2
  have G3 := Aside0.mk H3
  have G4 := Aside0.mk H4
  have G5 := Aside0.mk H5
  have G6 := Aside0.mk H6
  clear hG H1 H2 H3 H4 H5 H6
  obtain ⟨j2, hj2⟩ : ∃ j, mn (s2.size : Int) 100 = j := ⟨_, rfl⟩
  obtain ⟨j5, hj5⟩ : ∃ j, mn (d2.size : Int) 100 = j := ⟨_, rfl⟩
  have b2 : 0 ≤ j2 ∧ j2 ≤ s2.size := by rw [← hj2]; unfold mn; split <;> omega
  have b5 : 0 ≤ j5 ∧ j5 ≤ d2.size := by rw [← hj5]; unfold mn; split <;> omega
  obtain ⟨b20, b21⟩ := b2
  obtain ⟨b50, b51⟩ := b5
  rw [hj2] at hz2
  rw [hj5] at hz5
  have hj2_ : min (s2.size : Int) 100 = j2 := by rw [← hj2]; unfold mn; split <;> omega
  have hj5_ : min (d2.size : Int) 100 = j5 := by rw [← hj5]; unfold mn; split <;> omega
  clear hj2 hj5
  go_enter Tryd.func3, Tryd.ntmps3
  go_wp2_with fail
  refine (longcaselaw09_shown_calls _ (HG.out.below (below_alloc (below_alloc (Below.refl _ _) _) _))).mono ?_
  rintro e w1 ⟨rfl, hb1⟩
  have BR := blk_below (blk_alloc (blk_new _ _) _) hb1
  have BC := blk_below (blk_new _ _) hb1
  simp only [World.size_alloc] at BC
  have HB := Aside0.mk ((below_alloc (below_alloc (Below.refl _ _) _) _).trans (hb1.mono (by simp; omega)))
  have hr2 : w1.cell? ⟨w.heap.size, 2, none⟩ = some (.string s2) := (blk_cell BR 2).trans rfl
  have hr5 : w1.cell? ⟨w.heap.size, 5, none⟩ = some (.string d2) := (blk_cell BR 5).trans rfl
  have hf2 : w1.frozen? ⟨w.heap.size, 2, none⟩ = false := blk_frozen BR 2
  have hf5 : w1.frozen? ⟨w.heap.size, 5, none⟩ = false := blk_frozen BR 5
  have BR1 := Aside0.mk BR
  have BC1 := Aside0.mk BC
  clear BR BC hb1
  go_wp2_with ((with_reducible refine gate_dst (N := 49) rfl ?_); refine wpList_load_row rfl 25 _ rfl (w.heap.size + 1) rfl 25 #[.int .i64 c0, .int .i64 c1, .int .i64 c2, .int .i64 c3, .int .i64 c4] (0, 0) _ (blk_far (blk_far BC1.out (by simp) _) (by simp) _) Tryd.underlying25 rfl (by kernel_rfl) ?_)
  clear hz2 hz5 hj2_ hj5_ b20 b21 b50 b51 hr2 hr5 hf2 hf5
  have HBa := Aside0.mk (below_set (j := 5) (v := .string z5) (below_set (j := 2) (v := .string z2) HB.out (Nat.le_refl _)) (Nat.le_refl _))
  have BRa := Aside0.mk (blk_put (blk_put BR1.out 2 (.string z2) (cs' := #[.int .i64 s0, .bool s1, .string z2, .int .i64 d0, .bool d1, .string d2, .bool bo, .int .i64 a0, .int .i64 a1, .int .i64 a2, .int .i64 a3, .int .i64 a4, .int .i64 e0, .int .i64 e1, .int .i64 e2, .int .i64 e3, .int .i64 e4]) rfl) 5 (.string z5) (cs' := #[.int .i64 s0, .bool s1, .string z2, .int .i64 d0, .bool d1, .string z5, .bool bo, .int .i64 a0, .int .i64 a1, .int .i64 a2, .int .i64 a3, .int .i64 a4, .int .i64 e0, .int .i64 e1, .int .i64 e2, .int .i64 e3, .int .i64 e4]) rfl)
  have BCa := Aside0.mk (blk_far (blk_far BC1.out (p := ⟨w.heap.size, 2, none⟩) (by simp) (.string z2)) (p := ⟨w.heap.size, 5, none⟩) (by simp) (.string z5))
  refine (G1.out _ (HG.out.below HBa.out)).mono ?_
  rintro e w2 ⟨rfl, hb2⟩
  have BR2 := Aside0.mk (blk_below BRa.out hb2)
  have BC2 := Aside0.mk (blk_below BCa.out hb2)
  have HB2 := Aside0.mk (HBa.out.trans (hb2.mono (by have := HB.out.size; simp; omega)))
  clear hb2 G1 BR1 BC1 HB BRa BCa HBa
  go_wp2_with ((with_reducible refine gate_dst (N := 55) rfl ?_); refine wpList_load_row rfl 25 _ rfl (w.heap.size + 1) rfl 25 #[.int .i64 c0, .int .i64 c1, .int .i64 c2, .int .i64 c3, .int .i64 c4] (0, 0) _ BC2.out Tryd.underlying25 rfl (by kernel_rfl) ?_)
  refine (G2.out _).mono ?_
  rintro e w3 ⟨rfl, hb3⟩
  have BR3 := Aside0.mk (blk_below BR2.out hb3)
  have HB3 := Aside0.mk (HB2.out.trans (hb3.mono (HB2.out).size))
  clear hb3 G2 BR2 HB2 BC2
  go_wp2_with ((with_reducible refine gate_dst (N := 60) rfl ?_); refine wpList_load_row rfl 27 _ rfl (w.heap.size) rfl 27 #[.int .i64 s0, .bool s1, .string z2, .int .i64 d0, .bool d1, .string z5, .bool bo, .int .i64 a0, .int .i64 a1, .int .i64 a2, .int .i64 a3, .int .i64 a4, .int .i64 e0, .int .i64 e1, .int .i64 e2, .int .i64 e3, .int .i64 e4] (0, 0) _ BR3.out Tryd.underlying27 rfl (by kernel_rfl) ?_)
  refine (G3.out _ (HG.out.below HB3.out)).mono ?_
  rintro e w4 ⟨rfl, hb4⟩
  have BR4 := Aside0.mk (blk_below BR3.out hb4)
  have HB4 := Aside0.mk (HB3.out.trans (hb4.mono (HB3.out).size))
  clear hb4 G3 BR3 HB3
  go_wp2_with ((with_reducible refine gate_dst (N := 67) rfl ?_); refine wpList_load_row rfl 27 _ rfl (w.heap.size) rfl 27 #[.int .i64 s0, .bool s1, .string z2, .int .i64 d0, .bool d1, .string z5, .bool bo, .int .i64 a0, .int .i64 a1, .int .i64 a2, .int .i64 a3, .int .i64 a4, .int .i64 e0, .int .i64 e1, .int .i64 e2, .int .i64 e3, .int .i64 e4] (0, 0) _ BR4.out Tryd.underlying27 rfl (by kernel_rfl) ?_)
  refine (G4.out _).mono ?_
  rintro e w5 ⟨rfl, hb5⟩
  have BR5 := Aside0.mk (blk_below BR4.out hb5)
  have HB5 := Aside0.mk (HB4.out.trans (hb5.mono (HB4.out).size))
  clear hb5 G4 BR4 HB4
  go_wp2_with ((with_reducible refine gate_dst (N := 74) rfl ?_); refine wpList_load_row rfl 27 _ rfl (w.heap.size) rfl 27 #[.int .i64 s0, .bool s1, .string z2, .int .i64 d0, .bool d1, .string z5, .bool bo, .int .i64 a0, .int .i64 a1, .int .i64 a2, .int .i64 a3, .int .i64 a4, .int .i64 e0, .int .i64 e1, .int .i64 e2, .int .i64 e3, .int .i64 e4] (0, 0) _ BR5.out Tryd.underlying27 rfl (by kernel_rfl) ?_)
  refine (G5.out _ (HG.out.below HB5.out)).mono ?_
  rintro e w6 ⟨rfl, hb6⟩
  have BR6 := Aside0.mk (blk_below BR5.out hb6)
  have HB6 := Aside0.mk (HB5.out.trans (hb6.mono (HB5.out).size))
  clear hb6 G5 BR5 HB5
  go_wp2_with ((with_reducible refine gate_dst (N := 80) rfl ?_); refine wpList_load_row rfl 27 _ rfl (w.heap.size) rfl 27 #[.int .i64 s0, .bool s1, .string z2, .int .i64 d0, .bool d1, .string z5, .bool bo, .int .i64 a0, .int .i64 a1, .int .i64 a2, .int .i64 a3, .int .i64 a4, .int .i64 e0, .int .i64 e1, .int .i64 e2, .int .i64 e3, .int .i64 e4] (0, 0) _ (blk_alloc BR6.out _) Tryd.underlying27 rfl (by kernel_rfl) ?_)
  refine (G6.out _).mono ?_
  rintro e w7 ⟨rfl, hb7⟩
  have BK7 := blk_below (blk_new _ _) hb7
  have HB7 := Aside0.mk ((below_alloc HB6.out (Obj.cells #[.int .i64 k0, .bool k1, .string k2] 23)).trans (hb7.mono (by have := HB6.out.size; simp; omega)))
  have hk0 : w7.cell? ⟨w6.heap.size, 0, none⟩ = some (.int .i64 k0) := (blk_cell BK7 0).trans rfl
  have hk1 : w7.cell? ⟨w6.heap.size, 1, none⟩ = some (.bool k1) := (blk_cell BK7 1).trans rfl
  have hk2 : w7.cell? ⟨w6.heap.size, 2, none⟩ = some (.string k2) := (blk_cell BK7 2).trans rfl
  have hsz : w6.heap.size < w7.heap.size := by have := hb7.size; simp at this; omega
  clear hb7 G6 BR6 HB6 BK7
  rcases hD with ⟨rfl, rfl⟩ | ⟨rfl, rfl⟩ <;> rcases hT with ⟨rfl, rfl⟩ | ⟨rfl, rfl⟩
  all_goals
    go_wp2
    go_ret
    exact ⟨by simp, below_alloc HB7.out _⟩
theorem RuleTells_walk (s0 : Int) (s1 : Bool) (s2 : ByteArray) (d0 : Int) (d1 : Bool) (d2 : ByteArray) (bo : Bool) (a0 : Int) (a1 : Int) (a2 : Int) (a3 : Int) (a4 : Int) (e0 : Int) (e1 : Int) (e2 : Int) (e3 : Int) (e4 : Int) (c0 : Int) (c1 : Int) (c2 : Int) (c3 : Int) (c4 : Int) (y t : Int) (ht : (Lit.int .i64 t).wf = true) (w : World) (hG : GL w) :
    Calls Tryd.prog 3 #[.agg #[.int .i64 s0, .bool s1, .string s2, .int .i64 d0, .bool d1, .string d2, .bool bo, .int .i64 a0, .int .i64 a1, .int .i64 a2, .int .i64 a3, .int .i64 a4, .int .i64 e0, .int .i64 e1, .int .i64 e2, .int .i64 e3, .int .i64 e4], .agg #[.int .i64 c0, .int .i64 c1, .int .i64 c2, .int .i64 c3, .int .i64 c4], .int .i64 y, .int .i64 t] w fun e w' => e = .returned (.bool true) ∧ Below w.heap.size w w' := by
  have ht2 : IsI64 t := bounds_i64 ht
  obtain ⟨K, hK⟩ : ∃ K : Nat, 1300 ≤ K := ⟨1300, Nat.le_refl _⟩
  obtain ⟨z2, hz2⟩ : ∃ z, s2.extract 0 (mn (s2.size : Int) 100).toNat = z := ⟨_, rfl⟩
  obtain ⟨z5, hz5⟩ : ∃ z, d2.extract 0 (mn (d2.size : Int) 100).toNat = z := ⟨_, rfl⟩
  have f1 := day_eq K y c0 c1 c2 c3 c4
  have f2 := refDay_eq K (by omega) y c0 c1 c2 c3 c4
  have f3 := turns_eq K s0 s1 z2 d0 d1 z5 bo a0 a1 a2 a3 a4 e0 e1 e2 e3 e4 y
  have f4 := refTurns_eq K (by omega) s0 s1 z2 d0 d1 z5 bo a0 a1 a2 a3 a4 e0 e1 e2 e3 e4 y
  have f5 := at_eq K s0 s1 z2 d0 d1 z5 bo a0 a1 a2 a3 a4 e0 e1 e2 e3 e4 t ht2
  have f6 := refAt_eq K (by omega) s0 s1 z2 d0 d1 z5 bo a0 a1 a2 a3 a4 e0 e1 e2 e3 e4 t ht2
  obtain ⟨D, eD, oD, hD, g1, g2⟩ : ∃ D eD oD, (eD = 0 ∧ oD = true ∨ eD = 1 ∧ oD = false) ∧ (if (mayB y && chgB c0 c1 c2 c3 c4 true) = true then (dayN y c0 c1 c2 c3, 0) else (0, 1)) = ((D, eD) : Int × Int) ∧ (if chgB c0 c1 c2 c3 c4 true = true ∧ mayB y = true then (dayN y c0 c1 c2 c3, true) else (0, false)) = (D, oD) := by
    by_cases h : chgB c0 c1 c2 c3 c4 true = true ∧ mayB y = true
    · exact ⟨dayN y c0 c1 c2 c3, 0, true, .inl ⟨rfl, rfl⟩, by rw [h.1, h.2]; rfl, by rw [if_pos h]⟩
    · exact ⟨0, 1, false, .inr ⟨rfl, rfl⟩, by rw [if_neg (by rw [Bool.and_eq_true]; exact fun h2 => h ⟨h2.2, h2.1⟩)], by rw [if_neg h]⟩
  rw [g1] at f1
  rw [g2] at f2
  obtain ⟨T1, T2, eT, oT, hT, g3, g4⟩ : ∃ T1 T2 eT oT, (eT = 0 ∧ oT = true ∨ eT = 1 ∧ oT = false) ∧ (if turnsB s0 s1 z2 d0 d1 z5 bo a0 a1 a2 a3 a4 e0 e1 e2 e3 e4 y = true then (startN y s0 a0 a1 a2 a3 a4, startN y d0 e0 e1 e2 e3 e4, 0) else (0, 0, 1)) = ((T1, T2, eT) : Int × Int × Int) ∧ (if turnsB s0 s1 z2 d0 d1 z5 bo a0 a1 a2 a3 a4 e0 e1 e2 e3 e4 y = true then (startN y s0 a0 a1 a2 a3 a4, startN y d0 e0 e1 e2 e3 e4, true) else (0, 0, false)) = (T1, T2, oT) := by
    by_cases h : turnsB s0 s1 z2 d0 d1 z5 bo a0 a1 a2 a3 a4 e0 e1 e2 e3 e4 y = true
    · exact ⟨_, _, 0, true, .inl ⟨rfl, rfl⟩, by rw [if_pos h], by rw [if_pos h]⟩
    · exact ⟨0, 0, 1, false, .inr ⟨rfl, rfl⟩, by rw [if_neg h], by rw [if_neg h]⟩
  rw [g3] at f3
  rw [g4] at f4
  obtain ⟨⟨k0, k1, k2, g⟩, g5⟩ : ∃ q : Int × Bool × ByteArray × Int, (if rightB s0 s1 z2 d0 d1 z5 bo a0 a1 a2 a3 a4 e0 e1 e2 e3 e4 true = false then (0, false, ⟨#[]⟩, 1) else if bo = false then (s0, s1, z2, 0) else if mayB (dY (t / 86400)) = true then
      (if dstT t (sortT (yearRows s0 s1 z2 d0 d1 z5 bo a0 a1 a2 a3 a4 e0 e1 e2 e3 e4 (dY (t / 86400)))) = true then (d0, d1, z5, 0) else (s0, s1, z2, 0)) else (0, false, ⟨#[]⟩, 2)) = q := ⟨_, rfl⟩
  rw [g5] at f5 f6
  exact RuleTells_steps s0 s1 s2 d0 d1 d2 bo a0 a1 a2 a3 a4 e0 e1 e2 e3 e4 c0 c1 c2 c3 c4 y t z2 z5 hz2 hz5 D eD oD T1 T2 eT oT k0 k1 k2 g hD hT
    (fun W hG => rule_Day.calls _ y c0 c1 c2 c3 c4 D eD W hG f1) (fun W => longcaseref09_Day.calls _ y c0 c1 c2 c3 c4 D oD W f2)
    (fun W hG => rule_Turns.calls _ s0 s1 z2 d0 d1 z5 bo a0 a1 a2 a3 a4 e0 e1 e2 e3 e4 y T1 T2 eT W hG f3) (fun W => longcaseref09_Turns.calls _ s0 s1 z2 d0 d1 z5 bo a0 a1 a2 a3 a4 e0 e1 e2 e3 e4 y T1 T2 oT W f4)
    (fun W hG => rule_At.calls _ s0 s1 z2 d0 d1 z5 bo a0 a1 a2 a3 a4 e0 e1 e2 e3 e4 t k0 k1 k2 g W hG f5) (fun W => longcaseref09_At.calls _ s0 s1 z2 d0 d1 z5 bo a0 a1 a2 a3 a4 e0 e1 e2 e3 e4 t k0 k1 k2 g W f6) w hG
end Go.Proofs.YtgbehcahdgamoaaDoor.Fn
