/- Part 6 of the texts for KTR: contracts and plain laws that it leans on. -/
import Derived.Test.YtnbjneknicppcaaDoorKR2
import Derived.Test.YtnbjneknicppcaaDoorKR5
import Derived.Test.YtnbjneknicppcaaDoorKR3
namespace Go.Proofs.YtnbjneknicppcaaDoor.Fn
open Go.RowKit Go.Proofs.YtnbjneknicppcaaDoorW.PrintWords Go.Proofs.YtnbjneknicppcaaDoorW.PrintLast Go.Proofs.YtnbjneknicppcaaDoorW.PrintMore
attribute [local go_sem] max2_int min2_int max_two min_two max_three min_three max_four min_four
set_option linter.unusedVariables false
set_option linter.unusedSimpArgs false
attribute [local go_sem high] eqA23 eqA25
/-! ### longcaseref08_Right: function 14 -/
def longcaseref08_Right.j0 : Nat → Bool → Bool → Int → Bool → ByteArray → Int → Bool → ByteArray → Bool → Int → Int → Int → Int → Int → Int → Int → Int → Int → Int → Option (Bool)
  | 0, _, _, _, _, _, _, _, _, _, _, _, _, _, _, _, _, _, _, _ => none
  | k + 1, x1, x21, x182000, x182001, x182002, x182003, x182004, x182005, x182006, x182007, x182008, x182009, x182010, x182011, x182012, x182013, x182014, x182015, x182016 => if x21 = true then (some false) else (if x182006 = true then (if x182004 = true then ((longcaseref08_name.f k x182005).bind fun t184 => (if t184 = true then ((longcaseref08_off.f x182003).bind fun t185 => (if t185 = true then ((longcaseref08_Change.f k x182007 x182008 x182009 x182010 x182011 x1).bind fun t186 => (if t186 = true then ((longcaseref08_Change.f k x182012 x182013 x182014 x182015 x182016 x1).bind fun t187 => (some t187)) else (some false))) else (some false))) else (some false))) else (some false)) else (if (x182003 == 0 && (!x182004 && (x182005.toList.isEmpty))) = true then (if (x182007 == 0 && (x182008 == 0 && (x182009 == 0 && (x182010 == 0 && (x182011 == 0))))) = true then (some (x182012 == 0 && (x182013 == 0 && (x182014 == 0 && (x182015 == 0 && (x182016 == 0)))))) else (some false)) else (some false)))
def longcaseref08_Right.f (k : Nat) (a0_0 : Int) (a0_1 : Bool) (a0_2 : ByteArray) (a0_3 : Int) (a0_4 : Bool) (a0_5 : ByteArray) (a0_6 : Bool) (a0_7 : Int) (a0_8 : Int) (a0_9 : Int) (a0_10 : Int) (a0_11 : Int) (a0_12 : Int) (a0_13 : Int) (a0_14 : Int) (a0_15 : Int) (a0_16 : Int) (a1 : Bool) : Option (Bool) := if a0_1 = true then (longcaseref08_Right.j0 k a1 true a0_0 a0_1 a0_2 a0_3 a0_4 a0_5 a0_6 a0_7 a0_8 a0_9 a0_10 a0_11 a0_12 a0_13 a0_14 a0_15 a0_16) else ((longcaseref08_name.f k a0_2).bind fun t182 => (if t182 = true then ((longcaseref08_off.f a0_0).bind fun t183 => (longcaseref08_Right.j0 k a1 (!t183) a0_0 a0_1 a0_2 a0_3 a0_4 a0_5 a0_6 a0_7 a0_8 a0_9 a0_10 a0_11 a0_12 a0_13 a0_14 a0_15 a0_16)) else (longcaseref08_Right.j0 k a1 true a0_0 a0_1 a0_2 a0_3 a0_4 a0_5 a0_6 a0_7 a0_8 a0_9 a0_10 a0_11 a0_12 a0_13 a0_14 a0_15 a0_16)))
theorem longcaseref08_Right.mono_l : ∀ k, (∀ y0 y1 y2 y3 y4 y5 y6 y7 y8 y9 y10 y11 y12 y13 y14 y15 y16 y17 y18, LeO (longcaseref08_Right.j0 k y0 y1 y2 y3 y4 y5 y6 y7 y8 y9 y10 y11 y12 y13 y14 y15 y16 y17 y18) (longcaseref08_Right.j0 (k + 1) y0 y1 y2 y3 y4 y5 y6 y7 y8 y9 y10 y11 y12 y13 y14 y15 y16 y17 y18))
  | 0 => fun _ _ _ _ _ _ _ _ _ _ _ _ _ _ _ _ _ _ _ r h => by simp [longcaseref08_Right.j0] at h
  | k + 1 => by
    have ih0 := longcaseref08_Right.mono_l k
    · intro y0 y1 y2 y3 y4 y5 y6 y7 y8 y9 y10 y11 y12 y13 y14 y15 y16 y17 y18
      unfold longcaseref08_Right.j0
      repeat' first
      | (with_reducible exact ih0 _ _ _ _ _ _ _ _ _ _ _ _ _ _ _ _ _ _ _)
      | (with_reducible exact longcaseref08_Change.mono _ _ _ _ _ _ _)
      | (with_reducible exact longcaseref08_name.mono _ _)
      | (with_reducible exact LeO.refl _)
      | (with_reducible exact LeO.none _)
      | (with_reducible refine LeO.ite ?_ ?_)
      | (with_reducible refine LeO.bind ?_ (fun _ => ?_))
      | exact ih0 _ _ _ _ _ _ _ _ _ _ _ _ _ _ _ _ _ _ _
      | exact longcaseref08_Change.mono _ _ _ _ _ _ _
      | exact longcaseref08_name.mono _ _
      | exact LeO.none _
      | refine LeO.ite ?_ ?_
      | refine LeO.bind ?_ (fun _ => ?_)
theorem longcaseref08_Right.mono : ∀ a0 a1 a2 a3 a4 a5 a6 a7 a8 a9 a10 a11 a12 a13 a14 a15 a16 a17 k, LeO (longcaseref08_Right.f k a0 a1 a2 a3 a4 a5 a6 a7 a8 a9 a10 a11 a12 a13 a14 a15 a16 a17) (longcaseref08_Right.f (k + 1) a0 a1 a2 a3 a4 a5 a6 a7 a8 a9 a10 a11 a12 a13 a14 a15 a16 a17) := by
  intro a0 a1 a2 a3 a4 a5 a6 a7 a8 a9 a10 a11 a12 a13 a14 a15 a16 a17 k
  have ih0 := longcaseref08_Right.mono_l k
  unfold longcaseref08_Right.f
  repeat' first
      | (with_reducible exact ih0 _ _ _ _ _ _ _ _ _ _ _ _ _ _ _ _ _ _ _)
      | (with_reducible exact longcaseref08_Change.mono _ _ _ _ _ _ _)
      | (with_reducible exact longcaseref08_name.mono _ _)
      | (with_reducible exact LeO.refl _)
      | (with_reducible exact LeO.none _)
      | (with_reducible refine LeO.ite ?_ ?_)
      | (with_reducible refine LeO.bind ?_ (fun _ => ?_))
      | exact ih0 _ _ _ _ _ _ _ _ _ _ _ _ _ _ _ _ _ _ _
      | exact longcaseref08_Change.mono _ _ _ _ _ _ _
      | exact longcaseref08_name.mono _ _
      | exact LeO.none _
      | refine LeO.ite ?_ ?_
      | refine LeO.bind ?_ (fun _ => ?_)
set_option maxHeartbeats 8000000 in
set_option maxRecDepth 100000 in
theorem longcaseref08_Right.calls (k : Nat) (a0_0 : Int) (a0_1 : Bool) (a0_2 : ByteArray) (a0_3 : Int) (a0_4 : Bool) (a0_5 : ByteArray) (a0_6 : Bool) (a0_7 : Int) (a0_8 : Int) (a0_9 : Int) (a0_10 : Int) (a0_11 : Int) (a0_12 : Int) (a0_13 : Int) (a0_14 : Int) (a0_15 : Int) (a0_16 : Int) (a1 : Bool) (r : Bool) (w : World) (h : longcaseref08_Right.f k a0_0 a0_1 a0_2 a0_3 a0_4 a0_5 a0_6 a0_7 a0_8 a0_9 a0_10 a0_11 a0_12 a0_13 a0_14 a0_15 a0_16 a1 = some r) :
    Calls Tryd.prog 14 #[.agg #[.int .i64 a0_0, .bool a0_1, .string a0_2, .int .i64 a0_3, .bool a0_4, .string a0_5, .bool a0_6, .int .i64 a0_7, .int .i64 a0_8, .int .i64 a0_9, .int .i64 a0_10, .int .i64 a0_11, .int .i64 a0_12, .int .i64 a0_13, .int .i64 a0_14, .int .i64 a0_15, .int .i64 a0_16], .bool a1] w fun e w' => e = .returned (.bool r) ∧ Below w.heap.size w w' := by
  have hu27 := Tryd.underlying27
  have hu23 := Tryd.underlying23
  have hu25 := Tryd.underlying25
  have HB := Aside0.mk (Below.refl w.heap.size w)
  have H : (if a0_1 = true then (longcaseref08_Right.j0 k a1 true a0_0 a0_1 a0_2 a0_3 a0_4 a0_5 a0_6 a0_7 a0_8 a0_9 a0_10 a0_11 a0_12 a0_13 a0_14 a0_15 a0_16) else ((longcaseref08_name.f k a0_2).bind fun t182 => (if t182 = true then ((longcaseref08_off.f a0_0).bind fun t183 => (longcaseref08_Right.j0 k a1 (!t183) a0_0 a0_1 a0_2 a0_3 a0_4 a0_5 a0_6 a0_7 a0_8 a0_9 a0_10 a0_11 a0_12 a0_13 a0_14 a0_15 a0_16)) else (longcaseref08_Right.j0 k a1 true a0_0 a0_1 a0_2 a0_3 a0_4 a0_5 a0_6 a0_7 a0_8 a0_9 a0_10 a0_11 a0_12 a0_13 a0_14 a0_15 a0_16)))) = some r := h
  clear h
  have HC3 := Aside0.mk H
  clear H
  go_enter Tryd.func14, Tryd.ntmps14
  go_upto_region 1 with (first | ((with_reducible refine gate_dst (N := 2) rfl ?_); refine box_event ?hg (N := 2) ?hd (cs := #[.int .i64 a0_0, .bool a0_1, .string a0_2, .int .i64 a0_3, .bool a0_4, .string a0_5, .bool a0_6, .int .i64 a0_7, .int .i64 a0_8, .int .i64 a0_9, .int .i64 a0_10, .int .i64 a0_11, .int .i64 a0_12, .int .i64 a0_13, .int .i64 a0_14, .int .i64 a0_15, .int .i64 a0_16]) (t := 27) ?hr ?_; (case hd => rfl); (case hg => rfl); (case hr => first | (go_simp; done) | (go_simp; rfl)); intro gb181 hg w4 hbox hb; have n0_ := Aside0.mk (below_step (by repeat (first | (with_reducible first | exact HB.out | apply below_alloc | apply pw_below_drewN | apply below_drew1) | exact HB.out)) hb); have n1_ := Aside0.mk (hbox); have n2_ := Aside0.mk ((by rw [hg]; exact (below_size (by repeat (first | (with_reducible first | exact HB.out | apply below_alloc | apply pw_below_drewN | apply below_drew1) | exact HB.out))) : w.heap.size ≤ gb181)); have n3_ := Aside0.mk ((by rw [hg]; exact (below_size (by repeat (first | (with_reducible first | exact HB.out | apply below_alloc | apply pw_below_drewN | apply below_drew1) | exact HB.out))) : w.heap.size ≤ gb181)); clear HB; have HB := n0_; have BK181 := n1_; have GW181 := n2_; have GE181 := n3_; clear n0_ n1_ n2_ n3_; clear hb hbox hg))
  (try simp only [Act.put, List.setIfInBounds_toArray, List.set_cons_zero, List.set_cons_succ])
  go_cut [21] (fun v21 wc => ∃ (kq : Nat) (x21_2 : Bool), v21 = .bool x21_2 ∧ Aside0 (longcaseref08_Right.j0 kq a1 x21_2 a0_0 a0_1 a0_2 a0_3 a0_4 a0_5 a0_6 a0_7 a0_8 a0_9 a0_10 a0_11 a0_12 a0_13 a0_14 a0_15 a0_16 = some r) ∧ Aside0 (kq ≤ k) ∧ Aside0 (wc.heap[gb181]? = some (.cells #[.int .i64 a0_0, .bool a0_1, .string a0_2, .int .i64 a0_3, .bool a0_4, .string a0_5, .bool a0_6, .int .i64 a0_7, .int .i64 a0_8, .int .i64 a0_9, .int .i64 a0_10, .int .i64 a0_11, .int .i64 a0_12, .int .i64 a0_13, .int .i64 a0_14, .int .i64 a0_15, .int .i64 a0_16] 27 (0, 0))) ∧ Aside0 (Below w.heap.size w wc))
  case first =>
    have H := HC3.out
    clear HC3
    by_cases c5 : a0_1 = true
    · subst c5
      have H1 : (longcaseref08_Right.j0 k a1 true a0_0 true a0_2 a0_3 a0_4 a0_5 a0_6 a0_7 a0_8 a0_9 a0_10 a0_11 a0_12 a0_13 a0_14 a0_15 a0_16) = some r := by rw [if_pos rfl] at H; exact H
      clear H
      have H := H1
      clear H1
      have H' := Aside0.mk H
      clear H
      have hcz6_0 : w4.cell? ⟨gb181, 0, none⟩ = some (.int .i64 a0_0) := (blk_cell BK181.out 0).trans rfl
      have hcz6_1 : w4.cell? ⟨gb181, 1, none⟩ = some (.bool true) := (blk_cell BK181.out 1).trans rfl
      have hcz6_2 : w4.cell? ⟨gb181, 2, none⟩ = some (.string a0_2) := (blk_cell BK181.out 2).trans rfl
      have hcz6_3 : w4.cell? ⟨gb181, 3, none⟩ = some (.int .i64 a0_3) := (blk_cell BK181.out 3).trans rfl
      have hcz6_4 : w4.cell? ⟨gb181, 4, none⟩ = some (.bool a0_4) := (blk_cell BK181.out 4).trans rfl
      have hcz6_5 : w4.cell? ⟨gb181, 5, none⟩ = some (.string a0_5) := (blk_cell BK181.out 5).trans rfl
      have hcz6_6 : w4.cell? ⟨gb181, 6, none⟩ = some (.bool a0_6) := (blk_cell BK181.out 6).trans rfl
      have hcz6_7 : w4.cell? ⟨gb181, 7, none⟩ = some (.int .i64 a0_7) := (blk_cell BK181.out 7).trans rfl
      have hcz6_8 : w4.cell? ⟨gb181, 8, none⟩ = some (.int .i64 a0_8) := (blk_cell BK181.out 8).trans rfl
      have hcz6_9 : w4.cell? ⟨gb181, 9, none⟩ = some (.int .i64 a0_9) := (blk_cell BK181.out 9).trans rfl
      have hcz6_10 : w4.cell? ⟨gb181, 10, none⟩ = some (.int .i64 a0_10) := (blk_cell BK181.out 10).trans rfl
      have hcz6_11 : w4.cell? ⟨gb181, 11, none⟩ = some (.int .i64 a0_11) := (blk_cell BK181.out 11).trans rfl
      have hcz6_12 : w4.cell? ⟨gb181, 12, none⟩ = some (.int .i64 a0_12) := (blk_cell BK181.out 12).trans rfl
      have hcz6_13 : w4.cell? ⟨gb181, 13, none⟩ = some (.int .i64 a0_13) := (blk_cell BK181.out 13).trans rfl
      have hcz6_14 : w4.cell? ⟨gb181, 14, none⟩ = some (.int .i64 a0_14) := (blk_cell BK181.out 14).trans rfl
      have hcz6_15 : w4.cell? ⟨gb181, 15, none⟩ = some (.int .i64 a0_15) := (blk_cell BK181.out 15).trans rfl
      have hcz6_16 : w4.cell? ⟨gb181, 16, none⟩ = some (.int .i64 a0_16) := (blk_cell BK181.out 16).trans rfl
      have hfz6_0 := blk_frozen BK181.out 0
      have hfz6_1 := blk_frozen BK181.out 1
      have hfz6_2 := blk_frozen BK181.out 2
      have hfz6_3 := blk_frozen BK181.out 3
      have hfz6_4 := blk_frozen BK181.out 4
      have hfz6_5 := blk_frozen BK181.out 5
      have hfz6_6 := blk_frozen BK181.out 6
      have hfz6_7 := blk_frozen BK181.out 7
      have hfz6_8 := blk_frozen BK181.out 8
      have hfz6_9 := blk_frozen BK181.out 9
      have hfz6_10 := blk_frozen BK181.out 10
      have hfz6_11 := blk_frozen BK181.out 11
      have hfz6_12 := blk_frozen BK181.out 12
      have hfz6_13 := blk_frozen BK181.out 13
      have hfz6_14 := blk_frozen BK181.out 14
      have hfz6_15 := blk_frozen BK181.out 15
      have hfz6_16 := blk_frozen BK181.out 16
      go_wp2
      go_meet
      case rel => exact ⟨_, (true), (by first | rfl | (simp; done) | (simp [*]; done)), H', ⟨by first | omega | exact Nat.le_refl _⟩, ⟨by (with_reducible repeat (first | refine blk_drewN ?_ _ | refine blk_drew ?_ | refine blk_alloc ?_ _)); exact BK181.out⟩, ⟨by repeat (first | (with_reducible first | exact HB.out | apply below_alloc | apply pw_below_drewN | apply below_drew1 | refine below_set ?_ GE181.out) | exact HB.out)⟩⟩
    · replace c5 := Bool.eq_false_iff.mpr c5
      subst c5
      have H1 : ((longcaseref08_name.f k a0_2).bind fun t182 => (if t182 = true then ((longcaseref08_off.f a0_0).bind fun t183 => (longcaseref08_Right.j0 k a1 (!t183) a0_0 false a0_2 a0_3 a0_4 a0_5 a0_6 a0_7 a0_8 a0_9 a0_10 a0_11 a0_12 a0_13 a0_14 a0_15 a0_16)) else (longcaseref08_Right.j0 k a1 true a0_0 false a0_2 a0_3 a0_4 a0_5 a0_6 a0_7 a0_8 a0_9 a0_10 a0_11 a0_12 a0_13 a0_14 a0_15 a0_16))) = some r := by rw [if_neg (show ¬ (false = true) by decide)] at H; exact H
      clear H
      have H := H1
      clear H1
      replace H := Option.bind_eq_some_iff.mp H
      obtain ⟨t182, A70, H⟩ := H
      replace H : (if t182 = true then ((longcaseref08_off.f a0_0).bind fun t183 => (longcaseref08_Right.j0 k a1 (!t183) a0_0 false a0_2 a0_3 a0_4 a0_5 a0_6 a0_7 a0_8 a0_9 a0_10 a0_11 a0_12 a0_13 a0_14 a0_15 a0_16)) else (longcaseref08_Right.j0 k a1 true a0_0 false a0_2 a0_3 a0_4 a0_5 a0_6 a0_7 a0_8 a0_9 a0_10 a0_11 a0_12 a0_13 a0_14 a0_15 a0_16)) = some r := H
      have A7 := Aside0.mk A70
      clear A70
      by_cases c8 : t182 = true
      · subst c8
        have H1 : ((longcaseref08_off.f a0_0).bind fun t183 => (longcaseref08_Right.j0 k a1 (!t183) a0_0 false a0_2 a0_3 a0_4 a0_5 a0_6 a0_7 a0_8 a0_9 a0_10 a0_11 a0_12 a0_13 a0_14 a0_15 a0_16)) = some r := by rw [if_pos rfl] at H; exact H
        clear H
        have H := H1
        clear H1
        replace H := Option.bind_eq_some_iff.mp H
        obtain ⟨t183, A90, H⟩ := H
        replace H : (longcaseref08_Right.j0 k a1 (!t183) a0_0 false a0_2 a0_3 a0_4 a0_5 a0_6 a0_7 a0_8 a0_9 a0_10 a0_11 a0_12 a0_13 a0_14 a0_15 a0_16) = some r := H
        have A9 := Aside0.mk A90
        clear A90
        have H' := Aside0.mk H
        clear H
        have hcz10_0 : w4.cell? ⟨gb181, 0, none⟩ = some (.int .i64 a0_0) := (blk_cell BK181.out 0).trans rfl
        have hcz10_1 : w4.cell? ⟨gb181, 1, none⟩ = some (.bool false) := (blk_cell BK181.out 1).trans rfl
        have hcz10_2 : w4.cell? ⟨gb181, 2, none⟩ = some (.string a0_2) := (blk_cell BK181.out 2).trans rfl
        have hcz10_3 : w4.cell? ⟨gb181, 3, none⟩ = some (.int .i64 a0_3) := (blk_cell BK181.out 3).trans rfl
        have hcz10_4 : w4.cell? ⟨gb181, 4, none⟩ = some (.bool a0_4) := (blk_cell BK181.out 4).trans rfl
        have hcz10_5 : w4.cell? ⟨gb181, 5, none⟩ = some (.string a0_5) := (blk_cell BK181.out 5).trans rfl
        have hcz10_6 : w4.cell? ⟨gb181, 6, none⟩ = some (.bool a0_6) := (blk_cell BK181.out 6).trans rfl
        have hcz10_7 : w4.cell? ⟨gb181, 7, none⟩ = some (.int .i64 a0_7) := (blk_cell BK181.out 7).trans rfl
        have hcz10_8 : w4.cell? ⟨gb181, 8, none⟩ = some (.int .i64 a0_8) := (blk_cell BK181.out 8).trans rfl
        have hcz10_9 : w4.cell? ⟨gb181, 9, none⟩ = some (.int .i64 a0_9) := (blk_cell BK181.out 9).trans rfl
        have hcz10_10 : w4.cell? ⟨gb181, 10, none⟩ = some (.int .i64 a0_10) := (blk_cell BK181.out 10).trans rfl
        have hcz10_11 : w4.cell? ⟨gb181, 11, none⟩ = some (.int .i64 a0_11) := (blk_cell BK181.out 11).trans rfl
        have hcz10_12 : w4.cell? ⟨gb181, 12, none⟩ = some (.int .i64 a0_12) := (blk_cell BK181.out 12).trans rfl
        have hcz10_13 : w4.cell? ⟨gb181, 13, none⟩ = some (.int .i64 a0_13) := (blk_cell BK181.out 13).trans rfl
        have hcz10_14 : w4.cell? ⟨gb181, 14, none⟩ = some (.int .i64 a0_14) := (blk_cell BK181.out 14).trans rfl
        have hcz10_15 : w4.cell? ⟨gb181, 15, none⟩ = some (.int .i64 a0_15) := (blk_cell BK181.out 15).trans rfl
        have hcz10_16 : w4.cell? ⟨gb181, 16, none⟩ = some (.int .i64 a0_16) := (blk_cell BK181.out 16).trans rfl
        have hfz10_0 := blk_frozen BK181.out 0
        have hfz10_1 := blk_frozen BK181.out 1
        have hfz10_2 := blk_frozen BK181.out 2
        have hfz10_3 := blk_frozen BK181.out 3
        have hfz10_4 := blk_frozen BK181.out 4
        have hfz10_5 := blk_frozen BK181.out 5
        have hfz10_6 := blk_frozen BK181.out 6
        have hfz10_7 := blk_frozen BK181.out 7
        have hfz10_8 := blk_frozen BK181.out 8
        have hfz10_9 := blk_frozen BK181.out 9
        have hfz10_10 := blk_frozen BK181.out 10
        have hfz10_11 := blk_frozen BK181.out 11
        have hfz10_12 := blk_frozen BK181.out 12
        have hfz10_13 := blk_frozen BK181.out 13
        have hfz10_14 := blk_frozen BK181.out 14
        have hfz10_15 := blk_frozen BK181.out 15
        have hfz10_16 := blk_frozen BK181.out 16
        go_wp2_with (first | (go_at_call 22; (with_reducible refine (longcaseref08_name.calls k a0_2 true _ A7.out).mono ?_); rintro e w' ⟨rfl, ⟨nd, rfl⟩⟩) | (go_at_call 23; (with_reducible refine (longcaseref08_off.calls a0_0 t183 _ A9.out).mono ?_); rintro e w' ⟨rfl, ⟨nd, rfl⟩⟩))
        go_meet
        case rel => exact ⟨_, (!t183), (by first | rfl | (simp; done) | (simp [*]; done)), H', ⟨by first | omega | exact Nat.le_refl _⟩, ⟨by (with_reducible repeat (first | refine blk_drewN ?_ _ | refine blk_drew ?_ | refine blk_alloc ?_ _)); exact BK181.out⟩, ⟨by repeat (first | (with_reducible first | exact HB.out | apply below_alloc | apply pw_below_drewN | apply below_drew1 | refine below_set ?_ GE181.out) | exact HB.out)⟩⟩
      · replace c8 := Bool.eq_false_iff.mpr c8
        subst c8
        have H1 : (longcaseref08_Right.j0 k a1 true a0_0 false a0_2 a0_3 a0_4 a0_5 a0_6 a0_7 a0_8 a0_9 a0_10 a0_11 a0_12 a0_13 a0_14 a0_15 a0_16) = some r := by rw [if_neg (show ¬ (false = true) by decide)] at H; exact H
        clear H
        have H := H1
        clear H1
        have H' := Aside0.mk H
        clear H
        have hcz11_0 : w4.cell? ⟨gb181, 0, none⟩ = some (.int .i64 a0_0) := (blk_cell BK181.out 0).trans rfl
        have hcz11_1 : w4.cell? ⟨gb181, 1, none⟩ = some (.bool false) := (blk_cell BK181.out 1).trans rfl
        have hcz11_2 : w4.cell? ⟨gb181, 2, none⟩ = some (.string a0_2) := (blk_cell BK181.out 2).trans rfl
        have hcz11_3 : w4.cell? ⟨gb181, 3, none⟩ = some (.int .i64 a0_3) := (blk_cell BK181.out 3).trans rfl
        have hcz11_4 : w4.cell? ⟨gb181, 4, none⟩ = some (.bool a0_4) := (blk_cell BK181.out 4).trans rfl
        have hcz11_5 : w4.cell? ⟨gb181, 5, none⟩ = some (.string a0_5) := (blk_cell BK181.out 5).trans rfl
        have hcz11_6 : w4.cell? ⟨gb181, 6, none⟩ = some (.bool a0_6) := (blk_cell BK181.out 6).trans rfl
        have hcz11_7 : w4.cell? ⟨gb181, 7, none⟩ = some (.int .i64 a0_7) := (blk_cell BK181.out 7).trans rfl
        have hcz11_8 : w4.cell? ⟨gb181, 8, none⟩ = some (.int .i64 a0_8) := (blk_cell BK181.out 8).trans rfl
        have hcz11_9 : w4.cell? ⟨gb181, 9, none⟩ = some (.int .i64 a0_9) := (blk_cell BK181.out 9).trans rfl
        have hcz11_10 : w4.cell? ⟨gb181, 10, none⟩ = some (.int .i64 a0_10) := (blk_cell BK181.out 10).trans rfl
        have hcz11_11 : w4.cell? ⟨gb181, 11, none⟩ = some (.int .i64 a0_11) := (blk_cell BK181.out 11).trans rfl
        have hcz11_12 : w4.cell? ⟨gb181, 12, none⟩ = some (.int .i64 a0_12) := (blk_cell BK181.out 12).trans rfl
        have hcz11_13 : w4.cell? ⟨gb181, 13, none⟩ = some (.int .i64 a0_13) := (blk_cell BK181.out 13).trans rfl
        have hcz11_14 : w4.cell? ⟨gb181, 14, none⟩ = some (.int .i64 a0_14) := (blk_cell BK181.out 14).trans rfl
        have hcz11_15 : w4.cell? ⟨gb181, 15, none⟩ = some (.int .i64 a0_15) := (blk_cell BK181.out 15).trans rfl
        have hcz11_16 : w4.cell? ⟨gb181, 16, none⟩ = some (.int .i64 a0_16) := (blk_cell BK181.out 16).trans rfl
        have hfz11_0 := blk_frozen BK181.out 0
        have hfz11_1 := blk_frozen BK181.out 1
        have hfz11_2 := blk_frozen BK181.out 2
        have hfz11_3 := blk_frozen BK181.out 3
        have hfz11_4 := blk_frozen BK181.out 4
        have hfz11_5 := blk_frozen BK181.out 5
        have hfz11_6 := blk_frozen BK181.out 6
        have hfz11_7 := blk_frozen BK181.out 7
        have hfz11_8 := blk_frozen BK181.out 8
        have hfz11_9 := blk_frozen BK181.out 9
        have hfz11_10 := blk_frozen BK181.out 10
        have hfz11_11 := blk_frozen BK181.out 11
        have hfz11_12 := blk_frozen BK181.out 12
        have hfz11_13 := blk_frozen BK181.out 13
        have hfz11_14 := blk_frozen BK181.out 14
        have hfz11_15 := blk_frozen BK181.out 15
        have hfz11_16 := blk_frozen BK181.out 16
        go_wp2_with (first | (go_at_call 22; (with_reducible refine (longcaseref08_name.calls k a0_2 false _ A7.out).mono ?_); rintro e w' ⟨rfl, ⟨nd, rfl⟩⟩))
        go_meet
        case rel => exact ⟨_, (true), (by first | rfl | (simp; done) | (simp [*]; done)), H', ⟨by first | omega | exact Nat.le_refl _⟩, ⟨by (with_reducible repeat (first | refine blk_drewN ?_ _ | refine blk_drew ?_ | refine blk_alloc ?_ _)); exact BK181.out⟩, ⟨by repeat (first | (with_reducible first | exact HB.out | apply below_alloc | apply pw_below_drewN | apply below_drew1 | refine below_set ?_ GE181.out) | exact HB.out)⟩⟩
  case rest =>
    clear HC3
    try clear c1
    try clear p2
    try clear c5
    try clear c8
    try clear hcz10_0
    try clear hcz10_1
    try clear hcz10_10
    try clear hcz10_11
    try clear hcz10_12
    try clear hcz10_13
    try clear hcz10_14
    try clear hcz10_15
    try clear hcz10_16
    try clear hcz10_2
    try clear hcz10_3
    try clear hcz10_4
    try clear hcz10_5
    try clear hcz10_6
    try clear hcz10_7
    try clear hcz10_8
    try clear hcz10_9
    try clear hcz11_0
    try clear hcz11_1
    try clear hcz11_10
    try clear hcz11_11
    try clear hcz11_12
    try clear hcz11_13
    try clear hcz11_14
    try clear hcz11_15
    try clear hcz11_16
    try clear hcz11_2
    try clear hcz11_3
    try clear hcz11_4
    try clear hcz11_5
    try clear hcz11_6
    try clear hcz11_7
    try clear hcz11_8
    try clear hcz11_9
    try clear hcz6_0
    try clear hcz6_1
    try clear hcz6_10
    try clear hcz6_11
    try clear hcz6_12
    try clear hcz6_13
    try clear hcz6_14
    try clear hcz6_15
    try clear hcz6_16
    try clear hcz6_2
    try clear hcz6_3
    try clear hcz6_4
    try clear hcz6_5
    try clear hcz6_6
    try clear hcz6_7
    try clear hcz6_8
    try clear hcz6_9
    try clear hfz10_0
    try clear hfz10_1
    try clear hfz10_10
    try clear hfz10_11
    try clear hfz10_12
    try clear hfz10_13
    try clear hfz10_14
    try clear hfz10_15
    try clear hfz10_16
    try clear hfz10_2
    try clear hfz10_3
    try clear hfz10_4
    try clear hfz10_5
    try clear hfz10_6
    try clear hfz10_7
    try clear hfz10_8
    try clear hfz10_9
    try clear hfz11_0
    try clear hfz11_1
    try clear hfz11_10
    try clear hfz11_11
    try clear hfz11_12
    try clear hfz11_13
    try clear hfz11_14
    try clear hfz11_15
    try clear hfz11_16
    try clear hfz11_2
    try clear hfz11_3
    try clear hfz11_4
    try clear hfz11_5
    try clear hfz11_6
    try clear hfz11_7
    try clear hfz11_8
    try clear hfz11_9
    try clear hfz6_0
    try clear hfz6_1
    try clear hfz6_10
    try clear hfz6_11
    try clear hfz6_12
    try clear hfz6_13
    try clear hfz6_14
    try clear hfz6_15
    try clear hfz6_16
    try clear hfz6_2
    try clear hfz6_3
    try clear hfz6_4
    try clear hfz6_5
    try clear hfz6_6
    try clear hfz6_7
    try clear hfz6_8
    try clear hfz6_9
    obtain ⟨kq, x21_2, rfl, HA, HJ2, BK181, HB⟩ := hcut
    cases kq with
    | zero => exact absurd HA.out (by simp [longcaseref08_Right.j0])
    | succ kj2 =>
      have H := HA.out
      clear HA
      simp only [longcaseref08_Right.j0] at H
      by_cases c12 : x21_2 = true
      · subst c12
        have H1 : (some false) = some r := by rw [if_pos rfl] at H; exact H
        clear H
        have H := H1
        clear H1
        obtain rfl := Option.some.inj H
        go_wp2
        go_ret
        exact ⟨by first | rfl | (simp [errW_none, errW_some] <;> rfl) | (simp [*, errW_none, errW_some] <;> rfl), by repeat (first | (with_reducible first | exact HB.out | apply below_alloc | apply pw_below_drewN | apply below_drew1 | refine below_set ?_ GE181.out) | exact HB.out)⟩
      · replace c12 := Bool.eq_false_iff.mpr c12
        subst c12
        have H1 : (if a0_6 = true then (if a0_4 = true then ((longcaseref08_name.f kj2 a0_5).bind fun t184 => (if t184 = true then ((longcaseref08_off.f a0_3).bind fun t185 => (if t185 = true then ((longcaseref08_Change.f kj2 a0_7 a0_8 a0_9 a0_10 a0_11 a1).bind fun t186 => (if t186 = true then ((longcaseref08_Change.f kj2 a0_12 a0_13 a0_14 a0_15 a0_16 a1).bind fun t187 => (some t187)) else (some false))) else (some false))) else (some false))) else (some false)) else (if (a0_3 == 0 && (!a0_4 && (a0_5.toList.isEmpty))) = true then (if (a0_7 == 0 && (a0_8 == 0 && (a0_9 == 0 && (a0_10 == 0 && (a0_11 == 0))))) = true then (some (a0_12 == 0 && (a0_13 == 0 && (a0_14 == 0 && (a0_15 == 0 && (a0_16 == 0)))))) else (some false)) else (some false))) = some r := by rw [if_neg (show ¬ (false = true) by decide)] at H; exact H
        clear H
        have H := H1
        clear H1
        by_cases c13 : a0_6 = true
        · subst c13
          have H1 : (if a0_4 = true then ((longcaseref08_name.f kj2 a0_5).bind fun t184 => (if t184 = true then ((longcaseref08_off.f a0_3).bind fun t185 => (if t185 = true then ((longcaseref08_Change.f kj2 a0_7 a0_8 a0_9 a0_10 a0_11 a1).bind fun t186 => (if t186 = true then ((longcaseref08_Change.f kj2 a0_12 a0_13 a0_14 a0_15 a0_16 a1).bind fun t187 => (some t187)) else (some false))) else (some false))) else (some false))) else (some false)) = some r := by rw [if_pos rfl] at H; exact H
          clear H
          have H := H1
          clear H1
          by_cases c14 : a0_4 = true
          · subst c14
            have H1 : ((longcaseref08_name.f kj2 a0_5).bind fun t184 => (if t184 = true then ((longcaseref08_off.f a0_3).bind fun t185 => (if t185 = true then ((longcaseref08_Change.f kj2 a0_7 a0_8 a0_9 a0_10 a0_11 a1).bind fun t186 => (if t186 = true then ((longcaseref08_Change.f kj2 a0_12 a0_13 a0_14 a0_15 a0_16 a1).bind fun t187 => (some t187)) else (some false))) else (some false))) else (some false))) = some r := by rw [if_pos rfl] at H; exact H
            clear H
            have H := H1
            clear H1
            replace H := Option.bind_eq_some_iff.mp H
            obtain ⟨t184, A150, H⟩ := H
            replace H : (if t184 = true then ((longcaseref08_off.f a0_3).bind fun t185 => (if t185 = true then ((longcaseref08_Change.f kj2 a0_7 a0_8 a0_9 a0_10 a0_11 a1).bind fun t186 => (if t186 = true then ((longcaseref08_Change.f kj2 a0_12 a0_13 a0_14 a0_15 a0_16 a1).bind fun t187 => (some t187)) else (some false))) else (some false))) else (some false)) = some r := H
            have A15 := Aside0.mk A150
            clear A150
            by_cases c16 : t184 = true
            · subst c16
              have H1 : ((longcaseref08_off.f a0_3).bind fun t185 => (if t185 = true then ((longcaseref08_Change.f kj2 a0_7 a0_8 a0_9 a0_10 a0_11 a1).bind fun t186 => (if t186 = true then ((longcaseref08_Change.f kj2 a0_12 a0_13 a0_14 a0_15 a0_16 a1).bind fun t187 => (some t187)) else (some false))) else (some false))) = some r := by rw [if_pos rfl] at H; exact H
              clear H
              have H := H1
              clear H1
              replace H := Option.bind_eq_some_iff.mp H
              obtain ⟨t185, A170, H⟩ := H
              replace H : (if t185 = true then ((longcaseref08_Change.f kj2 a0_7 a0_8 a0_9 a0_10 a0_11 a1).bind fun t186 => (if t186 = true then ((longcaseref08_Change.f kj2 a0_12 a0_13 a0_14 a0_15 a0_16 a1).bind fun t187 => (some t187)) else (some false))) else (some false)) = some r := H
              have A17 := Aside0.mk A170
              clear A170
              by_cases c18 : t185 = true
              · subst c18
                have H1 : ((longcaseref08_Change.f kj2 a0_7 a0_8 a0_9 a0_10 a0_11 a1).bind fun t186 => (if t186 = true then ((longcaseref08_Change.f kj2 a0_12 a0_13 a0_14 a0_15 a0_16 a1).bind fun t187 => (some t187)) else (some false))) = some r := by rw [if_pos rfl] at H; exact H
                clear H
                have H := H1
                clear H1
                replace H := Option.bind_eq_some_iff.mp H
                obtain ⟨t186, A190, H⟩ := H
                replace H : (if t186 = true then ((longcaseref08_Change.f kj2 a0_12 a0_13 a0_14 a0_15 a0_16 a1).bind fun t187 => (some t187)) else (some false)) = some r := H
                have A19 := Aside0.mk A190
                clear A190
                by_cases c20 : t186 = true
                · subst c20
                  have H1 : ((longcaseref08_Change.f kj2 a0_12 a0_13 a0_14 a0_15 a0_16 a1).bind fun t187 => (some t187)) = some r := by rw [if_pos rfl] at H; exact H
                  clear H
                  have H := H1
                  clear H1
                  replace H := Option.bind_eq_some_iff.mp H
                  obtain ⟨t187, A210, H⟩ := H
                  replace H : (some t187) = some r := H
                  have A21 := Aside0.mk A210
                  clear A210
                  obtain rfl := Option.some.inj H
                  have hcz22_0 : wc.cell? ⟨gb181, 0, none⟩ = some (.int .i64 a0_0) := (blk_cell BK181.out 0).trans rfl
                  have hcz22_1 : wc.cell? ⟨gb181, 1, none⟩ = some (.bool a0_1) := (blk_cell BK181.out 1).trans rfl
                  have hcz22_2 : wc.cell? ⟨gb181, 2, none⟩ = some (.string a0_2) := (blk_cell BK181.out 2).trans rfl
                  have hcz22_3 : wc.cell? ⟨gb181, 3, none⟩ = some (.int .i64 a0_3) := (blk_cell BK181.out 3).trans rfl
                  have hcz22_4 : wc.cell? ⟨gb181, 4, none⟩ = some (.bool true) := (blk_cell BK181.out 4).trans rfl
                  have hcz22_5 : wc.cell? ⟨gb181, 5, none⟩ = some (.string a0_5) := (blk_cell BK181.out 5).trans rfl
                  have hcz22_6 : wc.cell? ⟨gb181, 6, none⟩ = some (.bool true) := (blk_cell BK181.out 6).trans rfl
                  have hcz22_7 : wc.cell? ⟨gb181, 7, none⟩ = some (.int .i64 a0_7) := (blk_cell BK181.out 7).trans rfl
                  have hcz22_8 : wc.cell? ⟨gb181, 8, none⟩ = some (.int .i64 a0_8) := (blk_cell BK181.out 8).trans rfl
                  have hcz22_9 : wc.cell? ⟨gb181, 9, none⟩ = some (.int .i64 a0_9) := (blk_cell BK181.out 9).trans rfl
                  have hcz22_10 : wc.cell? ⟨gb181, 10, none⟩ = some (.int .i64 a0_10) := (blk_cell BK181.out 10).trans rfl
                  have hcz22_11 : wc.cell? ⟨gb181, 11, none⟩ = some (.int .i64 a0_11) := (blk_cell BK181.out 11).trans rfl
                  have hcz22_12 : wc.cell? ⟨gb181, 12, none⟩ = some (.int .i64 a0_12) := (blk_cell BK181.out 12).trans rfl
                  have hcz22_13 : wc.cell? ⟨gb181, 13, none⟩ = some (.int .i64 a0_13) := (blk_cell BK181.out 13).trans rfl
                  have hcz22_14 : wc.cell? ⟨gb181, 14, none⟩ = some (.int .i64 a0_14) := (blk_cell BK181.out 14).trans rfl
                  have hcz22_15 : wc.cell? ⟨gb181, 15, none⟩ = some (.int .i64 a0_15) := (blk_cell BK181.out 15).trans rfl
                  have hcz22_16 : wc.cell? ⟨gb181, 16, none⟩ = some (.int .i64 a0_16) := (blk_cell BK181.out 16).trans rfl
                  have hfz22_0 := blk_frozen BK181.out 0
                  have hfz22_1 := blk_frozen BK181.out 1
                  have hfz22_2 := blk_frozen BK181.out 2
                  have hfz22_3 := blk_frozen BK181.out 3
                  have hfz22_4 := blk_frozen BK181.out 4
                  have hfz22_5 := blk_frozen BK181.out 5
                  have hfz22_6 := blk_frozen BK181.out 6
                  have hfz22_7 := blk_frozen BK181.out 7
                  have hfz22_8 := blk_frozen BK181.out 8
                  have hfz22_9 := blk_frozen BK181.out 9
                  have hfz22_10 := blk_frozen BK181.out 10
                  have hfz22_11 := blk_frozen BK181.out 11
                  have hfz22_12 := blk_frozen BK181.out 12
                  have hfz22_13 := blk_frozen BK181.out 13
                  have hfz22_14 := blk_frozen BK181.out 14
                  have hfz22_15 := blk_frozen BK181.out 15
                  have hfz22_16 := blk_frozen BK181.out 16
                  go_wp2_with (first | (go_at_call 22; (with_reducible refine (longcaseref08_name.calls kj2 a0_5 true _ A15.out).mono ?_); rintro e w' ⟨rfl, ⟨nd, rfl⟩⟩) | (go_at_call 23; (with_reducible refine (longcaseref08_off.calls a0_3 true _ A17.out).mono ?_); rintro e w' ⟨rfl, ⟨nd, rfl⟩⟩) | (go_at_call 24; (with_reducible refine (longcaseref08_Change.calls kj2 a0_7 a0_8 a0_9 a0_10 a0_11 a1 true _ A19.out).mono ?_); rintro e w23 ⟨rfl, hb⟩; have n0_ := Aside0.mk (blk_below (g := gb181) (o := .cells #[.int .i64 a0_0, .bool a0_1, .string a0_2, .int .i64 a0_3, .bool true, .string a0_5, .bool true, .int .i64 a0_7, .int .i64 a0_8, .int .i64 a0_9, .int .i64 a0_10, .int .i64 a0_11, .int .i64 a0_12, .int .i64 a0_13, .int .i64 a0_14, .int .i64 a0_15, .int .i64 a0_16] 27 (0, 0)) (by (with_reducible repeat (first | refine blk_drewN ?_ _ | refine blk_drew ?_ | refine blk_alloc ?_ _)); exact BK181.out) hb); have n1_ := Aside0.mk (below_step (by repeat (first | (with_reducible first | exact HB.out | apply below_alloc | apply pw_below_drewN | apply below_drew1 | refine below_set ?_ GE181.out) | exact HB.out)) hb); clear BK181; clear HB; have BK181 := n0_; have HB := n1_; clear n0_ n1_; (try clear hb); (try clear hb2); (try clear hk); (try clear hi); have hcz24_0 : w23.cell? ⟨gb181, 0, none⟩ = some (.int .i64 a0_0) := (blk_cell BK181.out 0).trans rfl; have hcz24_1 : w23.cell? ⟨gb181, 1, none⟩ = some (.bool a0_1) := (blk_cell BK181.out 1).trans rfl; have hcz24_2 : w23.cell? ⟨gb181, 2, none⟩ = some (.string a0_2) := (blk_cell BK181.out 2).trans rfl; have hcz24_3 : w23.cell? ⟨gb181, 3, none⟩ = some (.int .i64 a0_3) := (blk_cell BK181.out 3).trans rfl; have hcz24_4 : w23.cell? ⟨gb181, 4, none⟩ = some (.bool true) := (blk_cell BK181.out 4).trans rfl; have hcz24_5 : w23.cell? ⟨gb181, 5, none⟩ = some (.string a0_5) := (blk_cell BK181.out 5).trans rfl; have hcz24_6 : w23.cell? ⟨gb181, 6, none⟩ = some (.bool true) := (blk_cell BK181.out 6).trans rfl; have hcz24_7 : w23.cell? ⟨gb181, 7, none⟩ = some (.int .i64 a0_7) := (blk_cell BK181.out 7).trans rfl; have hcz24_8 : w23.cell? ⟨gb181, 8, none⟩ = some (.int .i64 a0_8) := (blk_cell BK181.out 8).trans rfl; have hcz24_9 : w23.cell? ⟨gb181, 9, none⟩ = some (.int .i64 a0_9) := (blk_cell BK181.out 9).trans rfl; have hcz24_10 : w23.cell? ⟨gb181, 10, none⟩ = some (.int .i64 a0_10) := (blk_cell BK181.out 10).trans rfl; have hcz24_11 : w23.cell? ⟨gb181, 11, none⟩ = some (.int .i64 a0_11) := (blk_cell BK181.out 11).trans rfl; have hcz24_12 : w23.cell? ⟨gb181, 12, none⟩ = some (.int .i64 a0_12) := (blk_cell BK181.out 12).trans rfl; have hcz24_13 : w23.cell? ⟨gb181, 13, none⟩ = some (.int .i64 a0_13) := (blk_cell BK181.out 13).trans rfl; have hcz24_14 : w23.cell? ⟨gb181, 14, none⟩ = some (.int .i64 a0_14) := (blk_cell BK181.out 14).trans rfl; have hcz24_15 : w23.cell? ⟨gb181, 15, none⟩ = some (.int .i64 a0_15) := (blk_cell BK181.out 15).trans rfl; have hcz24_16 : w23.cell? ⟨gb181, 16, none⟩ = some (.int .i64 a0_16) := (blk_cell BK181.out 16).trans rfl; have hfz24_0 := blk_frozen BK181.out 0; have hfz24_1 := blk_frozen BK181.out 1; have hfz24_2 := blk_frozen BK181.out 2; have hfz24_3 := blk_frozen BK181.out 3; have hfz24_4 := blk_frozen BK181.out 4; have hfz24_5 := blk_frozen BK181.out 5; have hfz24_6 := blk_frozen BK181.out 6; have hfz24_7 := blk_frozen BK181.out 7; have hfz24_8 := blk_frozen BK181.out 8; have hfz24_9 := blk_frozen BK181.out 9; have hfz24_10 := blk_frozen BK181.out 10; have hfz24_11 := blk_frozen BK181.out 11; have hfz24_12 := blk_frozen BK181.out 12; have hfz24_13 := blk_frozen BK181.out 13; have hfz24_14 := blk_frozen BK181.out 14; have hfz24_15 := blk_frozen BK181.out 15; have hfz24_16 := blk_frozen BK181.out 16) | (go_at_call 24; (with_reducible refine (longcaseref08_Change.calls kj2 a0_12 a0_13 a0_14 a0_15 a0_16 a1 t187 _ A21.out).mono ?_); rintro e w25 ⟨rfl, hb⟩; have n0_ := Aside0.mk (blk_below (g := gb181) (o := .cells #[.int .i64 a0_0, .bool a0_1, .string a0_2, .int .i64 a0_3, .bool true, .string a0_5, .bool true, .int .i64 a0_7, .int .i64 a0_8, .int .i64 a0_9, .int .i64 a0_10, .int .i64 a0_11, .int .i64 a0_12, .int .i64 a0_13, .int .i64 a0_14, .int .i64 a0_15, .int .i64 a0_16] 27 (0, 0)) (by (with_reducible repeat (first | refine blk_drewN ?_ _ | refine blk_drew ?_ | refine blk_alloc ?_ _)); exact BK181.out) hb); have n1_ := Aside0.mk (below_step (by repeat (first | (with_reducible first | exact HB.out | apply below_alloc | apply pw_below_drewN | apply below_drew1 | refine below_set ?_ GE181.out) | exact HB.out)) hb); clear BK181; clear HB; have BK181 := n0_; have HB := n1_; clear n0_ n1_; (try clear hb); (try clear hb2); (try clear hk); (try clear hi)))
                  go_ret
                  exact ⟨by first | rfl | (simp [errW_none, errW_some] <;> rfl) | (simp [*, errW_none, errW_some] <;> rfl), by repeat (first | (with_reducible first | exact HB.out | apply below_alloc | apply pw_below_drewN | apply below_drew1 | refine below_set ?_ GE181.out) | exact HB.out)⟩
                · replace c20 := Bool.eq_false_iff.mpr c20
                  subst c20
                  have H1 : (some false) = some r := by rw [if_neg (show ¬ (false = true) by decide)] at H; exact H
                  clear H
                  have H := H1
                  clear H1
                  obtain rfl := Option.some.inj H
                  have hcz26_0 : wc.cell? ⟨gb181, 0, none⟩ = some (.int .i64 a0_0) := (blk_cell BK181.out 0).trans rfl
                  have hcz26_1 : wc.cell? ⟨gb181, 1, none⟩ = some (.bool a0_1) := (blk_cell BK181.out 1).trans rfl
                  have hcz26_2 : wc.cell? ⟨gb181, 2, none⟩ = some (.string a0_2) := (blk_cell BK181.out 2).trans rfl
                  have hcz26_3 : wc.cell? ⟨gb181, 3, none⟩ = some (.int .i64 a0_3) := (blk_cell BK181.out 3).trans rfl
                  have hcz26_4 : wc.cell? ⟨gb181, 4, none⟩ = some (.bool true) := (blk_cell BK181.out 4).trans rfl
                  have hcz26_5 : wc.cell? ⟨gb181, 5, none⟩ = some (.string a0_5) := (blk_cell BK181.out 5).trans rfl
                  have hcz26_6 : wc.cell? ⟨gb181, 6, none⟩ = some (.bool true) := (blk_cell BK181.out 6).trans rfl
                  have hcz26_7 : wc.cell? ⟨gb181, 7, none⟩ = some (.int .i64 a0_7) := (blk_cell BK181.out 7).trans rfl
                  have hcz26_8 : wc.cell? ⟨gb181, 8, none⟩ = some (.int .i64 a0_8) := (blk_cell BK181.out 8).trans rfl
                  have hcz26_9 : wc.cell? ⟨gb181, 9, none⟩ = some (.int .i64 a0_9) := (blk_cell BK181.out 9).trans rfl
                  have hcz26_10 : wc.cell? ⟨gb181, 10, none⟩ = some (.int .i64 a0_10) := (blk_cell BK181.out 10).trans rfl
                  have hcz26_11 : wc.cell? ⟨gb181, 11, none⟩ = some (.int .i64 a0_11) := (blk_cell BK181.out 11).trans rfl
                  have hcz26_12 : wc.cell? ⟨gb181, 12, none⟩ = some (.int .i64 a0_12) := (blk_cell BK181.out 12).trans rfl
                  have hcz26_13 : wc.cell? ⟨gb181, 13, none⟩ = some (.int .i64 a0_13) := (blk_cell BK181.out 13).trans rfl
                  have hcz26_14 : wc.cell? ⟨gb181, 14, none⟩ = some (.int .i64 a0_14) := (blk_cell BK181.out 14).trans rfl
                  have hcz26_15 : wc.cell? ⟨gb181, 15, none⟩ = some (.int .i64 a0_15) := (blk_cell BK181.out 15).trans rfl
                  have hcz26_16 : wc.cell? ⟨gb181, 16, none⟩ = some (.int .i64 a0_16) := (blk_cell BK181.out 16).trans rfl
                  have hfz26_0 := blk_frozen BK181.out 0
                  have hfz26_1 := blk_frozen BK181.out 1
                  have hfz26_2 := blk_frozen BK181.out 2
                  have hfz26_3 := blk_frozen BK181.out 3
                  have hfz26_4 := blk_frozen BK181.out 4
                  have hfz26_5 := blk_frozen BK181.out 5
                  have hfz26_6 := blk_frozen BK181.out 6
                  have hfz26_7 := blk_frozen BK181.out 7
                  have hfz26_8 := blk_frozen BK181.out 8
                  have hfz26_9 := blk_frozen BK181.out 9
                  have hfz26_10 := blk_frozen BK181.out 10
                  have hfz26_11 := blk_frozen BK181.out 11
                  have hfz26_12 := blk_frozen BK181.out 12
                  have hfz26_13 := blk_frozen BK181.out 13
                  have hfz26_14 := blk_frozen BK181.out 14
                  have hfz26_15 := blk_frozen BK181.out 15
                  have hfz26_16 := blk_frozen BK181.out 16
                  go_wp2_with (first | (go_at_call 22; (with_reducible refine (longcaseref08_name.calls kj2 a0_5 true _ A15.out).mono ?_); rintro e w' ⟨rfl, ⟨nd, rfl⟩⟩) | (go_at_call 23; (with_reducible refine (longcaseref08_off.calls a0_3 true _ A17.out).mono ?_); rintro e w' ⟨rfl, ⟨nd, rfl⟩⟩) | (go_at_call 24; (with_reducible refine (longcaseref08_Change.calls kj2 a0_7 a0_8 a0_9 a0_10 a0_11 a1 false _ A19.out).mono ?_); rintro e w27 ⟨rfl, hb⟩; have n0_ := Aside0.mk (blk_below (g := gb181) (o := .cells #[.int .i64 a0_0, .bool a0_1, .string a0_2, .int .i64 a0_3, .bool true, .string a0_5, .bool true, .int .i64 a0_7, .int .i64 a0_8, .int .i64 a0_9, .int .i64 a0_10, .int .i64 a0_11, .int .i64 a0_12, .int .i64 a0_13, .int .i64 a0_14, .int .i64 a0_15, .int .i64 a0_16] 27 (0, 0)) (by (with_reducible repeat (first | refine blk_drewN ?_ _ | refine blk_drew ?_ | refine blk_alloc ?_ _)); exact BK181.out) hb); have n1_ := Aside0.mk (below_step (by repeat (first | (with_reducible first | exact HB.out | apply below_alloc | apply pw_below_drewN | apply below_drew1 | refine below_set ?_ GE181.out) | exact HB.out)) hb); clear BK181; clear HB; have BK181 := n0_; have HB := n1_; clear n0_ n1_; (try clear hb); (try clear hb2); (try clear hk); (try clear hi)))
                  go_ret
                  exact ⟨by first | rfl | (simp [errW_none, errW_some] <;> rfl) | (simp [*, errW_none, errW_some] <;> rfl), by repeat (first | (with_reducible first | exact HB.out | apply below_alloc | apply pw_below_drewN | apply below_drew1 | refine below_set ?_ GE181.out) | exact HB.out)⟩
              · replace c18 := Bool.eq_false_iff.mpr c18
                subst c18
                have H1 : (some false) = some r := by rw [if_neg (show ¬ (false = true) by decide)] at H; exact H
                clear H
                have H := H1
                clear H1
                obtain rfl := Option.some.inj H
                have hcz28_0 : wc.cell? ⟨gb181, 0, none⟩ = some (.int .i64 a0_0) := (blk_cell BK181.out 0).trans rfl
                have hcz28_1 : wc.cell? ⟨gb181, 1, none⟩ = some (.bool a0_1) := (blk_cell BK181.out 1).trans rfl
                have hcz28_2 : wc.cell? ⟨gb181, 2, none⟩ = some (.string a0_2) := (blk_cell BK181.out 2).trans rfl
                have hcz28_3 : wc.cell? ⟨gb181, 3, none⟩ = some (.int .i64 a0_3) := (blk_cell BK181.out 3).trans rfl
                have hcz28_4 : wc.cell? ⟨gb181, 4, none⟩ = some (.bool true) := (blk_cell BK181.out 4).trans rfl
                have hcz28_5 : wc.cell? ⟨gb181, 5, none⟩ = some (.string a0_5) := (blk_cell BK181.out 5).trans rfl
                have hcz28_6 : wc.cell? ⟨gb181, 6, none⟩ = some (.bool true) := (blk_cell BK181.out 6).trans rfl
                have hcz28_7 : wc.cell? ⟨gb181, 7, none⟩ = some (.int .i64 a0_7) := (blk_cell BK181.out 7).trans rfl
                have hcz28_8 : wc.cell? ⟨gb181, 8, none⟩ = some (.int .i64 a0_8) := (blk_cell BK181.out 8).trans rfl
                have hcz28_9 : wc.cell? ⟨gb181, 9, none⟩ = some (.int .i64 a0_9) := (blk_cell BK181.out 9).trans rfl
                have hcz28_10 : wc.cell? ⟨gb181, 10, none⟩ = some (.int .i64 a0_10) := (blk_cell BK181.out 10).trans rfl
                have hcz28_11 : wc.cell? ⟨gb181, 11, none⟩ = some (.int .i64 a0_11) := (blk_cell BK181.out 11).trans rfl
                have hcz28_12 : wc.cell? ⟨gb181, 12, none⟩ = some (.int .i64 a0_12) := (blk_cell BK181.out 12).trans rfl
                have hcz28_13 : wc.cell? ⟨gb181, 13, none⟩ = some (.int .i64 a0_13) := (blk_cell BK181.out 13).trans rfl
                have hcz28_14 : wc.cell? ⟨gb181, 14, none⟩ = some (.int .i64 a0_14) := (blk_cell BK181.out 14).trans rfl
                have hcz28_15 : wc.cell? ⟨gb181, 15, none⟩ = some (.int .i64 a0_15) := (blk_cell BK181.out 15).trans rfl
                have hcz28_16 : wc.cell? ⟨gb181, 16, none⟩ = some (.int .i64 a0_16) := (blk_cell BK181.out 16).trans rfl
                have hfz28_0 := blk_frozen BK181.out 0
                have hfz28_1 := blk_frozen BK181.out 1
                have hfz28_2 := blk_frozen BK181.out 2
                have hfz28_3 := blk_frozen BK181.out 3
                have hfz28_4 := blk_frozen BK181.out 4
                have hfz28_5 := blk_frozen BK181.out 5
                have hfz28_6 := blk_frozen BK181.out 6
                have hfz28_7 := blk_frozen BK181.out 7
                have hfz28_8 := blk_frozen BK181.out 8
                have hfz28_9 := blk_frozen BK181.out 9
                have hfz28_10 := blk_frozen BK181.out 10
                have hfz28_11 := blk_frozen BK181.out 11
                have hfz28_12 := blk_frozen BK181.out 12
                have hfz28_13 := blk_frozen BK181.out 13
                have hfz28_14 := blk_frozen BK181.out 14
                have hfz28_15 := blk_frozen BK181.out 15
                have hfz28_16 := blk_frozen BK181.out 16
                go_wp2_with (first | (go_at_call 22; (with_reducible refine (longcaseref08_name.calls kj2 a0_5 true _ A15.out).mono ?_); rintro e w' ⟨rfl, ⟨nd, rfl⟩⟩) | (go_at_call 23; (with_reducible refine (longcaseref08_off.calls a0_3 false _ A17.out).mono ?_); rintro e w' ⟨rfl, ⟨nd, rfl⟩⟩))
                go_ret
                exact ⟨by first | rfl | (simp [errW_none, errW_some] <;> rfl) | (simp [*, errW_none, errW_some] <;> rfl), by repeat (first | (with_reducible first | exact HB.out | apply below_alloc | apply pw_below_drewN | apply below_drew1 | refine below_set ?_ GE181.out) | exact HB.out)⟩
            · replace c16 := Bool.eq_false_iff.mpr c16
              subst c16
              have H1 : (some false) = some r := by rw [if_neg (show ¬ (false = true) by decide)] at H; exact H
              clear H
              have H := H1
              clear H1
              obtain rfl := Option.some.inj H
              have hcz29_0 : wc.cell? ⟨gb181, 0, none⟩ = some (.int .i64 a0_0) := (blk_cell BK181.out 0).trans rfl
              have hcz29_1 : wc.cell? ⟨gb181, 1, none⟩ = some (.bool a0_1) := (blk_cell BK181.out 1).trans rfl
              have hcz29_2 : wc.cell? ⟨gb181, 2, none⟩ = some (.string a0_2) := (blk_cell BK181.out 2).trans rfl
              have hcz29_3 : wc.cell? ⟨gb181, 3, none⟩ = some (.int .i64 a0_3) := (blk_cell BK181.out 3).trans rfl
              have hcz29_4 : wc.cell? ⟨gb181, 4, none⟩ = some (.bool true) := (blk_cell BK181.out 4).trans rfl
              have hcz29_5 : wc.cell? ⟨gb181, 5, none⟩ = some (.string a0_5) := (blk_cell BK181.out 5).trans rfl
              have hcz29_6 : wc.cell? ⟨gb181, 6, none⟩ = some (.bool true) := (blk_cell BK181.out 6).trans rfl
              have hcz29_7 : wc.cell? ⟨gb181, 7, none⟩ = some (.int .i64 a0_7) := (blk_cell BK181.out 7).trans rfl
              have hcz29_8 : wc.cell? ⟨gb181, 8, none⟩ = some (.int .i64 a0_8) := (blk_cell BK181.out 8).trans rfl
              have hcz29_9 : wc.cell? ⟨gb181, 9, none⟩ = some (.int .i64 a0_9) := (blk_cell BK181.out 9).trans rfl
              have hcz29_10 : wc.cell? ⟨gb181, 10, none⟩ = some (.int .i64 a0_10) := (blk_cell BK181.out 10).trans rfl
              have hcz29_11 : wc.cell? ⟨gb181, 11, none⟩ = some (.int .i64 a0_11) := (blk_cell BK181.out 11).trans rfl
              have hcz29_12 : wc.cell? ⟨gb181, 12, none⟩ = some (.int .i64 a0_12) := (blk_cell BK181.out 12).trans rfl
              have hcz29_13 : wc.cell? ⟨gb181, 13, none⟩ = some (.int .i64 a0_13) := (blk_cell BK181.out 13).trans rfl
              have hcz29_14 : wc.cell? ⟨gb181, 14, none⟩ = some (.int .i64 a0_14) := (blk_cell BK181.out 14).trans rfl
              have hcz29_15 : wc.cell? ⟨gb181, 15, none⟩ = some (.int .i64 a0_15) := (blk_cell BK181.out 15).trans rfl
              have hcz29_16 : wc.cell? ⟨gb181, 16, none⟩ = some (.int .i64 a0_16) := (blk_cell BK181.out 16).trans rfl
              have hfz29_0 := blk_frozen BK181.out 0
              have hfz29_1 := blk_frozen BK181.out 1
              have hfz29_2 := blk_frozen BK181.out 2
              have hfz29_3 := blk_frozen BK181.out 3
              have hfz29_4 := blk_frozen BK181.out 4
              have hfz29_5 := blk_frozen BK181.out 5
              have hfz29_6 := blk_frozen BK181.out 6
              have hfz29_7 := blk_frozen BK181.out 7
              have hfz29_8 := blk_frozen BK181.out 8
              have hfz29_9 := blk_frozen BK181.out 9
              have hfz29_10 := blk_frozen BK181.out 10
              have hfz29_11 := blk_frozen BK181.out 11
              have hfz29_12 := blk_frozen BK181.out 12
              have hfz29_13 := blk_frozen BK181.out 13
              have hfz29_14 := blk_frozen BK181.out 14
              have hfz29_15 := blk_frozen BK181.out 15
              have hfz29_16 := blk_frozen BK181.out 16
              go_wp2_with (first | (go_at_call 22; (with_reducible refine (longcaseref08_name.calls kj2 a0_5 false _ A15.out).mono ?_); rintro e w' ⟨rfl, ⟨nd, rfl⟩⟩))
              go_ret
              exact ⟨by first | rfl | (simp [errW_none, errW_some] <;> rfl) | (simp [*, errW_none, errW_some] <;> rfl), by repeat (first | (with_reducible first | exact HB.out | apply below_alloc | apply pw_below_drewN | apply below_drew1 | refine below_set ?_ GE181.out) | exact HB.out)⟩
          · replace c14 := Bool.eq_false_iff.mpr c14
            subst c14
            have H1 : (some false) = some r := by rw [if_neg (show ¬ (false = true) by decide)] at H; exact H
            clear H
            have H := H1
            clear H1
            obtain rfl := Option.some.inj H
            have hcz30_0 : wc.cell? ⟨gb181, 0, none⟩ = some (.int .i64 a0_0) := (blk_cell BK181.out 0).trans rfl
            have hcz30_1 : wc.cell? ⟨gb181, 1, none⟩ = some (.bool a0_1) := (blk_cell BK181.out 1).trans rfl
            have hcz30_2 : wc.cell? ⟨gb181, 2, none⟩ = some (.string a0_2) := (blk_cell BK181.out 2).trans rfl
            have hcz30_3 : wc.cell? ⟨gb181, 3, none⟩ = some (.int .i64 a0_3) := (blk_cell BK181.out 3).trans rfl
            have hcz30_4 : wc.cell? ⟨gb181, 4, none⟩ = some (.bool false) := (blk_cell BK181.out 4).trans rfl
            have hcz30_5 : wc.cell? ⟨gb181, 5, none⟩ = some (.string a0_5) := (blk_cell BK181.out 5).trans rfl
            have hcz30_6 : wc.cell? ⟨gb181, 6, none⟩ = some (.bool true) := (blk_cell BK181.out 6).trans rfl
            have hcz30_7 : wc.cell? ⟨gb181, 7, none⟩ = some (.int .i64 a0_7) := (blk_cell BK181.out 7).trans rfl
            have hcz30_8 : wc.cell? ⟨gb181, 8, none⟩ = some (.int .i64 a0_8) := (blk_cell BK181.out 8).trans rfl
            have hcz30_9 : wc.cell? ⟨gb181, 9, none⟩ = some (.int .i64 a0_9) := (blk_cell BK181.out 9).trans rfl
            have hcz30_10 : wc.cell? ⟨gb181, 10, none⟩ = some (.int .i64 a0_10) := (blk_cell BK181.out 10).trans rfl
            have hcz30_11 : wc.cell? ⟨gb181, 11, none⟩ = some (.int .i64 a0_11) := (blk_cell BK181.out 11).trans rfl
            have hcz30_12 : wc.cell? ⟨gb181, 12, none⟩ = some (.int .i64 a0_12) := (blk_cell BK181.out 12).trans rfl
            have hcz30_13 : wc.cell? ⟨gb181, 13, none⟩ = some (.int .i64 a0_13) := (blk_cell BK181.out 13).trans rfl
            have hcz30_14 : wc.cell? ⟨gb181, 14, none⟩ = some (.int .i64 a0_14) := (blk_cell BK181.out 14).trans rfl
            have hcz30_15 : wc.cell? ⟨gb181, 15, none⟩ = some (.int .i64 a0_15) := (blk_cell BK181.out 15).trans rfl
            have hcz30_16 : wc.cell? ⟨gb181, 16, none⟩ = some (.int .i64 a0_16) := (blk_cell BK181.out 16).trans rfl
            have hfz30_0 := blk_frozen BK181.out 0
            have hfz30_1 := blk_frozen BK181.out 1
            have hfz30_2 := blk_frozen BK181.out 2
            have hfz30_3 := blk_frozen BK181.out 3
            have hfz30_4 := blk_frozen BK181.out 4
            have hfz30_5 := blk_frozen BK181.out 5
            have hfz30_6 := blk_frozen BK181.out 6
            have hfz30_7 := blk_frozen BK181.out 7
            have hfz30_8 := blk_frozen BK181.out 8
            have hfz30_9 := blk_frozen BK181.out 9
            have hfz30_10 := blk_frozen BK181.out 10
            have hfz30_11 := blk_frozen BK181.out 11
            have hfz30_12 := blk_frozen BK181.out 12
            have hfz30_13 := blk_frozen BK181.out 13
            have hfz30_14 := blk_frozen BK181.out 14
            have hfz30_15 := blk_frozen BK181.out 15
            have hfz30_16 := blk_frozen BK181.out 16
            go_wp2
            go_ret
            exact ⟨by first | rfl | (simp [errW_none, errW_some] <;> rfl) | (simp [*, errW_none, errW_some] <;> rfl), by repeat (first | (with_reducible first | exact HB.out | apply below_alloc | apply pw_below_drewN | apply below_drew1 | refine below_set ?_ GE181.out) | exact HB.out)⟩
        · replace c13 := Bool.eq_false_iff.mpr c13
          subst c13
          have H1 : (if (a0_3 == 0 && (!a0_4 && (a0_5.toList.isEmpty))) = true then (if (a0_7 == 0 && (a0_8 == 0 && (a0_9 == 0 && (a0_10 == 0 && (a0_11 == 0))))) = true then (some (a0_12 == 0 && (a0_13 == 0 && (a0_14 == 0 && (a0_15 == 0 && (a0_16 == 0)))))) else (some false)) else (some false)) = some r := by rw [if_neg (show ¬ (false = true) by decide)] at H; exact H
          clear H
          have H := H1
          clear H1
          by_cases c31 : (a0_3 == 0 && (!a0_4 && (a0_5.toList.isEmpty))) = true
          · rw [if_pos c31] at H
            have c31b0 : (a0_3 == 0 && (!a0_4 && (a0_5.toList.isEmpty))) = true := c31
            (try (have c31b1 : decide (a0_3 = 0 && (!a0_4 && (a0_5.toList.isEmpty))) = true := by simpa using c31))
            (try (have c31b2 : (a0_3 == 0 && (!a0_4 && (a0_5.toList.isEmpty))) = true := by simpa using c31))
            clear c31
            by_cases c32 : (a0_7 == 0 && (a0_8 == 0 && (a0_9 == 0 && (a0_10 == 0 && (a0_11 == 0))))) = true
            · rw [if_pos c32] at H
              have c32b0 : (a0_7 == 0 && (a0_8 == 0 && (a0_9 == 0 && (a0_10 == 0 && (a0_11 == 0))))) = true := c32
              (try (have c32b1 : decide (a0_7 = 0 && (a0_8 == 0 && (a0_9 == 0 && (a0_10 == 0 && (a0_11 == 0))))) = true := by simpa using c32))
              (try (have c32b2 : (a0_7 == 0 && (a0_8 == 0 && (a0_9 == 0 && (a0_10 == 0 && (a0_11 == 0))))) = true := by simpa using c32))
              clear c32
              obtain rfl := Option.some.inj H
              have hcz33_0 : wc.cell? ⟨gb181, 0, none⟩ = some (.int .i64 a0_0) := (blk_cell BK181.out 0).trans rfl
              have hcz33_1 : wc.cell? ⟨gb181, 1, none⟩ = some (.bool a0_1) := (blk_cell BK181.out 1).trans rfl
              have hcz33_2 : wc.cell? ⟨gb181, 2, none⟩ = some (.string a0_2) := (blk_cell BK181.out 2).trans rfl
              have hcz33_3 : wc.cell? ⟨gb181, 3, none⟩ = some (.int .i64 a0_3) := (blk_cell BK181.out 3).trans rfl
              have hcz33_4 : wc.cell? ⟨gb181, 4, none⟩ = some (.bool a0_4) := (blk_cell BK181.out 4).trans rfl
              have hcz33_5 : wc.cell? ⟨gb181, 5, none⟩ = some (.string a0_5) := (blk_cell BK181.out 5).trans rfl
              have hcz33_6 : wc.cell? ⟨gb181, 6, none⟩ = some (.bool false) := (blk_cell BK181.out 6).trans rfl
              have hcz33_7 : wc.cell? ⟨gb181, 7, none⟩ = some (.int .i64 a0_7) := (blk_cell BK181.out 7).trans rfl
              have hcz33_8 : wc.cell? ⟨gb181, 8, none⟩ = some (.int .i64 a0_8) := (blk_cell BK181.out 8).trans rfl
              have hcz33_9 : wc.cell? ⟨gb181, 9, none⟩ = some (.int .i64 a0_9) := (blk_cell BK181.out 9).trans rfl
              have hcz33_10 : wc.cell? ⟨gb181, 10, none⟩ = some (.int .i64 a0_10) := (blk_cell BK181.out 10).trans rfl
              have hcz33_11 : wc.cell? ⟨gb181, 11, none⟩ = some (.int .i64 a0_11) := (blk_cell BK181.out 11).trans rfl
              have hcz33_12 : wc.cell? ⟨gb181, 12, none⟩ = some (.int .i64 a0_12) := (blk_cell BK181.out 12).trans rfl
              have hcz33_13 : wc.cell? ⟨gb181, 13, none⟩ = some (.int .i64 a0_13) := (blk_cell BK181.out 13).trans rfl
              have hcz33_14 : wc.cell? ⟨gb181, 14, none⟩ = some (.int .i64 a0_14) := (blk_cell BK181.out 14).trans rfl
              have hcz33_15 : wc.cell? ⟨gb181, 15, none⟩ = some (.int .i64 a0_15) := (blk_cell BK181.out 15).trans rfl
              have hcz33_16 : wc.cell? ⟨gb181, 16, none⟩ = some (.int .i64 a0_16) := (blk_cell BK181.out 16).trans rfl
              have hfz33_0 := blk_frozen BK181.out 0
              have hfz33_1 := blk_frozen BK181.out 1
              have hfz33_2 := blk_frozen BK181.out 2
              have hfz33_3 := blk_frozen BK181.out 3
              have hfz33_4 := blk_frozen BK181.out 4
              have hfz33_5 := blk_frozen BK181.out 5
              have hfz33_6 := blk_frozen BK181.out 6
              have hfz33_7 := blk_frozen BK181.out 7
              have hfz33_8 := blk_frozen BK181.out 8
              have hfz33_9 := blk_frozen BK181.out 9
              have hfz33_10 := blk_frozen BK181.out 10
              have hfz33_11 := blk_frozen BK181.out 11
              have hfz33_12 := blk_frozen BK181.out 12
              have hfz33_13 := blk_frozen BK181.out 13
              have hfz33_14 := blk_frozen BK181.out 14
              have hfz33_15 := blk_frozen BK181.out 15
              have hfz33_16 := blk_frozen BK181.out 16
              go_wp2
              go_ret
              exact ⟨by first | rfl | (simp [errW_none, errW_some] <;> rfl) | (simp [*, errW_none, errW_some] <;> rfl), by repeat (first | (with_reducible first | exact HB.out | apply below_alloc | apply pw_below_drewN | apply below_drew1 | refine below_set ?_ GE181.out) | exact HB.out)⟩
            · rw [if_neg c32] at H
              have c32b0 : (a0_7 == 0 && (a0_8 == 0 && (a0_9 == 0 && (a0_10 == 0 && (a0_11 == 0))))) = false := by simpa using c32
              (try (have c32b1 : decide (a0_7 = 0 && (a0_8 == 0 && (a0_9 == 0 && (a0_10 == 0 && (a0_11 == 0))))) = false := by simpa using c32))
              (try (have c32b2 : (a0_7 == 0 && (a0_8 == 0 && (a0_9 == 0 && (a0_10 == 0 && (a0_11 == 0))))) = false := by simpa using c32))
              (try (have c32b3 : ¬ (a0_7 = 0 && (a0_8 == 0 && (a0_9 == 0 && (a0_10 == 0 && (a0_11 == 0))))) := by simpa using c32))
              clear c32
              obtain rfl := Option.some.inj H
              have hcz34_0 : wc.cell? ⟨gb181, 0, none⟩ = some (.int .i64 a0_0) := (blk_cell BK181.out 0).trans rfl
              have hcz34_1 : wc.cell? ⟨gb181, 1, none⟩ = some (.bool a0_1) := (blk_cell BK181.out 1).trans rfl
              have hcz34_2 : wc.cell? ⟨gb181, 2, none⟩ = some (.string a0_2) := (blk_cell BK181.out 2).trans rfl
              have hcz34_3 : wc.cell? ⟨gb181, 3, none⟩ = some (.int .i64 a0_3) := (blk_cell BK181.out 3).trans rfl
              have hcz34_4 : wc.cell? ⟨gb181, 4, none⟩ = some (.bool a0_4) := (blk_cell BK181.out 4).trans rfl
              have hcz34_5 : wc.cell? ⟨gb181, 5, none⟩ = some (.string a0_5) := (blk_cell BK181.out 5).trans rfl
              have hcz34_6 : wc.cell? ⟨gb181, 6, none⟩ = some (.bool false) := (blk_cell BK181.out 6).trans rfl
              have hcz34_7 : wc.cell? ⟨gb181, 7, none⟩ = some (.int .i64 a0_7) := (blk_cell BK181.out 7).trans rfl
              have hcz34_8 : wc.cell? ⟨gb181, 8, none⟩ = some (.int .i64 a0_8) := (blk_cell BK181.out 8).trans rfl
              have hcz34_9 : wc.cell? ⟨gb181, 9, none⟩ = some (.int .i64 a0_9) := (blk_cell BK181.out 9).trans rfl
              have hcz34_10 : wc.cell? ⟨gb181, 10, none⟩ = some (.int .i64 a0_10) := (blk_cell BK181.out 10).trans rfl
              have hcz34_11 : wc.cell? ⟨gb181, 11, none⟩ = some (.int .i64 a0_11) := (blk_cell BK181.out 11).trans rfl
              have hcz34_12 : wc.cell? ⟨gb181, 12, none⟩ = some (.int .i64 a0_12) := (blk_cell BK181.out 12).trans rfl
              have hcz34_13 : wc.cell? ⟨gb181, 13, none⟩ = some (.int .i64 a0_13) := (blk_cell BK181.out 13).trans rfl
              have hcz34_14 : wc.cell? ⟨gb181, 14, none⟩ = some (.int .i64 a0_14) := (blk_cell BK181.out 14).trans rfl
              have hcz34_15 : wc.cell? ⟨gb181, 15, none⟩ = some (.int .i64 a0_15) := (blk_cell BK181.out 15).trans rfl
              have hcz34_16 : wc.cell? ⟨gb181, 16, none⟩ = some (.int .i64 a0_16) := (blk_cell BK181.out 16).trans rfl
              have hfz34_0 := blk_frozen BK181.out 0
              have hfz34_1 := blk_frozen BK181.out 1
              have hfz34_2 := blk_frozen BK181.out 2
              have hfz34_3 := blk_frozen BK181.out 3
              have hfz34_4 := blk_frozen BK181.out 4
              have hfz34_5 := blk_frozen BK181.out 5
              have hfz34_6 := blk_frozen BK181.out 6
              have hfz34_7 := blk_frozen BK181.out 7
              have hfz34_8 := blk_frozen BK181.out 8
              have hfz34_9 := blk_frozen BK181.out 9
              have hfz34_10 := blk_frozen BK181.out 10
              have hfz34_11 := blk_frozen BK181.out 11
              have hfz34_12 := blk_frozen BK181.out 12
              have hfz34_13 := blk_frozen BK181.out 13
              have hfz34_14 := blk_frozen BK181.out 14
              have hfz34_15 := blk_frozen BK181.out 15
              have hfz34_16 := blk_frozen BK181.out 16
              go_wp2
              go_ret
              exact ⟨by first | rfl | (simp [errW_none, errW_some] <;> rfl) | (simp [*, errW_none, errW_some] <;> rfl), by repeat (first | (with_reducible first | exact HB.out | apply below_alloc | apply pw_below_drewN | apply below_drew1 | refine below_set ?_ GE181.out) | exact HB.out)⟩
          · rw [if_neg c31] at H
            have c31b0 : (a0_3 == 0 && (!a0_4 && (a0_5.toList.isEmpty))) = false := by simpa using c31
            (try (have c31b1 : decide (a0_3 = 0 && (!a0_4 && (a0_5.toList.isEmpty))) = false := by simpa using c31))
            (try (have c31b2 : (a0_3 == 0 && (!a0_4 && (a0_5.toList.isEmpty))) = false := by simpa using c31))
            (try (have c31b3 : ¬ (a0_3 = 0 && (!a0_4 && (a0_5.toList.isEmpty))) := by simpa using c31))
            clear c31
            obtain rfl := Option.some.inj H
            have hcz35_0 : wc.cell? ⟨gb181, 0, none⟩ = some (.int .i64 a0_0) := (blk_cell BK181.out 0).trans rfl
            have hcz35_1 : wc.cell? ⟨gb181, 1, none⟩ = some (.bool a0_1) := (blk_cell BK181.out 1).trans rfl
            have hcz35_2 : wc.cell? ⟨gb181, 2, none⟩ = some (.string a0_2) := (blk_cell BK181.out 2).trans rfl
            have hcz35_3 : wc.cell? ⟨gb181, 3, none⟩ = some (.int .i64 a0_3) := (blk_cell BK181.out 3).trans rfl
            have hcz35_4 : wc.cell? ⟨gb181, 4, none⟩ = some (.bool a0_4) := (blk_cell BK181.out 4).trans rfl
            have hcz35_5 : wc.cell? ⟨gb181, 5, none⟩ = some (.string a0_5) := (blk_cell BK181.out 5).trans rfl
            have hcz35_6 : wc.cell? ⟨gb181, 6, none⟩ = some (.bool false) := (blk_cell BK181.out 6).trans rfl
            have hcz35_7 : wc.cell? ⟨gb181, 7, none⟩ = some (.int .i64 a0_7) := (blk_cell BK181.out 7).trans rfl
            have hcz35_8 : wc.cell? ⟨gb181, 8, none⟩ = some (.int .i64 a0_8) := (blk_cell BK181.out 8).trans rfl
            have hcz35_9 : wc.cell? ⟨gb181, 9, none⟩ = some (.int .i64 a0_9) := (blk_cell BK181.out 9).trans rfl
            have hcz35_10 : wc.cell? ⟨gb181, 10, none⟩ = some (.int .i64 a0_10) := (blk_cell BK181.out 10).trans rfl
            have hcz35_11 : wc.cell? ⟨gb181, 11, none⟩ = some (.int .i64 a0_11) := (blk_cell BK181.out 11).trans rfl
            have hcz35_12 : wc.cell? ⟨gb181, 12, none⟩ = some (.int .i64 a0_12) := (blk_cell BK181.out 12).trans rfl
            have hcz35_13 : wc.cell? ⟨gb181, 13, none⟩ = some (.int .i64 a0_13) := (blk_cell BK181.out 13).trans rfl
            have hcz35_14 : wc.cell? ⟨gb181, 14, none⟩ = some (.int .i64 a0_14) := (blk_cell BK181.out 14).trans rfl
            have hcz35_15 : wc.cell? ⟨gb181, 15, none⟩ = some (.int .i64 a0_15) := (blk_cell BK181.out 15).trans rfl
            have hcz35_16 : wc.cell? ⟨gb181, 16, none⟩ = some (.int .i64 a0_16) := (blk_cell BK181.out 16).trans rfl
            have hfz35_0 := blk_frozen BK181.out 0
            have hfz35_1 := blk_frozen BK181.out 1
            have hfz35_2 := blk_frozen BK181.out 2
            have hfz35_3 := blk_frozen BK181.out 3
            have hfz35_4 := blk_frozen BK181.out 4
            have hfz35_5 := blk_frozen BK181.out 5
            have hfz35_6 := blk_frozen BK181.out 6
            have hfz35_7 := blk_frozen BK181.out 7
            have hfz35_8 := blk_frozen BK181.out 8
            have hfz35_9 := blk_frozen BK181.out 9
            have hfz35_10 := blk_frozen BK181.out 10
            have hfz35_11 := blk_frozen BK181.out 11
            have hfz35_12 := blk_frozen BK181.out 12
            have hfz35_13 := blk_frozen BK181.out 13
            have hfz35_14 := blk_frozen BK181.out 14
            have hfz35_15 := blk_frozen BK181.out 15
            have hfz35_16 := blk_frozen BK181.out 16
            go_wp2
            go_ret
            exact ⟨by first | rfl | (simp [errW_none, errW_some] <;> rfl) | (simp [*, errW_none, errW_some] <;> rfl), by repeat (first | (with_reducible first | exact HB.out | apply below_alloc | apply pw_below_drewN | apply below_drew1 | refine below_set ?_ GE181.out) | exact HB.out)⟩
end Go.Proofs.YtnbjneknicppcaaDoor.Fn

namespace Go.Proofs.YtnbjneknicppcaaDoor.Fn
set_option linter.unusedVariables false
set_option linter.unusedSimpArgs false
open Go.RowKit Go.Proofs.YtnbjneknicppcaaDoorW.PrintWords Go.Proofs.YtnbjneknicppcaaDoorW.PrintLast Go.Proofs.YtnbjneknicppcaaDoorW.PrintMore
theorem refChange_j0 (k : Nat) (b : Bool) (c0 : Int) (c1 : Int) (c2 : Int) (c3 : Int) (c4 : Int) : longcaseref08_Change.j0 (k + 1) b c0 c1 c2 c3 c4 = some (!b && dateB c0 c1 c2 c3 c4) := by
  rw [longcaseref08_Change.j0]
  cases b
  · rw [if_neg (by decide)]
    unfold dateB inB
    split
    · split
      · split
        · split
          · rename_i h1 h2 h3 h4; simp [h4]; omega
          · rename_i h1 h2 h3 h4; simp [h4]
        · rename_i h1 h2 h3; simp; omega
      · rename_i h1 h2; simp; omega
    · split
      · split
        · split
          · split
            · rename_i h1 h2 h3 h4 h5; simp [h5]; omega
            · rename_i h1 h2 h3 h4 h5; simp [h5]
          · rename_i h1 h2 h3 h4; simp; omega
        · rename_i h1 h2 h3; simp; omega
      · split
        · repeat' split
          all_goals (refine congrArg some ?_; rw [Bool.eq_iff_iff]; simp; try omega)
        · simp
  · rfl
theorem refChange_eq (k : Nat) (c0 : Int) (c1 : Int) (c2 : Int) (c3 : Int) (c4 : Int) (wide : Bool) : longcaseref08_Change.f (k + 1) c0 c1 c2 c3 c4 wide = some (chgB c0 c1 c2 c3 c4 wide) := by
  unfold longcaseref08_Change.f
  simp only [refChange_j0]
  unfold chgB
  cases wide
  · simp only [Bool.false_eq_true, if_false, Bool.false_and, Bool.or_false]
    unfold inB
    split
    · have : decide (0 ≤ c4) = false := by simp; omega
      rw [this]; rfl
    · have : decide (0 ≤ c4) = true := by simp; omega
      rw [this]
      by_cases h : c4 > 89999
      · have : decide (c4 ≤ 89999) = false := by simp; omega
        simp [h, this]
      · have : decide (c4 ≤ 89999) = true := by simp; omega
        simp [h, this]
  · simp only [if_true, Bool.true_and]
    have e : (inB c4 0 89999 || inB c4 (-604799) 604799) = inB c4 (-604799) 604799 := by
      unfold inB
      rw [Bool.eq_iff_iff]
      simp
      omega
    rw [e]
    unfold inB
    split
    · have : decide (-604799 ≤ c4) = false := by simp; omega
      rw [this]; rfl
    · split
      · have : decide (c4 ≤ 604799) = false := by simp; omega
        rw [this]; simp
      · have h1 : decide (-604799 ≤ c4) = true := by simp; omega
        have h2 : decide (c4 ≤ 604799) = true := by simp; omega
        rw [h1, h2]; rfl
theorem refOff_eq (n : Int) : longcaseref08_off.f n = some (inB n (-89999) 89999) := by
  unfold longcaseref08_off.f inB
  by_cases h : n ≥ -89999
  · rw [if_pos h]; simp; omega
  · rw [if_neg h]; simp; omega
def letB (c : Int) : Bool := (decide (97 ≤ c) && decide (c ≤ 122)) || (decide (65 ≤ c) && decide (c ≤ 90))
theorem refLetter_eq (c : Int) : longcaseref08_letter.f c = some (letB c) := by
  unfold longcaseref08_letter.f letB
  repeat' split
  all_goals (refine congrArg some ?_; rw [Bool.eq_iff_iff]; simp; omega)
theorem refDigit_eq (c : Int) : longcaseref08_digit.f c = some (inB c 48 57) := by
  unfold longcaseref08_digit.f inB
  by_cases h : c ≥ 48
  · rw [if_pos h]; simp; omega
  · rw [if_neg h]; simp; omega
theorem inSet_int (c : Int) (h : 0 ≤ c) : inSet c.toNat = (letB c || inB c 48 57 || c == 43 || c == 45) := by
  obtain ⟨n, rfl⟩ := Int.eq_ofNat_of_zero_le h
  rw [Int.toNat_natCast, Bool.eq_iff_iff]
  unfold inSet letB inB
  simp
  omega
theorem all_drop (p : UInt8 → Bool) (s : ByteArray) (i : Nat) (h : i < s.size) : (s.data.toList.drop i).all p = (p (s[i]'h) && (s.data.toList.drop (i + 1)).all p) := by
  rw [List.drop_eq_getElem_cons (by simpa using h), List.all_cons]
  rfl
theorem refName_l0 (s : ByteArray) (hs : s.size ≤ 20) : ∀ (d k i : Nat), s.size - i ≤ d → i ≤ s.size → longcaseref08_name.l0 (k + d + 1) s i = some ((s.data.toList.drop i).all fun c => inSet c.toNat)
  | d, k, i, hd, hi => by
    rw [longcaseref08_name.l0]
    by_cases h : i < s.size
    · obtain ⟨d, rfl⟩ : ∃ e, d = e + 1 := ⟨d - 1, by omega⟩
      have ih := refName_l0 s hs d k (i + 1) (by omega) (by omega)
      rw [if_pos (by omega), if_pos (by omega), refLetter_eq, refDigit_eq, all_drop _ s i h]
      have hb : bt s i = (((s[i]'h).toNat : Nat) : Int) := (bt_at s i (by simpa using h)).symm
      have hin := inSet_int (bt s i) (by omega)
      rw [hb, Int.toNat_natCast] at hin
      rw [hin, ← hb]
      have hw : wrap64 ((i : Int) + 1) = ((i + 1 : Nat) : Int) := by rw [w64 ⟨by omega, by omega⟩]; omega
      rw [hw, show k + (d + 1) = k + d + 1 by omega, ih]
      simp only [Option.bind_some]
      cases letB (bt s i)
      · cases inB (bt s i) 48 57
        · by_cases h43 : bt s i = 43
          · simp [h43]
          · by_cases h45 : bt s i = 45
            · simp [h45]
            · simp [h43, h45]
        · simp
      · simp
    · rw [if_neg (by omega), List.drop_of_length_le (by simp; omega)]
      rfl
theorem refName_eq (k : Nat) (s : ByteArray) : longcaseref08_name.f (k + 22) s = some (namedB s) := by
  unfold longcaseref08_name.f namedB
  by_cases h3 : (s.size : Int) < 3
  · rw [if_pos h3, longcaseref08_name.j0]
    have : decide (3 ≤ s.size) = false := by simp; omega
    rw [this]
    rfl
  · rw [if_neg h3, longcaseref08_name.j0]
    have e3 : decide (3 ≤ s.size) = true := by simp; omega
    rw [e3]
    by_cases h20 : (s.size : Int) > 20
    · have : decide (s.size ≤ 20) = false := by simp; omega
      have e : decide ((s.size : Int) > 20) = true := by simpa using h20
      rw [this, e]
      rfl
    · have : decide (s.size ≤ 20) = true := by simp; omega
      have e : decide ((s.size : Int) > 20) = false := by simpa using h20
      rw [this, e, if_neg (by decide)]
      have := refName_l0 s (by omega) 20 k 0 (by omega) (by omega)
      rw [show k + 21 = k + 20 + 1 from rfl]
      simpa using this
theorem refRight_j0 (k : Nat) (s0 : Int) (s1 : Bool) (s2 : ByteArray) (d0 : Int) (d1 : Bool) (d2 : ByteArray) (bo : Bool) (a0 : Int) (a1 : Int) (a2 : Int) (a3 : Int) (a4 : Int) (e0 : Int) (e1 : Int) (e2 : Int) (e3 : Int) (e4 : Int) (wide b : Bool) : longcaseref08_Right.j0 (k + 23) wide b s0 s1 s2 d0 d1 d2 bo a0 a1 a2 a3 a4 e0 e1 e2 e3 e4 = some (!b && (if bo = true then d1 && (namedB d2 && (inB d0 (-89999) 89999 && (chgB a0 a1 a2 a3 a4 wide && chgB e0 e1 e2 e3 e4 wide)))
    else ((d0 == 0 && (!d1 && (d2.toList.isEmpty))) && ((a0 == 0 && (a1 == 0 && (a2 == 0 && (a3 == 0 && (a4 == 0))))) && ((e0 == 0 && (e1 == 0 && (e2 == 0 && (e3 == 0 && (e4 == 0))))))))) ) := by
  rw [longcaseref08_Right.j0]
  simp only [refName_eq, refOff_eq, refChange_eq, Option.bind_some]
  cases b
  · cases bo
    · cases (d0 == 0 && (!d1 && (d2.toList.isEmpty))) <;> cases (a0 == 0 && (a1 == 0 && (a2 == 0 && (a3 == 0 && (a4 == 0))))) <;> simp
    · cases d1 <;> cases namedB d2 <;> cases inB d0 (-89999) 89999 <;> cases chgB a0 a1 a2 a3 a4 wide <;> simp
  · rfl
theorem refRight_eq (k : Nat) (s0 : Int) (s1 : Bool) (s2 : ByteArray) (d0 : Int) (d1 : Bool) (d2 : ByteArray) (bo : Bool) (a0 : Int) (a1 : Int) (a2 : Int) (a3 : Int) (a4 : Int) (e0 : Int) (e1 : Int) (e2 : Int) (e3 : Int) (e4 : Int) (wide : Bool) : longcaseref08_Right.f (k + 23) s0 s1 s2 d0 d1 d2 bo a0 a1 a2 a3 a4 e0 e1 e2 e3 e4 wide = some (rightB s0 s1 s2 d0 d1 d2 bo a0 a1 a2 a3 a4 e0 e1 e2 e3 e4 wide) := by
  unfold longcaseref08_Right.f rightB
  simp only [refName_eq (k + 1), refOff_eq, refRight_j0, Option.bind_some]
  cases s1 <;> cases namedB s2 <;> cases inB s0 (-89999) 89999 <;> simp
end Go.Proofs.YtnbjneknicppcaaDoor.Fn

namespace Go.Proofs.YtnbjneknicppcaaDoor.Fn
open Go.RowKit Go.Proofs.YtnbjneknicppcaaDoorW.PrintWords Go.Proofs.YtnbjneknicppcaaDoorW.PrintLast Go.Proofs.YtnbjneknicppcaaDoorW.PrintMore
attribute [local go_sem] max2_int min2_int max_two min_two max_three min_three max_four min_four
set_option linter.unusedVariables false
set_option linter.unusedSimpArgs false
/-! ### longcaseref08_digits: function 57 -/
def longcaseref08_digits.l0 : Nat → ByteArray → Int → Int → Int → Int → Option (Int × Int)
  | 0, _, _, _, _, _ => none
  | k + 1, x0, x1, x2, x8, x9 => if x1 < (x0.size : Int) then (if x1 < (wrap64 (x9 + x2)) then (if 0 ≤ x1 then ((longcaseref08_digit.f (bt x0 x1)).bind fun t222 => (if t222 = true then (longcaseref08_digits.l0 k x0 (wrap64 (x1 + 1)) x2 (wrap64 ((wrap64 (x8 * 10)) + (((bt x0 x1) - 48) % 256))) x9) else (if x1 = x9 then (some (0, (-1))) else (some (x8, x1))))) else (none)) else (if x1 = x9 then (some (0, (-1))) else (some (x8, x1)))) else (if x1 = x9 then (some (0, (-1))) else (some (x8, x1)))
def longcaseref08_digits.f (k : Nat) (a0 : ByteArray) (a1 : Int) (a2 : Int) : Option (Int × Int) := longcaseref08_digits.l0 k a0 a1 a2 0 a1
theorem longcaseref08_digits.mono_l : ∀ k, (∀ y0 y1 y2 y3 y4, LeO (longcaseref08_digits.l0 k y0 y1 y2 y3 y4) (longcaseref08_digits.l0 (k + 1) y0 y1 y2 y3 y4))
  | 0 => fun _ _ _ _ _ r h => by simp [longcaseref08_digits.l0] at h
  | k + 1 => by
    have ih0 := longcaseref08_digits.mono_l k
    · intro y0 y1 y2 y3 y4
      unfold longcaseref08_digits.l0
      repeat' first
      | (with_reducible exact ih0 _ _ _ _ _)
      | (with_reducible exact LeO.refl _)
      | (with_reducible exact LeO.none _)
      | (with_reducible refine LeO.ite ?_ ?_)
      | (with_reducible refine LeO.bind ?_ (fun _ => ?_))
      | exact ih0 _ _ _ _ _
      | exact LeO.none _
      | refine LeO.ite ?_ ?_
      | refine LeO.bind ?_ (fun _ => ?_)
theorem longcaseref08_digits.mono : ∀ a0 a1 a2 k, LeO (longcaseref08_digits.f k a0 a1 a2) (longcaseref08_digits.f (k + 1) a0 a1 a2) := by
  intro a0 a1 a2 k
  have ih0 := longcaseref08_digits.mono_l k
  unfold longcaseref08_digits.f
  repeat' first
      | (with_reducible exact ih0 _ _ _ _ _)
      | (with_reducible exact LeO.refl _)
      | (with_reducible exact LeO.none _)
      | (with_reducible refine LeO.ite ?_ ?_)
      | (with_reducible refine LeO.bind ?_ (fun _ => ?_))
      | exact ih0 _ _ _ _ _
      | exact LeO.none _
      | refine LeO.ite ?_ ?_
      | refine LeO.bind ?_ (fun _ => ?_)
set_option maxHeartbeats 8000000 in
set_option maxRecDepth 100000 in
theorem longcaseref08_digits.calls (k : Nat) (a0 : ByteArray) (a1 : Int) (a2 : Int) (r1 : Int) (r2 : Int) (w : World) (h : longcaseref08_digits.f k a0 a1 a2 = some (r1, r2)) :
    Calls Tryd.prog 57 #[.string a0, .int .i64 a1, .int .i64 a2] w fun e w' => e = .returned (.tuple #[.int .i64 r1, .int .i64 r2]) ∧ Drawn0 w w' := by
  have H : (longcaseref08_digits.l0 k a0 a1 a2 0 a1) = some (r1, r2) := h
  clear h
  have H' := Aside0.mk H
  clear H
  go_enter Tryd.func57, Tryd.ntmps57
  go_wp2
  go_loopg [1, 8] k (fun kq v1 v8 w' => ∃ (x1_1 : Int) (x8_1 : Int), v1 = .int .i64 x1_1 ∧ v8 = .int .i64 x8_1 ∧ Aside0 (longcaseref08_digits.l0 kq a0 x1_1 a2 x8_1 a1 = some (r1, r2)) ∧ Aside0 (kq ≤ k) ∧ Drawn0 w w')
  case atStart => exact ⟨(a1), (0), (by first | rfl | (simp; done) | (simp [*]; done)), (by first | rfl | (simp; done) | (simp [*]; done)), H', ⟨Nat.le_refl _⟩, by repeat (first | exact Drawn0.refl _ | apply Drawn0.step)⟩
  case round =>
    clear H'
    try clear p2
    obtain ⟨x1_1, x8_1, rfl, rfl, HA, HK1, ⟨m1, rfl⟩⟩ := hrel
    cases gk with
    | zero => exact absurd HA.out (by simp [longcaseref08_digits.l0])
    | succ k1 =>
      have H := HA.out
      clear HA
      simp only [longcaseref08_digits.l0] at H
      by_cases c4 : x1_1 < (a0.size : Int)
      · rw [if_pos c4] at H
        have c4b0 : decide (x1_1 < (a0.size : Int)) = true := decide_eq_true c4
        clear c4
        by_cases c5 : x1_1 < (wrap64 (a1 + a2))
        · rw [if_pos c5] at H
          have c5b0 : decide (x1_1 < (wrap64 (a1 + a2))) = true := decide_eq_true c5
          clear c5
          by_cases c6 : 0 ≤ x1_1
          · rw [if_pos c6] at H
            have c6b0 : decide (0 ≤ x1_1) = true := decide_eq_true c6
            clear c6
            replace H := Option.bind_eq_some_iff.mp H
            obtain ⟨t222, A80, H⟩ := H
            replace H : (if t222 = true then (longcaseref08_digits.l0 k1 a0 (wrap64 (x1_1 + 1)) a2 (wrap64 ((wrap64 (x8_1 * 10)) + (((bt a0 x1_1) - 48) % 256))) a1) else (if x1_1 = a1 then (some (0, (-1))) else (some (x8_1, x1_1)))) = some (r1, r2) := H
            have A8 := Aside0.mk A80
            clear A80
            by_cases c9 : t222 = true
            · subst c9
              have H1 : (longcaseref08_digits.l0 k1 a0 (wrap64 (x1_1 + 1)) a2 (wrap64 ((wrap64 (x8_1 * 10)) + (((bt a0 x1_1) - 48) % 256))) a1) = some (r1, r2) := by rw [if_pos rfl] at H; exact H
              clear H
              have H := H1
              clear H1
              have H' := Aside0.mk H
              clear H
              have p7 : 0 ≤ (x1_1 : Int) := of_decide_eq_true (by first | (with_reducible assumption) | assumption)
              have q7 : x1_1 < (a0.size : Int) := of_decide_eq_true (by first | (with_reducible assumption) | assumption)
              have hx7 := bt_at a0 x1_1
              replace p7 := eq_true p7
              replace q7 := eq_true q7
              go_wp2_with (first | (go_at_call 41; (with_reducible refine (longcaseref08_digit.calls (bt a0 x1_1) true _ A8.out).mono ?_); rintro e w' ⟨rfl, ⟨nd, rfl⟩⟩; have p10 : 0 ≤ (x1_1 : Int) := of_decide_eq_true (by first | (with_reducible assumption) | assumption); have q10 : x1_1 < (a0.size : Int) := of_decide_eq_true (by first | (with_reducible assumption) | assumption); have hx10 := bt_at a0 x1_1; replace p10 := eq_true p10; replace q10 := eq_true q10))
              go_roundg k1
              case measure => have := HK1.out; omega
              case rel => exact ⟨(wrap64 (x1_1 + 1)), (wrap64 ((wrap64 (x8_1 * 10)) + (((bt a0 x1_1) - 48) % 256))), (by first | rfl | (simp; done) | (simp [*]; done)), (by first | rfl | (simp; done) | (simp [*]; done)), H', ⟨by have := HK1.out; omega⟩, by repeat (first | exact Drawn0.refl _ | apply Drawn0.step)⟩
            · replace c9 := Bool.eq_false_iff.mpr c9
              subst c9
              have H1 : (if x1_1 = a1 then (some (0, (-1))) else (some (x8_1, x1_1))) = some (r1, r2) := by rw [if_neg (show ¬ (false = true) by decide)] at H; exact H
              clear H
              have H := H1
              clear H1
              by_cases c11 : x1_1 = a1
              · rw [if_pos c11] at H
                have c11b0 : (x1_1 == a1) = true := beq_iff_eq.mpr c11
                have c11b1 : (x1_1 != a1) = false := bne_eq_false_iff_eq.mpr c11
                clear c11
                simp only [Option.some.injEq, Prod.mk.injEq] at H
                obtain ⟨rfl, rfl⟩ := H
                have p7 : 0 ≤ (x1_1 : Int) := of_decide_eq_true (by first | (with_reducible assumption) | assumption)
                have q7 : x1_1 < (a0.size : Int) := of_decide_eq_true (by first | (with_reducible assumption) | assumption)
                have hx7 := bt_at a0 x1_1
                replace p7 := eq_true p7
                replace q7 := eq_true q7
                go_wp2_with (first | (go_at_call 41; (with_reducible refine (longcaseref08_digit.calls (bt a0 x1_1) false _ A8.out).mono ?_); rintro e w' ⟨rfl, ⟨nd, rfl⟩⟩))
                go_ret2
                exact ⟨by first | rfl | (simp; done) | (simp [*]; done), by repeat (first | exact Drawn0.refl _ | apply Drawn0.step)⟩
              · rw [if_neg c11] at H
                have c11b0 : (x1_1 == a1) = false := beq_eq_false_iff_ne.mpr c11
                have c11b1 : (x1_1 != a1) = true := bne_iff_ne.mpr c11
                simp only [Option.some.injEq, Prod.mk.injEq] at H
                obtain ⟨rfl, rfl⟩ := H
                have p7 : 0 ≤ (x1_1 : Int) := of_decide_eq_true (by first | (with_reducible assumption) | assumption)
                have q7 : x1_1 < (a0.size : Int) := of_decide_eq_true (by first | (with_reducible assumption) | assumption)
                have hx7 := bt_at a0 x1_1
                replace p7 := eq_true p7
                replace q7 := eq_true q7
                go_wp2_with (first | (go_at_call 41; (with_reducible refine (longcaseref08_digit.calls (bt a0 x1_1) false _ A8.out).mono ?_); rintro e w' ⟨rfl, ⟨nd, rfl⟩⟩))
                go_ret2
                exact ⟨by first | rfl | (simp; done) | (simp [*]; done), by repeat (first | exact Drawn0.refl _ | apply Drawn0.step)⟩
          · rw [if_neg c6] at H
            exact absurd H (by simp)
        · rw [if_neg c5] at H
          have c5b0 : decide (x1_1 < (wrap64 (a1 + a2))) = false := decide_eq_false c5
          clear c5
          by_cases c12 : x1_1 = a1
          · rw [if_pos c12] at H
            have c12b0 : (x1_1 == a1) = true := beq_iff_eq.mpr c12
            have c12b1 : (x1_1 != a1) = false := bne_eq_false_iff_eq.mpr c12
            clear c12
            simp only [Option.some.injEq, Prod.mk.injEq] at H
            obtain ⟨rfl, rfl⟩ := H
            go_wp2
            go_ret2
            exact ⟨by first | rfl | (simp; done) | (simp [*]; done), by repeat (first | exact Drawn0.refl _ | apply Drawn0.step)⟩
          · rw [if_neg c12] at H
            have c12b0 : (x1_1 == a1) = false := beq_eq_false_iff_ne.mpr c12
            have c12b1 : (x1_1 != a1) = true := bne_iff_ne.mpr c12
            simp only [Option.some.injEq, Prod.mk.injEq] at H
            obtain ⟨rfl, rfl⟩ := H
            go_wp2
            go_ret2
            exact ⟨by first | rfl | (simp; done) | (simp [*]; done), by repeat (first | exact Drawn0.refl _ | apply Drawn0.step)⟩
      · rw [if_neg c4] at H
        have c4b0 : decide (x1_1 < (a0.size : Int)) = false := decide_eq_false c4
        clear c4
        by_cases c13 : x1_1 = a1
        · rw [if_pos c13] at H
          have c13b0 : (x1_1 == a1) = true := beq_iff_eq.mpr c13
          have c13b1 : (x1_1 != a1) = false := bne_eq_false_iff_eq.mpr c13
          clear c13
          simp only [Option.some.injEq, Prod.mk.injEq] at H
          obtain ⟨rfl, rfl⟩ := H
          go_wp2
          go_ret2
          exact ⟨by first | rfl | (simp; done) | (simp [*]; done), by repeat (first | exact Drawn0.refl _ | apply Drawn0.step)⟩
        · rw [if_neg c13] at H
          have c13b0 : (x1_1 == a1) = false := beq_eq_false_iff_ne.mpr c13
          have c13b1 : (x1_1 != a1) = true := bne_iff_ne.mpr c13
          simp only [Option.some.injEq, Prod.mk.injEq] at H
          obtain ⟨rfl, rfl⟩ := H
          go_wp2
          go_ret2
          exact ⟨by first | rfl | (simp; done) | (simp [*]; done), by repeat (first | exact Drawn0.refl _ | apply Drawn0.step)⟩
end Go.Proofs.YtnbjneknicppcaaDoor.Fn

namespace Go.Proofs.YtnbjneknicppcaaDoor.Fn
open Go.RowKit Go.Proofs.YtnbjneknicppcaaDoorW.PrintWords Go.Proofs.YtnbjneknicppcaaDoorW.PrintLast Go.Proofs.YtnbjneknicppcaaDoorW.PrintMore
attribute [local go_sem] max2_int min2_int max_two min_two max_three min_three max_four min_four
set_option linter.unusedVariables false
set_option linter.unusedSimpArgs false
/-! ### longcaseref08_sixty: function 58 -/
def longcaseref08_sixty.j0 : Nat → ByteArray → Int → Bool → Option (Int × Int)
  | 0, _, _, _ => none
  | k + 1, x0, x1, x18 => if x18 = true then (some (0, (-1))) else ((longcaseref08_digits.f k x0 (wrap64 (x1 + 1)) 2).bind fun bt223 => (if bt223.2 = (wrap64 (x1 + 3)) then (if bt223.1 > 59 then (some (0, (-1))) else (some (bt223.1, bt223.2))) else (some (0, (-1)))))
def longcaseref08_sixty.f (k : Nat) (a0 : ByteArray) (a1 : Int) : Option (Int × Int) := if (wrap64 (a1 + 2)) ≥ (a0.size : Int) then (longcaseref08_sixty.j0 k a0 a1 true) else (if 0 ≤ a1 then (if a1 < (a0.size : Int) then (longcaseref08_sixty.j0 k a0 a1 ((bt a0 a1) != 58)) else (none)) else (none))
theorem longcaseref08_sixty.mono_l : ∀ k, (∀ y0 y1 y2, LeO (longcaseref08_sixty.j0 k y0 y1 y2) (longcaseref08_sixty.j0 (k + 1) y0 y1 y2))
  | 0 => fun _ _ _ r h => by simp [longcaseref08_sixty.j0] at h
  | k + 1 => by
    have ih0 := longcaseref08_sixty.mono_l k
    · intro y0 y1 y2
      unfold longcaseref08_sixty.j0
      repeat' first
      | (with_reducible exact ih0 _ _ _)
      | (with_reducible exact longcaseref08_digits.mono _ _ _ _)
      | (with_reducible exact LeO.refl _)
      | (with_reducible exact LeO.none _)
      | (with_reducible refine LeO.ite ?_ ?_)
      | (with_reducible refine LeO.bind ?_ (fun _ => ?_))
      | exact ih0 _ _ _
      | exact longcaseref08_digits.mono _ _ _ _
      | exact LeO.none _
      | refine LeO.ite ?_ ?_
      | refine LeO.bind ?_ (fun _ => ?_)
theorem longcaseref08_sixty.mono : ∀ a0 a1 k, LeO (longcaseref08_sixty.f k a0 a1) (longcaseref08_sixty.f (k + 1) a0 a1) := by
  intro a0 a1 k
  have ih0 := longcaseref08_sixty.mono_l k
  unfold longcaseref08_sixty.f
  repeat' first
      | (with_reducible exact ih0 _ _ _)
      | (with_reducible exact longcaseref08_digits.mono _ _ _ _)
      | (with_reducible exact LeO.refl _)
      | (with_reducible exact LeO.none _)
      | (with_reducible refine LeO.ite ?_ ?_)
      | (with_reducible refine LeO.bind ?_ (fun _ => ?_))
      | exact ih0 _ _ _
      | exact longcaseref08_digits.mono _ _ _ _
      | exact LeO.none _
      | refine LeO.ite ?_ ?_
      | refine LeO.bind ?_ (fun _ => ?_)
set_option maxHeartbeats 8000000 in
set_option maxRecDepth 100000 in
theorem longcaseref08_sixty.calls (k : Nat) (a0 : ByteArray) (a1 : Int) (r1 : Int) (r2 : Int) (w : World) (h : longcaseref08_sixty.f k a0 a1 = some (r1, r2)) :
    Calls Tryd.prog 58 #[.string a0, .int .i64 a1] w fun e w' => e = .returned (.tuple #[.int .i64 r1, .int .i64 r2]) ∧ Drawn0 w w' := by
  have H : (if (wrap64 (a1 + 2)) ≥ (a0.size : Int) then (longcaseref08_sixty.j0 k a0 a1 true) else (if 0 ≤ a1 then (if a1 < (a0.size : Int) then (longcaseref08_sixty.j0 k a0 a1 ((bt a0 a1) != 58)) else (none)) else (none))) = some (r1, r2) := h
  clear h
  have HC3 := Aside0.mk H
  clear H
  go_enter Tryd.func58, Tryd.ntmps58
  go_upto_region 1 with (fail)
  go_cut [18] (fun v18 wc => ∃ (kq : Nat) (x18_2 : Bool), v18 = .bool x18_2 ∧ Aside0 (longcaseref08_sixty.j0 kq a0 a1 x18_2 = some (r1, r2)) ∧ Aside0 (kq ≤ k) ∧ Drawn0 w wc)
  case first =>
    have H := HC3.out
    clear HC3
    by_cases c4 : (wrap64 (a1 + 2)) ≥ (a0.size : Int)
    · rw [if_pos c4] at H
      have c4b0 : decide ((a0.size : Int) ≤ (wrap64 (a1 + 2))) = true := decide_eq_true c4
      clear c4
      (first | rw [c4b0] | (simp only [i64_w, i32_w]; rw [c4b0]) | skip)
      have H' := Aside0.mk H
      clear H
      go_wp2
      go_meet
      case rel => exact ⟨_, (true), (by first | rfl | (simp; done) | (simp [*]; done)), H', ⟨by first | omega | exact Nat.le_refl _⟩, by repeat (first | exact Drawn0.refl _ | apply Drawn0.step)⟩
    · rw [if_neg c4] at H
      have c4b0 : decide ((a0.size : Int) ≤ (wrap64 (a1 + 2))) = false := decide_eq_false c4
      clear c4
      (first | rw [c4b0] | (simp only [i64_w, i32_w]; rw [c4b0]) | skip)
      by_cases c5 : 0 ≤ a1
      · rw [if_pos c5] at H
        have c5b0 : decide (0 ≤ a1) = true := decide_eq_true c5
        clear c5
        by_cases c6 : a1 < (a0.size : Int)
        · rw [if_pos c6] at H
          have c6b0 : decide (a1 < (a0.size : Int)) = true := decide_eq_true c6
          clear c6
          have H' := Aside0.mk H
          clear H
          have p7 : 0 ≤ (a1 : Int) := of_decide_eq_true (by first | (with_reducible assumption) | assumption)
          have q7 : a1 < (a0.size : Int) := of_decide_eq_true (by first | (with_reducible assumption) | assumption)
          have hx7 := bt_at a0 a1
          replace p7 := eq_true p7
          replace q7 := eq_true q7
          go_wp2
          go_meet
          case rel => exact ⟨_, (((bt a0 a1) != 58)), (by first | rfl | (simp; done) | (simp [*]; done)), H', ⟨by first | omega | exact Nat.le_refl _⟩, by repeat (first | exact Drawn0.refl _ | apply Drawn0.step)⟩
        · rw [if_neg c6] at H
          exact absurd H (by simp)
      · rw [if_neg c5] at H
        exact absurd H (by simp)
  case rest =>
    clear HC3
    try clear p2
    try clear c4
    try clear c4b0
    try clear c5
    try clear c5b0
    try clear c6
    try clear c6b0
    try clear p6
    try clear p7
    try clear q7
    try clear hx7
    try clear p7
    try clear q7
    obtain ⟨kq, x18_2, rfl, HA, HJ2, ⟨mc2, rfl⟩⟩ := hcut
    cases kq with
    | zero => exact absurd HA.out (by simp [longcaseref08_sixty.j0])
    | succ kj2 =>
      have H := HA.out
      clear HA
      simp only [longcaseref08_sixty.j0] at H
      by_cases c8 : x18_2 = true
      · subst c8
        have H1 : (some (0, (-1))) = some (r1, r2) := by rw [if_pos rfl] at H; exact H
        clear H
        have H := H1
        clear H1
        simp only [Option.some.injEq, Prod.mk.injEq] at H
        obtain ⟨rfl, rfl⟩ := H
        go_wp2
        go_ret2
        exact ⟨by first | rfl | (simp; done) | (simp [*]; done), by repeat (first | exact Drawn0.refl _ | apply Drawn0.step)⟩
      · replace c8 := Bool.eq_false_iff.mpr c8
        subst c8
        have H1 : ((longcaseref08_digits.f kj2 a0 (wrap64 (a1 + 1)) 2).bind fun bt223 => (if bt223.2 = (wrap64 (a1 + 3)) then (if bt223.1 > 59 then (some (0, (-1))) else (some (bt223.1, bt223.2))) else (some (0, (-1))))) = some (r1, r2) := by rw [if_neg (show ¬ (false = true) by decide)] at H; exact H
        clear H
        have H := H1
        clear H1
        replace H := Option.bind_eq_some_iff.mp H
        obtain ⟨⟨t223, t224⟩, A90, H⟩ := H
        replace H : (if t224 = (wrap64 (a1 + 3)) then (if t223 > 59 then (some (0, (-1))) else (some (t223, t224))) else (some (0, (-1)))) = some (r1, r2) := H
        have A9 := Aside0.mk A90
        clear A90
        by_cases c10 : t224 = (wrap64 (a1 + 3))
        · rw [if_pos c10] at H
          have c10b0 : (t224 == (wrap64 (a1 + 3))) = true := beq_iff_eq.mpr c10
          have c10b1 : (t224 != (wrap64 (a1 + 3))) = false := bne_eq_false_iff_eq.mpr c10
          clear c10
          by_cases c11 : t223 > 59
          · rw [if_pos c11] at H
            have c11b0 : decide (59 < t223) = true := decide_eq_true c11
            clear c11
            simp only [Option.some.injEq, Prod.mk.injEq] at H
            obtain ⟨rfl, rfl⟩ := H
            go_wp2_with (first | ((with_reducible refine gate_callee (f := 57) rfl ?_); refine goesL_ (some 23) rfl rfl Tryd.func57 (by kernel_rfl) rfl #[.string a0, .int .i64 (wrap64 (a1 + 1)), .int .i64 2] rfl (by (try simp only [List.map_toArray, List.map_cons, List.map_nil]); first | done | rfl | (simp only [List.length_drop, List.length_take]; rfl)) ?_; (with_reducible refine (longcaseref08_digits.calls kj2 a0 (wrap64 (a1 + 1)) 2 t223 t224 _ A9.out).mono ?_); rintro e w' ⟨rfl, ⟨nd, rfl⟩⟩; refine ⟨_, rfl, ?_⟩))
            go_ret2
            exact ⟨by first | rfl | (simp; done) | (simp [*]; done), by repeat (first | exact Drawn0.refl _ | apply Drawn0.step)⟩
          · rw [if_neg c11] at H
            have c11b0 : decide (59 < t223) = false := decide_eq_false c11
            clear c11
            simp only [Option.some.injEq, Prod.mk.injEq] at H
            obtain ⟨rfl, rfl⟩ := H
            go_wp2_with (first | ((with_reducible refine gate_callee (f := 57) rfl ?_); refine goesL_ (some 23) rfl rfl Tryd.func57 (by kernel_rfl) rfl #[.string a0, .int .i64 (wrap64 (a1 + 1)), .int .i64 2] rfl (by (try simp only [List.map_toArray, List.map_cons, List.map_nil]); first | done | rfl | (simp only [List.length_drop, List.length_take]; rfl)) ?_; (with_reducible refine (longcaseref08_digits.calls kj2 a0 (wrap64 (a1 + 1)) 2 t223 t224 _ A9.out).mono ?_); rintro e w' ⟨rfl, ⟨nd, rfl⟩⟩; refine ⟨_, rfl, ?_⟩))
            go_ret2
            exact ⟨by first | rfl | (simp; done) | (simp [*]; done), by repeat (first | exact Drawn0.refl _ | apply Drawn0.step)⟩
        · rw [if_neg c10] at H
          have c10b0 : (t224 == (wrap64 (a1 + 3))) = false := beq_eq_false_iff_ne.mpr c10
          have c10b1 : (t224 != (wrap64 (a1 + 3))) = true := bne_iff_ne.mpr c10
          simp only [Option.some.injEq, Prod.mk.injEq] at H
          obtain ⟨rfl, rfl⟩ := H
          go_wp2_with (first | ((with_reducible refine gate_callee (f := 57) rfl ?_); refine goesL_ (some 23) rfl rfl Tryd.func57 (by kernel_rfl) rfl #[.string a0, .int .i64 (wrap64 (a1 + 1)), .int .i64 2] rfl (by (try simp only [List.map_toArray, List.map_cons, List.map_nil]); first | done | rfl | (simp only [List.length_drop, List.length_take]; rfl)) ?_; (with_reducible refine (longcaseref08_digits.calls kj2 a0 (wrap64 (a1 + 1)) 2 t223 t224 _ A9.out).mono ?_); rintro e w' ⟨rfl, ⟨nd, rfl⟩⟩; refine ⟨_, rfl, ?_⟩))
          go_ret2
          exact ⟨by first | rfl | (simp; done) | (simp [*]; done), by repeat (first | exact Drawn0.refl _ | apply Drawn0.step)⟩
end Go.Proofs.YtnbjneknicppcaaDoor.Fn
