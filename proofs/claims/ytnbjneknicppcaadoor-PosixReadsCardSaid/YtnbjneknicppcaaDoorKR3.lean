/- Part 3 of the texts for KTR: contracts and plain laws that it leans on. -/
import Derived.Test.YtnbjneknicppcaaDoorKR2
import Derived.Lib.ItoaNum
import Derived.Lib.Atoi
import Derived.Lib.LaidTab
import Derived.Shelf.Strings.BuilderK
import Derived.StillTailTactics
import Derived.Deep.RegionHeld3
import Derived.Lib.OwnBridge
namespace Go.Proofs.YtnbjneknicppcaaDoor.Fn
open Go.RowKit Go.Proofs.YtnbjneknicppcaaDoorW.PrintWords Go.Proofs.YtnbjneknicppcaaDoorW.PrintLast Go.Proofs.YtnbjneknicppcaaDoorW.PrintMore
attribute [local go_sem] max2_int min2_int max_two min_two max_three min_three max_four min_four
set_option linter.unusedVariables false
set_option linter.unusedSimpArgs false
attribute [local go_sem high] eqA27
/-! ### posix_Right: function 16 -/
def posix_Right.j0 : Nat → Bool → Bool → Int → Bool → ByteArray → Int → Bool → ByteArray → Bool → Int → Int → Int → Int → Int → Int → Int → Int → Int → Int → Option (Bool)
  | 0, _, _, _, _, _, _, _, _, _, _, _, _, _, _, _, _, _, _, _ => none
  | k + 1, x1, x21, x110000, x110001, x110002, x110003, x110004, x110005, x110006, x110007, x110008, x110009, x110010, x110011, x110012, x110013, x110014, x110015, x110016 => if x21 = true then (some false) else (if x110006 = true then (if x110004 = true then ((posix_named.f x110005).bind fun t112 => (if t112 = true then ((posix_within.f x110003 (-89999) 89999).bind fun t113 => (if t113 = true then ((posix_changes.f k x110007 x110008 x110009 x110010 x110011 x1).bind fun t114 => (if t114 = true then ((posix_changes.f k x110012 x110013 x110014 x110015 x110016 x1).bind fun t115 => (some t115)) else (some false))) else (some false))) else (some false))) else (some false)) else (some ((x110003 == 0 && (!x110004 && (x110005.toList.isEmpty))) && (!x110006 && ((x110007 == 0 && (x110008 == 0 && (x110009 == 0 && (x110010 == 0 && (x110011 == 0))))) && ((x110012 == 0 && (x110013 == 0 && (x110014 == 0 && (x110015 == 0 && (x110016 == 0)))))))))))
def posix_Right.f (k : Nat) (a0_0 : Int) (a0_1 : Bool) (a0_2 : ByteArray) (a0_3 : Int) (a0_4 : Bool) (a0_5 : ByteArray) (a0_6 : Bool) (a0_7 : Int) (a0_8 : Int) (a0_9 : Int) (a0_10 : Int) (a0_11 : Int) (a0_12 : Int) (a0_13 : Int) (a0_14 : Int) (a0_15 : Int) (a0_16 : Int) (a1 : Bool) : Option (Bool) := if a0_1 = true then (posix_Right.j0 k a1 true a0_0 a0_1 a0_2 a0_3 a0_4 a0_5 a0_6 a0_7 a0_8 a0_9 a0_10 a0_11 a0_12 a0_13 a0_14 a0_15 a0_16) else ((posix_named.f a0_2).bind fun t110 => (if t110 = true then ((posix_within.f a0_0 (-89999) 89999).bind fun t111 => (posix_Right.j0 k a1 (!t111) a0_0 a0_1 a0_2 a0_3 a0_4 a0_5 a0_6 a0_7 a0_8 a0_9 a0_10 a0_11 a0_12 a0_13 a0_14 a0_15 a0_16)) else (posix_Right.j0 k a1 true a0_0 a0_1 a0_2 a0_3 a0_4 a0_5 a0_6 a0_7 a0_8 a0_9 a0_10 a0_11 a0_12 a0_13 a0_14 a0_15 a0_16)))
theorem posix_Right.mono_l : ∀ k, (∀ y0 y1 y2 y3 y4 y5 y6 y7 y8 y9 y10 y11 y12 y13 y14 y15 y16 y17 y18, LeO (posix_Right.j0 k y0 y1 y2 y3 y4 y5 y6 y7 y8 y9 y10 y11 y12 y13 y14 y15 y16 y17 y18) (posix_Right.j0 (k + 1) y0 y1 y2 y3 y4 y5 y6 y7 y8 y9 y10 y11 y12 y13 y14 y15 y16 y17 y18))
  | 0 => fun _ _ _ _ _ _ _ _ _ _ _ _ _ _ _ _ _ _ _ r h => by simp [posix_Right.j0] at h
  | k + 1 => by
    have ih0 := posix_Right.mono_l k
    · intro y0 y1 y2 y3 y4 y5 y6 y7 y8 y9 y10 y11 y12 y13 y14 y15 y16 y17 y18
      unfold posix_Right.j0
      repeat' first
      | (with_reducible exact ih0 _ _ _ _ _ _ _ _ _ _ _ _ _ _ _ _ _ _ _)
      | (with_reducible exact posix_changes.mono _ _ _ _ _ _ _)
      | (with_reducible exact LeO.refl _)
      | (with_reducible exact LeO.none _)
      | (with_reducible refine LeO.ite ?_ ?_)
      | (with_reducible refine LeO.bind ?_ (fun _ => ?_))
      | exact ih0 _ _ _ _ _ _ _ _ _ _ _ _ _ _ _ _ _ _ _
      | exact posix_changes.mono _ _ _ _ _ _ _
      | exact LeO.none _
      | refine LeO.ite ?_ ?_
      | refine LeO.bind ?_ (fun _ => ?_)
theorem posix_Right.mono : ∀ a0 a1 a2 a3 a4 a5 a6 a7 a8 a9 a10 a11 a12 a13 a14 a15 a16 a17 k, LeO (posix_Right.f k a0 a1 a2 a3 a4 a5 a6 a7 a8 a9 a10 a11 a12 a13 a14 a15 a16 a17) (posix_Right.f (k + 1) a0 a1 a2 a3 a4 a5 a6 a7 a8 a9 a10 a11 a12 a13 a14 a15 a16 a17) := by
  intro a0 a1 a2 a3 a4 a5 a6 a7 a8 a9 a10 a11 a12 a13 a14 a15 a16 a17 k
  have ih0 := posix_Right.mono_l k
  unfold posix_Right.f
  repeat' first
      | (with_reducible exact ih0 _ _ _ _ _ _ _ _ _ _ _ _ _ _ _ _ _ _ _)
      | (with_reducible exact posix_changes.mono _ _ _ _ _ _ _)
      | (with_reducible exact LeO.refl _)
      | (with_reducible exact LeO.none _)
      | (with_reducible refine LeO.ite ?_ ?_)
      | (with_reducible refine LeO.bind ?_ (fun _ => ?_))
      | exact ih0 _ _ _ _ _ _ _ _ _ _ _ _ _ _ _ _ _ _ _
      | exact posix_changes.mono _ _ _ _ _ _ _
      | exact LeO.none _
      | refine LeO.ite ?_ ?_
      | refine LeO.bind ?_ (fun _ => ?_)
set_option maxHeartbeats 8000000 in
set_option maxRecDepth 100000 in
theorem posix_Right.calls (k : Nat) (a0_0 : Int) (a0_1 : Bool) (a0_2 : ByteArray) (a0_3 : Int) (a0_4 : Bool) (a0_5 : ByteArray) (a0_6 : Bool) (a0_7 : Int) (a0_8 : Int) (a0_9 : Int) (a0_10 : Int) (a0_11 : Int) (a0_12 : Int) (a0_13 : Int) (a0_14 : Int) (a0_15 : Int) (a0_16 : Int) (a1 : Bool) (r : Bool) (w : World) (h : posix_Right.f k a0_0 a0_1 a0_2 a0_3 a0_4 a0_5 a0_6 a0_7 a0_8 a0_9 a0_10 a0_11 a0_12 a0_13 a0_14 a0_15 a0_16 a1 = some r) :
    Calls Tryd.prog 16 #[.agg #[.int .i64 a0_0, .bool a0_1, .string a0_2, .int .i64 a0_3, .bool a0_4, .string a0_5, .bool a0_6, .int .i64 a0_7, .int .i64 a0_8, .int .i64 a0_9, .int .i64 a0_10, .int .i64 a0_11, .int .i64 a0_12, .int .i64 a0_13, .int .i64 a0_14, .int .i64 a0_15, .int .i64 a0_16], .bool a1] w fun e w' => e = .returned (.bool r) ∧ Below w.heap.size w w' := by
  have hu27 := Tryd.underlying27
  have hu23 := Tryd.underlying23
  have hu25 := Tryd.underlying25
  have HB := Aside0.mk (Below.refl w.heap.size w)
  have H : (if a0_1 = true then (posix_Right.j0 k a1 true a0_0 a0_1 a0_2 a0_3 a0_4 a0_5 a0_6 a0_7 a0_8 a0_9 a0_10 a0_11 a0_12 a0_13 a0_14 a0_15 a0_16) else ((posix_named.f a0_2).bind fun t110 => (if t110 = true then ((posix_within.f a0_0 (-89999) 89999).bind fun t111 => (posix_Right.j0 k a1 (!t111) a0_0 a0_1 a0_2 a0_3 a0_4 a0_5 a0_6 a0_7 a0_8 a0_9 a0_10 a0_11 a0_12 a0_13 a0_14 a0_15 a0_16)) else (posix_Right.j0 k a1 true a0_0 a0_1 a0_2 a0_3 a0_4 a0_5 a0_6 a0_7 a0_8 a0_9 a0_10 a0_11 a0_12 a0_13 a0_14 a0_15 a0_16)))) = some r := h
  clear h
  have HC3 := Aside0.mk H
  clear H
  go_enter Tryd.func16, Tryd.ntmps16
  go_upto_region 1 with (first | ((with_reducible refine gate_dst (N := 2) rfl ?_); refine box_event ?hg (N := 2) ?hd (cs := #[.int .i64 a0_0, .bool a0_1, .string a0_2, .int .i64 a0_3, .bool a0_4, .string a0_5, .bool a0_6, .int .i64 a0_7, .int .i64 a0_8, .int .i64 a0_9, .int .i64 a0_10, .int .i64 a0_11, .int .i64 a0_12, .int .i64 a0_13, .int .i64 a0_14, .int .i64 a0_15, .int .i64 a0_16]) (t := 27) ?hr ?_; (case hd => rfl); (case hg => rfl); (case hr => first | (go_simp; done) | (go_simp; rfl)); intro gb109 hg w4 hbox hb; have n0_ := Aside0.mk (below_step (by repeat (first | (with_reducible first | exact HB.out | apply below_alloc | apply pw_below_drewN | apply below_drew1) | exact HB.out)) hb); have n1_ := Aside0.mk (hbox); have n2_ := Aside0.mk ((by rw [hg]; exact (below_size (by repeat (first | (with_reducible first | exact HB.out | apply below_alloc | apply pw_below_drewN | apply below_drew1) | exact HB.out))) : w.heap.size ≤ gb109)); have n3_ := Aside0.mk ((by rw [hg]; exact (below_size (by repeat (first | (with_reducible first | exact HB.out | apply below_alloc | apply pw_below_drewN | apply below_drew1) | exact HB.out))) : w.heap.size ≤ gb109)); clear HB; have HB := n0_; have BK109 := n1_; have GW109 := n2_; have GE109 := n3_; clear n0_ n1_ n2_ n3_; clear hb hbox hg))
  (try simp only [Act.put, List.setIfInBounds_toArray, List.set_cons_zero, List.set_cons_succ])
  go_cut [21] (fun v21 wc => ∃ (kq : Nat) (x21_2 : Bool), v21 = .bool x21_2 ∧ Aside0 (posix_Right.j0 kq a1 x21_2 a0_0 a0_1 a0_2 a0_3 a0_4 a0_5 a0_6 a0_7 a0_8 a0_9 a0_10 a0_11 a0_12 a0_13 a0_14 a0_15 a0_16 = some r) ∧ Aside0 (kq ≤ k) ∧ Aside0 (wc.heap[gb109]? = some (.cells #[.int .i64 a0_0, .bool a0_1, .string a0_2, .int .i64 a0_3, .bool a0_4, .string a0_5, .bool a0_6, .int .i64 a0_7, .int .i64 a0_8, .int .i64 a0_9, .int .i64 a0_10, .int .i64 a0_11, .int .i64 a0_12, .int .i64 a0_13, .int .i64 a0_14, .int .i64 a0_15, .int .i64 a0_16] 27 (0, 0))) ∧ Aside0 (Below w.heap.size w wc))
  case first =>
    have H := HC3.out
    clear HC3
    by_cases c5 : a0_1 = true
    · subst c5
      have H1 : (posix_Right.j0 k a1 true a0_0 true a0_2 a0_3 a0_4 a0_5 a0_6 a0_7 a0_8 a0_9 a0_10 a0_11 a0_12 a0_13 a0_14 a0_15 a0_16) = some r := by rw [if_pos rfl] at H; exact H
      clear H
      have H := H1
      clear H1
      have H' := Aside0.mk H
      clear H
      have hcz6_0 : w4.cell? ⟨gb109, 0, none⟩ = some (.int .i64 a0_0) := (blk_cell BK109.out 0).trans rfl
      have hcz6_1 : w4.cell? ⟨gb109, 1, none⟩ = some (.bool true) := (blk_cell BK109.out 1).trans rfl
      have hcz6_2 : w4.cell? ⟨gb109, 2, none⟩ = some (.string a0_2) := (blk_cell BK109.out 2).trans rfl
      have hcz6_3 : w4.cell? ⟨gb109, 3, none⟩ = some (.int .i64 a0_3) := (blk_cell BK109.out 3).trans rfl
      have hcz6_4 : w4.cell? ⟨gb109, 4, none⟩ = some (.bool a0_4) := (blk_cell BK109.out 4).trans rfl
      have hcz6_5 : w4.cell? ⟨gb109, 5, none⟩ = some (.string a0_5) := (blk_cell BK109.out 5).trans rfl
      have hcz6_6 : w4.cell? ⟨gb109, 6, none⟩ = some (.bool a0_6) := (blk_cell BK109.out 6).trans rfl
      have hcz6_7 : w4.cell? ⟨gb109, 7, none⟩ = some (.int .i64 a0_7) := (blk_cell BK109.out 7).trans rfl
      have hcz6_8 : w4.cell? ⟨gb109, 8, none⟩ = some (.int .i64 a0_8) := (blk_cell BK109.out 8).trans rfl
      have hcz6_9 : w4.cell? ⟨gb109, 9, none⟩ = some (.int .i64 a0_9) := (blk_cell BK109.out 9).trans rfl
      have hcz6_10 : w4.cell? ⟨gb109, 10, none⟩ = some (.int .i64 a0_10) := (blk_cell BK109.out 10).trans rfl
      have hcz6_11 : w4.cell? ⟨gb109, 11, none⟩ = some (.int .i64 a0_11) := (blk_cell BK109.out 11).trans rfl
      have hcz6_12 : w4.cell? ⟨gb109, 12, none⟩ = some (.int .i64 a0_12) := (blk_cell BK109.out 12).trans rfl
      have hcz6_13 : w4.cell? ⟨gb109, 13, none⟩ = some (.int .i64 a0_13) := (blk_cell BK109.out 13).trans rfl
      have hcz6_14 : w4.cell? ⟨gb109, 14, none⟩ = some (.int .i64 a0_14) := (blk_cell BK109.out 14).trans rfl
      have hcz6_15 : w4.cell? ⟨gb109, 15, none⟩ = some (.int .i64 a0_15) := (blk_cell BK109.out 15).trans rfl
      have hcz6_16 : w4.cell? ⟨gb109, 16, none⟩ = some (.int .i64 a0_16) := (blk_cell BK109.out 16).trans rfl
      have hfz6_0 := blk_frozen BK109.out 0
      have hfz6_1 := blk_frozen BK109.out 1
      have hfz6_2 := blk_frozen BK109.out 2
      have hfz6_3 := blk_frozen BK109.out 3
      have hfz6_4 := blk_frozen BK109.out 4
      have hfz6_5 := blk_frozen BK109.out 5
      have hfz6_6 := blk_frozen BK109.out 6
      have hfz6_7 := blk_frozen BK109.out 7
      have hfz6_8 := blk_frozen BK109.out 8
      have hfz6_9 := blk_frozen BK109.out 9
      have hfz6_10 := blk_frozen BK109.out 10
      have hfz6_11 := blk_frozen BK109.out 11
      have hfz6_12 := blk_frozen BK109.out 12
      have hfz6_13 := blk_frozen BK109.out 13
      have hfz6_14 := blk_frozen BK109.out 14
      have hfz6_15 := blk_frozen BK109.out 15
      have hfz6_16 := blk_frozen BK109.out 16
      go_wp2
      go_meet
      case rel => exact ⟨_, (true), (by first | rfl | (simp; done) | (simp [*]; done)), H', ⟨by first | omega | exact Nat.le_refl _⟩, ⟨by (with_reducible repeat (first | refine blk_drewN ?_ _ | refine blk_drew ?_ | refine blk_alloc ?_ _)); exact BK109.out⟩, ⟨by repeat (first | (with_reducible first | exact HB.out | apply below_alloc | apply pw_below_drewN | apply below_drew1 | refine below_set ?_ GE109.out) | exact HB.out)⟩⟩
    · replace c5 := Bool.eq_false_iff.mpr c5
      subst c5
      have H1 : ((posix_named.f a0_2).bind fun t110 => (if t110 = true then ((posix_within.f a0_0 (-89999) 89999).bind fun t111 => (posix_Right.j0 k a1 (!t111) a0_0 false a0_2 a0_3 a0_4 a0_5 a0_6 a0_7 a0_8 a0_9 a0_10 a0_11 a0_12 a0_13 a0_14 a0_15 a0_16)) else (posix_Right.j0 k a1 true a0_0 false a0_2 a0_3 a0_4 a0_5 a0_6 a0_7 a0_8 a0_9 a0_10 a0_11 a0_12 a0_13 a0_14 a0_15 a0_16))) = some r := by rw [if_neg (show ¬ (false = true) by decide)] at H; exact H
      clear H
      have H := H1
      clear H1
      replace H := Option.bind_eq_some_iff.mp H
      obtain ⟨t110, A70, H⟩ := H
      replace H : (if t110 = true then ((posix_within.f a0_0 (-89999) 89999).bind fun t111 => (posix_Right.j0 k a1 (!t111) a0_0 false a0_2 a0_3 a0_4 a0_5 a0_6 a0_7 a0_8 a0_9 a0_10 a0_11 a0_12 a0_13 a0_14 a0_15 a0_16)) else (posix_Right.j0 k a1 true a0_0 false a0_2 a0_3 a0_4 a0_5 a0_6 a0_7 a0_8 a0_9 a0_10 a0_11 a0_12 a0_13 a0_14 a0_15 a0_16)) = some r := H
      have A7 := Aside0.mk A70
      clear A70
      by_cases c8 : t110 = true
      · subst c8
        have H1 : ((posix_within.f a0_0 (-89999) 89999).bind fun t111 => (posix_Right.j0 k a1 (!t111) a0_0 false a0_2 a0_3 a0_4 a0_5 a0_6 a0_7 a0_8 a0_9 a0_10 a0_11 a0_12 a0_13 a0_14 a0_15 a0_16)) = some r := by rw [if_pos rfl] at H; exact H
        clear H
        have H := H1
        clear H1
        replace H := Option.bind_eq_some_iff.mp H
        obtain ⟨t111, A90, H⟩ := H
        replace H : (posix_Right.j0 k a1 (!t111) a0_0 false a0_2 a0_3 a0_4 a0_5 a0_6 a0_7 a0_8 a0_9 a0_10 a0_11 a0_12 a0_13 a0_14 a0_15 a0_16) = some r := H
        have A9 := Aside0.mk A90
        clear A90
        have H' := Aside0.mk H
        clear H
        have hcz10_0 : w4.cell? ⟨gb109, 0, none⟩ = some (.int .i64 a0_0) := (blk_cell BK109.out 0).trans rfl
        have hcz10_1 : w4.cell? ⟨gb109, 1, none⟩ = some (.bool false) := (blk_cell BK109.out 1).trans rfl
        have hcz10_2 : w4.cell? ⟨gb109, 2, none⟩ = some (.string a0_2) := (blk_cell BK109.out 2).trans rfl
        have hcz10_3 : w4.cell? ⟨gb109, 3, none⟩ = some (.int .i64 a0_3) := (blk_cell BK109.out 3).trans rfl
        have hcz10_4 : w4.cell? ⟨gb109, 4, none⟩ = some (.bool a0_4) := (blk_cell BK109.out 4).trans rfl
        have hcz10_5 : w4.cell? ⟨gb109, 5, none⟩ = some (.string a0_5) := (blk_cell BK109.out 5).trans rfl
        have hcz10_6 : w4.cell? ⟨gb109, 6, none⟩ = some (.bool a0_6) := (blk_cell BK109.out 6).trans rfl
        have hcz10_7 : w4.cell? ⟨gb109, 7, none⟩ = some (.int .i64 a0_7) := (blk_cell BK109.out 7).trans rfl
        have hcz10_8 : w4.cell? ⟨gb109, 8, none⟩ = some (.int .i64 a0_8) := (blk_cell BK109.out 8).trans rfl
        have hcz10_9 : w4.cell? ⟨gb109, 9, none⟩ = some (.int .i64 a0_9) := (blk_cell BK109.out 9).trans rfl
        have hcz10_10 : w4.cell? ⟨gb109, 10, none⟩ = some (.int .i64 a0_10) := (blk_cell BK109.out 10).trans rfl
        have hcz10_11 : w4.cell? ⟨gb109, 11, none⟩ = some (.int .i64 a0_11) := (blk_cell BK109.out 11).trans rfl
        have hcz10_12 : w4.cell? ⟨gb109, 12, none⟩ = some (.int .i64 a0_12) := (blk_cell BK109.out 12).trans rfl
        have hcz10_13 : w4.cell? ⟨gb109, 13, none⟩ = some (.int .i64 a0_13) := (blk_cell BK109.out 13).trans rfl
        have hcz10_14 : w4.cell? ⟨gb109, 14, none⟩ = some (.int .i64 a0_14) := (blk_cell BK109.out 14).trans rfl
        have hcz10_15 : w4.cell? ⟨gb109, 15, none⟩ = some (.int .i64 a0_15) := (blk_cell BK109.out 15).trans rfl
        have hcz10_16 : w4.cell? ⟨gb109, 16, none⟩ = some (.int .i64 a0_16) := (blk_cell BK109.out 16).trans rfl
        have hfz10_0 := blk_frozen BK109.out 0
        have hfz10_1 := blk_frozen BK109.out 1
        have hfz10_2 := blk_frozen BK109.out 2
        have hfz10_3 := blk_frozen BK109.out 3
        have hfz10_4 := blk_frozen BK109.out 4
        have hfz10_5 := blk_frozen BK109.out 5
        have hfz10_6 := blk_frozen BK109.out 6
        have hfz10_7 := blk_frozen BK109.out 7
        have hfz10_8 := blk_frozen BK109.out 8
        have hfz10_9 := blk_frozen BK109.out 9
        have hfz10_10 := blk_frozen BK109.out 10
        have hfz10_11 := blk_frozen BK109.out 11
        have hfz10_12 := blk_frozen BK109.out 12
        have hfz10_13 := blk_frozen BK109.out 13
        have hfz10_14 := blk_frozen BK109.out 14
        have hfz10_15 := blk_frozen BK109.out 15
        have hfz10_16 := blk_frozen BK109.out 16
        go_wp2_with (first | (go_at_call 29; (with_reducible refine (posix_named.calls a0_2 true _ A7.out).mono ?_); rintro e w11 ⟨rfl, hb⟩; have n0_ := Aside0.mk (blk_below (g := gb109) (o := .cells #[.int .i64 a0_0, .bool false, .string a0_2, .int .i64 a0_3, .bool a0_4, .string a0_5, .bool a0_6, .int .i64 a0_7, .int .i64 a0_8, .int .i64 a0_9, .int .i64 a0_10, .int .i64 a0_11, .int .i64 a0_12, .int .i64 a0_13, .int .i64 a0_14, .int .i64 a0_15, .int .i64 a0_16] 27 (0, 0)) (by (with_reducible repeat (first | refine blk_drewN ?_ _ | refine blk_drew ?_ | refine blk_alloc ?_ _)); exact BK109.out) hb); have n1_ := Aside0.mk (below_step (by repeat (first | (with_reducible first | exact HB.out | apply below_alloc | apply pw_below_drewN | apply below_drew1 | refine below_set ?_ GE109.out) | exact HB.out)) hb); clear BK109; clear HB; have BK109 := n0_; have HB := n1_; clear n0_ n1_; (try clear hb); (try clear hb2); (try clear hk); (try clear hi); have hcz12_0 : w11.cell? ⟨gb109, 0, none⟩ = some (.int .i64 a0_0) := (blk_cell BK109.out 0).trans rfl; have hcz12_1 : w11.cell? ⟨gb109, 1, none⟩ = some (.bool false) := (blk_cell BK109.out 1).trans rfl; have hcz12_2 : w11.cell? ⟨gb109, 2, none⟩ = some (.string a0_2) := (blk_cell BK109.out 2).trans rfl; have hcz12_3 : w11.cell? ⟨gb109, 3, none⟩ = some (.int .i64 a0_3) := (blk_cell BK109.out 3).trans rfl; have hcz12_4 : w11.cell? ⟨gb109, 4, none⟩ = some (.bool a0_4) := (blk_cell BK109.out 4).trans rfl; have hcz12_5 : w11.cell? ⟨gb109, 5, none⟩ = some (.string a0_5) := (blk_cell BK109.out 5).trans rfl; have hcz12_6 : w11.cell? ⟨gb109, 6, none⟩ = some (.bool a0_6) := (blk_cell BK109.out 6).trans rfl; have hcz12_7 : w11.cell? ⟨gb109, 7, none⟩ = some (.int .i64 a0_7) := (blk_cell BK109.out 7).trans rfl; have hcz12_8 : w11.cell? ⟨gb109, 8, none⟩ = some (.int .i64 a0_8) := (blk_cell BK109.out 8).trans rfl; have hcz12_9 : w11.cell? ⟨gb109, 9, none⟩ = some (.int .i64 a0_9) := (blk_cell BK109.out 9).trans rfl; have hcz12_10 : w11.cell? ⟨gb109, 10, none⟩ = some (.int .i64 a0_10) := (blk_cell BK109.out 10).trans rfl; have hcz12_11 : w11.cell? ⟨gb109, 11, none⟩ = some (.int .i64 a0_11) := (blk_cell BK109.out 11).trans rfl; have hcz12_12 : w11.cell? ⟨gb109, 12, none⟩ = some (.int .i64 a0_12) := (blk_cell BK109.out 12).trans rfl; have hcz12_13 : w11.cell? ⟨gb109, 13, none⟩ = some (.int .i64 a0_13) := (blk_cell BK109.out 13).trans rfl; have hcz12_14 : w11.cell? ⟨gb109, 14, none⟩ = some (.int .i64 a0_14) := (blk_cell BK109.out 14).trans rfl; have hcz12_15 : w11.cell? ⟨gb109, 15, none⟩ = some (.int .i64 a0_15) := (blk_cell BK109.out 15).trans rfl; have hcz12_16 : w11.cell? ⟨gb109, 16, none⟩ = some (.int .i64 a0_16) := (blk_cell BK109.out 16).trans rfl; have hfz12_0 := blk_frozen BK109.out 0; have hfz12_1 := blk_frozen BK109.out 1; have hfz12_2 := blk_frozen BK109.out 2; have hfz12_3 := blk_frozen BK109.out 3; have hfz12_4 := blk_frozen BK109.out 4; have hfz12_5 := blk_frozen BK109.out 5; have hfz12_6 := blk_frozen BK109.out 6; have hfz12_7 := blk_frozen BK109.out 7; have hfz12_8 := blk_frozen BK109.out 8; have hfz12_9 := blk_frozen BK109.out 9; have hfz12_10 := blk_frozen BK109.out 10; have hfz12_11 := blk_frozen BK109.out 11; have hfz12_12 := blk_frozen BK109.out 12; have hfz12_13 := blk_frozen BK109.out 13; have hfz12_14 := blk_frozen BK109.out 14; have hfz12_15 := blk_frozen BK109.out 15; have hfz12_16 := blk_frozen BK109.out 16) | (go_at_call 30; (with_reducible refine (posix_within.calls a0_0 (-89999) 89999 t111 _ A9.out).mono ?_); rintro e w' ⟨rfl, ⟨nd, rfl⟩⟩))
        go_meet
        case rel => exact ⟨_, (!t111), (by first | rfl | (simp; done) | (simp [*]; done)), H', ⟨by first | omega | exact Nat.le_refl _⟩, ⟨by (with_reducible repeat (first | refine blk_drewN ?_ _ | refine blk_drew ?_ | refine blk_alloc ?_ _)); exact BK109.out⟩, ⟨by repeat (first | (with_reducible first | exact HB.out | apply below_alloc | apply pw_below_drewN | apply below_drew1 | refine below_set ?_ GE109.out) | exact HB.out)⟩⟩
      · replace c8 := Bool.eq_false_iff.mpr c8
        subst c8
        have H1 : (posix_Right.j0 k a1 true a0_0 false a0_2 a0_3 a0_4 a0_5 a0_6 a0_7 a0_8 a0_9 a0_10 a0_11 a0_12 a0_13 a0_14 a0_15 a0_16) = some r := by rw [if_neg (show ¬ (false = true) by decide)] at H; exact H
        clear H
        have H := H1
        clear H1
        have H' := Aside0.mk H
        clear H
        have hcz13_0 : w4.cell? ⟨gb109, 0, none⟩ = some (.int .i64 a0_0) := (blk_cell BK109.out 0).trans rfl
        have hcz13_1 : w4.cell? ⟨gb109, 1, none⟩ = some (.bool false) := (blk_cell BK109.out 1).trans rfl
        have hcz13_2 : w4.cell? ⟨gb109, 2, none⟩ = some (.string a0_2) := (blk_cell BK109.out 2).trans rfl
        have hcz13_3 : w4.cell? ⟨gb109, 3, none⟩ = some (.int .i64 a0_3) := (blk_cell BK109.out 3).trans rfl
        have hcz13_4 : w4.cell? ⟨gb109, 4, none⟩ = some (.bool a0_4) := (blk_cell BK109.out 4).trans rfl
        have hcz13_5 : w4.cell? ⟨gb109, 5, none⟩ = some (.string a0_5) := (blk_cell BK109.out 5).trans rfl
        have hcz13_6 : w4.cell? ⟨gb109, 6, none⟩ = some (.bool a0_6) := (blk_cell BK109.out 6).trans rfl
        have hcz13_7 : w4.cell? ⟨gb109, 7, none⟩ = some (.int .i64 a0_7) := (blk_cell BK109.out 7).trans rfl
        have hcz13_8 : w4.cell? ⟨gb109, 8, none⟩ = some (.int .i64 a0_8) := (blk_cell BK109.out 8).trans rfl
        have hcz13_9 : w4.cell? ⟨gb109, 9, none⟩ = some (.int .i64 a0_9) := (blk_cell BK109.out 9).trans rfl
        have hcz13_10 : w4.cell? ⟨gb109, 10, none⟩ = some (.int .i64 a0_10) := (blk_cell BK109.out 10).trans rfl
        have hcz13_11 : w4.cell? ⟨gb109, 11, none⟩ = some (.int .i64 a0_11) := (blk_cell BK109.out 11).trans rfl
        have hcz13_12 : w4.cell? ⟨gb109, 12, none⟩ = some (.int .i64 a0_12) := (blk_cell BK109.out 12).trans rfl
        have hcz13_13 : w4.cell? ⟨gb109, 13, none⟩ = some (.int .i64 a0_13) := (blk_cell BK109.out 13).trans rfl
        have hcz13_14 : w4.cell? ⟨gb109, 14, none⟩ = some (.int .i64 a0_14) := (blk_cell BK109.out 14).trans rfl
        have hcz13_15 : w4.cell? ⟨gb109, 15, none⟩ = some (.int .i64 a0_15) := (blk_cell BK109.out 15).trans rfl
        have hcz13_16 : w4.cell? ⟨gb109, 16, none⟩ = some (.int .i64 a0_16) := (blk_cell BK109.out 16).trans rfl
        have hfz13_0 := blk_frozen BK109.out 0
        have hfz13_1 := blk_frozen BK109.out 1
        have hfz13_2 := blk_frozen BK109.out 2
        have hfz13_3 := blk_frozen BK109.out 3
        have hfz13_4 := blk_frozen BK109.out 4
        have hfz13_5 := blk_frozen BK109.out 5
        have hfz13_6 := blk_frozen BK109.out 6
        have hfz13_7 := blk_frozen BK109.out 7
        have hfz13_8 := blk_frozen BK109.out 8
        have hfz13_9 := blk_frozen BK109.out 9
        have hfz13_10 := blk_frozen BK109.out 10
        have hfz13_11 := blk_frozen BK109.out 11
        have hfz13_12 := blk_frozen BK109.out 12
        have hfz13_13 := blk_frozen BK109.out 13
        have hfz13_14 := blk_frozen BK109.out 14
        have hfz13_15 := blk_frozen BK109.out 15
        have hfz13_16 := blk_frozen BK109.out 16
        go_wp2_with (first | (go_at_call 29; (with_reducible refine (posix_named.calls a0_2 false _ A7.out).mono ?_); rintro e w14 ⟨rfl, hb⟩; have n0_ := Aside0.mk (blk_below (g := gb109) (o := .cells #[.int .i64 a0_0, .bool false, .string a0_2, .int .i64 a0_3, .bool a0_4, .string a0_5, .bool a0_6, .int .i64 a0_7, .int .i64 a0_8, .int .i64 a0_9, .int .i64 a0_10, .int .i64 a0_11, .int .i64 a0_12, .int .i64 a0_13, .int .i64 a0_14, .int .i64 a0_15, .int .i64 a0_16] 27 (0, 0)) (by (with_reducible repeat (first | refine blk_drewN ?_ _ | refine blk_drew ?_ | refine blk_alloc ?_ _)); exact BK109.out) hb); have n1_ := Aside0.mk (below_step (by repeat (first | (with_reducible first | exact HB.out | apply below_alloc | apply pw_below_drewN | apply below_drew1 | refine below_set ?_ GE109.out) | exact HB.out)) hb); clear BK109; clear HB; have BK109 := n0_; have HB := n1_; clear n0_ n1_; (try clear hb); (try clear hb2); (try clear hk); (try clear hi)))
        go_meet
        case rel => exact ⟨_, (true), (by first | rfl | (simp; done) | (simp [*]; done)), H', ⟨by first | omega | exact Nat.le_refl _⟩, ⟨by (with_reducible repeat (first | refine blk_drewN ?_ _ | refine blk_drew ?_ | refine blk_alloc ?_ _)); exact BK109.out⟩, ⟨by repeat (first | (with_reducible first | exact HB.out | apply below_alloc | apply pw_below_drewN | apply below_drew1 | refine below_set ?_ GE109.out) | exact HB.out)⟩⟩
  case rest =>
    clear HC3
    try clear c1
    try clear p2
    try clear c5
    try clear c8
    try clear hcz10_0
    try clear hcz10_1
    try clear hcz10_10
    try clear hcz10_11
    try clear hcz10_12
    try clear hcz10_13
    try clear hcz10_14
    try clear hcz10_15
    try clear hcz10_16
    try clear hcz10_2
    try clear hcz10_3
    try clear hcz10_4
    try clear hcz10_5
    try clear hcz10_6
    try clear hcz10_7
    try clear hcz10_8
    try clear hcz10_9
    try clear hcz12_0
    try clear hcz12_1
    try clear hcz12_10
    try clear hcz12_11
    try clear hcz12_12
    try clear hcz12_13
    try clear hcz12_14
    try clear hcz12_15
    try clear hcz12_16
    try clear hcz12_2
    try clear hcz12_3
    try clear hcz12_4
    try clear hcz12_5
    try clear hcz12_6
    try clear hcz12_7
    try clear hcz12_8
    try clear hcz12_9
    try clear hcz13_0
    try clear hcz13_1
    try clear hcz13_10
    try clear hcz13_11
    try clear hcz13_12
    try clear hcz13_13
    try clear hcz13_14
    try clear hcz13_15
    try clear hcz13_16
    try clear hcz13_2
    try clear hcz13_3
    try clear hcz13_4
    try clear hcz13_5
    try clear hcz13_6
    try clear hcz13_7
    try clear hcz13_8
    try clear hcz13_9
    try clear hcz6_0
    try clear hcz6_1
    try clear hcz6_10
    try clear hcz6_11
    try clear hcz6_12
    try clear hcz6_13
    try clear hcz6_14
    try clear hcz6_15
    try clear hcz6_16
    try clear hcz6_2
    try clear hcz6_3
    try clear hcz6_4
    try clear hcz6_5
    try clear hcz6_6
    try clear hcz6_7
    try clear hcz6_8
    try clear hcz6_9
    try clear hfz10_0
    try clear hfz10_1
    try clear hfz10_10
    try clear hfz10_11
    try clear hfz10_12
    try clear hfz10_13
    try clear hfz10_14
    try clear hfz10_15
    try clear hfz10_16
    try clear hfz10_2
    try clear hfz10_3
    try clear hfz10_4
    try clear hfz10_5
    try clear hfz10_6
    try clear hfz10_7
    try clear hfz10_8
    try clear hfz10_9
    try clear hfz12_0
    try clear hfz12_1
    try clear hfz12_10
    try clear hfz12_11
    try clear hfz12_12
    try clear hfz12_13
    try clear hfz12_14
    try clear hfz12_15
    try clear hfz12_16
    try clear hfz12_2
    try clear hfz12_3
    try clear hfz12_4
    try clear hfz12_5
    try clear hfz12_6
    try clear hfz12_7
    try clear hfz12_8
    try clear hfz12_9
    try clear hfz13_0
    try clear hfz13_1
    try clear hfz13_10
    try clear hfz13_11
    try clear hfz13_12
    try clear hfz13_13
    try clear hfz13_14
    try clear hfz13_15
    try clear hfz13_16
    try clear hfz13_2
    try clear hfz13_3
    try clear hfz13_4
    try clear hfz13_5
    try clear hfz13_6
    try clear hfz13_7
    try clear hfz13_8
    try clear hfz13_9
    try clear hfz6_0
    try clear hfz6_1
    try clear hfz6_10
    try clear hfz6_11
    try clear hfz6_12
    try clear hfz6_13
    try clear hfz6_14
    try clear hfz6_15
    try clear hfz6_16
    try clear hfz6_2
    try clear hfz6_3
    try clear hfz6_4
    try clear hfz6_5
    try clear hfz6_6
    try clear hfz6_7
    try clear hfz6_8
    try clear hfz6_9
    obtain ⟨kq, x21_2, rfl, HA, HJ2, BK109, HB⟩ := hcut
    cases kq with
    | zero => exact absurd HA.out (by simp [posix_Right.j0])
    | succ kj2 =>
      have H := HA.out
      clear HA
      simp only [posix_Right.j0] at H
      by_cases c15 : x21_2 = true
      · subst c15
        have H1 : (some false) = some r := by rw [if_pos rfl] at H; exact H
        clear H
        have H := H1
        clear H1
        obtain rfl := Option.some.inj H
        go_wp2
        go_ret
        exact ⟨by first | rfl | (simp [errW_none, errW_some] <;> rfl) | (simp [*, errW_none, errW_some] <;> rfl), by repeat (first | (with_reducible first | exact HB.out | apply below_alloc | apply pw_below_drewN | apply below_drew1 | refine below_set ?_ GE109.out) | exact HB.out)⟩
      · replace c15 := Bool.eq_false_iff.mpr c15
        subst c15
        have H1 : (if a0_6 = true then (if a0_4 = true then ((posix_named.f a0_5).bind fun t112 => (if t112 = true then ((posix_within.f a0_3 (-89999) 89999).bind fun t113 => (if t113 = true then ((posix_changes.f kj2 a0_7 a0_8 a0_9 a0_10 a0_11 a1).bind fun t114 => (if t114 = true then ((posix_changes.f kj2 a0_12 a0_13 a0_14 a0_15 a0_16 a1).bind fun t115 => (some t115)) else (some false))) else (some false))) else (some false))) else (some false)) else (some ((a0_3 == 0 && (!a0_4 && (a0_5.toList.isEmpty))) && (!a0_6 && ((a0_7 == 0 && (a0_8 == 0 && (a0_9 == 0 && (a0_10 == 0 && (a0_11 == 0))))) && ((a0_12 == 0 && (a0_13 == 0 && (a0_14 == 0 && (a0_15 == 0 && (a0_16 == 0))))))))))) = some r := by rw [if_neg (show ¬ (false = true) by decide)] at H; exact H
        clear H
        have H := H1
        clear H1
        by_cases c16 : a0_6 = true
        · subst c16
          have H1 : (if a0_4 = true then ((posix_named.f a0_5).bind fun t112 => (if t112 = true then ((posix_within.f a0_3 (-89999) 89999).bind fun t113 => (if t113 = true then ((posix_changes.f kj2 a0_7 a0_8 a0_9 a0_10 a0_11 a1).bind fun t114 => (if t114 = true then ((posix_changes.f kj2 a0_12 a0_13 a0_14 a0_15 a0_16 a1).bind fun t115 => (some t115)) else (some false))) else (some false))) else (some false))) else (some false)) = some r := by rw [if_pos rfl] at H; exact H
          clear H
          have H := H1
          clear H1
          by_cases c17 : a0_4 = true
          · subst c17
            have H1 : ((posix_named.f a0_5).bind fun t112 => (if t112 = true then ((posix_within.f a0_3 (-89999) 89999).bind fun t113 => (if t113 = true then ((posix_changes.f kj2 a0_7 a0_8 a0_9 a0_10 a0_11 a1).bind fun t114 => (if t114 = true then ((posix_changes.f kj2 a0_12 a0_13 a0_14 a0_15 a0_16 a1).bind fun t115 => (some t115)) else (some false))) else (some false))) else (some false))) = some r := by rw [if_pos rfl] at H; exact H
            clear H
            have H := H1
            clear H1
            replace H := Option.bind_eq_some_iff.mp H
            obtain ⟨t112, A180, H⟩ := H
            replace H : (if t112 = true then ((posix_within.f a0_3 (-89999) 89999).bind fun t113 => (if t113 = true then ((posix_changes.f kj2 a0_7 a0_8 a0_9 a0_10 a0_11 a1).bind fun t114 => (if t114 = true then ((posix_changes.f kj2 a0_12 a0_13 a0_14 a0_15 a0_16 a1).bind fun t115 => (some t115)) else (some false))) else (some false))) else (some false)) = some r := H
            have A18 := Aside0.mk A180
            clear A180
            by_cases c19 : t112 = true
            · subst c19
              have H1 : ((posix_within.f a0_3 (-89999) 89999).bind fun t113 => (if t113 = true then ((posix_changes.f kj2 a0_7 a0_8 a0_9 a0_10 a0_11 a1).bind fun t114 => (if t114 = true then ((posix_changes.f kj2 a0_12 a0_13 a0_14 a0_15 a0_16 a1).bind fun t115 => (some t115)) else (some false))) else (some false))) = some r := by rw [if_pos rfl] at H; exact H
              clear H
              have H := H1
              clear H1
              replace H := Option.bind_eq_some_iff.mp H
              obtain ⟨t113, A200, H⟩ := H
              replace H : (if t113 = true then ((posix_changes.f kj2 a0_7 a0_8 a0_9 a0_10 a0_11 a1).bind fun t114 => (if t114 = true then ((posix_changes.f kj2 a0_12 a0_13 a0_14 a0_15 a0_16 a1).bind fun t115 => (some t115)) else (some false))) else (some false)) = some r := H
              have A20 := Aside0.mk A200
              clear A200
              by_cases c21 : t113 = true
              · subst c21
                have H1 : ((posix_changes.f kj2 a0_7 a0_8 a0_9 a0_10 a0_11 a1).bind fun t114 => (if t114 = true then ((posix_changes.f kj2 a0_12 a0_13 a0_14 a0_15 a0_16 a1).bind fun t115 => (some t115)) else (some false))) = some r := by rw [if_pos rfl] at H; exact H
                clear H
                have H := H1
                clear H1
                replace H := Option.bind_eq_some_iff.mp H
                obtain ⟨t114, A220, H⟩ := H
                replace H : (if t114 = true then ((posix_changes.f kj2 a0_12 a0_13 a0_14 a0_15 a0_16 a1).bind fun t115 => (some t115)) else (some false)) = some r := H
                have A22 := Aside0.mk A220
                clear A220
                by_cases c23 : t114 = true
                · subst c23
                  have H1 : ((posix_changes.f kj2 a0_12 a0_13 a0_14 a0_15 a0_16 a1).bind fun t115 => (some t115)) = some r := by rw [if_pos rfl] at H; exact H
                  clear H
                  have H := H1
                  clear H1
                  replace H := Option.bind_eq_some_iff.mp H
                  obtain ⟨t115, A240, H⟩ := H
                  replace H : (some t115) = some r := H
                  have A24 := Aside0.mk A240
                  clear A240
                  obtain rfl := Option.some.inj H
                  have hcz25_0 : wc.cell? ⟨gb109, 0, none⟩ = some (.int .i64 a0_0) := (blk_cell BK109.out 0).trans rfl
                  have hcz25_1 : wc.cell? ⟨gb109, 1, none⟩ = some (.bool a0_1) := (blk_cell BK109.out 1).trans rfl
                  have hcz25_2 : wc.cell? ⟨gb109, 2, none⟩ = some (.string a0_2) := (blk_cell BK109.out 2).trans rfl
                  have hcz25_3 : wc.cell? ⟨gb109, 3, none⟩ = some (.int .i64 a0_3) := (blk_cell BK109.out 3).trans rfl
                  have hcz25_4 : wc.cell? ⟨gb109, 4, none⟩ = some (.bool true) := (blk_cell BK109.out 4).trans rfl
                  have hcz25_5 : wc.cell? ⟨gb109, 5, none⟩ = some (.string a0_5) := (blk_cell BK109.out 5).trans rfl
                  have hcz25_6 : wc.cell? ⟨gb109, 6, none⟩ = some (.bool true) := (blk_cell BK109.out 6).trans rfl
                  have hcz25_7 : wc.cell? ⟨gb109, 7, none⟩ = some (.int .i64 a0_7) := (blk_cell BK109.out 7).trans rfl
                  have hcz25_8 : wc.cell? ⟨gb109, 8, none⟩ = some (.int .i64 a0_8) := (blk_cell BK109.out 8).trans rfl
                  have hcz25_9 : wc.cell? ⟨gb109, 9, none⟩ = some (.int .i64 a0_9) := (blk_cell BK109.out 9).trans rfl
                  have hcz25_10 : wc.cell? ⟨gb109, 10, none⟩ = some (.int .i64 a0_10) := (blk_cell BK109.out 10).trans rfl
                  have hcz25_11 : wc.cell? ⟨gb109, 11, none⟩ = some (.int .i64 a0_11) := (blk_cell BK109.out 11).trans rfl
                  have hcz25_12 : wc.cell? ⟨gb109, 12, none⟩ = some (.int .i64 a0_12) := (blk_cell BK109.out 12).trans rfl
                  have hcz25_13 : wc.cell? ⟨gb109, 13, none⟩ = some (.int .i64 a0_13) := (blk_cell BK109.out 13).trans rfl
                  have hcz25_14 : wc.cell? ⟨gb109, 14, none⟩ = some (.int .i64 a0_14) := (blk_cell BK109.out 14).trans rfl
                  have hcz25_15 : wc.cell? ⟨gb109, 15, none⟩ = some (.int .i64 a0_15) := (blk_cell BK109.out 15).trans rfl
                  have hcz25_16 : wc.cell? ⟨gb109, 16, none⟩ = some (.int .i64 a0_16) := (blk_cell BK109.out 16).trans rfl
                  have hfz25_0 := blk_frozen BK109.out 0
                  have hfz25_1 := blk_frozen BK109.out 1
                  have hfz25_2 := blk_frozen BK109.out 2
                  have hfz25_3 := blk_frozen BK109.out 3
                  have hfz25_4 := blk_frozen BK109.out 4
                  have hfz25_5 := blk_frozen BK109.out 5
                  have hfz25_6 := blk_frozen BK109.out 6
                  have hfz25_7 := blk_frozen BK109.out 7
                  have hfz25_8 := blk_frozen BK109.out 8
                  have hfz25_9 := blk_frozen BK109.out 9
                  have hfz25_10 := blk_frozen BK109.out 10
                  have hfz25_11 := blk_frozen BK109.out 11
                  have hfz25_12 := blk_frozen BK109.out 12
                  have hfz25_13 := blk_frozen BK109.out 13
                  have hfz25_14 := blk_frozen BK109.out 14
                  have hfz25_15 := blk_frozen BK109.out 15
                  have hfz25_16 := blk_frozen BK109.out 16
                  go_wp2_with (first | (go_at_call 29; (with_reducible refine (posix_named.calls a0_5 true _ A18.out).mono ?_); rintro e w26 ⟨rfl, hb⟩; have n0_ := Aside0.mk (blk_below (g := gb109) (o := .cells #[.int .i64 a0_0, .bool a0_1, .string a0_2, .int .i64 a0_3, .bool true, .string a0_5, .bool true, .int .i64 a0_7, .int .i64 a0_8, .int .i64 a0_9, .int .i64 a0_10, .int .i64 a0_11, .int .i64 a0_12, .int .i64 a0_13, .int .i64 a0_14, .int .i64 a0_15, .int .i64 a0_16] 27 (0, 0)) (by (with_reducible repeat (first | refine blk_drewN ?_ _ | refine blk_drew ?_ | refine blk_alloc ?_ _)); exact BK109.out) hb); have n1_ := Aside0.mk (below_step (by repeat (first | (with_reducible first | exact HB.out | apply below_alloc | apply pw_below_drewN | apply below_drew1 | refine below_set ?_ GE109.out) | exact HB.out)) hb); clear BK109; clear HB; have BK109 := n0_; have HB := n1_; clear n0_ n1_; (try clear hb); (try clear hb2); (try clear hk); (try clear hi); have hcz27_0 : w26.cell? ⟨gb109, 0, none⟩ = some (.int .i64 a0_0) := (blk_cell BK109.out 0).trans rfl; have hcz27_1 : w26.cell? ⟨gb109, 1, none⟩ = some (.bool a0_1) := (blk_cell BK109.out 1).trans rfl; have hcz27_2 : w26.cell? ⟨gb109, 2, none⟩ = some (.string a0_2) := (blk_cell BK109.out 2).trans rfl; have hcz27_3 : w26.cell? ⟨gb109, 3, none⟩ = some (.int .i64 a0_3) := (blk_cell BK109.out 3).trans rfl; have hcz27_4 : w26.cell? ⟨gb109, 4, none⟩ = some (.bool true) := (blk_cell BK109.out 4).trans rfl; have hcz27_5 : w26.cell? ⟨gb109, 5, none⟩ = some (.string a0_5) := (blk_cell BK109.out 5).trans rfl; have hcz27_6 : w26.cell? ⟨gb109, 6, none⟩ = some (.bool true) := (blk_cell BK109.out 6).trans rfl; have hcz27_7 : w26.cell? ⟨gb109, 7, none⟩ = some (.int .i64 a0_7) := (blk_cell BK109.out 7).trans rfl; have hcz27_8 : w26.cell? ⟨gb109, 8, none⟩ = some (.int .i64 a0_8) := (blk_cell BK109.out 8).trans rfl; have hcz27_9 : w26.cell? ⟨gb109, 9, none⟩ = some (.int .i64 a0_9) := (blk_cell BK109.out 9).trans rfl; have hcz27_10 : w26.cell? ⟨gb109, 10, none⟩ = some (.int .i64 a0_10) := (blk_cell BK109.out 10).trans rfl; have hcz27_11 : w26.cell? ⟨gb109, 11, none⟩ = some (.int .i64 a0_11) := (blk_cell BK109.out 11).trans rfl; have hcz27_12 : w26.cell? ⟨gb109, 12, none⟩ = some (.int .i64 a0_12) := (blk_cell BK109.out 12).trans rfl; have hcz27_13 : w26.cell? ⟨gb109, 13, none⟩ = some (.int .i64 a0_13) := (blk_cell BK109.out 13).trans rfl; have hcz27_14 : w26.cell? ⟨gb109, 14, none⟩ = some (.int .i64 a0_14) := (blk_cell BK109.out 14).trans rfl; have hcz27_15 : w26.cell? ⟨gb109, 15, none⟩ = some (.int .i64 a0_15) := (blk_cell BK109.out 15).trans rfl; have hcz27_16 : w26.cell? ⟨gb109, 16, none⟩ = some (.int .i64 a0_16) := (blk_cell BK109.out 16).trans rfl; have hfz27_0 := blk_frozen BK109.out 0; have hfz27_1 := blk_frozen BK109.out 1; have hfz27_2 := blk_frozen BK109.out 2; have hfz27_3 := blk_frozen BK109.out 3; have hfz27_4 := blk_frozen BK109.out 4; have hfz27_5 := blk_frozen BK109.out 5; have hfz27_6 := blk_frozen BK109.out 6; have hfz27_7 := blk_frozen BK109.out 7; have hfz27_8 := blk_frozen BK109.out 8; have hfz27_9 := blk_frozen BK109.out 9; have hfz27_10 := blk_frozen BK109.out 10; have hfz27_11 := blk_frozen BK109.out 11; have hfz27_12 := blk_frozen BK109.out 12; have hfz27_13 := blk_frozen BK109.out 13; have hfz27_14 := blk_frozen BK109.out 14; have hfz27_15 := blk_frozen BK109.out 15; have hfz27_16 := blk_frozen BK109.out 16) | (go_at_call 30; (with_reducible refine (posix_within.calls a0_3 (-89999) 89999 true _ A20.out).mono ?_); rintro e w' ⟨rfl, ⟨nd, rfl⟩⟩) | (go_at_call 31; (with_reducible refine (posix_changes.calls kj2 a0_7 a0_8 a0_9 a0_10 a0_11 a1 true _ A22.out).mono ?_); rintro e w28 ⟨rfl, hb⟩; have n0_ := Aside0.mk (blk_below (g := gb109) (o := .cells #[.int .i64 a0_0, .bool a0_1, .string a0_2, .int .i64 a0_3, .bool true, .string a0_5, .bool true, .int .i64 a0_7, .int .i64 a0_8, .int .i64 a0_9, .int .i64 a0_10, .int .i64 a0_11, .int .i64 a0_12, .int .i64 a0_13, .int .i64 a0_14, .int .i64 a0_15, .int .i64 a0_16] 27 (0, 0)) (by (with_reducible repeat (first | refine blk_drewN ?_ _ | refine blk_drew ?_ | refine blk_alloc ?_ _)); exact BK109.out) hb); have n1_ := Aside0.mk (below_step (by repeat (first | (with_reducible first | exact HB.out | apply below_alloc | apply pw_below_drewN | apply below_drew1 | refine below_set ?_ GE109.out) | exact HB.out)) hb); clear BK109; clear HB; have BK109 := n0_; have HB := n1_; clear n0_ n1_; (try clear hb); (try clear hb2); (try clear hk); (try clear hi); have hcz29_0 : w28.cell? ⟨gb109, 0, none⟩ = some (.int .i64 a0_0) := (blk_cell BK109.out 0).trans rfl; have hcz29_1 : w28.cell? ⟨gb109, 1, none⟩ = some (.bool a0_1) := (blk_cell BK109.out 1).trans rfl; have hcz29_2 : w28.cell? ⟨gb109, 2, none⟩ = some (.string a0_2) := (blk_cell BK109.out 2).trans rfl; have hcz29_3 : w28.cell? ⟨gb109, 3, none⟩ = some (.int .i64 a0_3) := (blk_cell BK109.out 3).trans rfl; have hcz29_4 : w28.cell? ⟨gb109, 4, none⟩ = some (.bool true) := (blk_cell BK109.out 4).trans rfl; have hcz29_5 : w28.cell? ⟨gb109, 5, none⟩ = some (.string a0_5) := (blk_cell BK109.out 5).trans rfl; have hcz29_6 : w28.cell? ⟨gb109, 6, none⟩ = some (.bool true) := (blk_cell BK109.out 6).trans rfl; have hcz29_7 : w28.cell? ⟨gb109, 7, none⟩ = some (.int .i64 a0_7) := (blk_cell BK109.out 7).trans rfl; have hcz29_8 : w28.cell? ⟨gb109, 8, none⟩ = some (.int .i64 a0_8) := (blk_cell BK109.out 8).trans rfl; have hcz29_9 : w28.cell? ⟨gb109, 9, none⟩ = some (.int .i64 a0_9) := (blk_cell BK109.out 9).trans rfl; have hcz29_10 : w28.cell? ⟨gb109, 10, none⟩ = some (.int .i64 a0_10) := (blk_cell BK109.out 10).trans rfl; have hcz29_11 : w28.cell? ⟨gb109, 11, none⟩ = some (.int .i64 a0_11) := (blk_cell BK109.out 11).trans rfl; have hcz29_12 : w28.cell? ⟨gb109, 12, none⟩ = some (.int .i64 a0_12) := (blk_cell BK109.out 12).trans rfl; have hcz29_13 : w28.cell? ⟨gb109, 13, none⟩ = some (.int .i64 a0_13) := (blk_cell BK109.out 13).trans rfl; have hcz29_14 : w28.cell? ⟨gb109, 14, none⟩ = some (.int .i64 a0_14) := (blk_cell BK109.out 14).trans rfl; have hcz29_15 : w28.cell? ⟨gb109, 15, none⟩ = some (.int .i64 a0_15) := (blk_cell BK109.out 15).trans rfl; have hcz29_16 : w28.cell? ⟨gb109, 16, none⟩ = some (.int .i64 a0_16) := (blk_cell BK109.out 16).trans rfl; have hfz29_0 := blk_frozen BK109.out 0; have hfz29_1 := blk_frozen BK109.out 1; have hfz29_2 := blk_frozen BK109.out 2; have hfz29_3 := blk_frozen BK109.out 3; have hfz29_4 := blk_frozen BK109.out 4; have hfz29_5 := blk_frozen BK109.out 5; have hfz29_6 := blk_frozen BK109.out 6; have hfz29_7 := blk_frozen BK109.out 7; have hfz29_8 := blk_frozen BK109.out 8; have hfz29_9 := blk_frozen BK109.out 9; have hfz29_10 := blk_frozen BK109.out 10; have hfz29_11 := blk_frozen BK109.out 11; have hfz29_12 := blk_frozen BK109.out 12; have hfz29_13 := blk_frozen BK109.out 13; have hfz29_14 := blk_frozen BK109.out 14; have hfz29_15 := blk_frozen BK109.out 15; have hfz29_16 := blk_frozen BK109.out 16) | (go_at_call 31; (with_reducible refine (posix_changes.calls kj2 a0_12 a0_13 a0_14 a0_15 a0_16 a1 t115 _ A24.out).mono ?_); rintro e w30 ⟨rfl, hb⟩; have n0_ := Aside0.mk (blk_below (g := gb109) (o := .cells #[.int .i64 a0_0, .bool a0_1, .string a0_2, .int .i64 a0_3, .bool true, .string a0_5, .bool true, .int .i64 a0_7, .int .i64 a0_8, .int .i64 a0_9, .int .i64 a0_10, .int .i64 a0_11, .int .i64 a0_12, .int .i64 a0_13, .int .i64 a0_14, .int .i64 a0_15, .int .i64 a0_16] 27 (0, 0)) (by (with_reducible repeat (first | refine blk_drewN ?_ _ | refine blk_drew ?_ | refine blk_alloc ?_ _)); exact BK109.out) hb); have n1_ := Aside0.mk (below_step (by repeat (first | (with_reducible first | exact HB.out | apply below_alloc | apply pw_below_drewN | apply below_drew1 | refine below_set ?_ GE109.out) | exact HB.out)) hb); clear BK109; clear HB; have BK109 := n0_; have HB := n1_; clear n0_ n1_; (try clear hb); (try clear hb2); (try clear hk); (try clear hi)))
                  go_ret
                  exact ⟨by first | rfl | (simp [errW_none, errW_some] <;> rfl) | (simp [*, errW_none, errW_some] <;> rfl), by repeat (first | (with_reducible first | exact HB.out | apply below_alloc | apply pw_below_drewN | apply below_drew1 | refine below_set ?_ GE109.out) | exact HB.out)⟩
                · replace c23 := Bool.eq_false_iff.mpr c23
                  subst c23
                  have H1 : (some false) = some r := by rw [if_neg (show ¬ (false = true) by decide)] at H; exact H
                  clear H
                  have H := H1
                  clear H1
                  obtain rfl := Option.some.inj H
                  have hcz31_0 : wc.cell? ⟨gb109, 0, none⟩ = some (.int .i64 a0_0) := (blk_cell BK109.out 0).trans rfl
                  have hcz31_1 : wc.cell? ⟨gb109, 1, none⟩ = some (.bool a0_1) := (blk_cell BK109.out 1).trans rfl
                  have hcz31_2 : wc.cell? ⟨gb109, 2, none⟩ = some (.string a0_2) := (blk_cell BK109.out 2).trans rfl
                  have hcz31_3 : wc.cell? ⟨gb109, 3, none⟩ = some (.int .i64 a0_3) := (blk_cell BK109.out 3).trans rfl
                  have hcz31_4 : wc.cell? ⟨gb109, 4, none⟩ = some (.bool true) := (blk_cell BK109.out 4).trans rfl
                  have hcz31_5 : wc.cell? ⟨gb109, 5, none⟩ = some (.string a0_5) := (blk_cell BK109.out 5).trans rfl
                  have hcz31_6 : wc.cell? ⟨gb109, 6, none⟩ = some (.bool true) := (blk_cell BK109.out 6).trans rfl
                  have hcz31_7 : wc.cell? ⟨gb109, 7, none⟩ = some (.int .i64 a0_7) := (blk_cell BK109.out 7).trans rfl
                  have hcz31_8 : wc.cell? ⟨gb109, 8, none⟩ = some (.int .i64 a0_8) := (blk_cell BK109.out 8).trans rfl
                  have hcz31_9 : wc.cell? ⟨gb109, 9, none⟩ = some (.int .i64 a0_9) := (blk_cell BK109.out 9).trans rfl
                  have hcz31_10 : wc.cell? ⟨gb109, 10, none⟩ = some (.int .i64 a0_10) := (blk_cell BK109.out 10).trans rfl
                  have hcz31_11 : wc.cell? ⟨gb109, 11, none⟩ = some (.int .i64 a0_11) := (blk_cell BK109.out 11).trans rfl
                  have hcz31_12 : wc.cell? ⟨gb109, 12, none⟩ = some (.int .i64 a0_12) := (blk_cell BK109.out 12).trans rfl
                  have hcz31_13 : wc.cell? ⟨gb109, 13, none⟩ = some (.int .i64 a0_13) := (blk_cell BK109.out 13).trans rfl
                  have hcz31_14 : wc.cell? ⟨gb109, 14, none⟩ = some (.int .i64 a0_14) := (blk_cell BK109.out 14).trans rfl
                  have hcz31_15 : wc.cell? ⟨gb109, 15, none⟩ = some (.int .i64 a0_15) := (blk_cell BK109.out 15).trans rfl
                  have hcz31_16 : wc.cell? ⟨gb109, 16, none⟩ = some (.int .i64 a0_16) := (blk_cell BK109.out 16).trans rfl
                  have hfz31_0 := blk_frozen BK109.out 0
                  have hfz31_1 := blk_frozen BK109.out 1
                  have hfz31_2 := blk_frozen BK109.out 2
                  have hfz31_3 := blk_frozen BK109.out 3
                  have hfz31_4 := blk_frozen BK109.out 4
                  have hfz31_5 := blk_frozen BK109.out 5
                  have hfz31_6 := blk_frozen BK109.out 6
                  have hfz31_7 := blk_frozen BK109.out 7
                  have hfz31_8 := blk_frozen BK109.out 8
                  have hfz31_9 := blk_frozen BK109.out 9
                  have hfz31_10 := blk_frozen BK109.out 10
                  have hfz31_11 := blk_frozen BK109.out 11
                  have hfz31_12 := blk_frozen BK109.out 12
                  have hfz31_13 := blk_frozen BK109.out 13
                  have hfz31_14 := blk_frozen BK109.out 14
                  have hfz31_15 := blk_frozen BK109.out 15
                  have hfz31_16 := blk_frozen BK109.out 16
                  go_wp2_with (first | (go_at_call 29; (with_reducible refine (posix_named.calls a0_5 true _ A18.out).mono ?_); rintro e w32 ⟨rfl, hb⟩; have n0_ := Aside0.mk (blk_below (g := gb109) (o := .cells #[.int .i64 a0_0, .bool a0_1, .string a0_2, .int .i64 a0_3, .bool true, .string a0_5, .bool true, .int .i64 a0_7, .int .i64 a0_8, .int .i64 a0_9, .int .i64 a0_10, .int .i64 a0_11, .int .i64 a0_12, .int .i64 a0_13, .int .i64 a0_14, .int .i64 a0_15, .int .i64 a0_16] 27 (0, 0)) (by (with_reducible repeat (first | refine blk_drewN ?_ _ | refine blk_drew ?_ | refine blk_alloc ?_ _)); exact BK109.out) hb); have n1_ := Aside0.mk (below_step (by repeat (first | (with_reducible first | exact HB.out | apply below_alloc | apply pw_below_drewN | apply below_drew1 | refine below_set ?_ GE109.out) | exact HB.out)) hb); clear BK109; clear HB; have BK109 := n0_; have HB := n1_; clear n0_ n1_; (try clear hb); (try clear hb2); (try clear hk); (try clear hi); have hcz33_0 : w32.cell? ⟨gb109, 0, none⟩ = some (.int .i64 a0_0) := (blk_cell BK109.out 0).trans rfl; have hcz33_1 : w32.cell? ⟨gb109, 1, none⟩ = some (.bool a0_1) := (blk_cell BK109.out 1).trans rfl; have hcz33_2 : w32.cell? ⟨gb109, 2, none⟩ = some (.string a0_2) := (blk_cell BK109.out 2).trans rfl; have hcz33_3 : w32.cell? ⟨gb109, 3, none⟩ = some (.int .i64 a0_3) := (blk_cell BK109.out 3).trans rfl; have hcz33_4 : w32.cell? ⟨gb109, 4, none⟩ = some (.bool true) := (blk_cell BK109.out 4).trans rfl; have hcz33_5 : w32.cell? ⟨gb109, 5, none⟩ = some (.string a0_5) := (blk_cell BK109.out 5).trans rfl; have hcz33_6 : w32.cell? ⟨gb109, 6, none⟩ = some (.bool true) := (blk_cell BK109.out 6).trans rfl; have hcz33_7 : w32.cell? ⟨gb109, 7, none⟩ = some (.int .i64 a0_7) := (blk_cell BK109.out 7).trans rfl; have hcz33_8 : w32.cell? ⟨gb109, 8, none⟩ = some (.int .i64 a0_8) := (blk_cell BK109.out 8).trans rfl; have hcz33_9 : w32.cell? ⟨gb109, 9, none⟩ = some (.int .i64 a0_9) := (blk_cell BK109.out 9).trans rfl; have hcz33_10 : w32.cell? ⟨gb109, 10, none⟩ = some (.int .i64 a0_10) := (blk_cell BK109.out 10).trans rfl; have hcz33_11 : w32.cell? ⟨gb109, 11, none⟩ = some (.int .i64 a0_11) := (blk_cell BK109.out 11).trans rfl; have hcz33_12 : w32.cell? ⟨gb109, 12, none⟩ = some (.int .i64 a0_12) := (blk_cell BK109.out 12).trans rfl; have hcz33_13 : w32.cell? ⟨gb109, 13, none⟩ = some (.int .i64 a0_13) := (blk_cell BK109.out 13).trans rfl; have hcz33_14 : w32.cell? ⟨gb109, 14, none⟩ = some (.int .i64 a0_14) := (blk_cell BK109.out 14).trans rfl; have hcz33_15 : w32.cell? ⟨gb109, 15, none⟩ = some (.int .i64 a0_15) := (blk_cell BK109.out 15).trans rfl; have hcz33_16 : w32.cell? ⟨gb109, 16, none⟩ = some (.int .i64 a0_16) := (blk_cell BK109.out 16).trans rfl; have hfz33_0 := blk_frozen BK109.out 0; have hfz33_1 := blk_frozen BK109.out 1; have hfz33_2 := blk_frozen BK109.out 2; have hfz33_3 := blk_frozen BK109.out 3; have hfz33_4 := blk_frozen BK109.out 4; have hfz33_5 := blk_frozen BK109.out 5; have hfz33_6 := blk_frozen BK109.out 6; have hfz33_7 := blk_frozen BK109.out 7; have hfz33_8 := blk_frozen BK109.out 8; have hfz33_9 := blk_frozen BK109.out 9; have hfz33_10 := blk_frozen BK109.out 10; have hfz33_11 := blk_frozen BK109.out 11; have hfz33_12 := blk_frozen BK109.out 12; have hfz33_13 := blk_frozen BK109.out 13; have hfz33_14 := blk_frozen BK109.out 14; have hfz33_15 := blk_frozen BK109.out 15; have hfz33_16 := blk_frozen BK109.out 16) | (go_at_call 30; (with_reducible refine (posix_within.calls a0_3 (-89999) 89999 true _ A20.out).mono ?_); rintro e w' ⟨rfl, ⟨nd, rfl⟩⟩) | (go_at_call 31; (with_reducible refine (posix_changes.calls kj2 a0_7 a0_8 a0_9 a0_10 a0_11 a1 false _ A22.out).mono ?_); rintro e w34 ⟨rfl, hb⟩; have n0_ := Aside0.mk (blk_below (g := gb109) (o := .cells #[.int .i64 a0_0, .bool a0_1, .string a0_2, .int .i64 a0_3, .bool true, .string a0_5, .bool true, .int .i64 a0_7, .int .i64 a0_8, .int .i64 a0_9, .int .i64 a0_10, .int .i64 a0_11, .int .i64 a0_12, .int .i64 a0_13, .int .i64 a0_14, .int .i64 a0_15, .int .i64 a0_16] 27 (0, 0)) (by (with_reducible repeat (first | refine blk_drewN ?_ _ | refine blk_drew ?_ | refine blk_alloc ?_ _)); exact BK109.out) hb); have n1_ := Aside0.mk (below_step (by repeat (first | (with_reducible first | exact HB.out | apply below_alloc | apply pw_below_drewN | apply below_drew1 | refine below_set ?_ GE109.out) | exact HB.out)) hb); clear BK109; clear HB; have BK109 := n0_; have HB := n1_; clear n0_ n1_; (try clear hb); (try clear hb2); (try clear hk); (try clear hi)))
                  go_ret
                  exact ⟨by first | rfl | (simp [errW_none, errW_some] <;> rfl) | (simp [*, errW_none, errW_some] <;> rfl), by repeat (first | (with_reducible first | exact HB.out | apply below_alloc | apply pw_below_drewN | apply below_drew1 | refine below_set ?_ GE109.out) | exact HB.out)⟩
              · replace c21 := Bool.eq_false_iff.mpr c21
                subst c21
                have H1 : (some false) = some r := by rw [if_neg (show ¬ (false = true) by decide)] at H; exact H
                clear H
                have H := H1
                clear H1
                obtain rfl := Option.some.inj H
                have hcz35_0 : wc.cell? ⟨gb109, 0, none⟩ = some (.int .i64 a0_0) := (blk_cell BK109.out 0).trans rfl
                have hcz35_1 : wc.cell? ⟨gb109, 1, none⟩ = some (.bool a0_1) := (blk_cell BK109.out 1).trans rfl
                have hcz35_2 : wc.cell? ⟨gb109, 2, none⟩ = some (.string a0_2) := (blk_cell BK109.out 2).trans rfl
                have hcz35_3 : wc.cell? ⟨gb109, 3, none⟩ = some (.int .i64 a0_3) := (blk_cell BK109.out 3).trans rfl
                have hcz35_4 : wc.cell? ⟨gb109, 4, none⟩ = some (.bool true) := (blk_cell BK109.out 4).trans rfl
                have hcz35_5 : wc.cell? ⟨gb109, 5, none⟩ = some (.string a0_5) := (blk_cell BK109.out 5).trans rfl
                have hcz35_6 : wc.cell? ⟨gb109, 6, none⟩ = some (.bool true) := (blk_cell BK109.out 6).trans rfl
                have hcz35_7 : wc.cell? ⟨gb109, 7, none⟩ = some (.int .i64 a0_7) := (blk_cell BK109.out 7).trans rfl
                have hcz35_8 : wc.cell? ⟨gb109, 8, none⟩ = some (.int .i64 a0_8) := (blk_cell BK109.out 8).trans rfl
                have hcz35_9 : wc.cell? ⟨gb109, 9, none⟩ = some (.int .i64 a0_9) := (blk_cell BK109.out 9).trans rfl
                have hcz35_10 : wc.cell? ⟨gb109, 10, none⟩ = some (.int .i64 a0_10) := (blk_cell BK109.out 10).trans rfl
                have hcz35_11 : wc.cell? ⟨gb109, 11, none⟩ = some (.int .i64 a0_11) := (blk_cell BK109.out 11).trans rfl
                have hcz35_12 : wc.cell? ⟨gb109, 12, none⟩ = some (.int .i64 a0_12) := (blk_cell BK109.out 12).trans rfl
                have hcz35_13 : wc.cell? ⟨gb109, 13, none⟩ = some (.int .i64 a0_13) := (blk_cell BK109.out 13).trans rfl
                have hcz35_14 : wc.cell? ⟨gb109, 14, none⟩ = some (.int .i64 a0_14) := (blk_cell BK109.out 14).trans rfl
                have hcz35_15 : wc.cell? ⟨gb109, 15, none⟩ = some (.int .i64 a0_15) := (blk_cell BK109.out 15).trans rfl
                have hcz35_16 : wc.cell? ⟨gb109, 16, none⟩ = some (.int .i64 a0_16) := (blk_cell BK109.out 16).trans rfl
                have hfz35_0 := blk_frozen BK109.out 0
                have hfz35_1 := blk_frozen BK109.out 1
                have hfz35_2 := blk_frozen BK109.out 2
                have hfz35_3 := blk_frozen BK109.out 3
                have hfz35_4 := blk_frozen BK109.out 4
                have hfz35_5 := blk_frozen BK109.out 5
                have hfz35_6 := blk_frozen BK109.out 6
                have hfz35_7 := blk_frozen BK109.out 7
                have hfz35_8 := blk_frozen BK109.out 8
                have hfz35_9 := blk_frozen BK109.out 9
                have hfz35_10 := blk_frozen BK109.out 10
                have hfz35_11 := blk_frozen BK109.out 11
                have hfz35_12 := blk_frozen BK109.out 12
                have hfz35_13 := blk_frozen BK109.out 13
                have hfz35_14 := blk_frozen BK109.out 14
                have hfz35_15 := blk_frozen BK109.out 15
                have hfz35_16 := blk_frozen BK109.out 16
                go_wp2_with (first | (go_at_call 29; (with_reducible refine (posix_named.calls a0_5 true _ A18.out).mono ?_); rintro e w36 ⟨rfl, hb⟩; have n0_ := Aside0.mk (blk_below (g := gb109) (o := .cells #[.int .i64 a0_0, .bool a0_1, .string a0_2, .int .i64 a0_3, .bool true, .string a0_5, .bool true, .int .i64 a0_7, .int .i64 a0_8, .int .i64 a0_9, .int .i64 a0_10, .int .i64 a0_11, .int .i64 a0_12, .int .i64 a0_13, .int .i64 a0_14, .int .i64 a0_15, .int .i64 a0_16] 27 (0, 0)) (by (with_reducible repeat (first | refine blk_drewN ?_ _ | refine blk_drew ?_ | refine blk_alloc ?_ _)); exact BK109.out) hb); have n1_ := Aside0.mk (below_step (by repeat (first | (with_reducible first | exact HB.out | apply below_alloc | apply pw_below_drewN | apply below_drew1 | refine below_set ?_ GE109.out) | exact HB.out)) hb); clear BK109; clear HB; have BK109 := n0_; have HB := n1_; clear n0_ n1_; (try clear hb); (try clear hb2); (try clear hk); (try clear hi); have hcz37_0 : w36.cell? ⟨gb109, 0, none⟩ = some (.int .i64 a0_0) := (blk_cell BK109.out 0).trans rfl; have hcz37_1 : w36.cell? ⟨gb109, 1, none⟩ = some (.bool a0_1) := (blk_cell BK109.out 1).trans rfl; have hcz37_2 : w36.cell? ⟨gb109, 2, none⟩ = some (.string a0_2) := (blk_cell BK109.out 2).trans rfl; have hcz37_3 : w36.cell? ⟨gb109, 3, none⟩ = some (.int .i64 a0_3) := (blk_cell BK109.out 3).trans rfl; have hcz37_4 : w36.cell? ⟨gb109, 4, none⟩ = some (.bool true) := (blk_cell BK109.out 4).trans rfl; have hcz37_5 : w36.cell? ⟨gb109, 5, none⟩ = some (.string a0_5) := (blk_cell BK109.out 5).trans rfl; have hcz37_6 : w36.cell? ⟨gb109, 6, none⟩ = some (.bool true) := (blk_cell BK109.out 6).trans rfl; have hcz37_7 : w36.cell? ⟨gb109, 7, none⟩ = some (.int .i64 a0_7) := (blk_cell BK109.out 7).trans rfl; have hcz37_8 : w36.cell? ⟨gb109, 8, none⟩ = some (.int .i64 a0_8) := (blk_cell BK109.out 8).trans rfl; have hcz37_9 : w36.cell? ⟨gb109, 9, none⟩ = some (.int .i64 a0_9) := (blk_cell BK109.out 9).trans rfl; have hcz37_10 : w36.cell? ⟨gb109, 10, none⟩ = some (.int .i64 a0_10) := (blk_cell BK109.out 10).trans rfl; have hcz37_11 : w36.cell? ⟨gb109, 11, none⟩ = some (.int .i64 a0_11) := (blk_cell BK109.out 11).trans rfl; have hcz37_12 : w36.cell? ⟨gb109, 12, none⟩ = some (.int .i64 a0_12) := (blk_cell BK109.out 12).trans rfl; have hcz37_13 : w36.cell? ⟨gb109, 13, none⟩ = some (.int .i64 a0_13) := (blk_cell BK109.out 13).trans rfl; have hcz37_14 : w36.cell? ⟨gb109, 14, none⟩ = some (.int .i64 a0_14) := (blk_cell BK109.out 14).trans rfl; have hcz37_15 : w36.cell? ⟨gb109, 15, none⟩ = some (.int .i64 a0_15) := (blk_cell BK109.out 15).trans rfl; have hcz37_16 : w36.cell? ⟨gb109, 16, none⟩ = some (.int .i64 a0_16) := (blk_cell BK109.out 16).trans rfl; have hfz37_0 := blk_frozen BK109.out 0; have hfz37_1 := blk_frozen BK109.out 1; have hfz37_2 := blk_frozen BK109.out 2; have hfz37_3 := blk_frozen BK109.out 3; have hfz37_4 := blk_frozen BK109.out 4; have hfz37_5 := blk_frozen BK109.out 5; have hfz37_6 := blk_frozen BK109.out 6; have hfz37_7 := blk_frozen BK109.out 7; have hfz37_8 := blk_frozen BK109.out 8; have hfz37_9 := blk_frozen BK109.out 9; have hfz37_10 := blk_frozen BK109.out 10; have hfz37_11 := blk_frozen BK109.out 11; have hfz37_12 := blk_frozen BK109.out 12; have hfz37_13 := blk_frozen BK109.out 13; have hfz37_14 := blk_frozen BK109.out 14; have hfz37_15 := blk_frozen BK109.out 15; have hfz37_16 := blk_frozen BK109.out 16) | (go_at_call 30; (with_reducible refine (posix_within.calls a0_3 (-89999) 89999 false _ A20.out).mono ?_); rintro e w' ⟨rfl, ⟨nd, rfl⟩⟩))
                go_ret
                exact ⟨by first | rfl | (simp [errW_none, errW_some] <;> rfl) | (simp [*, errW_none, errW_some] <;> rfl), by repeat (first | (with_reducible first | exact HB.out | apply below_alloc | apply pw_below_drewN | apply below_drew1 | refine below_set ?_ GE109.out) | exact HB.out)⟩
            · replace c19 := Bool.eq_false_iff.mpr c19
              subst c19
              have H1 : (some false) = some r := by rw [if_neg (show ¬ (false = true) by decide)] at H; exact H
              clear H
              have H := H1
              clear H1
              obtain rfl := Option.some.inj H
              have hcz38_0 : wc.cell? ⟨gb109, 0, none⟩ = some (.int .i64 a0_0) := (blk_cell BK109.out 0).trans rfl
              have hcz38_1 : wc.cell? ⟨gb109, 1, none⟩ = some (.bool a0_1) := (blk_cell BK109.out 1).trans rfl
              have hcz38_2 : wc.cell? ⟨gb109, 2, none⟩ = some (.string a0_2) := (blk_cell BK109.out 2).trans rfl
              have hcz38_3 : wc.cell? ⟨gb109, 3, none⟩ = some (.int .i64 a0_3) := (blk_cell BK109.out 3).trans rfl
              have hcz38_4 : wc.cell? ⟨gb109, 4, none⟩ = some (.bool true) := (blk_cell BK109.out 4).trans rfl
              have hcz38_5 : wc.cell? ⟨gb109, 5, none⟩ = some (.string a0_5) := (blk_cell BK109.out 5).trans rfl
              have hcz38_6 : wc.cell? ⟨gb109, 6, none⟩ = some (.bool true) := (blk_cell BK109.out 6).trans rfl
              have hcz38_7 : wc.cell? ⟨gb109, 7, none⟩ = some (.int .i64 a0_7) := (blk_cell BK109.out 7).trans rfl
              have hcz38_8 : wc.cell? ⟨gb109, 8, none⟩ = some (.int .i64 a0_8) := (blk_cell BK109.out 8).trans rfl
              have hcz38_9 : wc.cell? ⟨gb109, 9, none⟩ = some (.int .i64 a0_9) := (blk_cell BK109.out 9).trans rfl
              have hcz38_10 : wc.cell? ⟨gb109, 10, none⟩ = some (.int .i64 a0_10) := (blk_cell BK109.out 10).trans rfl
              have hcz38_11 : wc.cell? ⟨gb109, 11, none⟩ = some (.int .i64 a0_11) := (blk_cell BK109.out 11).trans rfl
              have hcz38_12 : wc.cell? ⟨gb109, 12, none⟩ = some (.int .i64 a0_12) := (blk_cell BK109.out 12).trans rfl
              have hcz38_13 : wc.cell? ⟨gb109, 13, none⟩ = some (.int .i64 a0_13) := (blk_cell BK109.out 13).trans rfl
              have hcz38_14 : wc.cell? ⟨gb109, 14, none⟩ = some (.int .i64 a0_14) := (blk_cell BK109.out 14).trans rfl
              have hcz38_15 : wc.cell? ⟨gb109, 15, none⟩ = some (.int .i64 a0_15) := (blk_cell BK109.out 15).trans rfl
              have hcz38_16 : wc.cell? ⟨gb109, 16, none⟩ = some (.int .i64 a0_16) := (blk_cell BK109.out 16).trans rfl
              have hfz38_0 := blk_frozen BK109.out 0
              have hfz38_1 := blk_frozen BK109.out 1
              have hfz38_2 := blk_frozen BK109.out 2
              have hfz38_3 := blk_frozen BK109.out 3
              have hfz38_4 := blk_frozen BK109.out 4
              have hfz38_5 := blk_frozen BK109.out 5
              have hfz38_6 := blk_frozen BK109.out 6
              have hfz38_7 := blk_frozen BK109.out 7
              have hfz38_8 := blk_frozen BK109.out 8
              have hfz38_9 := blk_frozen BK109.out 9
              have hfz38_10 := blk_frozen BK109.out 10
              have hfz38_11 := blk_frozen BK109.out 11
              have hfz38_12 := blk_frozen BK109.out 12
              have hfz38_13 := blk_frozen BK109.out 13
              have hfz38_14 := blk_frozen BK109.out 14
              have hfz38_15 := blk_frozen BK109.out 15
              have hfz38_16 := blk_frozen BK109.out 16
              go_wp2_with (first | (go_at_call 29; (with_reducible refine (posix_named.calls a0_5 false _ A18.out).mono ?_); rintro e w39 ⟨rfl, hb⟩; have n0_ := Aside0.mk (blk_below (g := gb109) (o := .cells #[.int .i64 a0_0, .bool a0_1, .string a0_2, .int .i64 a0_3, .bool true, .string a0_5, .bool true, .int .i64 a0_7, .int .i64 a0_8, .int .i64 a0_9, .int .i64 a0_10, .int .i64 a0_11, .int .i64 a0_12, .int .i64 a0_13, .int .i64 a0_14, .int .i64 a0_15, .int .i64 a0_16] 27 (0, 0)) (by (with_reducible repeat (first | refine blk_drewN ?_ _ | refine blk_drew ?_ | refine blk_alloc ?_ _)); exact BK109.out) hb); have n1_ := Aside0.mk (below_step (by repeat (first | (with_reducible first | exact HB.out | apply below_alloc | apply pw_below_drewN | apply below_drew1 | refine below_set ?_ GE109.out) | exact HB.out)) hb); clear BK109; clear HB; have BK109 := n0_; have HB := n1_; clear n0_ n1_; (try clear hb); (try clear hb2); (try clear hk); (try clear hi)))
              go_ret
              exact ⟨by first | rfl | (simp [errW_none, errW_some] <;> rfl) | (simp [*, errW_none, errW_some] <;> rfl), by repeat (first | (with_reducible first | exact HB.out | apply below_alloc | apply pw_below_drewN | apply below_drew1 | refine below_set ?_ GE109.out) | exact HB.out)⟩
          · replace c17 := Bool.eq_false_iff.mpr c17
            subst c17
            have H1 : (some false) = some r := by rw [if_neg (show ¬ (false = true) by decide)] at H; exact H
            clear H
            have H := H1
            clear H1
            obtain rfl := Option.some.inj H
            have hcz40_0 : wc.cell? ⟨gb109, 0, none⟩ = some (.int .i64 a0_0) := (blk_cell BK109.out 0).trans rfl
            have hcz40_1 : wc.cell? ⟨gb109, 1, none⟩ = some (.bool a0_1) := (blk_cell BK109.out 1).trans rfl
            have hcz40_2 : wc.cell? ⟨gb109, 2, none⟩ = some (.string a0_2) := (blk_cell BK109.out 2).trans rfl
            have hcz40_3 : wc.cell? ⟨gb109, 3, none⟩ = some (.int .i64 a0_3) := (blk_cell BK109.out 3).trans rfl
            have hcz40_4 : wc.cell? ⟨gb109, 4, none⟩ = some (.bool false) := (blk_cell BK109.out 4).trans rfl
            have hcz40_5 : wc.cell? ⟨gb109, 5, none⟩ = some (.string a0_5) := (blk_cell BK109.out 5).trans rfl
            have hcz40_6 : wc.cell? ⟨gb109, 6, none⟩ = some (.bool true) := (blk_cell BK109.out 6).trans rfl
            have hcz40_7 : wc.cell? ⟨gb109, 7, none⟩ = some (.int .i64 a0_7) := (blk_cell BK109.out 7).trans rfl
            have hcz40_8 : wc.cell? ⟨gb109, 8, none⟩ = some (.int .i64 a0_8) := (blk_cell BK109.out 8).trans rfl
            have hcz40_9 : wc.cell? ⟨gb109, 9, none⟩ = some (.int .i64 a0_9) := (blk_cell BK109.out 9).trans rfl
            have hcz40_10 : wc.cell? ⟨gb109, 10, none⟩ = some (.int .i64 a0_10) := (blk_cell BK109.out 10).trans rfl
            have hcz40_11 : wc.cell? ⟨gb109, 11, none⟩ = some (.int .i64 a0_11) := (blk_cell BK109.out 11).trans rfl
            have hcz40_12 : wc.cell? ⟨gb109, 12, none⟩ = some (.int .i64 a0_12) := (blk_cell BK109.out 12).trans rfl
            have hcz40_13 : wc.cell? ⟨gb109, 13, none⟩ = some (.int .i64 a0_13) := (blk_cell BK109.out 13).trans rfl
            have hcz40_14 : wc.cell? ⟨gb109, 14, none⟩ = some (.int .i64 a0_14) := (blk_cell BK109.out 14).trans rfl
            have hcz40_15 : wc.cell? ⟨gb109, 15, none⟩ = some (.int .i64 a0_15) := (blk_cell BK109.out 15).trans rfl
            have hcz40_16 : wc.cell? ⟨gb109, 16, none⟩ = some (.int .i64 a0_16) := (blk_cell BK109.out 16).trans rfl
            have hfz40_0 := blk_frozen BK109.out 0
            have hfz40_1 := blk_frozen BK109.out 1
            have hfz40_2 := blk_frozen BK109.out 2
            have hfz40_3 := blk_frozen BK109.out 3
            have hfz40_4 := blk_frozen BK109.out 4
            have hfz40_5 := blk_frozen BK109.out 5
            have hfz40_6 := blk_frozen BK109.out 6
            have hfz40_7 := blk_frozen BK109.out 7
            have hfz40_8 := blk_frozen BK109.out 8
            have hfz40_9 := blk_frozen BK109.out 9
            have hfz40_10 := blk_frozen BK109.out 10
            have hfz40_11 := blk_frozen BK109.out 11
            have hfz40_12 := blk_frozen BK109.out 12
            have hfz40_13 := blk_frozen BK109.out 13
            have hfz40_14 := blk_frozen BK109.out 14
            have hfz40_15 := blk_frozen BK109.out 15
            have hfz40_16 := blk_frozen BK109.out 16
            go_wp2
            go_ret
            exact ⟨by first | rfl | (simp [errW_none, errW_some] <;> rfl) | (simp [*, errW_none, errW_some] <;> rfl), by repeat (first | (with_reducible first | exact HB.out | apply below_alloc | apply pw_below_drewN | apply below_drew1 | refine below_set ?_ GE109.out) | exact HB.out)⟩
        · replace c16 := Bool.eq_false_iff.mpr c16
          subst c16
          have H1 : (some ((a0_3 == 0 && (!a0_4 && (a0_5.toList.isEmpty))) && (!false && ((a0_7 == 0 && (a0_8 == 0 && (a0_9 == 0 && (a0_10 == 0 && (a0_11 == 0))))) && ((a0_12 == 0 && (a0_13 == 0 && (a0_14 == 0 && (a0_15 == 0 && (a0_16 == 0)))))))))) = some r := by rw [if_neg (show ¬ (false = true) by decide)] at H; exact H
          clear H
          have H := H1
          clear H1
          obtain rfl := Option.some.inj H
          have hcz41_0 : wc.cell? ⟨gb109, 0, none⟩ = some (.int .i64 a0_0) := (blk_cell BK109.out 0).trans rfl
          have hcz41_1 : wc.cell? ⟨gb109, 1, none⟩ = some (.bool a0_1) := (blk_cell BK109.out 1).trans rfl
          have hcz41_2 : wc.cell? ⟨gb109, 2, none⟩ = some (.string a0_2) := (blk_cell BK109.out 2).trans rfl
          have hcz41_3 : wc.cell? ⟨gb109, 3, none⟩ = some (.int .i64 a0_3) := (blk_cell BK109.out 3).trans rfl
          have hcz41_4 : wc.cell? ⟨gb109, 4, none⟩ = some (.bool a0_4) := (blk_cell BK109.out 4).trans rfl
          have hcz41_5 : wc.cell? ⟨gb109, 5, none⟩ = some (.string a0_5) := (blk_cell BK109.out 5).trans rfl
          have hcz41_6 : wc.cell? ⟨gb109, 6, none⟩ = some (.bool false) := (blk_cell BK109.out 6).trans rfl
          have hcz41_7 : wc.cell? ⟨gb109, 7, none⟩ = some (.int .i64 a0_7) := (blk_cell BK109.out 7).trans rfl
          have hcz41_8 : wc.cell? ⟨gb109, 8, none⟩ = some (.int .i64 a0_8) := (blk_cell BK109.out 8).trans rfl
          have hcz41_9 : wc.cell? ⟨gb109, 9, none⟩ = some (.int .i64 a0_9) := (blk_cell BK109.out 9).trans rfl
          have hcz41_10 : wc.cell? ⟨gb109, 10, none⟩ = some (.int .i64 a0_10) := (blk_cell BK109.out 10).trans rfl
          have hcz41_11 : wc.cell? ⟨gb109, 11, none⟩ = some (.int .i64 a0_11) := (blk_cell BK109.out 11).trans rfl
          have hcz41_12 : wc.cell? ⟨gb109, 12, none⟩ = some (.int .i64 a0_12) := (blk_cell BK109.out 12).trans rfl
          have hcz41_13 : wc.cell? ⟨gb109, 13, none⟩ = some (.int .i64 a0_13) := (blk_cell BK109.out 13).trans rfl
          have hcz41_14 : wc.cell? ⟨gb109, 14, none⟩ = some (.int .i64 a0_14) := (blk_cell BK109.out 14).trans rfl
          have hcz41_15 : wc.cell? ⟨gb109, 15, none⟩ = some (.int .i64 a0_15) := (blk_cell BK109.out 15).trans rfl
          have hcz41_16 : wc.cell? ⟨gb109, 16, none⟩ = some (.int .i64 a0_16) := (blk_cell BK109.out 16).trans rfl
          have hfz41_0 := blk_frozen BK109.out 0
          have hfz41_1 := blk_frozen BK109.out 1
          have hfz41_2 := blk_frozen BK109.out 2
          have hfz41_3 := blk_frozen BK109.out 3
          have hfz41_4 := blk_frozen BK109.out 4
          have hfz41_5 := blk_frozen BK109.out 5
          have hfz41_6 := blk_frozen BK109.out 6
          have hfz41_7 := blk_frozen BK109.out 7
          have hfz41_8 := blk_frozen BK109.out 8
          have hfz41_9 := blk_frozen BK109.out 9
          have hfz41_10 := blk_frozen BK109.out 10
          have hfz41_11 := blk_frozen BK109.out 11
          have hfz41_12 := blk_frozen BK109.out 12
          have hfz41_13 := blk_frozen BK109.out 13
          have hfz41_14 := blk_frozen BK109.out 14
          have hfz41_15 := blk_frozen BK109.out 15
          have hfz41_16 := blk_frozen BK109.out 16
          go_wp2_with (first | ((with_reducible refine gate_dst (N := 25) rfl ?_); refine wpList_load_row rfl 27 _ rfl (gb109) rfl 27 #[.int .i64 a0_0, .bool a0_1, .string a0_2, .int .i64 a0_3, .bool a0_4, .string a0_5, .bool false, .int .i64 a0_7, .int .i64 a0_8, .int .i64 a0_9, .int .i64 a0_10, .int .i64 a0_11, .int .i64 a0_12, .int .i64 a0_13, .int .i64 a0_14, .int .i64 a0_15, .int .i64 a0_16] (0, 0) _ (by (with_reducible repeat (first | refine blk_drewN ?_ _ | refine blk_drew ?_ | refine blk_alloc ?_ _)); exact BK109.out) Tryd.underlying27 rfl (by kernel_rfl) ?_))
          go_ret
          exact ⟨by first | rfl | (simp [errW_none, errW_some] <;> rfl) | (simp [*, errW_none, errW_some] <;> rfl), by repeat (first | (with_reducible first | exact HB.out | apply below_alloc | apply pw_below_drewN | apply below_drew1 | refine below_set ?_ GE109.out) | exact HB.out)⟩
end Go.Proofs.YtnbjneknicppcaaDoor.Fn

namespace Go.Proofs.YtnbjneknicppcaaDoor.Fn
set_option linter.unusedVariables false
set_option linter.unusedSimpArgs false
open Go.RowKit Go.Proofs.YtnbjneknicppcaaDoorW.PrintWords Go.Proofs.YtnbjneknicppcaaDoorW.PrintLast Go.Proofs.YtnbjneknicppcaaDoorW.PrintMore
def inB (n lo hi : Int) : Bool := decide (lo ≤ n) && decide (n ≤ hi)
theorem within_eq (n lo hi : Int) : posix_within.f n lo hi = some (inB n lo hi) := by
  unfold posix_within.f inB
  by_cases h : n ≥ lo
  · rw [if_pos h]; simp; omega
  · rw [if_neg h]; simp; omega
def dateB (c0 : Int) (c1 : Int) (c2 : Int) (c3 : Int) (_c4 : Int) : Bool :=
  if c0 = 1 then (c2 == 0 && c3 == 0) && inB c1 1 365 else if c0 = 2 then (c2 == 0 && c3 == 0) && inB c1 0 365 else if c0 = 3 then inB c1 1 12 && (inB c2 1 5 && inB c3 0 6) else false
def chgB (c0 : Int) (c1 : Int) (c2 : Int) (c3 : Int) (c4 : Int) (wide : Bool) : Bool := (inB c4 0 89999 || (wide && inB c4 (-604799) 604799)) && dateB c0 c1 c2 c3 c4
theorem changes_j1 (k : Nat) (c0 : Int) (c1 : Int) (c2 : Int) (c3 : Int) (c4 : Int) : posix_changes.j1 (k + 1) (c2 == 0 && c3 == 0) c0 c1 c2 c3 c4 = some (dateB c0 c1 c2 c3 c4) := by
  simp only [posix_changes.j1, within_eq, Option.bind_some]
  unfold dateB
  split
  · cases (c2 == 0 && c3 == 0) <;> simp
  · split
    · cases (c2 == 0 && c3 == 0) <;> simp
    · split
      · cases inB c1 1 12 <;> cases inB c2 1 5 <;> simp
      · rfl
theorem changes_j0 (k : Nat) (c0 : Int) (c1 : Int) (c2 : Int) (c3 : Int) (c4 : Int) (b : Bool) : posix_changes.j0 (k + 2) b c0 c1 c2 c3 c4 = some (!b && dateB c0 c1 c2 c3 c4) := by
  have h := changes_j1 k c0 c1 c2 c3 c4
  rw [posix_changes.j0]
  cases b
  · rw [if_neg (by decide)]
    by_cases h2 : c2 = 0
    · rw [if_pos h2]
      simp only [h2, beq_self_eq_true, Bool.true_and] at h ⊢
      rw [h]
      rfl
    · rw [if_neg h2]
      have e : (c2 == 0 && c3 == 0) = false := by simp [h2]
      rw [e] at h
      rw [h]
      rfl
  · rfl
theorem changes_eq (k : Nat) (c0 : Int) (c1 : Int) (c2 : Int) (c3 : Int) (c4 : Int) (wide : Bool) : posix_changes.f (k + 2) c0 c1 c2 c3 c4 wide = some (chgB c0 c1 c2 c3 c4 wide) := by
  unfold posix_changes.f chgB
  rw [within_eq, within_eq]
  simp only [Option.bind_some, changes_j0]
  cases inB c4 0 89999 <;> cases wide <;> simp
def rightB (s0 : Int) (s1 : Bool) (s2 : ByteArray) (d0 : Int) (d1 : Bool) (d2 : ByteArray) (bo : Bool) (a0 : Int) (a1 : Int) (a2 : Int) (a3 : Int) (a4 : Int) (e0 : Int) (e1 : Int) (e2 : Int) (e3 : Int) (e4 : Int) (wide : Bool) : Bool :=
  !s1 && (namedB s2 && (inB s0 (-89999) 89999 && (if bo = true then d1 && (namedB d2 && (inB d0 (-89999) 89999 && (chgB a0 a1 a2 a3 a4 wide && chgB e0 e1 e2 e3 e4 wide)))
    else ((d0 == 0 && (!d1 && (d2.toList.isEmpty))) && ((a0 == 0 && (a1 == 0 && (a2 == 0 && (a3 == 0 && (a4 == 0))))) && ((e0 == 0 && (e1 == 0 && (e2 == 0 && (e3 == 0 && (e4 == 0)))))))))))
theorem right_j0 (k : Nat) (s0 : Int) (s1 : Bool) (s2 : ByteArray) (d0 : Int) (d1 : Bool) (d2 : ByteArray) (bo : Bool) (a0 : Int) (a1 : Int) (a2 : Int) (a3 : Int) (a4 : Int) (e0 : Int) (e1 : Int) (e2 : Int) (e3 : Int) (e4 : Int) (wide b : Bool) : posix_Right.j0 (k + 3) wide b s0 s1 s2 d0 d1 d2 bo a0 a1 a2 a3 a4 e0 e1 e2 e3 e4 = some (!b && (if bo = true then d1 && (namedB d2 && (inB d0 (-89999) 89999 && (chgB a0 a1 a2 a3 a4 wide && chgB e0 e1 e2 e3 e4 wide)))
    else ((d0 == 0 && (!d1 && (d2.toList.isEmpty))) && ((a0 == 0 && (a1 == 0 && (a2 == 0 && (a3 == 0 && (a4 == 0))))) && ((e0 == 0 && (e1 == 0 && (e2 == 0 && (e3 == 0 && (e4 == 0))))))))) ) := by
  rw [posix_Right.j0]
  simp only [posix_named.f, within_eq, changes_eq, Option.bind_some]
  cases b
  · cases bo
    · simp
    · cases d1 <;> cases namedB d2 <;> cases inB d0 (-89999) 89999 <;> cases chgB a0 a1 a2 a3 a4 wide <;> simp
  · rfl
theorem rightR_eq (k : Nat) (s0 : Int) (s1 : Bool) (s2 : ByteArray) (d0 : Int) (d1 : Bool) (d2 : ByteArray) (bo : Bool) (a0 : Int) (a1 : Int) (a2 : Int) (a3 : Int) (a4 : Int) (e0 : Int) (e1 : Int) (e2 : Int) (e3 : Int) (e4 : Int) (wide : Bool) : posix_Right.f (k + 3) s0 s1 s2 d0 d1 d2 bo a0 a1 a2 a3 a4 e0 e1 e2 e3 e4 wide = some (rightB s0 s1 s2 d0 d1 d2 bo a0 a1 a2 a3 a4 e0 e1 e2 e3 e4 wide) := by
  unfold posix_Right.f rightB
  simp only [posix_named.f, within_eq, right_j0, Option.bind_some]
  cases s1 <;> cases namedB s2 <;> cases inB s0 (-89999) 89999 <;> simp
end Go.Proofs.YtnbjneknicppcaaDoor.Fn

namespace Go.Proofs.YtnbjneknicppcaaDoor.Fn
set_option linter.unusedVariables false
set_option linter.unusedSimpArgs false
structure Kd where
  off : Int
  dst : Bool
  name : ByteArray
structure Chg where
  how : Int
  n : Int
  week : Int
  wday : Int
  time : Int
  deriving DecidableEq
structure Rul where
  std : Kd
  dst : Kd
  both : Bool
  st : Chg
  en : Chg
abbrev emptyS : ByteArray := ⟨#[]⟩
def Kd.zero : Kd := ⟨0, false, emptyS⟩
def Chg.zero : Chg := ⟨0, 0, 0, 0, 0⟩
def Rul.zero : Rul := ⟨.zero, .zero, false, .zero, .zero⟩
def Rul.right (r : Rul) (wide : Bool) : Bool := rightB r.std.off r.std.dst r.std.name r.dst.off r.dst.dst r.dst.name r.both r.st.how r.st.n r.st.week r.st.wday r.st.time r.en.how r.en.n r.en.week r.en.wday r.en.time wide
def Rul.cells (r : Rul) : Array Value := #[.int .i64 r.std.off, .bool r.std.dst, .string r.std.name, .int .i64 r.dst.off, .bool r.dst.dst, .string r.dst.name, .bool r.both, .int .i64 r.st.how, .int .i64 r.st.n, .int .i64 r.st.week, .int .i64 r.st.wday, .int .i64 r.st.time, .int .i64 r.en.how, .int .i64 r.en.n, .int .i64 r.en.week, .int .i64 r.en.wday, .int .i64 r.en.time]
abbrev Tx (l : List UInt8) : ByteArray := ⟨l.toArray⟩
theorem Tx_list (l : List UInt8) : (Tx l).data.toList = l := by simp
theorem Tx_of (s : ByteArray) : Tx s.data.toList = s := by cases s; simp
theorem Tx_size (l : List UInt8) : (Tx l).size = l.length := by simp [ByteArray.size]
def digB (c : UInt8) : Bool := decide (48 ≤ c.toNat) && decide (c.toNat ≤ 57)
def ltrB (c : UInt8) : Bool := (decide (97 ≤ c.toNat) && decide (c.toNat ≤ 122)) || (decide (65 ≤ c.toNat) && decide (c.toNat ≤ 90))
def namedL (l : List UInt8) : Bool := decide (3 ≤ l.length) && decide (l.length ≤ 20) && l.all fun c => inSet c.toNat
theorem namedL_eq (s : ByteArray) : namedB s = namedL s.data.toList := by unfold namedB namedL; rw [show s.data.toList.length = s.size from Array.length_toList ..]
def runOf (p : UInt8 → Bool) (most : Nat) (l : List UInt8) : List UInt8 := (l.take most).takeWhile p
def runRest (p : UInt8 → Bool) (most : Nat) (l : List UInt8) : List UInt8 := l.drop (runOf p most l).length
def eats (c : UInt8) (l : List UInt8) : Bool := l.head? == some c
def eaten (c : UInt8) (l : List UInt8) : List UInt8 := if eats c l = true then l.tail else l
def numN (l : List UInt8) : Nat := l.foldl (fun n c => n * 10 + (c.toNat - 48)) 0
def numOf (l : List UInt8) : Int := (numN l : Int)
def tkNum (most : Nat) (l : List UInt8) : Option (Int × List UInt8) :=
  if runOf digB most l = [] then none else some (numOf (runOf digB most l), runRest digB most l)
def tkSixty (l : List UInt8) : Option (Int × Bool × List UInt8) :=
  if eats 58 l = true then
    (if (runOf digB 2 l.tail).length = 2 then (if numOf (runOf digB 2 l.tail) < 60 then some (numOf (runOf digB 2 l.tail), true, runRest digB 2 l.tail) else none) else none)
  else some (0, false, l)
def signOf (signed : Bool) (l : List UInt8) : Int := if signed = true then (if eats 45 l = true then -1 else 1) else 1
def signRest (signed : Bool) (l : List UInt8) : List UInt8 := if signed = true then (if eats 45 l = true then l.tail else if eats 43 l = true then l.tail else l) else l
def tkTime (signed wide : Bool) (l : List UInt8) : Option (Int × List UInt8) :=
  (tkNum (if wide = true then 3 else 2) (signRest signed l)).bind fun h =>
    if h.1 ≤ (if wide = true then 167 else 24) then
      (tkSixty h.2).bind fun m =>
        if m.2.1 = true then (tkSixty m.2.2).bind fun s => some (signOf signed l * (h.1 * 3600 + (m.1 * 60 + s.1)), s.2.2)
        else some (signOf signed l * (h.1 * 3600), m.2.2)
    else none
def isEnd (c : UInt8) : Bool := c == 62
def tkName (l : List UInt8) : Option (List UInt8 × List UInt8) :=
  if eats 60 l = true then
    (if (l.tail.takeWhile fun c => !isEnd c).length < l.tail.length then
      (if namedL (l.tail.takeWhile fun c => !isEnd c) = true then some (l.tail.takeWhile fun c => !isEnd c, l.tail.drop ((l.tail.takeWhile fun c => !isEnd c).length + 1)) else none)
    else none)
  else (if namedL (l.takeWhile ltrB) = true then some (l.takeWhile ltrB, l.drop (l.takeWhile ltrB).length) else none)
def howOf (l : List UInt8) : Int := if eats 74 l = true then 1 else if eats 77 l = true then 3 else 2
def howRest (l : List UInt8) : List UInt8 := if eats 74 l = true then l.tail else if eats 77 l = true then l.tail else l
def tkDot (l : List UInt8) : Option (Int × List UInt8) := if eats 46 l = true then tkNum 3 l.tail else none
def tkChg (wide : Bool) (l : List UInt8) : Option (Chg × List UInt8) :=
  if eats 44 l = true then
    (tkNum 3 (howRest l.tail)).bind fun n =>
      (if howOf l.tail = 3 then (tkDot n.2).bind fun w => (tkDot w.2).bind fun d => some (w.1, d.1, d.2) else some (0, 0, n.2)).bind fun wd =>
        if eats 47 wd.2.2 = true then (tkTime wide wide wd.2.2.tail).bind fun t => some (⟨howOf l.tail, n.1, wd.1, wd.2.1, t.1⟩, t.2)
        else some (⟨howOf l.tail, n.1, wd.1, wd.2.1, 7200⟩, wd.2.2)
  else none
def tkOff (std : Int) (l : List UInt8) : Option (Int × List UInt8) :=
  if eats 44 l = true then some (std + 3600, l) else (tkTime true false l).bind fun d => some (-d.1, d.2)
def tkRule (wide : Bool) (l : List UInt8) : Option Rul :=
  (tkName l).bind fun a => (tkTime true false a.2).bind fun b =>
    if b.2 = [] then some ⟨⟨-b.1, false, Tx a.1⟩, .zero, false, .zero, .zero⟩
    else (tkName b.2).bind fun c => (tkOff (-b.1) c.2).bind fun o => (tkChg wide o.2).bind fun s => (tkChg wide s.2).bind fun e =>
      if e.2 = [] then
        (if (⟨⟨-b.1, false, Tx a.1⟩, ⟨o.1, true, Tx c.1⟩, true, s.1, e.1⟩ : Rul).right wide = true then some ⟨⟨-b.1, false, Tx a.1⟩, ⟨o.1, true, Tx c.1⟩, true, s.1, e.1⟩ else none)
      else none
/-! How it is written. -/
def dig1 (n : Nat) : UInt8 := UInt8.ofNat (48 + n)
def dec3 (n : Nat) : List UInt8 := if n < 10 then [dig1 n] else if n < 100 then [dig1 (n / 10), dig1 (n % 10)] else [dig1 (n / 100), dig1 (n / 10 % 10), dig1 (n % 10)]
def two (n : Nat) : List UInt8 := [dig1 (n / 10), dig1 (n % 10)]
def prTime (n : Int) : List UInt8 :=
  (if n < 0 then [45] else []) ++ (dec3 (n.natAbs / 3600) ++ ((if n.natAbs % 3600 ≠ 0 then 58 :: two (n.natAbs / 60 % 60) else []) ++ (if n.natAbs % 60 ≠ 0 then 58 :: two (n.natAbs % 60) else [])))
def prName (l : List UInt8) : List UInt8 := if l.all ltrB = true then l else 60 :: (l ++ [62])
def prDay (c : Chg) : List UInt8 :=
  if c.how = 1 then 74 :: dec3 c.n.toNat else if c.how = 3 then 77 :: (dec3 c.n.toNat ++ (46 :: (dec3 c.week.toNat ++ (46 :: dec3 c.wday.toNat)))) else dec3 c.n.toNat
def prChg (c : Chg) : List UInt8 := 44 :: (prDay c ++ (if c.time ≠ 7200 then 47 :: prTime c.time else []))
def prRule (r : Rul) : List UInt8 :=
  prName r.std.name.data.toList ++ (prTime (-r.std.off) ++ (if r.both = true then prName r.dst.name.data.toList ++ ((if r.dst.off ≠ r.std.off + 3600 then prTime (-r.dst.off) else []) ++ (prChg r.st ++ prChg r.en)) else []))
theorem decDigits_3 (n : Nat) (h : n < 1000) : Lib.decDigits n = dec3 n := by
  unfold dec3
  by_cases h1 : n < 10
  · rw [if_pos h1, Lib.decDigits, dif_pos h1]; rfl
  · rw [if_neg h1, Lib.decDigits, dif_neg h1]
    by_cases h2 : n < 100
    · rw [if_pos h2, Lib.decDigits, dif_pos (by omega)]; rfl
    · rw [if_neg h2, Lib.decDigits, dif_neg (by omega), Lib.decDigits, dif_pos (by omega), show n / 10 / 10 = n / 100 by omega]; rfl
theorem itoa_3 (n : Int) (h0 : 0 ≤ n) (h : n < 1000) : Lib.itoa n = dec3 n.toNat := by
  unfold Lib.itoa; rw [if_neg (by omega), decDigits_3 _ (by omega)]
theorem decFrom_num : ∀ (l : List UInt8) (acc : Nat), l.all digB = true → Lib.decFrom acc l = some (l.foldl (fun n c => n * 10 + (c.toNat - 48)) acc) := by
  intro l
  induction l with
  | nil => intro acc _; rfl
  | cons c t ih =>
    intro acc h
    rw [List.all_cons, Bool.and_eq_true] at h
    obtain ⟨hc, ht⟩ := h
    have hc' : 48 ≤ c.toNat ∧ c.toNat ≤ 57 := by simpa [digB] using hc
    rw [Lib.decFrom, Lib.digitVal, if_pos hc', List.foldl_cons]
    exact ih _ ht
theorem run_all (p : UInt8 → Bool) (most : Nat) (l : List UInt8) : (runOf p most l).all p = true := List.all_takeWhile
theorem run_len (p : UInt8 → Bool) (most : Nat) (l : List UInt8) : (runOf p most l).length ≤ most := by
  have h1 := (List.takeWhile_prefix p (l := l.take most)).length_le
  have h2 : (l.take most).length ≤ most := List.length_take_le _ _
  unfold runOf; omega
theorem run_len2 (p : UInt8 → Bool) (most : Nat) (l : List UInt8) : (runOf p most l).length ≤ l.length := by
  have h1 := (List.takeWhile_prefix p (l := l.take most)).length_le
  have h2 : (l.take most).length ≤ l.length := List.length_take_le' _ _
  unfold runOf; omega
theorem run_take (p : UInt8 → Bool) (most : Nat) (l : List UInt8) : l.take (runOf p most l).length = runOf p most l := by
  have h1 : runOf p most l <+: l.take most := List.takeWhile_prefix p
  have h2 : runOf p most l <+: l := h1.trans (List.take_prefix _ _)
  exact (List.prefix_iff_eq_take.1 h2).symm
theorem atoi_run (l : List UInt8) (hl : l.all digB = true) : Lib.atoi l = if l = [] then none else some (numOf l) := by
  cases l with
  | nil => rfl
  | cons c t =>
    have hc : 48 ≤ c.toNat ∧ c.toNat ≤ 57 := by rw [List.all_cons, Bool.and_eq_true] at hl; simpa [digB] using hl.1
    have h45 : (c == 45) = false := by rw [beq_eq_false_iff_ne]; rintro rfl; revert hc; decide
    have h43 : (c == 43) = false := by rw [beq_eq_false_iff_ne]; rintro rfl; revert hc; decide
    rw [Lib.atoi, h45, h43, if_neg (by decide), if_neg (by decide), Lib.decNat, if_neg (by simp), decFrom_num _ _ hl, if_neg (by simp)]
    rfl
end Go.Proofs.YtnbjneknicppcaaDoor.Fn

namespace Go.Proofs.YtnbjneknicppcaaDoor.Fn
set_option linter.unusedVariables false
set_option linter.unusedSimpArgs false
open Go.RowKit Go.Proofs.YtnbjneknicppcaaDoorW.PrintWords Go.Proofs.YtnbjneknicppcaaDoorW.PrintLast Go.Lib
structure G8 (w : World) : Prop where
  tab : Lib.TabIs Tryd.prog w "internal/strconv.uint64pow10" .u64 Lib.pow10Tab
  err : ∃ tp p, w.var? Tryd.prog "strconv.ErrSyntax" = some #[.iface tp p]
def Room8 (B : Nat) : Prop := 0 < B ∧ 2 < B
theorem var_keep {w w' : World} {n : String} {g : Nat} {cs : Array Value} (hg : Tryd.prog.globalNamed n = some g) (h : w.var? Tryd.prog n = some cs) {B : Nat} (hb : Below B w w') (hB : g < B) : w'.var? Tryd.prog n = some cs := by
  unfold World.var? at h ⊢
  rw [hg] at h ⊢
  simp only [Option.bind_some] at h ⊢
  rw [hb.block g hB]
  exact h
theorem var_lt {w : World} {n : String} {g : Nat} {cs : Array Value} (hg : Tryd.prog.globalNamed n = some g) (h : w.var? Tryd.prog n = some cs) : g < w.heap.size := by
  unfold World.var? at h
  rw [hg] at h
  simp only [Option.bind_some] at h
  rcases Nat.lt_or_ge g w.heap.size with h' | h'
  · exact h'
  · simp [Array.getElem?_eq_none h'] at h
theorem g_tab : Tryd.prog.globalNamed "internal/strconv.uint64pow10" = some 0 := by kernel_rfl
theorem g_syn : Tryd.prog.globalNamed "strconv.ErrSyntax" = some 2 := by kernel_rfl
theorem G8.room {w : World} (h : G8 w) : Room8 w.heap.size := by
  obtain ⟨tp, p, h2⟩ := h.err
  exact ⟨var_lt g_tab h.tab, var_lt g_syn h2⟩
theorem Room8.mono {B C : Nat} (h : Room8 B) (hBC : B ≤ C) : Room8 C := ⟨Nat.lt_of_lt_of_le h.1 hBC, Nat.lt_of_lt_of_le h.2 hBC⟩
theorem G8.keep {w w' : World} {B : Nat} (h : G8 w) (hb : Below B w w') (hB : Room8 B) : G8 w' := by
  obtain ⟨tp, p, h2⟩ := h.err
  exact ⟨var_keep g_tab h.tab hb hB.1, tp, p, var_keep g_syn h2 hb hB.2⟩
theorem G8.below {w w' : World} (h : G8 w) (hb : Below w.heap.size w w') : G8 w' := h.keep hb h.room
theorem below_grow (w : World) (k : Nat) (os : Array Obj) : Below w.heap.size w (Sort.grow (w.drewN k) os) := by
  refine ⟨rfl, rfl, rfl, ?_, fun b hb => ?_⟩
  · simp [Sort.grow, World.drewN]
  · simp [Sort.grow, World.drewN, Array.getElem?_append_left hb]
theorem itoa_calls (n : Int) (h0 : 0 ≤ n) (h1 : n < 1000) (w : World) (hG : G8 w) :
    Calls Tryd.prog 45 #[.int .i64 n] w fun e w' => e = .returned (.string ⟨(dec3 n.toNat).toArray⟩) ∧ Below w.heap.size w w' := by
  refine (Tryd.strconv_Itoa n (by omega) (by omega) w hG.tab).mono ?_
  rintro e w' ⟨rfl, k, os, rfl⟩
  exact ⟨by rw [itoa_3 n h0 h1], below_grow w k os⟩
theorem itoaN_calls (k : Nat) (h1 : k < 1000) (w : World) (hG : G8 w) :
    Calls Tryd.prog 45 #[.int .i64 (k : Int)] w fun e w' => e = .returned (.string ⟨(dec3 k).toArray⟩) ∧ Below w.heap.size w w' := by
  have h := itoa_calls (k : Int) (by omega) (by omega) w hG
  rw [Int.toNat_natCast] at h
  exact h
theorem G8.drew {w : World} (h : G8 w) : G8 w.drew := h.below (Below.drew (Below.refl _ _))
end Go.Proofs.YtnbjneknicppcaaDoor.Fn

namespace Go.Proofs.YtnbjneknicppcaaDoor.Fn
set_option linter.unusedVariables false
set_option linter.unusedSimpArgs false
open Go.RowKit Go.Proofs.YtnbjneknicppcaaDoorW.PrintWords Go.Proofs.YtnbjneknicppcaaDoorW.PrintLast Go.Lib
theorem info_builder : (Tryd.prog.info? 52).map (·.size) = some 2 := by kernel_rfl
theorem info_byte : (Tryd.prog.info? 5).map (fun i => (i.zero, i.size, i.bytes)) = some (some (.int .u8 0), 1, 1) := by kernel_rfl
theorem lies_printer : liesAt Tryd.prog Tryd.prog.depth 54 (2 / Tryd.prog.cellsOf 54) 0 52 1 = true := by kernel_rfl
set_option maxHeartbeats 1000000 in
set_option maxRecDepth 100000 in
theorem pb_used (b : Nat) (w : World) (h0 : w.cell? ⟨b, 0, none⟩ = some (.pointer (some ⟨b, 0, none⟩))) :
    Calls Tryd.prog 59 #[.pointer (some ⟨b, 0, none⟩)] w fun e w' => e = .returned (.tuple #[]) ∧ w = w' := by
  obtain ⟨j, hj, _⟩ := Option.map_eq_some_iff.1 info_builder
  go_enter Tryd.func59, Tryd.ntmps59
  go_wp2
  rw [Lib.run_neq_ptr_same w _ Tryd.underlying50 hj]
  go_wp2
  go_end0
  exact ⟨rfl, rfl⟩
set_option maxHeartbeats 1000000 in
set_option maxRecDepth 100000 in
theorem pb_fresh (b : Nat) (w : World) (h0 : w.cell? ⟨b, 0, none⟩ = some (.pointer none)) (hsh : w.shape? b = some (54, 2)) (hfz : w.frozen? ⟨b, 0, none⟩ = false) :
    Calls Tryd.prog 59 #[.pointer (some ⟨b, 0, none⟩)] w fun e w' => e = .returned (.tuple #[]) ∧ w' = w.setCell ⟨b, 0, none⟩ (.pointer (some ⟨b, 0, none⟩)) := by
  obtain ⟨j, hj, hjs⟩ := Option.map_eq_some_iff.1 info_builder
  go_enter Tryd.func59, Tryd.ntmps59
  go_wp2
  rw [Lib.run_to_unsafe w ⟨b, 0, none⟩ Tryd.underlying50 Tryd.underlying98 hj (by rw [hjs]; decide) hsh (Nat.zero_lt_succ 1)]
  simp only [Result.andThen]
  rw [Oper.upon_value]
  go_wp2
  rw [run_callFunc_extern Tryd.func68 (by kernel_rfl) (by kernel_rfl) (by kernel_rfl) (e := Extern.AbiNoEscape.same) (by kernel_rfl)]
  rw [Lib.run_noEscape]
  simp only [Result.andThen]
  rw [Oper.upon_value]
  go_wp2
  rw [Lib.run_from_unsafe w ⟨b, 0, none⟩ Tryd.underlying98 Tryd.underlying50 hj hsh lies_printer]
  simp only [Result.andThen]
  rw [Oper.upon_value]
  go_wp2
  go_end0
  exact ⟨rfl, rfl⟩
def Prt (B b : Nat) (l : List UInt8) (w : World) : Prop := Lib.IsBuilderF 54 5 B b (Lib.byteCells l) w
def PrtTo (B b : Nat) (l : List UInt8) (w w' : World) : Prop := Prt B b l w' ∧ Below B w w' ∧ Lib.OthersKept 5 (some b) w w'
set_option maxHeartbeats 1000000 in
theorem pb_check (B b : Nat) (bs : List Value) (w : World) (h : Lib.IsBuilderF 54 5 B b bs w) :
    Calls Tryd.prog 59 #[.pointer (some ⟨b, 0, none⟩)] w fun e w' => e = .returned (.tuple #[]) ∧ (Lib.BuilderAtF 54 5 B b (.pointer (some ⟨b, 0, none⟩)) bs w' ∧ Below B w w' ∧ Lib.OthersKept 5 (some b) w w') := by
  rcases h with h | h
  · refine (pb_fresh b w h.cell0 h.shape h.frozen0).mono ?_
    rintro e w' ⟨rfl, rfl⟩
    exact ⟨rfl, h.used _, (Below.refl B w).setCell (p := ⟨b, 0, none⟩) h.1 _, (Lib.OthersKept.refl _ _ w).setCell ⟨b, 0, none⟩ rfl _⟩
  · refine (pb_used b w h.cell0).mono ?_
    rintro e w' ⟨rfl, rfl⟩
    exact ⟨rfl, h, Below.refl B _, Lib.OthersKept.refl _ _ _⟩
set_option maxHeartbeats 2000000 in
set_option maxRecDepth 100000 in
theorem pb_WriteByte (B b : Nat) (l : List UInt8) (c : UInt8) (w : World) (h : Prt B b l w) (hlen : l.length + 1 ≤ 100000) (hBw : B ≤ w.heap.size) :
    Calls Tryd.prog 44 #[.pointer (some ⟨b, 0, none⟩), .int .u8 c.toNat] w fun e w' => e = .returned .nilIface ∧ PrtTo B b (l ++ [c]) w w' := by
  obtain ⟨i0, hi, hz0, hz1, hz2⟩ := info_parts info_byte
  have hlen2 : (Lib.byteCells l).length + 1 ≤ 100000 := by rw [Lib.byteCells_length l]; exact hlen
  clear hlen
  have neB : (54 : TypeId) ≠ 5 := by decide
  go_enter Tryd.func44, Tryd.ntmps44
  go_wp2_with (go_at_call 59; refine (pb_check B b _ _ h).mono ?_)
  rintro e w1 ⟨rfl, h1, hb1, hk1⟩
  obtain ⟨hB, v, hbk, hown, hne⟩ := h1
  have c0 : w1.cell? ⟨b, 0, none⟩ = some (.pointer (some ⟨b, 0, none⟩)) := by rw [Lib.cell_of_heap hbk]; rfl
  have c1 : w1.cell? ⟨b, 1, none⟩ = some v := by rw [Lib.cell_of_heap hbk]; rfl
  go_wp2_with (at_builtin; refine wpList_append_ownF _ rfl _ _ 46 rfl B 5 i0 (.int .u8 0) 1 1 Tryd.underlying46 hi hz0 hz1 hz2 rfl (by decide) _ _ _ rfl (hown.alloc _) ⟨w1.heap.size, 0, none⟩ 1 1 [.int .u8 c.toNat] rfl rfl ?c1 ?c2 ?c3 ?c4 ?c5 ?_)
  case c1 =>
    intro j u hj
    match j, hj with
    | 0, hj => simp at hj; subst hj; simp [Addr.add]
  case c2 => intro u hu; simp at hu; subst hu; rfl
  case c3 => unfold maxLen; omega
  case c4 => omega
  case c5 => have := hb1.size; simp; omega
  intro v' w2 hown' hgrow _
  have hlt : b < w1.heap.size := by
    rcases Nat.lt_or_ge b w1.heap.size with h' | h'
    · exact h'
    · simp [Array.getElem?_eq_none h'] at hbk
  have hb2 : w2.heap[b]? = some (.cells #[.pointer (some ⟨b, 0, none⟩), v] 54 (0, 0)) := by
    rw [hgrow.block b (by simp; omega) (fun e => hne e.symm), Lib.alloc_old w1 _ b hlt]
    exact hbk
  have d0 : w2.cell? ⟨b, 0, none⟩ = some (.pointer (some ⟨b, 0, none⟩)) := by rw [Lib.cell_of_heap hb2]; rfl
  have d1 : w2.cell? ⟨b, 1, none⟩ = some v := by rw [Lib.cell_of_heap hb2]; rfl
  have f1 : w2.frozen? ⟨b, 1, none⟩ = false := Lib.frozen_of_heap hb2 1
  obtain ⟨g, cap, rfl⟩ : ∃ g cap, v' = .slice (some ⟨g, 0, none⟩) ((Lib.byteCells l).length + 1) cap := by
    rcases hown'.2 with ⟨_, h0⟩ | ⟨g, cap, cur, fz, hv, _⟩
    · omega
    · exact ⟨g, cap, hv⟩
  go_wp2
  go_ret
  refine ⟨rfl, ?_, ?_, ((hk1.alloc _).grown hgrow (Lib.ownsRowF_kind (hown.alloc _))).setCell ⟨b, 1, none⟩ rfl _⟩
  · have := Lib.BuilderAtF.put (T := 54) (e := 5) hB hb2 (bs' := Lib.byteCells l ++ [.int .u8 c.toNat]) (by simpa using hown') neB
    rw [show Lib.byteCells l ++ [.int .u8 c.toNat] = Lib.byteCells (l ++ [c]) by simp [Lib.byteCells]] at this
    exact Or.inr this
  · exact ((hb1.alloc (by have := hb1.size; omega) _).grown hgrow (by have := hb1.size; simp; omega) (fun k hk => (hown.lt k hk).1)).setCell (p := ⟨b, 1, none⟩) hB _
set_option maxHeartbeats 2000000 in
set_option maxRecDepth 100000 in
theorem pb_WriteString (B b : Nat) (l m : List UInt8) (w : World) (h : Prt B b l w) (hlen : l.length + m.length ≤ 100000) (hBw : B ≤ w.heap.size) :
    Calls Tryd.prog 43 #[.pointer (some ⟨b, 0, none⟩), .string ⟨m.toArray⟩] w fun e w' => e = .returned (.tuple #[.int .i64 m.length, .nilIface]) ∧ PrtTo B b (l ++ m) w w' := by
  obtain ⟨i0, hi, hz0, hz1, hz2⟩ := info_parts info_byte
  have hlen2 : (Lib.byteCells l).length + m.length ≤ 100000 := by rw [Lib.byteCells_length l]; exact hlen
  clear hlen
  have neB : (54 : TypeId) ≠ 5 := by decide
  obtain ⟨s, hs⟩ : ∃ s : ByteArray, s = ⟨m.toArray⟩ := ⟨_, rfl⟩
  have hsz : s.size = m.length := by rw [hs]; simp [ByteArray.size]
  have HS := Aside0.mk hs
  rw [← hs]
  clear hs
  go_enter Tryd.func43, Tryd.ntmps43
  go_wp2_with (go_at_call 59; refine (pb_check B b _ _ h).mono ?_)
  rintro e w1 ⟨rfl, h1, hb1, hk1⟩
  obtain ⟨hB, v, hbk, hown, hne⟩ := h1
  have c0 : w1.cell? ⟨b, 0, none⟩ = some (.pointer (some ⟨b, 0, none⟩)) := by rw [Lib.cell_of_heap hbk]; rfl
  have c1 : w1.cell? ⟨b, 1, none⟩ = some v := by rw [Lib.cell_of_heap hbk]; rfl
  go_wp2_with (at_builtin; refine Lib.wpList_append_own_stringF _ rfl _ _ 46 9 rfl B 5 i0 Tryd.underlying46 Tryd.underlying9 hi hz0 hz1 hz2 _ _ _ rfl hown s rfl ?c3 ?c4 ?c5 ?_)
  case c3 => unfold maxLen; omega
  case c4 => omega
  case c5 => have := hb1.size; omega
  intro v' w2 hown' hgrow _
  have hlt : b < w1.heap.size := by
    rcases Nat.lt_or_ge b w1.heap.size with h' | h'
    · exact h'
    · simp [Array.getElem?_eq_none h'] at hbk
  have hb2 : w2.heap[b]? = some (.cells #[.pointer (some ⟨b, 0, none⟩), v] 54 (0, 0)) := by
    rw [hgrow.block b hlt (fun e => hne e.symm)]
    exact hbk
  have d0 : w2.cell? ⟨b, 0, none⟩ = some (.pointer (some ⟨b, 0, none⟩)) := by rw [Lib.cell_of_heap hb2]; rfl
  have d1 : w2.cell? ⟨b, 1, none⟩ = some v := by rw [Lib.cell_of_heap hb2]; rfl
  have f1 : w2.frozen? ⟨b, 1, none⟩ = false := Lib.frozen_of_heap hb2 1
  obtain ⟨ao, n', cap, rfl⟩ : ∃ ao n' cap, v' = .slice ao n' cap := by
    rcases hown'.2 with ⟨hv, _⟩ | ⟨g, cap, cur, fz, hv, _⟩
    · exact ⟨_, _, _, hv⟩
    · exact ⟨_, _, _, hv⟩
  have HZ := Aside0.mk hsz
  clear hsz
  go_wp2
  go_ret2
  refine ⟨by rw [HZ.out]; rfl, ?_, ?_, (hk1.grown hgrow (Lib.ownsRowF_kind hown)).setCell ⟨b, 1, none⟩ rfl _⟩
  · have := Lib.BuilderAtF.put (T := 54) (e := 5) hB hb2 (bs' := Lib.byteCells l ++ Lib.strCells s) (by simpa [Lib.strCells_length, HZ.out] using hown') neB
    rw [show Lib.strCells s = Lib.byteCells m by rw [HS.out]; simp [Lib.strCells, Lib.byteCells], ← Lib.byteCells_append] at this
    exact Or.inr this
  · exact (hb1.grown hgrow (by have := hb1.size; omega) (fun k hk => (hown.lt k hk).1)).setCell (p := ⟨b, 1, none⟩) hB _
set_option maxHeartbeats 1000000 in
set_option maxRecDepth 100000 in
/-- The text of a printer that holds some bytes. -/
theorem pb_String (B b : Nat) (l : List UInt8) (w : World) (h : Prt B b l w) (h0 : l ≠ []) (hlen : l.length ≤ 100000) :
    Calls Tryd.prog 28 #[.pointer (some ⟨b, 0, none⟩)] w fun e w' => e = .returned (.string ⟨l.toArray⟩) ∧ Below B w w' := by
  obtain ⟨p, hp, hAt⟩ : ∃ p, (p = .pointer none ∨ p = .pointer (some ⟨b, 0, none⟩)) ∧ Lib.BuilderAtF 54 5 B b p (Lib.byteCells l) w := by
    rcases h with h | h
    · exact ⟨_, .inl rfl, h⟩
    · exact ⟨_, .inr rfl, h⟩
  obtain ⟨hB, v, hbk, hown, hne⟩ := hAt
  have hl0 : l.length ≠ 0 := by simpa using h0
  rw [Lib.byteCells_length] at hown
  obtain ⟨g, cap, cur, fz, rfl, hbg, hg, hfz, hnc, hcm, hcs, htake⟩ : ∃ g cap cur fz, v = .slice (some ⟨g, 0, none⟩) l.length cap ∧ B ≤ g ∧ w.heap[g]? = some (.cells cur 5 fz) ∧ fz.2 ≤ l.length * 1 ∧ l.length ≤ cap ∧ cap ≤ maxLen ∧ cur.size = cap * 1 ∧ cur.toList.take (l.length * 1) = Lib.byteCells l := by
    rcases hown.2 with ⟨_, hz⟩ | ⟨g, cap, cur, fz, hv, r⟩
    · exact absurd hz hl0
    · exact ⟨g, cap, cur, fz, hv, r⟩
  have c1 : w.drew.cell? ⟨b, 1, none⟩ = some (.slice (some ⟨g, 0, none⟩) l.length cap) := by
    have : w.drew.heap[b]? = some (.cells #[p, .slice (some ⟨g, 0, none⟩) l.length cap] 54 (0, 0)) := hbk
    rw [Lib.cell_of_heap this]; rfl
  have hSD : (Builtin.unsafeSliceData_ #[46] 82 #[.slice (some ⟨g, 0, none⟩) l.length cap]).run Tryd.prog w.drew = .ok (.pointer (some ⟨g, 0, none⟩)) w.drew :=
    Lib.run_unsafeSliceData_row _ _ _ _ _ _ (by omega)
  have hUS : (Builtin.unsafeString_ #[82, 3] 9 #[.pointer (some ⟨g, 0, none⟩), .int .i64 l.length]).run Tryd.prog w.drew = .ok (.string ⟨l.toArray⟩) (w.drew.freeze ⟨g, 0, none⟩ l.length) := by
    refine Lib.run_unsafeString_row w.drew 82 3 9 5 Tryd.underlying82 (by kernel_rfl) g cur.size (by have hg' : w.drew.heap[g]? = some (.cells cur 5 fz) := hg; simp [World.shape?, hg']) l h0 (by omega) (by unfold maxLen at hcm; omega) ?_
    intro j x hx
    have := hown.cells (g := g) rfl j (.int .u8 x.toNat) (by simp [Lib.byteCells, hx])
    exact this
  go_enter Tryd.func28, Tryd.ntmps28
  go_wp2
  go_region
  all_goals (go_wp2; go_ret; exact ⟨rfl, Lib.below_freeze (Below.drew (Below.refl B w)) (p := ⟨g, 0, none⟩) hbg _⟩)
end Go.Proofs.YtnbjneknicppcaaDoor.Fn

namespace Go.Proofs.YtnbjneknicppcaaDoor.Fn
set_option linter.unusedVariables false
set_option linter.unusedSimpArgs false
open Go.RowKit Go.Proofs.YtnbjneknicppcaaDoorW.PrintWords Go.Proofs.YtnbjneknicppcaaDoorW.PrintLast Go.Lib
def AsciiS (s : ByteArray) : Prop := ∀ i (h : i < s.size), (s[i]'h).toNat < 128
def anyFrom (s t : ByteArray) (i : Nat) : Bool := (s.data.toList.drop i).any fun c => t.data.toList.contains c
def hasFrom (c : UInt8) (t : ByteArray) (j : Nat) : Bool := (t.data.toList.drop j).contains c
theorem anyFrom_step (s t : ByteArray) (i : Nat) (h : i < s.size) : anyFrom s t i = (hasFrom (s[i]'h) t 0 || anyFrom s t (i + 1)) := by
  unfold anyFrom hasFrom
  rw [List.drop_eq_getElem_cons (by simpa using h), List.any_cons, List.drop_zero]
  rfl
theorem anyFrom_end (s t : ByteArray) (i : Nat) (h : ¬ i < s.size) : anyFrom s t i = false := by
  unfold anyFrom; rw [List.drop_of_length_le (by have : s.data.toList.length = s.size := Array.length_toList ..; omega)]; rfl
theorem hasFrom_step (c : UInt8) (t : ByteArray) (j : Nat) (h : j < t.size) : hasFrom c t j = (c == (t[j]'h) || hasFrom c t (j + 1)) := by
  unfold hasFrom
  rw [List.drop_eq_getElem_cons (by simpa using h), List.contains_cons]
  rfl
theorem hasFrom_end (c : UInt8) (t : ByteArray) (j : Nat) (h : ¬ j < t.size) : hasFrom c t j = false := by
  unfold hasFrom; rw [List.drop_of_length_le (by have : t.data.toList.length = t.size := Array.length_toList ..; omega)]; rfl
set_option maxRecDepth 1000000 in
set_option maxHeartbeats 2000000 in
theorem hasAny_calls (s t : ByteArray) (hs : AsciiS s) (ht : AsciiS t) (w : World) :
    Calls Tryd.prog 42 #[.string s, .string t] w fun e w' => e = .returned (.bool (anyFrom s t 0)) ∧ Below w.heap.size w w' := by
  have HS := Aside0.mk hs
  have HT := Aside0.mk ht
  clear hs ht
  go_enter Tryd.func42, Tryd.ntmps42
  go_wp2
  go_loopw [] (fun wr => ∃ (i : Nat), wr.heap[w.heap.size]? = some (.stringIter s i) ∧ Below w.heap.size w wr ∧ Aside0 (anyFrom s t i = anyFrom s t 0)) (fun wr => s.size - wr.iterPos w.heap.size)
  case atStart => exact ⟨0, by have := World.iter_heap w s 0; simpa using this, below_alloc (Below.refl _ _) _, ⟨rfl⟩⟩
  case round =>
    obtain ⟨i, hit, hb, hA⟩ := hrel
    have hsz : w.heap.size < wr.heap.size := (Array.getElem?_eq_some_iff.1 hit).1
    by_cases hp : i < s.size
    · have ha := HS.out i hp
      have hnx : ∀ ty, (Instr.next (.pointer (some ⟨w.heap.size, 0, none⟩)) true ty).run Tryd.prog wr = _ := fun ty => Lib.run_next_ascii_at wr w.heap.size s i ty hit hp ha
      have HIT := Aside0.mk hit
      have HB := Aside0.mk hb
      have hst := anyFrom_step s t i hp
      have HST := Aside0.mk hst
      clear hst hb hit ha
      generalize s[i] = c at hnx HST
      have hb2 := Lib.below_iterAt HB.out (k := w.heap.size) (Nat.le_refl _) s (i + 1)
      have hit2 := Lib.iterAt_heap wr w.heap.size s i (i + 1) HIT.out
      have hsz2 : (wr.iterAt w.heap.size s (i + 1)).heap.size = wr.heap.size := Lib.iterAt_size ..
      have HB2 := Aside0.mk hb2
      have HIT2 := Aside0.mk hit2
      have HSZ2 := Aside0.mk hsz2
      have HHN := Aside0.mk hnx
      clear hb2 hit2 hsz2 HB
      generalize hW : wr.iterAt w.heap.size s (i + 1) = w1 at hnx HB2 HIT2 HSZ2
      clear hW
      go_wp2
      go_loopw [] (fun w2 => ∃ (j : Nat), w2.heap[w1.heap.size]? = some (.stringIter t j) ∧ w2.heap[w.heap.size]? = some (.stringIter s (i + 1)) ∧ Below w.heap.size w w2 ∧ Aside0 (hasFrom c t j = hasFrom c t 0)) (fun w2 => t.size - w2.iterPos w1.heap.size)
      case atStart =>
        refine ⟨0, ?_, ?_, ?_, ⟨rfl⟩⟩
        · have := World.iter_heap w1 t 0; simpa using this
        · exact (blk_alloc HIT2.out _)
        · exact HB2.out.alloc HB2.out.size _
      case round =>
        obtain ⟨j, hjt, hjs, hb3, hA3⟩ := hrel
        have hszj : w1.heap.size < wr.heap.size := (Array.getElem?_eq_some_iff.1 hjt).1
        by_cases hpj : j < t.size
        · have haj := HT.out j hpj
          have hnx2 : ∀ ty, (Instr.next (.pointer (some ⟨w1.heap.size, 0, none⟩)) true ty).run Tryd.prog wr = _ := fun ty => Lib.run_next_ascii_at wr w1.heap.size t j ty hjt hpj haj
          have HST2 := Aside0.mk (hasFrom_step c t j hpj)
          have hjt2 := Aside0.mk (Lib.iterAt_heap wr w1.heap.size t j (j + 1) hjt)
          have hne : w.heap.size ≠ w1.heap.size := by have := HSZ2.out; omega
          have hjs2 := Aside0.mk ((Lib.iterAt_other wr w1.heap.size w.heap.size t (j + 1) hne).trans hjs)
          have hb32 := Aside0.mk (Lib.below_iterAt hb3 (k := w1.heap.size) (by have := HSZ2.out; omega) t (j + 1))
          have HNE := Aside0.mk hne
          have HJT := Aside0.mk hjt
          clear hjt hjs hb3 haj hne hnx
          generalize t[j] = d at hnx2 HST2
          by_cases hcd : c = d
          · have hq : (((c.toNat : Nat) : Int) == ((d.toNat : Nat) : Int)) = true := by rw [hcd]; simp
            have HR : Aside0 (anyFrom s t 0 = true) := ⟨by rw [← hA.out, HST.out, ← hA3.out, HST2.out, hcd]; simp⟩
            clear hcd
            go_wp2
            go_ret
            exact ⟨congrArg (fun b => Ending.returned (.bool b)) HR.out.symm, hb32.out⟩
          · have hq : (((c.toNat : Nat) : Int) == ((d.toNat : Nat) : Int)) = false := by
              rw [beq_eq_false_iff_ne]; intro h; exact hcd (UInt8.toNat_inj.1 (by omega))
            have HN3 : Aside0 (hasFrom c t (j + 1) = hasFrom c t 0) := ⟨by rw [← hA3.out, HST2.out]; simp [hcd]⟩
            clear hcd
            go_wp2
            go_roundw
            case rel => exact ⟨j + 1, hjt2.out, hjs2.out, hb32.out, HN3⟩
            case measure =>
              simp only [World.iterPos, hjt2.out, HJT.out]
              omega
        · have hnx2 : ∀ ty, (Instr.next (.pointer (some ⟨w1.heap.size, 0, none⟩)) true ty).run Tryd.prog wr = _ := fun ty => Lib.run_next_end_at wr w1.heap.size t j ty hjt hpj
          have HN3 : Aside0 (anyFrom s t (i + 1) = anyFrom s t 0) := ⟨by rw [← hA.out, HST.out, ← hA3.out, hasFrom_end c t j hpj]; simp⟩
          have HJS := Aside0.mk hjs
          clear hjt hnx hjs
          go_wp2
          go_roundw
          case rel => exact ⟨i + 1, HJS.out, hb3, HN3⟩
          case measure =>
            simp only [World.iterPos, HJS.out, HIT.out]
            omega
    · have hnx : ∀ ty, (Instr.next (.pointer (some ⟨w.heap.size, 0, none⟩)) true ty).run Tryd.prog wr = _ := fun ty => Lib.run_next_end_at wr w.heap.size s i ty hit hp
      have HN3 : Aside0 (anyFrom s t 0 = false) := ⟨by rw [← hA.out, anyFrom_end s t i hp]⟩
      clear hit
      go_wp2
      go_ret
      exact ⟨congrArg (fun b => Ending.returned (.bool b)) HN3.out.symm, hb⟩
end Go.Proofs.YtnbjneknicppcaaDoor.Fn

namespace Go.Proofs.YtnbjneknicppcaaDoor.Fn
set_option linter.unusedVariables false
set_option linter.unusedSimpArgs false
open Go.RowKit Go.Proofs.YtnbjneknicppcaaDoorW.PrintWords Go.Proofs.YtnbjneknicppcaaDoorW.PrintLast Go.Lib
theorem Prt.below {B b : Nat} {l : List UInt8} {w w' : World} (h : Prt B b l w) (hb : Below w.heap.size w w') : Prt B b l w' := by
  have key : ∀ p, Lib.BuilderAtF 54 5 B b p (Lib.byteCells l) w → Lib.BuilderAtF 54 5 B b p (Lib.byteCells l) w' := by
    rintro p ⟨hB, v, hbk, hown, hne⟩
    refine ⟨hB, v, (hb.block b (Array.getElem?_eq_some_iff.1 hbk).1).trans hbk, ⟨hown.1, ?_⟩, hne⟩
    rcases hown.2 with h0 | ⟨g, cap, cur, fz, h1, h2, h3, h4⟩
    · exact .inl h0
    · exact .inr ⟨g, cap, cur, fz, h1, h2, (hb.block g (Array.getElem?_eq_some_iff.1 h3).1).trans h3, h4⟩
  exact h.elim (fun x => .inl (key _ x)) (fun x => .inr (key _ x))
theorem Prt.lt {B b : Nat} {l : List UInt8} {w : World} (h : Prt B b l w) : b < w.heap.size := h.elim (fun x => x.lt) (fun x => x.lt)
theorem Prt.base {B b : Nat} {l : List UInt8} {w : World} (h : Prt B b l w) : B ≤ b := h.elim (fun x => x.1) (fun x => x.1)
theorem Prt.fresh (w : World) : Prt w.heap.size w.heap.size [] (w.alloc (.cells #[.pointer none, .slice none 0 0] 54)) :=
  Lib.IsBuilderF.of (Lib.fresh_isBuilder 54 5 w)
theorem PrtTo.refl {B b : Nat} {l : List UInt8} {w : World} (h : Prt B b l w) : PrtTo B b l w w := ⟨h, Below.refl _ _, Lib.OthersKept.refl _ _ _⟩
theorem PrtTo.trans {B b : Nat} {l m : List UInt8} {w w1 w2 : World} (h : PrtTo B b l w w1) (k : PrtTo B b m w1 w2) : PrtTo B b m w w2 := ⟨k.1, h.2.1.trans k.2.1, h.2.2.trans k.2.2⟩
theorem OthersKept.of_below {e : TypeId} {b : Option Nat} {w w' : World} (hb : Below w.heap.size w w') : Lib.OthersKept e b w w' := fun k _ hk _ _ => (hb.block k (Array.getElem?_eq_some_iff.1 hk).1).trans hk
theorem PrtTo.below {B b : Nat} {l : List UInt8} {w w1 w2 : World} (h : PrtTo B b l w w1) (hB : B ≤ w.heap.size) (hb : Below w1.heap.size w1 w2) : PrtTo B b l w w2 :=
  ⟨h.1.below hb, h.2.1.trans (hb.mono (Nat.le_trans hB h.2.1.size)), h.2.2.trans (OthersKept.of_below hb)⟩
theorem PrtTo.size {B b : Nat} {l : List UInt8} {w w1 : World} (h : PrtTo B b l w w1) : w.heap.size ≤ w1.heap.size := h.2.1.size
theorem PrtTo.g8 {B b : Nat} {l : List UInt8} {w w1 : World} (h : PrtTo B b l w w1) (hG : G8 w) (hR : Room8 B) : G8 w1 := hG.keep h.2.1 hR
theorem ba_append (a b : List UInt8) : (⟨a.toArray⟩ : ByteArray) ++ ⟨b.toArray⟩ = ⟨(a ++ b).toArray⟩ := by
  rw [ByteArray.ext_iff]; simp
theorem add_run (a b : List UInt8) (h : a.length + b.length ≤ 1000000) (W : World) : (Op.stringOp .add ⟨a.toArray⟩ ⟨b.toArray⟩).run Tryd.prog W = .ok (.string ⟨(a ++ b).toArray⟩) W := by
  rw [run_string_add_sum _ _ _ (by simp [ByteArray.size]; omega), ba_append]
def signsS : ByteArray := ⟨#[48, 49, 50, 51, 52, 53, 54, 55, 56, 57, 43, 45]⟩
theorem signs_ascii : AsciiS signsS := by unfold AsciiS; decide +kernel
theorem signs_has (c : UInt8) (h : inSet c.toNat = true) : signsS.data.toList.contains c = !ltrB c := by
  have k : ∀ c : Fin 256, inSet c.val = true → signsS.data.toList.contains (UInt8.ofNat c.val) = !ltrB (UInt8.ofNat c.val) := by decide +kernel
  have := k ⟨c.toNat, UInt8.toNat_lt c⟩ h
  simpa using this
theorem signs_any (l : List UInt8) (h : l.all (fun c => inSet c.toNat) = true) : anyFrom (Tx l) signsS 0 = !l.all ltrB := by
  unfold anyFrom
  rw [Tx_list, List.drop_zero]
  induction l with
  | nil => rfl
  | cons c t ih =>
    rw [List.all_cons, Bool.and_eq_true] at h
    rw [List.any_cons, List.all_cons, ih h.2, signs_has c h.1, Bool.not_and]
theorem named_ascii (l : List UInt8) (h : l.all (fun c => inSet c.toNat) = true) : AsciiS (Tx l) := by
  intro i hi
  have hm : (Tx l)[i] ∈ l := by
    have : (Tx l)[i] = l[i]'(by rw [← Tx_size]; exact hi) := rfl
    rw [this]; exact List.getElem_mem _
  have := List.all_eq_true.1 h _ hm
  generalize (Tx l)[i] = c at this
  simp [inSet] at this
  omega
set_option maxRecDepth 1000000 in
set_option maxHeartbeats 2000000 in
theorem pName_calls (B b : Nat) (l nm : List UInt8) (w : World) (h : Prt B b l w) (hn : namedL nm = true) (hl : l.length ≤ 1000) (hB : B ≤ w.heap.size) :
    Calls Tryd.prog 25 #[.pointer (some ⟨b, 0, none⟩), .string ⟨nm.toArray⟩] w fun e w' => e = .returned (.tuple #[]) ∧ PrtTo B b (l ++ prName nm) w w' := by
  unfold namedL at hn
  simp only [Bool.and_eq_true, decide_eq_true_eq] at hn
  obtain ⟨⟨hn1, hn2⟩, hn3⟩ := hn
  have HC := Aside0.mk (fun W => hasAny_calls (Tx nm) signsS (named_ascii nm hn3) signs_ascii W)
  rw [signs_any nm hn3] at HC
  have HP := Aside0.mk h
  have HB := Aside0.mk hB
  have HL := Aside0.mk (show l.length + (nm.length + 2) ≤ 100000 by omega)
  clear h hB hl hn1 hn3
  unfold signsS at HC
  unfold prName
  cases hq : nm.all ltrB
  · rw [hq] at HC
    simp only [Bool.not_false] at HC
    rw [if_neg (by decide)]
    have ha1 : ∀ W, (Op.stringOp .add ⟨#[60]⟩ ⟨nm.toArray⟩).run Tryd.prog W = .ok (.string ⟨(60 :: nm).toArray⟩) W := fun W => add_run [60] nm (by simp; omega) W
    have ha2 : ∀ W, (Op.stringOp .add ⟨(60 :: nm).toArray⟩ ⟨#[62]⟩).run Tryd.prog W = .ok (.string ⟨(60 :: (nm ++ [62])).toArray⟩) W := fun W => add_run (60 :: nm) [62] (by simp; omega) W
    clear hq
    go_enter Tryd.func25, Tryd.ntmps25
    go_wp2_with (go_at_call 42; refine (HC.out _).mono ?_)
    rintro e w1 ⟨rfl, hb1⟩
    have H1 := Aside0.mk ((PrtTo.refl HP.out).below HB.out hb1)
    clear hb1 HC
    go_wp2_with fail
    refine (pb_WriteString B b l (60 :: (nm ++ [62])) _ H1.out.1 (by have := HL.out; simp; omega) (Nat.le_trans HB.out H1.out.size)).mono ?_
    rintro e w2 ⟨rfl, h2⟩
    have H2 := Aside0.mk (H1.out.trans h2)
    clear h2 H1 ha1 ha2 hn2
    go_wp2
    go_end0
    exact ⟨rfl, H2.out⟩
  · rw [hq] at HC
    simp only [Bool.not_true] at HC
    rw [if_pos rfl]
    clear hq hn2
    go_enter Tryd.func25, Tryd.ntmps25
    go_wp2_with (go_at_call 42; refine (HC.out _).mono ?_)
    rintro e w1 ⟨rfl, hb1⟩
    have H1 := Aside0.mk ((PrtTo.refl HP.out).below HB.out hb1)
    clear hb1 HC
    go_wp2_with fail
    refine (pb_WriteString B b l nm _ H1.out.1 (by have := HL.out; omega) (Nat.le_trans HB.out H1.out.size)).mono ?_
    rintro e w2 ⟨rfl, h2⟩
    have H2 := Aside0.mk (H1.out.trans h2)
    clear h2 H1
    go_wp2
    go_end0
    exact ⟨rfl, H2.out⟩
end Go.Proofs.YtnbjneknicppcaaDoor.Fn

namespace Go.Proofs.YtnbjneknicppcaaDoor.Fn
set_option linter.unusedVariables false
set_option linter.unusedSimpArgs false
open Go.RowKit Go.Proofs.YtnbjneknicppcaaDoorW.PrintWords Go.Proofs.YtnbjneknicppcaaDoorW.PrintLast Go.Lib
structure Only (g : Nat) (w w' : World) : Prop where
  os : w'.os = w.os
  tape : w'.tape = w.tape
  output : w'.output = w.output
  size : w.heap.size ≤ w'.heap.size
  block : ∀ k, k < w.heap.size → k ≠ g → w'.heap[k]? = w.heap[k]?
theorem Only.refl (g : Nat) (w : World) : Only g w w := ⟨rfl, rfl, rfl, Nat.le_refl _, fun _ _ _ => rfl⟩
theorem Only.trans {g : Nat} {w w1 w2 : World} (h : Only g w w1) (k : Only g w1 w2) : Only g w w2 :=
  ⟨k.os.trans h.os, k.tape.trans h.tape, k.output.trans h.output, Nat.le_trans h.size k.size, fun b hb hg => (k.block b (Nat.lt_of_lt_of_le hb h.size) hg).trans (h.block b hb hg)⟩
theorem Only.of {g : Nat} {w w' : World} (h : Below w.heap.size w w') : Only g w w' := ⟨h.os, h.tape, h.output, h.size, fun b hb _ => h.block b hb⟩
theorem Only.set {g i : Nat} (w : World) (v : Value) : Only g w (w.setCell ⟨g, i, none⟩ v) := by
  have h := (Below.refl g w).setCell (p := ⟨g, i, none⟩) (Nat.le_refl _) v
  exact ⟨h.os, h.tape, h.output, h.size, fun b _ hg => Below.heap_setCell w ⟨g, i, none⟩ v b (by simpa using hg)⟩
theorem Only.below {g B : Nat} {w w' : World} (h : Only g w w') (hB : B ≤ g) (hw : B ≤ w.heap.size) : Below B w w' := ⟨h.os, h.tape, h.output, h.size, fun b hb => h.block b (by omega) (by omega)⟩
theorem Only.old {g k : Nat} {w w' : World} {o : Obj} (h : Only g w w') (hk : w.heap[k]? = some o) (hg : k ≠ g) : w'.heap[k]? = some o := (h.block k (Array.getElem?_eq_some_iff.1 hk).1 hg).trans hk
def Psr (g : Nat) (l : List UInt8) (wide : Bool) (w : World) : Prop := w.heap[g]? = some (.cells #[.string ⟨l.toArray⟩, .bool wide] 65 (0, 0))
def PsrTo (g : Nat) (l : List UInt8) (wide : Bool) (w w' : World) : Prop := Psr g l wide w' ∧ Only g w w'
theorem PsrTo.refl {g : Nat} {l : List UInt8} {wide : Bool} {w : World} (h : Psr g l wide w) : PsrTo g l wide w w := ⟨h, Only.refl _ _⟩
theorem PsrTo.trans {g : Nat} {l m : List UInt8} {wide : Bool} {w w1 w2 : World} (h : PsrTo g l wide w w1) (k : PsrTo g m wide w1 w2) : PsrTo g m wide w w2 := ⟨k.1, h.2.trans k.2⟩
theorem PsrTo.below {g : Nat} {l : List UInt8} {wide : Bool} {w w1 w2 : World} (h : PsrTo g l wide w w1) (k : Below w1.heap.size w1 w2) : PsrTo g l wide w w2 := ⟨(k.block g (Array.getElem?_eq_some_iff.1 h.1).1).trans h.1, h.2.trans (Only.of k)⟩
theorem PsrTo.set {g : Nat} {l m : List UInt8} {wide : Bool} {w w1 : World} (h : PsrTo g l wide w w1) : PsrTo g m wide w (w1.setCell ⟨g, 0, none⟩ (.string ⟨m.toArray⟩)) :=
  ⟨blk_put h.1 0 _ rfl, h.2.trans (Only.set w1 _)⟩
theorem PsrTo.g8 {g : Nat} {l : List UInt8} {wide : Bool} {w w1 : World} (h : PsrTo g l wide w w1) (hG : G8 w) (hR : Room8 g) : G8 w1 := by
  have hr := hG.room
  obtain ⟨tp, p, h2⟩ := hG.err
  have key : ∀ {n : String} {k : Nat} {cs : Array Value}, Tryd.prog.globalNamed n = some k → w.var? Tryd.prog n = some cs → k < w.heap.size → k < g → w1.var? Tryd.prog n = some cs := by
    intro n k cs hk hv h1 h2
    unfold World.var? at hv ⊢
    rw [hk] at hv ⊢
    simp only [Option.bind_some] at hv ⊢
    rw [h.2.block k h1 (by omega)]
    exact hv
  exact ⟨key g_tab hG.tab hr.1 hR.1, tp, p, key g_syn h2 hr.2 hR.2⟩
theorem Psr.c0 {g : Nat} {l : List UInt8} {wide : Bool} {w : World} (h : Psr g l wide w) : w.cell? ⟨g, 0, none⟩ = some (.string ⟨l.toArray⟩) := (blk_cell h 0).trans rfl
theorem Psr.c1 {g : Nat} {l : List UInt8} {wide : Bool} {w : World} (h : Psr g l wide w) : w.cell? ⟨g, 1, none⟩ = some (.bool wide) := (blk_cell h 1).trans rfl
theorem Psr.f0 {g : Nat} {l : List UInt8} {wide : Bool} {w : World} (h : Psr g l wide w) : w.frozen? ⟨g, 0, none⟩ = false := blk_frozen h 0
abbrev wrongE : Ending := .panicked [{ v := .iface 62 (.agg #[]), recovered := false }]
theorem must_yes (w : World) : Calls Tryd.prog 56 #[.bool true] w fun e w' => e = .returned (.tuple #[]) ∧ w = w' := by
  go_enter Tryd.func56, Tryd.ntmps56
  go_wp2
  go_end0
  exact ⟨rfl, rfl⟩
theorem run_wrong (w : World) : (Instr.panic (.iface 62 (.agg #[]))).run Tryd.prog w = .halt (.panic (.iface 62 (.agg #[]))) w := by
  simp [Instr.panic, Sem.run]
theorem must_no (w : World) : Calls Tryd.prog 56 #[.bool false] w fun e w' => e = wrongE ∧ w = w' := by
  go_enter Tryd.func56, Tryd.ntmps56
  go_wp2
  rw [run_wrong]
  simp only [Result.andThen]
  rw [Oper.upon_panic]
  exact ⟨rfl, rfl, rfl⟩
theorem ex_tail (c : UInt8) (t : List UInt8) : (⟨(c :: t).toArray⟩ : ByteArray).extract 1 (t.length + 1) = ⟨t.toArray⟩ := by
  rw [ByteArray.ext_iff]; simp
theorem hasPrefix_one (c : UInt8) (l : List UInt8) : Lib.hasPrefix l [c] = eats c l := by
  cases l with
  | nil => rfl
  | cons x t => simp [Lib.hasPrefix, eats, List.isPrefixOf, BEq.comm]
set_option maxRecDepth 100000 in
theorem cutP_calls (c : UInt8) (l : List UInt8) (w : World) :
    Calls Tryd.prog 71 #[.string ⟨l.toArray⟩, .string ⟨#[c]⟩] w fun e w' => e = .returned (.tuple #[.string ⟨(eaten c l).toArray⟩, .bool (eats c l)]) ∧ w = w' := by
  have HP : Aside0 (∀ W, Calls Tryd.prog 67 #[.string ⟨l.toArray⟩, .string ⟨#[c]⟩] W fun e w' => e = .returned (.bool (eats c l)) ∧ W = w') :=
    ⟨fun W => (Tryd.stringslite_HasPrefix ⟨l.toArray⟩ ⟨#[c]⟩ W).mono fun e w' h => ⟨by rw [h.1]; simp only [List.toList_toArray]; rw [hasPrefix_one], h.2.symm⟩⟩
  cases h : eats c l
  · rw [h] at HP
    have he : eaten c l = l := by unfold eaten; rw [if_neg (by rw [h]; decide)]
    rw [he]
    clear he h
    go_enter Tryd.func71, Tryd.ntmps71
    go_wp2_with (first | (go_at_call 67; refine (HP.out _).mono ?_; rintro e w' ⟨rfl, rfl⟩) | (go_at_call 79; go_in))
    go_ret2
    exact ⟨rfl, rfl⟩
  · rw [h] at HP
    obtain ⟨t, rfl⟩ : ∃ t, l = c :: t := by
      cases l with
      | nil => simp [eats] at h
      | cons x t => simp [eats] at h; exact ⟨t, by rw [h]⟩
    have he : eaten c (c :: t) = t := by unfold eaten; rw [if_pos h]; rfl
    rw [he]
    have hx := ex_tail c t
    clear he h
    go_enter Tryd.func71, Tryd.ntmps71
    go_wp2_with (first | (go_at_call 67; refine (HP.out _).mono ?_; rintro e w' ⟨rfl, rfl⟩) | (go_at_call 79; go_in))
    go_ret2
    exact ⟨rfl, rfl⟩
set_option maxRecDepth 100000 in
theorem is_calls (g : Nat) (c : UInt8) (l : List UInt8) (wide : Bool) (w : World) (h : Psr g l wide w) :
    Calls Tryd.prog 62 #[.pointer (some ⟨g, 0, none⟩), .string ⟨#[c]⟩] w fun e w' => e = .returned (.bool (eats c l)) ∧ PsrTo g (eaten c l) wide w w' := by
  have c0 := h.c0
  have f0 := h.f0
  have HP := Aside0.mk h
  clear h
  go_enter Tryd.func62, Tryd.ntmps62
  go_wp2_with (go_at_call 71; refine (cutP_calls c l _).mono ?_; rintro e w' ⟨rfl, rfl⟩)
  go_ret
  exact ⟨rfl, (PsrTo.refl HP.out).set⟩
end Go.Proofs.YtnbjneknicppcaaDoor.Fn

namespace Go.Proofs.YtnbjneknicppcaaDoor.Fn
set_option linter.unusedVariables false
set_option linter.unusedSimpArgs false
open Go.RowKit Go.Proofs.YtnbjneknicppcaaDoorW.PrintWords Go.Proofs.YtnbjneknicppcaaDoorW.PrintLast Go.Lib
theorem runOf_cons (p : UInt8 → Bool) (m : Nat) (x : UInt8) (t : List UInt8) : runOf p (m + 1) (x :: t) = if p x = true then x :: runOf p m t else [] := by
  unfold runOf; rw [List.take_succ_cons, List.takeWhile_cons]
theorem runOf_nil (p : UInt8 → Bool) (m : Nat) : runOf p m [] = [] := by unfold runOf; simp
theorem run_stop (p : UInt8 → Bool) : ∀ (l : List UInt8) (most : Nat) (h : (runOf p most l).length < l.length), (runOf p most l).length < most → p (l[(runOf p most l).length]'h) = false
  | [], most, h, _ => by simp at h
  | x :: t, 0, _, h2 => by simp at h2
  | x :: t, m + 1, h, h2 => by
    cases hx : p x
    · have e : runOf p (m + 1) (x :: t) = [] := by rw [runOf_cons, if_neg (by rw [hx]; decide)]
      simp only [e, List.length_nil, List.getElem_cons_zero, hx]
    · have e : runOf p (m + 1) (x :: t) = x :: runOf p m t := by rw [runOf_cons, if_pos hx]
      simp only [e, List.length_cons] at h h2 ⊢
      exact run_stop p t m (by omega) (by omega)
theorem run_go (p : UInt8 → Bool) (l : List UInt8) (most k : Nat) (h : k < (runOf p most l).length) : ∃ h : k < l.length, p (l[k]'h) = true := by
  have h2 := run_len2 p most l
  refine ⟨by omega, ?_⟩
  have h3 := run_take p most l
  have h4 : (runOf p most l)[k]'h = l[k]'(by omega) := by
    have : (l.take (runOf p most l).length)[k]'(by rw [h3]; exact h) = l[k]'(by omega) := List.getElem_take
    simp only [h3] at this
    exact this
  rw [← h4]
  exact List.all_eq_true.1 (run_all p most l) _ (List.getElem_mem _)
theorem ex_take (l : List UInt8) (k : Nat) : (⟨l.toArray⟩ : ByteArray).extract 0 k = ⟨(l.take k).toArray⟩ := by
  rw [ByteArray.ext_iff]; simp
theorem ex_drop (l : List UInt8) (k : Nat) : (⟨l.toArray⟩ : ByteArray).extract k l.length = ⟨(l.drop k).toArray⟩ := by
  rw [ByteArray.ext_iff]; simp [List.take_of_length_le]
set_option maxRecDepth 100000 in
set_option maxHeartbeats 2000000 in
theorem run_calls (S : ByteArray) (p : UInt8 → Bool) (hS : ∀ c : UInt8, decide (0 ≤ Lib.indexByte S.data.toList c) = p c) (g : Nat) (most : Nat) (l : List UInt8) (hl : l.length ≤ 100000) (hm : most ≤ 100000) (wide : Bool) (w : World) (h : Psr g l wide w) :
    Calls Tryd.prog 63 #[.pointer (some ⟨g, 0, none⟩), .string S, .int .i64 most] w fun e w' => e = .returned (.string ⟨(runOf p most l).toArray⟩) ∧ PsrTo g (runRest p most l) wide w w' := by
  have c0 := h.c0
  have f0 := h.f0
  have HP := Aside0.mk h
  have HS := Aside0.mk hS
  clear h hS
  go_enter Tryd.func63, Tryd.ntmps63
  go_wp2
  go_loop [7] (fun n => ∃ k : Nat, k ≤ (runOf p most l).length ∧ n = .int .i64 k) (fun n => (runOf p most l).length - (intOf n).toNat)
  case atStart => exact ⟨0, by omega, rfl⟩
  case round =>
    obtain ⟨k, hk, rfl⟩ := hrel
    have hr1 := run_len p most l
    have hr2 := run_len2 p most l
    by_cases hlt : k < (runOf p most l).length
    · obtain ⟨hkl, hpk⟩ := run_go p l most k hlt
      have hkm : k < most := by omega
      have HI : Aside0 (∀ W, Calls Tryd.prog 72 #[.string S, .int .u8 (l[k]).toNat] W fun e w' => ∃ n : Int, e = .returned (.int .i64 n) ∧ 0 ≤ n ∧ W = w') := ⟨fun W => (Tryd.strings_IndexByte S (l[k]).toNat W).mono fun e w' h => ⟨_, h.1, by
        have := HS.out l[k]
        rw [hpk] at this
        rw [show ((l[k]).toNat : Int).toNat.toUInt8 = l[k] by simp]
        simpa using this, h.2.symm⟩⟩
      have HR := Aside0.mk hr1
      have HR2 := Aside0.mk hr2
      have HLT := Aside0.mk hlt
      clear hpk hr1 hr2 hk hlt
      go_wp2_with fail
      refine (HI.out _).mono ?_
      rintro e w' ⟨n, rfl, hn, rfl⟩
      clear HI
      go_wp2
      go_round
      case rel => exact ⟨k + 1, by have := HLT.out; omega, by go_num⟩
      case measure => have := HLT.out; simp [intOf]; omega
    · obtain rfl : k = (runOf p most l).length := by omega
      have HK := Aside0.mk (show l.take (runOf p most l).length = runOf p most l from run_take p most l)
      have HE : ∀ (W : World), PsrTo g (runRest p most l) wide w (w.setCell ⟨g, 0, none⟩ (.string ⟨(l.drop (runOf p most l).length).toArray⟩)) := fun _ => (PsrTo.refl HP.out).set
      have HE2 := Aside0.mk (HE w)
      clear HE hlt hk
      have hst := run_stop p l most
      have HST := Aside0.mk hst
      clear hst
      generalize hR : (runOf p most l).length = k at *
      have hx1 := ex_take l k
      have hx2 := ex_drop l k
      by_cases q1 : k < l.length
      · by_cases q2 : k < most
        · have hpk := HST.out q1 q2
          have HI : Aside0 (∀ W, Calls Tryd.prog 72 #[.string S, .int .u8 (l[k]).toNat] W fun e w' => ∃ n : Int, e = .returned (.int .i64 n) ∧ n < 0 ∧ W = w') := ⟨fun W => (Tryd.strings_IndexByte S (l[k]).toNat W).mono fun e w' h => ⟨_, h.1, by
            have := HS.out l[k]
            rw [hpk] at this
            rw [show ((l[k]).toNat : Int).toNat.toUInt8 = l[k] by simp]
            simpa using this, h.2.symm⟩⟩
          clear hpk HST
          go_wp2_with fail
          refine (HI.out _).mono ?_
          rintro e w' ⟨n, rfl, hn, rfl⟩
          clear HI
          go_wp2
          go_ret
          exact ⟨by rw [HK.out]; rfl, HE2.out⟩
        · clear HST
          go_wp2
          go_ret
          exact ⟨by rw [HK.out]; rfl, HE2.out⟩
      · clear HST
        go_wp2
        go_ret
        exact ⟨by rw [HK.out]; rfl, HE2.out⟩
end Go.Proofs.YtnbjneknicppcaaDoor.Fn

namespace Go.Proofs.YtnbjneknicppcaaDoor.Fn
set_option linter.unusedVariables false
set_option linter.unusedSimpArgs false
open Go.RowKit Go.Proofs.YtnbjneknicppcaaDoorW.PrintWords Go.Proofs.YtnbjneknicppcaaDoorW.PrintLast Go.Lib
def digitsS : ByteArray := ⟨#[48, 49, 50, 51, 52, 53, 54, 55, 56, 57]⟩
theorem digits_set (c : UInt8) : decide (0 ≤ Lib.indexByte digitsS.data.toList c) = digB c := by
  have k : ∀ c : Fin 256, decide (0 ≤ Lib.indexByte digitsS.data.toList (UInt8.ofNat c.val)) = digB (UInt8.ofNat c.val) := by decide +kernel
  simpa using k ⟨c.toNat, UInt8.toNat_lt c⟩
def lettersS : ByteArray := ⟨#[97, 98, 99, 100, 101, 102, 103, 104, 105, 106, 107, 108, 109, 110, 111, 112, 113, 114, 115, 116, 117, 118, 119, 120, 121, 122, 65, 66, 67, 68, 69, 70, 71, 72, 73, 74, 75, 76, 77, 78, 79, 80, 81, 82, 83, 84, 85, 86, 87, 88, 89, 90]⟩
theorem letters_set (c : UInt8) : decide (0 ≤ Lib.indexByte lettersS.data.toList c) = ltrB c := by
  have k : ∀ c : Fin 256, decide (0 ≤ Lib.indexByte lettersS.data.toList (UInt8.ofNat c.val)) = ltrB (UInt8.ofNat c.val) := by decide +kernel
  simpa using k ⟨c.toNat, UInt8.toNat_lt c⟩
theorem runD_calls (g : Nat) (most : Nat) (l : List UInt8) (hl : l.length ≤ 100000) (hm : most ≤ 100000) (wide : Bool) (w : World) (h : Psr g l wide w) :
    Calls Tryd.prog 63 #[.pointer (some ⟨g, 0, none⟩), .string ⟨#[48, 49, 50, 51, 52, 53, 54, 55, 56, 57]⟩, .int .i64 most] w fun e w' => e = .returned (.string ⟨(runOf digB most l).toArray⟩) ∧ PsrTo g (runRest digB most l) wide w w' :=
  run_calls digitsS digB digits_set g most l hl hm wide w h
theorem runL_calls (g : Nat) (most : Nat) (l : List UInt8) (hl : l.length ≤ 100000) (hm : most ≤ 100000) (wide : Bool) (w : World) (h : Psr g l wide w) :
    Calls Tryd.prog 63 #[.pointer (some ⟨g, 0, none⟩), .string ⟨#[97, 98, 99, 100, 101, 102, 103, 104, 105, 106, 107, 108, 109, 110, 111, 112, 113, 114, 115, 116, 117, 118, 119, 120, 121, 122, 65, 66, 67, 68, 69, 70, 71, 72, 73, 74, 75, 76, 77, 78, 79, 80, 81, 82, 83, 84, 85, 86, 87, 88, 89, 90]⟩, .int .i64 most] w fun e w' => e = .returned (.string ⟨(runOf ltrB most l).toArray⟩) ∧ PsrTo g (runRest ltrB most l) wide w w' :=
  run_calls lettersS ltrB letters_set g most l hl hm wide w h
theorem atoi_yes (l : List UInt8) (hd : l.all digB = true) (hl : l.length ≤ 18) (h0 : l ≠ []) (w : World) :
    Calls Tryd.prog 74 #[.string ⟨l.toArray⟩] w fun e w' => e = .returned (.tuple #[.int .i64 (numOf l), .nilIface]) ∧ Below w.heap.size w w' := by
  refine (Tryd.strconv_Atoi ⟨l.toArray⟩ (numOf l) (by simp [ByteArray.size]; exact hl) (by simp only [List.toList_toArray]; rw [atoi_run l hd, if_neg h0]) w).mono ?_
  rintro e w' ⟨rfl, t, rfl⟩
  exact ⟨rfl, bytesWorld_below _ _ _⟩
theorem atoi_no (w : World) (hG : G8 w) :
    Calls Tryd.prog 74 #[.string ⟨#[]⟩] w fun e w' => (∃ T p, e = .returned (.tuple #[.int .i64 0, .iface T (.pointer (some p))])) ∧ Below w.heap.size w w' := by
  obtain ⟨tp, p, h2⟩ := hG.err
  refine (Tryd.strconv_Atoi_err_var ⟨#[]⟩ (by simp [ByteArray.size]) rfl tp p w h2).mono ?_
  rintro e w' ⟨n, rfl, _, _, hb⟩
  exact ⟨⟨_, _, rfl⟩, hb⟩
set_option maxRecDepth 100000 in
theorem num_no (g : Nat) (most : Nat) (l : List UInt8) (hl : l.length ≤ 1000) (hm : most ≤ 3) (wide : Bool) (w : World) (h : Psr g l wide w) (hG : G8 w) (hR : Room8 g) (ht : tkNum most l = none) :
    Calls Tryd.prog 65 #[.pointer (some ⟨g, 0, none⟩), .int .i64 most] w fun e w' => e = wrongE ∧ Only g w w' := by
  have hr : runOf digB most l = [] := by unfold tkNum at ht; split at ht; (· assumption); (· cases ht)
  have HC := Aside0.mk (runD_calls g most l (by omega) (by omega) wide w h)
  rw [hr] at HC
  have HG := Aside0.mk hG
  have HR := Aside0.mk hR
  clear ht hr hG hR
  go_enter Tryd.func65, Tryd.ntmps65
  go_wp2_with fail
  refine HC.out.mono ?_
  rintro e w1 ⟨rfl, h1⟩
  have H1 := Aside0.mk h1
  clear h1 HC
  go_wp2_with (go_at_call 74; refine (atoi_no _ (H1.out.g8 HG.out HR.out)).mono ?_)
  rintro e w2 ⟨⟨T, p, rfl⟩, hb2⟩
  have H2 := Aside0.mk (H1.out.below hb2)
  clear hb2 H1
  go_wp2_with fail
  refine (must_no _).mono ?_
  rintro e w3 ⟨rfl, rfl⟩
  exact ⟨rfl, rfl, H2.out.2⟩
set_option maxRecDepth 100000 in
theorem num_yes (g : Nat) (most : Nat) (l : List UInt8) (hl : l.length ≤ 1000) (hm : most ≤ 3) (wide : Bool) (w : World) (h : Psr g l wide w) (n : Int) (rest : List UInt8) (ht : tkNum most l = some (n, rest)) :
    Calls Tryd.prog 65 #[.pointer (some ⟨g, 0, none⟩), .int .i64 most] w fun e w' => e = .returned (.int .i64 n) ∧ PsrTo g rest wide w w' := by
  have hr : runOf digB most l ≠ [] ∧ numOf (runOf digB most l) = n ∧ runRest digB most l = rest := by
    unfold tkNum at ht
    split at ht
    · cases ht
    · simp only [Option.some.injEq, Prod.mk.injEq] at ht; exact ⟨by assumption, ht⟩
  obtain ⟨h0, rfl, rfl⟩ := hr
  have HC := Aside0.mk (runD_calls g most l (by omega) (by omega) wide w h)
  have HA := Aside0.mk (fun W => atoi_yes (runOf digB most l) (run_all _ _ _) (by have := run_len digB most l; omega) h0 W)
  clear ht h0
  go_enter Tryd.func65, Tryd.ntmps65
  go_wp2_with fail
  refine HC.out.mono ?_
  rintro e w1 ⟨rfl, h1⟩
  have H1 := Aside0.mk h1
  clear h1 HC
  go_wp2_with fail
  refine (HA.out _).mono ?_
  rintro e w2 ⟨rfl, hb2⟩
  have H2 := Aside0.mk (H1.out.below hb2)
  clear hb2 H1 HA
  go_wp2_with (go_at_call 56; refine (must_yes _).mono ?_; rintro e w3 ⟨rfl, rfl⟩)
  go_ret
  exact ⟨rfl, H2.out⟩
set_option maxRecDepth 100000 in
theorem sixty_yes (g : Nat) (l : List UInt8) (hl : l.length ≤ 1000) (wide : Bool) (w : World) (h : Psr g l wide w) (n : Int) (b : Bool) (rest : List UInt8) (ht : tkSixty l = some (n, b, rest)) :
    Calls Tryd.prog 66 #[.pointer (some ⟨g, 0, none⟩)] w fun e w' => e = .returned (.tuple #[.int .i64 n, .bool b]) ∧ PsrTo g rest wide w w' := by
  have HI := Aside0.mk (is_calls g 58 l wide w h)
  unfold tkSixty at ht
  cases he : eats 58 l
  · rw [he, if_neg (by decide)] at ht
    simp only [Option.some.injEq, Prod.mk.injEq] at ht
    obtain ⟨rfl, rfl, rfl⟩ := ht
    rw [show eaten 58 l = l by unfold eaten; rw [if_neg (by rw [he]; decide)], he] at HI
    clear he
    go_enter Tryd.func66, Tryd.ntmps66
    go_wp2_with fail
    refine HI.out.mono ?_
    rintro e w1 ⟨rfl, h1⟩
    have H1 := Aside0.mk h1
    clear h1 HI
    go_wp2
    go_ret2
    exact ⟨rfl, H1.out⟩
  · rw [he, if_pos rfl] at ht
    have hlen : (runOf digB 2 l.tail).length = 2 := by split at ht; (· assumption); (· cases ht)
    rw [if_pos hlen] at ht
    have h60 : numOf (runOf digB 2 l.tail) < 60 := by split at ht; (· assumption); (· cases ht)
    rw [if_pos h60] at ht
    simp only [Option.some.injEq, Prod.mk.injEq] at ht
    obtain ⟨rfl, rfl, rfl⟩ := ht
    rw [show eaten 58 l = l.tail by unfold eaten; rw [if_pos he], he] at HI
    have HA := Aside0.mk (fun W => atoi_yes (runOf digB 2 l.tail) (run_all _ _ _) (by omega) (by intro h; rw [h] at hlen; cases hlen) W)
    have HLT := Aside0.mk (show l.tail.length ≤ 1000 by simp; omega)
    have HD : decide (((runOf digB 2 l.tail).length : Int) = 2) = true := by simp [hlen]
    clear he
    go_enter Tryd.func66, Tryd.ntmps66
    go_wp2_with fail
    refine HI.out.mono ?_
    rintro e w1 ⟨rfl, h1⟩
    have H1 := Aside0.mk h1
    clear h1 HI
    go_wp2_with fail
    refine (runD_calls g 2 l.tail (by have := HLT.out; omega) (by omega) wide _ H1.out.1).mono ?_
    rintro e w2 ⟨rfl, h2⟩
    have H2 := Aside0.mk (H1.out.trans h2)
    clear h2 H1
    go_wp2_with (first | (go_at_call 56; refine (must_yes _).mono ?_; rintro e w3 ⟨rfl, rfl⟩))
    refine (HA.out _).mono ?_
    rintro e w3 ⟨rfl, hb3⟩
    have H3 := Aside0.mk (H2.out.below hb3)
    clear hb3 H2 HA
    go_wp2_with (first | (go_at_call 56; refine (must_yes _).mono ?_; rintro e w3 ⟨rfl, rfl⟩))
    go_ret2
    exact ⟨rfl, H3.out⟩
set_option maxRecDepth 100000 in
theorem sixty_no (g : Nat) (l : List UInt8) (hl : l.length ≤ 1000) (wide : Bool) (w : World) (h : Psr g l wide w) (ht : tkSixty l = none) :
    Calls Tryd.prog 66 #[.pointer (some ⟨g, 0, none⟩)] w fun e w' => e = wrongE ∧ Only g w w' := by
  have HI := Aside0.mk (is_calls g 58 l wide w h)
  unfold tkSixty at ht
  cases he : eats 58 l
  · rw [he, if_neg (by decide)] at ht
    cases ht
  · rw [he, if_pos rfl] at ht
    rw [show eaten 58 l = l.tail by unfold eaten; rw [if_pos he], he] at HI
    have HLT := Aside0.mk (show l.tail.length ≤ 1000 by simp; omega)
    by_cases hlen : (runOf digB 2 l.tail).length = 2
    · rw [if_pos hlen] at ht
      have h60 : decide (numOf (runOf digB 2 l.tail) < 60) = false := by rw [decide_eq_false_iff_not]; intro h; rw [if_pos h] at ht; cases ht
      have HA := Aside0.mk (fun W => atoi_yes (runOf digB 2 l.tail) (run_all _ _ _) (by omega) (by intro h; rw [h] at hlen; cases hlen) W)
      clear he ht
      go_enter Tryd.func66, Tryd.ntmps66
      go_wp2_with fail
      refine HI.out.mono ?_
      rintro e w1 ⟨rfl, h1⟩
      have H1 := Aside0.mk h1
      clear h1 HI
      go_wp2_with fail
      refine (runD_calls g 2 l.tail (by have := HLT.out; omega) (by omega) wide _ H1.out.1).mono ?_
      rintro e w2 ⟨rfl, h2⟩
      have H2 := Aside0.mk (H1.out.trans h2)
      clear h2 H1
      go_wp2_with (first | (go_at_call 56; refine (must_yes _).mono ?_; rintro e w3 ⟨rfl, rfl⟩))
      refine (HA.out _).mono ?_
      rintro e w3 ⟨rfl, hb3⟩
      have H3 := Aside0.mk (H2.out.below hb3)
      clear hb3 H2 HA
      go_wp2_with fail
      refine (must_no _).mono ?_
      rintro e w3 ⟨rfl, rfl⟩
      exact ⟨rfl, rfl, H3.out.2⟩
    · clear he ht
      go_enter Tryd.func66, Tryd.ntmps66
      go_wp2_with fail
      refine HI.out.mono ?_
      rintro e w1 ⟨rfl, h1⟩
      have H1 := Aside0.mk h1
      clear h1 HI
      go_wp2_with fail
      refine (runD_calls g 2 l.tail (by have := HLT.out; omega) (by omega) wide _ H1.out.1).mono ?_
      rintro e w2 ⟨rfl, h2⟩
      have H2 := Aside0.mk (H1.out.trans h2)
      have hq : (((runOf digB 2 l.tail).length : Int) == 2) = false := by simp; omega
      clear h2 H1 hlen
      go_wp2_with fail
      refine (must_no _).mono ?_
      rintro e w3 ⟨rfl, rfl⟩
      exact ⟨rfl, rfl, H2.out.2⟩
theorem idx_eq (c : UInt8) : ∀ l : List UInt8, Lib.indexByte l c = if (l.takeWhile fun x => !(x == c)).length < l.length then (((l.takeWhile fun x => !(x == c)).length : Nat) : Int) else -1
  | [] => rfl
  | b :: l => by
    unfold Lib.indexByte
    rw [idx_eq c l, List.takeWhile_cons]
    cases hb : b == c
    · simp only [Bool.not_false, if_true, List.length_cons]
      by_cases h : (l.takeWhile fun x => !(x == c)).length < l.length
      · rw [if_neg (by decide), if_pos h, if_neg (by rw [beq_iff_eq]; omega), if_pos (by omega)]
        first | done | omega | simp
      · rw [if_neg (by decide), if_neg h, if_pos (by simp), if_neg (by omega)]
    · simp
set_option maxRecDepth 100000 in
set_option maxHeartbeats 1000000 in
/-- strings.Cut at one byte that stands there. -/
theorem cut_yes (l : List UInt8) (hl : l.length ≤ 1000) (k : Nat) (hk : k = (l.takeWhile fun x => !isEnd x).length) (hlt : k < l.length) (w : World) :
    Calls Tryd.prog 64 #[.string ⟨l.toArray⟩, .string ⟨#[62]⟩] w fun e w' => e = .returned (.tuple #[.string ⟨(l.takeWhile fun x => !isEnd x).toArray⟩, .string ⟨(l.drop (k + 1)).toArray⟩, .bool true]) ∧ Below w.heap.size w w' := by
  have HI : Aside0 (∀ W, Calls Tryd.prog 81 #[.string ⟨l.toArray⟩, .string ⟨#[62]⟩] W fun e w' => e = .returned (.int .i64 (k : Int)) ∧ W = w') :=
    ⟨fun W => (Tryd.stringslite_Index_one ⟨l.toArray⟩ 62 W).mono fun e w' h => ⟨by
      rw [h.1]; simp only [List.toList_toArray]; rw [idx_eq]
      have hd : (fun x : UInt8 => !(x == 62)) = fun x => !isEnd x := rfl
      rw [hd, ← hk, if_pos hlt], h.2.symm⟩⟩
  have ht : l.take k = l.takeWhile fun x => !isEnd x := by
    rw [hk]; exact (List.prefix_iff_eq_take.1 (List.takeWhile_prefix _)).symm
  have hx1 := ex_take l k
  rw [ht] at hx1
  have hx2 := ex_drop l (k + 1)
  have hx3 : (((k : Nat) : Int) + 1).toNat = k + 1 := by omega
  have hx4 : (0 : Int) ≤ (k : Int) + 1 := by omega
  have hx5 : IntKind.i64.wrap ((k : Int) + 1) = (k : Int) + 1 := IntWalk.i64_in _ (by omega)
  clear ht hk
  go_enter Tryd.func64, Tryd.ntmps64
  go_wp2_with (first | (go_at_call 81; refine (HI.out _).mono ?_; rintro e w' ⟨rfl, rfl⟩) | (go_at_call 73; go_in))
  go_region
  all_goals
    go_wp2_with fail
    go_ret3
    go_wp2_with fail
    go_ret3
    exact ⟨rfl, Below.drew (Below.refl _ _)⟩
set_option maxRecDepth 100000 in
set_option maxHeartbeats 1000000 in
/-- strings.Cut at one byte that does not stand there. -/
theorem cut_no (l : List UInt8) (hlt : ¬ (l.takeWhile fun x => !isEnd x).length < l.length) (w : World) :
    Calls Tryd.prog 64 #[.string ⟨l.toArray⟩, .string ⟨#[62]⟩] w fun e w' => e = .returned (.tuple #[.string ⟨l.toArray⟩, .string ⟨#[]⟩, .bool false]) ∧ w = w' := by
  have HI : Aside0 (∀ W, Calls Tryd.prog 81 #[.string ⟨l.toArray⟩, .string ⟨#[62]⟩] W fun e w' => e = .returned (.int .i64 (-1)) ∧ W = w') :=
    ⟨fun W => (Tryd.stringslite_Index_one ⟨l.toArray⟩ 62 W).mono fun e w' h => ⟨by
      rw [h.1]; simp only [List.toList_toArray]; rw [idx_eq]
      have hd : (fun x : UInt8 => !(x == 62)) = fun x => !isEnd x := rfl
      rw [hd, if_neg hlt], h.2.symm⟩⟩
  clear hlt
  go_enter Tryd.func64, Tryd.ntmps64
  go_wp2_with (first | (go_at_call 81; refine (HI.out _).mono ?_; rintro e w' ⟨rfl, rfl⟩) | (go_at_call 73; go_in))
  go_ret3
  go_wp2_with fail
  go_ret3
  exact ⟨rfl, rfl⟩
end Go.Proofs.YtnbjneknicppcaaDoor.Fn

namespace Go.Proofs.YtnbjneknicppcaaDoor.Fn
set_option linter.unusedVariables false
set_option linter.unusedSimpArgs false
open Go.RowKit Go.Proofs.YtnbjneknicppcaaDoorW.PrintWords Go.Proofs.YtnbjneknicppcaaDoorW.PrintLast Go.Lib
theorem named_calls (l : List UInt8) (w : World) : Calls Tryd.prog 29 #[.string ⟨l.toArray⟩] w fun e w' => e = .returned (.bool (namedL l)) ∧ Below w.heap.size w w' := by
  refine (posix_named.calls ⟨l.toArray⟩ (namedL l) w ?_)
  unfold posix_named.f
  rw [namedL_eq, Tx_list]
theorem run_len_all (p : UInt8 → Bool) (l : List UInt8) : runOf p l.length l = l.takeWhile p := by unfold runOf; rw [List.take_length]
set_option maxRecDepth 100000 in
set_option maxHeartbeats 2000000 in
theorem name_yes (g : Nat) (l : List UInt8) (hl : l.length ≤ 1000) (wide : Bool) (w : World) (h : Psr g l wide w) (nm rest : List UInt8) (ht : tkName l = some (nm, rest)) :
    Calls Tryd.prog 52 #[.pointer (some ⟨g, 0, none⟩)] w fun e w' => e = .returned (.string ⟨nm.toArray⟩) ∧ PsrTo g rest wide w w' := by
  have HI := Aside0.mk (is_calls g 60 l wide w h)
  unfold tkName at ht
  cases he : eats 60 l
  · rw [he, if_neg (by decide)] at ht
    have hn : namedL (l.takeWhile ltrB) = true := by split at ht; (· assumption); (· cases ht)
    rw [if_pos hn] at ht
    simp only [Option.some.injEq, Prod.mk.injEq] at ht
    obtain ⟨rfl, rfl⟩ := ht
    rw [show eaten 60 l = l by unfold eaten; rw [if_neg (by rw [he]; decide)], he] at HI
    have HN := Aside0.mk (fun W => named_calls (l.takeWhile ltrB) W)
    rw [hn] at HN
    have HR : Aside0 (∀ W, Psr g l wide W → Calls Tryd.prog 63 #[.pointer (some ⟨g, 0, none⟩), .string ⟨#[97, 98, 99, 100, 101, 102, 103, 104, 105, 106, 107, 108, 109, 110, 111, 112, 113, 114, 115, 116, 117, 118, 119, 120, 121, 122, 65, 66, 67, 68, 69, 70, 71, 72, 73, 74, 75, 76, 77, 78, 79, 80, 81, 82, 83, 84, 85, 86, 87, 88, 89, 90]⟩, .int .i64 l.length] W fun e w' => e = .returned (.string ⟨(l.takeWhile ltrB).toArray⟩) ∧ PsrTo g (l.drop (l.takeWhile ltrB).length) wide W w') := ⟨fun W hW => by
      have := runL_calls g l.length l (by omega) (by omega) wide W hW
      unfold runRest at this
      rwa [run_len_all] at this⟩
    clear he hn
    go_enter Tryd.func52, Tryd.ntmps52
    go_wp2_with fail
    refine HI.out.mono ?_
    rintro e w1 ⟨rfl, h1⟩
    have H1 := Aside0.mk h1
    have c0 := h1.1.c0
    clear h1 HI
    go_wp2_with fail
    refine (HR.out _ H1.out.1).mono ?_
    rintro e w2 ⟨rfl, h2⟩
    have H2 := Aside0.mk (H1.out.trans h2)
    clear h2 H1 HR c0
    go_wp2_with fail
    refine (HN.out _).mono ?_
    rintro e w3 ⟨rfl, hb3⟩
    have H3 := Aside0.mk (H2.out.below hb3)
    clear hb3 H2 HN
    go_wp2_with (first | (go_at_call 56; refine (must_yes _).mono ?_; rintro e w3 ⟨rfl, rfl⟩))
    go_ret
    exact ⟨rfl, H3.out⟩
  · rw [he, if_pos rfl] at ht
    have hlt : (l.tail.takeWhile fun c => !isEnd c).length < l.tail.length := by split at ht; (· assumption); (· cases ht)
    rw [if_pos hlt] at ht
    have hn : namedL (l.tail.takeWhile fun c => !isEnd c) = true := by split at ht; (· assumption); (· cases ht)
    rw [if_pos hn] at ht
    simp only [Option.some.injEq, Prod.mk.injEq] at ht
    obtain ⟨rfl, rfl⟩ := ht
    rw [show eaten 60 l = l.tail by unfold eaten; rw [if_pos he], he] at HI
    have HN := Aside0.mk (fun W => named_calls (l.tail.takeWhile fun c => !isEnd c) W)
    rw [hn] at HN
    have HC := Aside0.mk (fun W => cut_yes l.tail (by simp; omega) _ rfl hlt W)
    clear he hn hlt
    generalize (l.tail.takeWhile fun c => !isEnd c) = nm at *
    generalize l.tail = t at *
    go_enter Tryd.func52, Tryd.ntmps52
    go_wp2_with fail
    refine HI.out.mono ?_
    rintro e w1 ⟨rfl, h1⟩
    have H1 := Aside0.mk h1
    have c0 := h1.1.c0
    clear h1 HI
    go_wp2_with fail
    refine (HC.out _).mono ?_
    rintro e w2 ⟨rfl, hb2⟩
    have H2 := Aside0.mk (H1.out.below hb2)
    clear hb2 H1 HC c0
    go_wp2_with fail
    refine (HN.out _).mono ?_
    rintro e w3 ⟨rfl, hb3⟩
    have H3 := Aside0.mk (H2.out.below hb3)
    have c0 := H3.out.1.c0
    have f0 := H3.out.1.f0
    clear hb3 H2 HN
    go_wp2_with (first | (go_at_call 56; refine (must_yes _).mono ?_; rintro e w3 ⟨rfl, rfl⟩))
    go_ret
    exact ⟨rfl, H3.out.set⟩
set_option maxRecDepth 100000 in
set_option maxHeartbeats 2000000 in
theorem name_no (g : Nat) (l : List UInt8) (hl : l.length ≤ 1000) (wide : Bool) (w : World) (h : Psr g l wide w) (ht : tkName l = none) :
    Calls Tryd.prog 52 #[.pointer (some ⟨g, 0, none⟩)] w fun e w' => e = wrongE ∧ Only g w w' := by
  have HI := Aside0.mk (is_calls g 60 l wide w h)
  unfold tkName at ht
  cases he : eats 60 l
  · rw [he, if_neg (by decide)] at ht
    have hn : namedL (l.takeWhile ltrB) = false := by
      cases hq : namedL (l.takeWhile ltrB)
      · rfl
      · rw [if_pos hq] at ht; cases ht
    rw [show eaten 60 l = l by unfold eaten; rw [if_neg (by rw [he]; decide)], he] at HI
    have HN := Aside0.mk (fun W => named_calls (l.takeWhile ltrB) W)
    rw [hn] at HN
    have HR : Aside0 (∀ W, Psr g l wide W → Calls Tryd.prog 63 #[.pointer (some ⟨g, 0, none⟩), .string ⟨#[97, 98, 99, 100, 101, 102, 103, 104, 105, 106, 107, 108, 109, 110, 111, 112, 113, 114, 115, 116, 117, 118, 119, 120, 121, 122, 65, 66, 67, 68, 69, 70, 71, 72, 73, 74, 75, 76, 77, 78, 79, 80, 81, 82, 83, 84, 85, 86, 87, 88, 89, 90]⟩, .int .i64 l.length] W fun e w' => e = .returned (.string ⟨(l.takeWhile ltrB).toArray⟩) ∧ PsrTo g (l.drop (l.takeWhile ltrB).length) wide W w') := ⟨fun W hW => by
      have := runL_calls g l.length l (by omega) (by omega) wide W hW
      unfold runRest at this
      rwa [run_len_all] at this⟩
    clear he hn ht
    go_enter Tryd.func52, Tryd.ntmps52
    go_wp2_with fail
    refine HI.out.mono ?_
    rintro e w1 ⟨rfl, h1⟩
    have H1 := Aside0.mk h1
    have c0 := h1.1.c0
    clear h1 HI
    go_wp2_with fail
    refine (HR.out _ H1.out.1).mono ?_
    rintro e w2 ⟨rfl, h2⟩
    have H2 := Aside0.mk (H1.out.trans h2)
    clear h2 H1 HR c0
    go_wp2_with fail
    refine (HN.out _).mono ?_
    rintro e w3 ⟨rfl, hb3⟩
    have H3 := Aside0.mk (H2.out.below hb3)
    clear hb3 H2 HN
    go_wp2_with fail
    refine (must_no _).mono ?_
    rintro e w3 ⟨rfl, rfl⟩
    exact ⟨rfl, rfl, H3.out.2⟩
  · rw [he, if_pos rfl] at ht
    rw [show eaten 60 l = l.tail by unfold eaten; rw [if_pos he], he] at HI
    by_cases hlt : (l.tail.takeWhile fun c => !isEnd c).length < l.tail.length
    · rw [if_pos hlt] at ht
      have hn : namedL (l.tail.takeWhile fun c => !isEnd c) = false := by
        cases hq : namedL (l.tail.takeWhile fun c => !isEnd c)
        · rfl
        · rw [if_pos hq] at ht; cases ht
      have HN := Aside0.mk (fun W => named_calls (l.tail.takeWhile fun c => !isEnd c) W)
      rw [hn] at HN
      have HC := Aside0.mk (fun W => cut_yes l.tail (by simp; omega) _ rfl hlt W)
      clear he hn hlt ht
      generalize (l.tail.takeWhile fun c => !isEnd c) = nm at *
      go_enter Tryd.func52, Tryd.ntmps52
      go_wp2_with fail
      refine HI.out.mono ?_
      rintro e w1 ⟨rfl, h1⟩
      have H1 := Aside0.mk h1
      have c0 := h1.1.c0
      clear h1 HI
      go_wp2_with fail
      refine (HC.out _).mono ?_
      rintro e w2 ⟨rfl, hb2⟩
      have H2 := Aside0.mk (H1.out.below hb2)
      clear hb2 H1 HC c0
      go_wp2_with fail
      refine (HN.out _).mono ?_
      rintro e w3 ⟨rfl, hb3⟩
      have H3 := Aside0.mk (H2.out.below hb3)
      clear hb3 H2 HN
      go_wp2_with fail
      refine (must_no _).mono ?_
      rintro e w3 ⟨rfl, rfl⟩
      exact ⟨rfl, rfl, H3.out.2⟩
    · have HC := Aside0.mk (fun W => cut_no l.tail hlt W)
      clear he hlt ht
      go_enter Tryd.func52, Tryd.ntmps52
      go_wp2_with fail
      refine HI.out.mono ?_
      rintro e w1 ⟨rfl, h1⟩
      have H1 := Aside0.mk h1
      have c0 := h1.1.c0
      clear h1 HI
      go_wp2_with fail
      refine (HC.out _).mono ?_
      rintro e w2 ⟨rfl, rfl⟩
      clear HC c0
      go_wp2_with fail
      refine (must_no _).mono ?_
      rintro e w3 ⟨rfl, rfl⟩
      exact ⟨rfl, rfl, H1.out.2⟩
end Go.Proofs.YtnbjneknicppcaaDoor.Fn
