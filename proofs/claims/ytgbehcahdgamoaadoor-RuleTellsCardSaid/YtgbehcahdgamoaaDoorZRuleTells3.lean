/- Part 3 of the texts for LRuleTells: contracts and plain laws that it leans on. -/
import Derived.Test.YtgbehcahdgamoaaDoorZRuleTells2
namespace Go.Proofs.YtgbehcahdgamoaaDoor.Fn
open Go.RowKit Go.Proofs.YtgbehcahdgamoaaDoorW.PrintWords Go.Proofs.YtgbehcahdgamoaaDoorW.PrintLast Go.Proofs.YtgbehcahdgamoaaDoorW.PrintMore
set_option linter.unusedVariables false
set_option linter.unusedSimpArgs false
attribute [local go_sem high] eqA27
/-! ### posix_Right: function 26 -/
def posix_Right.j0 : Nat → Bool → Bool → Int → Bool → ByteArray → Int → Bool → ByteArray → Bool → Int → Int → Int → Int → Int → Int → Int → Int → Int → Int → Option (Bool)
  | 0, _, _, _, _, _, _, _, _, _, _, _, _, _, _, _, _, _, _, _ => none
  | k + 1, x1, x21, x122000, x122001, x122002, x122003, x122004, x122005, x122006, x122007, x122008, x122009, x122010, x122011, x122012, x122013, x122014, x122015, x122016 => if x21 = true then (some false) else (if x122006 = true then (if x122004 = true then ((posix_named.f x122005).bind fun t124 => (if t124 = true then ((posix_within.f x122003 (-89999) 89999).bind fun t125 => (if t125 = true then ((posix_changes.f k x122007 x122008 x122009 x122010 x122011 x1).bind fun t126 => (if t126 = true then ((posix_changes.f k x122012 x122013 x122014 x122015 x122016 x1).bind fun t127 => (some t127)) else (some false))) else (some false))) else (some false))) else (some false)) else (some ((x122003 == 0 && (!x122004 && (x122005.toList.isEmpty))) && (!x122006 && ((x122007 == 0 && (x122008 == 0 && (x122009 == 0 && (x122010 == 0 && (x122011 == 0))))) && ((x122012 == 0 && (x122013 == 0 && (x122014 == 0 && (x122015 == 0 && (x122016 == 0)))))))))))
def posix_Right.f (k : Nat) (a0_0 : Int) (a0_1 : Bool) (a0_2 : ByteArray) (a0_3 : Int) (a0_4 : Bool) (a0_5 : ByteArray) (a0_6 : Bool) (a0_7 : Int) (a0_8 : Int) (a0_9 : Int) (a0_10 : Int) (a0_11 : Int) (a0_12 : Int) (a0_13 : Int) (a0_14 : Int) (a0_15 : Int) (a0_16 : Int) (a1 : Bool) : Option (Bool) := if a0_1 = true then (posix_Right.j0 k a1 true a0_0 a0_1 a0_2 a0_3 a0_4 a0_5 a0_6 a0_7 a0_8 a0_9 a0_10 a0_11 a0_12 a0_13 a0_14 a0_15 a0_16) else ((posix_named.f a0_2).bind fun t122 => (if t122 = true then ((posix_within.f a0_0 (-89999) 89999).bind fun t123 => (posix_Right.j0 k a1 (!t123) a0_0 a0_1 a0_2 a0_3 a0_4 a0_5 a0_6 a0_7 a0_8 a0_9 a0_10 a0_11 a0_12 a0_13 a0_14 a0_15 a0_16)) else (posix_Right.j0 k a1 true a0_0 a0_1 a0_2 a0_3 a0_4 a0_5 a0_6 a0_7 a0_8 a0_9 a0_10 a0_11 a0_12 a0_13 a0_14 a0_15 a0_16)))
theorem posix_Right.mono_l : ∀ k, (∀ y0 y1 y2 y3 y4 y5 y6 y7 y8 y9 y10 y11 y12 y13 y14 y15 y16 y17 y18, LeO (posix_Right.j0 k y0 y1 y2 y3 y4 y5 y6 y7 y8 y9 y10 y11 y12 y13 y14 y15 y16 y17 y18) (posix_Right.j0 (k + 1) y0 y1 y2 y3 y4 y5 y6 y7 y8 y9 y10 y11 y12 y13 y14 y15 y16 y17 y18))
  | 0 => fun _ _ _ _ _ _ _ _ _ _ _ _ _ _ _ _ _ _ _ r h => by simp [posix_Right.j0] at h
  | k + 1 => by
    have ih0 := posix_Right.mono_l k
    · intro y0 y1 y2 y3 y4 y5 y6 y7 y8 y9 y10 y11 y12 y13 y14 y15 y16 y17 y18
      unfold posix_Right.j0
      repeat' first
      | (with_reducible exact ih0 _ _ _ _ _ _ _ _ _ _ _ _ _ _ _ _ _ _ _)
      | (with_reducible exact posix_changes.mono _ _ _ _ _ _ _)
      | (with_reducible exact LeO.refl _)
      | (with_reducible exact LeO.none _)
      | (with_reducible refine LeO.ite ?_ ?_)
      | (with_reducible refine LeO.bind ?_ (fun _ => ?_))
      | exact ih0 _ _ _ _ _ _ _ _ _ _ _ _ _ _ _ _ _ _ _
      | exact posix_changes.mono _ _ _ _ _ _ _
      | exact LeO.none _
      | refine LeO.ite ?_ ?_
      | refine LeO.bind ?_ (fun _ => ?_)
theorem posix_Right.mono : ∀ a0 a1 a2 a3 a4 a5 a6 a7 a8 a9 a10 a11 a12 a13 a14 a15 a16 a17 k, LeO (posix_Right.f k a0 a1 a2 a3 a4 a5 a6 a7 a8 a9 a10 a11 a12 a13 a14 a15 a16 a17) (posix_Right.f (k + 1) a0 a1 a2 a3 a4 a5 a6 a7 a8 a9 a10 a11 a12 a13 a14 a15 a16 a17) := by
  intro a0 a1 a2 a3 a4 a5 a6 a7 a8 a9 a10 a11 a12 a13 a14 a15 a16 a17 k
  have ih0 := posix_Right.mono_l k
  unfold posix_Right.f
  repeat' first
      | (with_reducible exact ih0 _ _ _ _ _ _ _ _ _ _ _ _ _ _ _ _ _ _ _)
      | (with_reducible exact posix_changes.mono _ _ _ _ _ _ _)
      | (with_reducible exact LeO.refl _)
      | (with_reducible exact LeO.none _)
      | (with_reducible refine LeO.ite ?_ ?_)
      | (with_reducible refine LeO.bind ?_ (fun _ => ?_))
      | exact ih0 _ _ _ _ _ _ _ _ _ _ _ _ _ _ _ _ _ _ _
      | exact posix_changes.mono _ _ _ _ _ _ _
      | exact LeO.none _
      | refine LeO.ite ?_ ?_
      | refine LeO.bind ?_ (fun _ => ?_)
set_option maxHeartbeats 8000000 in
set_option maxRecDepth 100000 in
theorem posix_Right.calls (k : Nat) (a0_0 : Int) (a0_1 : Bool) (a0_2 : ByteArray) (a0_3 : Int) (a0_4 : Bool) (a0_5 : ByteArray) (a0_6 : Bool) (a0_7 : Int) (a0_8 : Int) (a0_9 : Int) (a0_10 : Int) (a0_11 : Int) (a0_12 : Int) (a0_13 : Int) (a0_14 : Int) (a0_15 : Int) (a0_16 : Int) (a1 : Bool) (r : Bool) (w : World) (h : posix_Right.f k a0_0 a0_1 a0_2 a0_3 a0_4 a0_5 a0_6 a0_7 a0_8 a0_9 a0_10 a0_11 a0_12 a0_13 a0_14 a0_15 a0_16 a1 = some r) :
    Calls Tryd.prog 26 #[.agg #[.int .i64 a0_0, .bool a0_1, .string a0_2, .int .i64 a0_3, .bool a0_4, .string a0_5, .bool a0_6, .int .i64 a0_7, .int .i64 a0_8, .int .i64 a0_9, .int .i64 a0_10, .int .i64 a0_11, .int .i64 a0_12, .int .i64 a0_13, .int .i64 a0_14, .int .i64 a0_15, .int .i64 a0_16], .bool a1] w fun e w' => e = .returned (.bool r) ∧ Below w.heap.size w w' := by
  have hu27 := Tryd.underlying27
  have hu23 := Tryd.underlying23
  have hu25 := Tryd.underlying25
  have HB := Aside0.mk (Below.refl w.heap.size w)
  have H : (if a0_1 = true then (posix_Right.j0 k a1 true a0_0 a0_1 a0_2 a0_3 a0_4 a0_5 a0_6 a0_7 a0_8 a0_9 a0_10 a0_11 a0_12 a0_13 a0_14 a0_15 a0_16) else ((posix_named.f a0_2).bind fun t122 => (if t122 = true then ((posix_within.f a0_0 (-89999) 89999).bind fun t123 => (posix_Right.j0 k a1 (!t123) a0_0 a0_1 a0_2 a0_3 a0_4 a0_5 a0_6 a0_7 a0_8 a0_9 a0_10 a0_11 a0_12 a0_13 a0_14 a0_15 a0_16)) else (posix_Right.j0 k a1 true a0_0 a0_1 a0_2 a0_3 a0_4 a0_5 a0_6 a0_7 a0_8 a0_9 a0_10 a0_11 a0_12 a0_13 a0_14 a0_15 a0_16)))) = some r := h
  clear h
  have HC3 := Aside0.mk H
  clear H
  go_enter Tryd.func26, Tryd.ntmps26
  go_upto_region 1 with (first | ((with_reducible refine gate_dst (N := 2) rfl ?_); refine box_event ?hg (N := 2) ?hd (cs := #[.int .i64 a0_0, .bool a0_1, .string a0_2, .int .i64 a0_3, .bool a0_4, .string a0_5, .bool a0_6, .int .i64 a0_7, .int .i64 a0_8, .int .i64 a0_9, .int .i64 a0_10, .int .i64 a0_11, .int .i64 a0_12, .int .i64 a0_13, .int .i64 a0_14, .int .i64 a0_15, .int .i64 a0_16]) (t := 27) ?hr ?_; (case hd => rfl); (case hg => rfl); (case hr => first | (go_simp; done) | (go_simp; rfl)); intro gb121 hg w4 hbox hb; have n0_ := Aside0.mk (below_step (by repeat (first | (with_reducible first | exact HB.out | apply below_alloc | apply pw_below_drewN | apply below_drew1) | exact HB.out)) hb); have n1_ := Aside0.mk (hbox); have n2_ := Aside0.mk ((by rw [hg]; exact (below_size (by repeat (first | (with_reducible first | exact HB.out | apply below_alloc | apply pw_below_drewN | apply below_drew1) | exact HB.out))) : w.heap.size ≤ gb121)); have n3_ := Aside0.mk ((by rw [hg]; exact (below_size (by repeat (first | (with_reducible first | exact HB.out | apply below_alloc | apply pw_below_drewN | apply below_drew1) | exact HB.out))) : w.heap.size ≤ gb121)); clear HB; have HB := n0_; have BK121 := n1_; have GW121 := n2_; have GE121 := n3_; clear n0_ n1_ n2_ n3_; clear hb hbox hg))
  (try simp only [Act.put, List.setIfInBounds_toArray, List.set_cons_zero, List.set_cons_succ])
  go_cut [21] (fun v21 wc => ∃ (kq : Nat) (x21_2 : Bool), v21 = .bool x21_2 ∧ Aside0 (posix_Right.j0 kq a1 x21_2 a0_0 a0_1 a0_2 a0_3 a0_4 a0_5 a0_6 a0_7 a0_8 a0_9 a0_10 a0_11 a0_12 a0_13 a0_14 a0_15 a0_16 = some r) ∧ Aside0 (kq ≤ k) ∧ Aside0 (wc.heap[gb121]? = some (.cells #[.int .i64 a0_0, .bool a0_1, .string a0_2, .int .i64 a0_3, .bool a0_4, .string a0_5, .bool a0_6, .int .i64 a0_7, .int .i64 a0_8, .int .i64 a0_9, .int .i64 a0_10, .int .i64 a0_11, .int .i64 a0_12, .int .i64 a0_13, .int .i64 a0_14, .int .i64 a0_15, .int .i64 a0_16] 27 (0, 0))) ∧ Aside0 (Below w.heap.size w wc))
  case first =>
    have H := HC3.out
    clear HC3
    by_cases c5 : a0_1 = true
    · subst c5
      have H1 : (posix_Right.j0 k a1 true a0_0 true a0_2 a0_3 a0_4 a0_5 a0_6 a0_7 a0_8 a0_9 a0_10 a0_11 a0_12 a0_13 a0_14 a0_15 a0_16) = some r := by rw [if_pos rfl] at H; exact H
      clear H
      have H := H1
      clear H1
      have H' := Aside0.mk H
      clear H
      have hcz6_0 : w4.cell? ⟨gb121, 0, none⟩ = some (.int .i64 a0_0) := (blk_cell BK121.out 0).trans rfl
      have hcz6_1 : w4.cell? ⟨gb121, 1, none⟩ = some (.bool true) := (blk_cell BK121.out 1).trans rfl
      have hcz6_2 : w4.cell? ⟨gb121, 2, none⟩ = some (.string a0_2) := (blk_cell BK121.out 2).trans rfl
      have hcz6_3 : w4.cell? ⟨gb121, 3, none⟩ = some (.int .i64 a0_3) := (blk_cell BK121.out 3).trans rfl
      have hcz6_4 : w4.cell? ⟨gb121, 4, none⟩ = some (.bool a0_4) := (blk_cell BK121.out 4).trans rfl
      have hcz6_5 : w4.cell? ⟨gb121, 5, none⟩ = some (.string a0_5) := (blk_cell BK121.out 5).trans rfl
      have hcz6_6 : w4.cell? ⟨gb121, 6, none⟩ = some (.bool a0_6) := (blk_cell BK121.out 6).trans rfl
      have hcz6_7 : w4.cell? ⟨gb121, 7, none⟩ = some (.int .i64 a0_7) := (blk_cell BK121.out 7).trans rfl
      have hcz6_8 : w4.cell? ⟨gb121, 8, none⟩ = some (.int .i64 a0_8) := (blk_cell BK121.out 8).trans rfl
      have hcz6_9 : w4.cell? ⟨gb121, 9, none⟩ = some (.int .i64 a0_9) := (blk_cell BK121.out 9).trans rfl
      have hcz6_10 : w4.cell? ⟨gb121, 10, none⟩ = some (.int .i64 a0_10) := (blk_cell BK121.out 10).trans rfl
      have hcz6_11 : w4.cell? ⟨gb121, 11, none⟩ = some (.int .i64 a0_11) := (blk_cell BK121.out 11).trans rfl
      have hcz6_12 : w4.cell? ⟨gb121, 12, none⟩ = some (.int .i64 a0_12) := (blk_cell BK121.out 12).trans rfl
      have hcz6_13 : w4.cell? ⟨gb121, 13, none⟩ = some (.int .i64 a0_13) := (blk_cell BK121.out 13).trans rfl
      have hcz6_14 : w4.cell? ⟨gb121, 14, none⟩ = some (.int .i64 a0_14) := (blk_cell BK121.out 14).trans rfl
      have hcz6_15 : w4.cell? ⟨gb121, 15, none⟩ = some (.int .i64 a0_15) := (blk_cell BK121.out 15).trans rfl
      have hcz6_16 : w4.cell? ⟨gb121, 16, none⟩ = some (.int .i64 a0_16) := (blk_cell BK121.out 16).trans rfl
      have hfz6_0 := blk_frozen BK121.out 0
      have hfz6_1 := blk_frozen BK121.out 1
      have hfz6_2 := blk_frozen BK121.out 2
      have hfz6_3 := blk_frozen BK121.out 3
      have hfz6_4 := blk_frozen BK121.out 4
      have hfz6_5 := blk_frozen BK121.out 5
      have hfz6_6 := blk_frozen BK121.out 6
      have hfz6_7 := blk_frozen BK121.out 7
      have hfz6_8 := blk_frozen BK121.out 8
      have hfz6_9 := blk_frozen BK121.out 9
      have hfz6_10 := blk_frozen BK121.out 10
      have hfz6_11 := blk_frozen BK121.out 11
      have hfz6_12 := blk_frozen BK121.out 12
      have hfz6_13 := blk_frozen BK121.out 13
      have hfz6_14 := blk_frozen BK121.out 14
      have hfz6_15 := blk_frozen BK121.out 15
      have hfz6_16 := blk_frozen BK121.out 16
      go_wp2
      go_meet
      case rel => exact ⟨_, (true), (by first | rfl | (simp; done) | (simp [*]; done)), H', ⟨by first | omega | exact Nat.le_refl _⟩, ⟨by (with_reducible repeat (first | refine blk_drewN ?_ _ | refine blk_drew ?_ | refine blk_alloc ?_ _)); exact BK121.out⟩, ⟨by repeat (first | (with_reducible first | exact HB.out | apply below_alloc | apply pw_below_drewN | apply below_drew1 | refine below_set ?_ GE121.out) | exact HB.out)⟩⟩
    · replace c5 := Bool.eq_false_iff.mpr c5
      subst c5
      have H1 : ((posix_named.f a0_2).bind fun t122 => (if t122 = true then ((posix_within.f a0_0 (-89999) 89999).bind fun t123 => (posix_Right.j0 k a1 (!t123) a0_0 false a0_2 a0_3 a0_4 a0_5 a0_6 a0_7 a0_8 a0_9 a0_10 a0_11 a0_12 a0_13 a0_14 a0_15 a0_16)) else (posix_Right.j0 k a1 true a0_0 false a0_2 a0_3 a0_4 a0_5 a0_6 a0_7 a0_8 a0_9 a0_10 a0_11 a0_12 a0_13 a0_14 a0_15 a0_16))) = some r := by rw [if_neg (show ¬ (false = true) by decide)] at H; exact H
      clear H
      have H := H1
      clear H1
      replace H := Option.bind_eq_some_iff.mp H
      obtain ⟨t122, A70, H⟩ := H
      replace H : (if t122 = true then ((posix_within.f a0_0 (-89999) 89999).bind fun t123 => (posix_Right.j0 k a1 (!t123) a0_0 false a0_2 a0_3 a0_4 a0_5 a0_6 a0_7 a0_8 a0_9 a0_10 a0_11 a0_12 a0_13 a0_14 a0_15 a0_16)) else (posix_Right.j0 k a1 true a0_0 false a0_2 a0_3 a0_4 a0_5 a0_6 a0_7 a0_8 a0_9 a0_10 a0_11 a0_12 a0_13 a0_14 a0_15 a0_16)) = some r := H
      have A7 := Aside0.mk A70
      clear A70
      by_cases c8 : t122 = true
      · subst c8
        have H1 : ((posix_within.f a0_0 (-89999) 89999).bind fun t123 => (posix_Right.j0 k a1 (!t123) a0_0 false a0_2 a0_3 a0_4 a0_5 a0_6 a0_7 a0_8 a0_9 a0_10 a0_11 a0_12 a0_13 a0_14 a0_15 a0_16)) = some r := by rw [if_pos rfl] at H; exact H
        clear H
        have H := H1
        clear H1
        replace H := Option.bind_eq_some_iff.mp H
        obtain ⟨t123, A90, H⟩ := H
        replace H : (posix_Right.j0 k a1 (!t123) a0_0 false a0_2 a0_3 a0_4 a0_5 a0_6 a0_7 a0_8 a0_9 a0_10 a0_11 a0_12 a0_13 a0_14 a0_15 a0_16) = some r := H
        have A9 := Aside0.mk A90
        clear A90
        have H' := Aside0.mk H
        clear H
        have hcz10_0 : w4.cell? ⟨gb121, 0, none⟩ = some (.int .i64 a0_0) := (blk_cell BK121.out 0).trans rfl
        have hcz10_1 : w4.cell? ⟨gb121, 1, none⟩ = some (.bool false) := (blk_cell BK121.out 1).trans rfl
        have hcz10_2 : w4.cell? ⟨gb121, 2, none⟩ = some (.string a0_2) := (blk_cell BK121.out 2).trans rfl
        have hcz10_3 : w4.cell? ⟨gb121, 3, none⟩ = some (.int .i64 a0_3) := (blk_cell BK121.out 3).trans rfl
        have hcz10_4 : w4.cell? ⟨gb121, 4, none⟩ = some (.bool a0_4) := (blk_cell BK121.out 4).trans rfl
        have hcz10_5 : w4.cell? ⟨gb121, 5, none⟩ = some (.string a0_5) := (blk_cell BK121.out 5).trans rfl
        have hcz10_6 : w4.cell? ⟨gb121, 6, none⟩ = some (.bool a0_6) := (blk_cell BK121.out 6).trans rfl
        have hcz10_7 : w4.cell? ⟨gb121, 7, none⟩ = some (.int .i64 a0_7) := (blk_cell BK121.out 7).trans rfl
        have hcz10_8 : w4.cell? ⟨gb121, 8, none⟩ = some (.int .i64 a0_8) := (blk_cell BK121.out 8).trans rfl
        have hcz10_9 : w4.cell? ⟨gb121, 9, none⟩ = some (.int .i64 a0_9) := (blk_cell BK121.out 9).trans rfl
        have hcz10_10 : w4.cell? ⟨gb121, 10, none⟩ = some (.int .i64 a0_10) := (blk_cell BK121.out 10).trans rfl
        have hcz10_11 : w4.cell? ⟨gb121, 11, none⟩ = some (.int .i64 a0_11) := (blk_cell BK121.out 11).trans rfl
        have hcz10_12 : w4.cell? ⟨gb121, 12, none⟩ = some (.int .i64 a0_12) := (blk_cell BK121.out 12).trans rfl
        have hcz10_13 : w4.cell? ⟨gb121, 13, none⟩ = some (.int .i64 a0_13) := (blk_cell BK121.out 13).trans rfl
        have hcz10_14 : w4.cell? ⟨gb121, 14, none⟩ = some (.int .i64 a0_14) := (blk_cell BK121.out 14).trans rfl
        have hcz10_15 : w4.cell? ⟨gb121, 15, none⟩ = some (.int .i64 a0_15) := (blk_cell BK121.out 15).trans rfl
        have hcz10_16 : w4.cell? ⟨gb121, 16, none⟩ = some (.int .i64 a0_16) := (blk_cell BK121.out 16).trans rfl
        have hfz10_0 := blk_frozen BK121.out 0
        have hfz10_1 := blk_frozen BK121.out 1
        have hfz10_2 := blk_frozen BK121.out 2
        have hfz10_3 := blk_frozen BK121.out 3
        have hfz10_4 := blk_frozen BK121.out 4
        have hfz10_5 := blk_frozen BK121.out 5
        have hfz10_6 := blk_frozen BK121.out 6
        have hfz10_7 := blk_frozen BK121.out 7
        have hfz10_8 := blk_frozen BK121.out 8
        have hfz10_9 := blk_frozen BK121.out 9
        have hfz10_10 := blk_frozen BK121.out 10
        have hfz10_11 := blk_frozen BK121.out 11
        have hfz10_12 := blk_frozen BK121.out 12
        have hfz10_13 := blk_frozen BK121.out 13
        have hfz10_14 := blk_frozen BK121.out 14
        have hfz10_15 := blk_frozen BK121.out 15
        have hfz10_16 := blk_frozen BK121.out 16
        go_wp2_with (first | (go_at_call 45; (with_reducible refine (posix_named.calls a0_2 true _ A7.out).mono ?_); rintro e w11 ⟨rfl, hb⟩; have n0_ := Aside0.mk (blk_below (g := gb121) (o := .cells #[.int .i64 a0_0, .bool false, .string a0_2, .int .i64 a0_3, .bool a0_4, .string a0_5, .bool a0_6, .int .i64 a0_7, .int .i64 a0_8, .int .i64 a0_9, .int .i64 a0_10, .int .i64 a0_11, .int .i64 a0_12, .int .i64 a0_13, .int .i64 a0_14, .int .i64 a0_15, .int .i64 a0_16] 27 (0, 0)) (by (with_reducible repeat (first | refine blk_drewN ?_ _ | refine blk_drew ?_ | refine blk_alloc ?_ _)); exact BK121.out) hb); have n1_ := Aside0.mk (below_step (by repeat (first | (with_reducible first | exact HB.out | apply below_alloc | apply pw_below_drewN | apply below_drew1 | refine below_set ?_ GE121.out) | exact HB.out)) hb); clear BK121; clear HB; have BK121 := n0_; have HB := n1_; clear n0_ n1_; (try clear hb); (try clear hb2); (try clear hk); (try clear hi); have hcz12_0 : w11.cell? ⟨gb121, 0, none⟩ = some (.int .i64 a0_0) := (blk_cell BK121.out 0).trans rfl; have hcz12_1 : w11.cell? ⟨gb121, 1, none⟩ = some (.bool false) := (blk_cell BK121.out 1).trans rfl; have hcz12_2 : w11.cell? ⟨gb121, 2, none⟩ = some (.string a0_2) := (blk_cell BK121.out 2).trans rfl; have hcz12_3 : w11.cell? ⟨gb121, 3, none⟩ = some (.int .i64 a0_3) := (blk_cell BK121.out 3).trans rfl; have hcz12_4 : w11.cell? ⟨gb121, 4, none⟩ = some (.bool a0_4) := (blk_cell BK121.out 4).trans rfl; have hcz12_5 : w11.cell? ⟨gb121, 5, none⟩ = some (.string a0_5) := (blk_cell BK121.out 5).trans rfl; have hcz12_6 : w11.cell? ⟨gb121, 6, none⟩ = some (.bool a0_6) := (blk_cell BK121.out 6).trans rfl; have hcz12_7 : w11.cell? ⟨gb121, 7, none⟩ = some (.int .i64 a0_7) := (blk_cell BK121.out 7).trans rfl; have hcz12_8 : w11.cell? ⟨gb121, 8, none⟩ = some (.int .i64 a0_8) := (blk_cell BK121.out 8).trans rfl; have hcz12_9 : w11.cell? ⟨gb121, 9, none⟩ = some (.int .i64 a0_9) := (blk_cell BK121.out 9).trans rfl; have hcz12_10 : w11.cell? ⟨gb121, 10, none⟩ = some (.int .i64 a0_10) := (blk_cell BK121.out 10).trans rfl; have hcz12_11 : w11.cell? ⟨gb121, 11, none⟩ = some (.int .i64 a0_11) := (blk_cell BK121.out 11).trans rfl; have hcz12_12 : w11.cell? ⟨gb121, 12, none⟩ = some (.int .i64 a0_12) := (blk_cell BK121.out 12).trans rfl; have hcz12_13 : w11.cell? ⟨gb121, 13, none⟩ = some (.int .i64 a0_13) := (blk_cell BK121.out 13).trans rfl; have hcz12_14 : w11.cell? ⟨gb121, 14, none⟩ = some (.int .i64 a0_14) := (blk_cell BK121.out 14).trans rfl; have hcz12_15 : w11.cell? ⟨gb121, 15, none⟩ = some (.int .i64 a0_15) := (blk_cell BK121.out 15).trans rfl; have hcz12_16 : w11.cell? ⟨gb121, 16, none⟩ = some (.int .i64 a0_16) := (blk_cell BK121.out 16).trans rfl; have hfz12_0 := blk_frozen BK121.out 0; have hfz12_1 := blk_frozen BK121.out 1; have hfz12_2 := blk_frozen BK121.out 2; have hfz12_3 := blk_frozen BK121.out 3; have hfz12_4 := blk_frozen BK121.out 4; have hfz12_5 := blk_frozen BK121.out 5; have hfz12_6 := blk_frozen BK121.out 6; have hfz12_7 := blk_frozen BK121.out 7; have hfz12_8 := blk_frozen BK121.out 8; have hfz12_9 := blk_frozen BK121.out 9; have hfz12_10 := blk_frozen BK121.out 10; have hfz12_11 := blk_frozen BK121.out 11; have hfz12_12 := blk_frozen BK121.out 12; have hfz12_13 := blk_frozen BK121.out 13; have hfz12_14 := blk_frozen BK121.out 14; have hfz12_15 := blk_frozen BK121.out 15; have hfz12_16 := blk_frozen BK121.out 16) | (go_at_call 46; (with_reducible refine (posix_within.calls a0_0 (-89999) 89999 t123 _ A9.out).mono ?_); rintro e w' ⟨rfl, ⟨nd, rfl⟩⟩))
        go_meet
        case rel => exact ⟨_, (!t123), (by first | rfl | (simp; done) | (simp [*]; done)), H', ⟨by first | omega | exact Nat.le_refl _⟩, ⟨by (with_reducible repeat (first | refine blk_drewN ?_ _ | refine blk_drew ?_ | refine blk_alloc ?_ _)); exact BK121.out⟩, ⟨by repeat (first | (with_reducible first | exact HB.out | apply below_alloc | apply pw_below_drewN | apply below_drew1 | refine below_set ?_ GE121.out) | exact HB.out)⟩⟩
      · replace c8 := Bool.eq_false_iff.mpr c8
        subst c8
        have H1 : (posix_Right.j0 k a1 true a0_0 false a0_2 a0_3 a0_4 a0_5 a0_6 a0_7 a0_8 a0_9 a0_10 a0_11 a0_12 a0_13 a0_14 a0_15 a0_16) = some r := by rw [if_neg (show ¬ (false = true) by decide)] at H; exact H
        clear H
        have H := H1
        clear H1
        have H' := Aside0.mk H
        clear H
        have hcz13_0 : w4.cell? ⟨gb121, 0, none⟩ = some (.int .i64 a0_0) := (blk_cell BK121.out 0).trans rfl
        have hcz13_1 : w4.cell? ⟨gb121, 1, none⟩ = some (.bool false) := (blk_cell BK121.out 1).trans rfl
        have hcz13_2 : w4.cell? ⟨gb121, 2, none⟩ = some (.string a0_2) := (blk_cell BK121.out 2).trans rfl
        have hcz13_3 : w4.cell? ⟨gb121, 3, none⟩ = some (.int .i64 a0_3) := (blk_cell BK121.out 3).trans rfl
        have hcz13_4 : w4.cell? ⟨gb121, 4, none⟩ = some (.bool a0_4) := (blk_cell BK121.out 4).trans rfl
        have hcz13_5 : w4.cell? ⟨gb121, 5, none⟩ = some (.string a0_5) := (blk_cell BK121.out 5).trans rfl
        have hcz13_6 : w4.cell? ⟨gb121, 6, none⟩ = some (.bool a0_6) := (blk_cell BK121.out 6).trans rfl
        have hcz13_7 : w4.cell? ⟨gb121, 7, none⟩ = some (.int .i64 a0_7) := (blk_cell BK121.out 7).trans rfl
        have hcz13_8 : w4.cell? ⟨gb121, 8, none⟩ = some (.int .i64 a0_8) := (blk_cell BK121.out 8).trans rfl
        have hcz13_9 : w4.cell? ⟨gb121, 9, none⟩ = some (.int .i64 a0_9) := (blk_cell BK121.out 9).trans rfl
        have hcz13_10 : w4.cell? ⟨gb121, 10, none⟩ = some (.int .i64 a0_10) := (blk_cell BK121.out 10).trans rfl
        have hcz13_11 : w4.cell? ⟨gb121, 11, none⟩ = some (.int .i64 a0_11) := (blk_cell BK121.out 11).trans rfl
        have hcz13_12 : w4.cell? ⟨gb121, 12, none⟩ = some (.int .i64 a0_12) := (blk_cell BK121.out 12).trans rfl
        have hcz13_13 : w4.cell? ⟨gb121, 13, none⟩ = some (.int .i64 a0_13) := (blk_cell BK121.out 13).trans rfl
        have hcz13_14 : w4.cell? ⟨gb121, 14, none⟩ = some (.int .i64 a0_14) := (blk_cell BK121.out 14).trans rfl
        have hcz13_15 : w4.cell? ⟨gb121, 15, none⟩ = some (.int .i64 a0_15) := (blk_cell BK121.out 15).trans rfl
        have hcz13_16 : w4.cell? ⟨gb121, 16, none⟩ = some (.int .i64 a0_16) := (blk_cell BK121.out 16).trans rfl
        have hfz13_0 := blk_frozen BK121.out 0
        have hfz13_1 := blk_frozen BK121.out 1
        have hfz13_2 := blk_frozen BK121.out 2
        have hfz13_3 := blk_frozen BK121.out 3
        have hfz13_4 := blk_frozen BK121.out 4
        have hfz13_5 := blk_frozen BK121.out 5
        have hfz13_6 := blk_frozen BK121.out 6
        have hfz13_7 := blk_frozen BK121.out 7
        have hfz13_8 := blk_frozen BK121.out 8
        have hfz13_9 := blk_frozen BK121.out 9
        have hfz13_10 := blk_frozen BK121.out 10
        have hfz13_11 := blk_frozen BK121.out 11
        have hfz13_12 := blk_frozen BK121.out 12
        have hfz13_13 := blk_frozen BK121.out 13
        have hfz13_14 := blk_frozen BK121.out 14
        have hfz13_15 := blk_frozen BK121.out 15
        have hfz13_16 := blk_frozen BK121.out 16
        go_wp2_with (first | (go_at_call 45; (with_reducible refine (posix_named.calls a0_2 false _ A7.out).mono ?_); rintro e w14 ⟨rfl, hb⟩; have n0_ := Aside0.mk (blk_below (g := gb121) (o := .cells #[.int .i64 a0_0, .bool false, .string a0_2, .int .i64 a0_3, .bool a0_4, .string a0_5, .bool a0_6, .int .i64 a0_7, .int .i64 a0_8, .int .i64 a0_9, .int .i64 a0_10, .int .i64 a0_11, .int .i64 a0_12, .int .i64 a0_13, .int .i64 a0_14, .int .i64 a0_15, .int .i64 a0_16] 27 (0, 0)) (by (with_reducible repeat (first | refine blk_drewN ?_ _ | refine blk_drew ?_ | refine blk_alloc ?_ _)); exact BK121.out) hb); have n1_ := Aside0.mk (below_step (by repeat (first | (with_reducible first | exact HB.out | apply below_alloc | apply pw_below_drewN | apply below_drew1 | refine below_set ?_ GE121.out) | exact HB.out)) hb); clear BK121; clear HB; have BK121 := n0_; have HB := n1_; clear n0_ n1_; (try clear hb); (try clear hb2); (try clear hk); (try clear hi)))
        go_meet
        case rel => exact ⟨_, (true), (by first | rfl | (simp; done) | (simp [*]; done)), H', ⟨by first | omega | exact Nat.le_refl _⟩, ⟨by (with_reducible repeat (first | refine blk_drewN ?_ _ | refine blk_drew ?_ | refine blk_alloc ?_ _)); exact BK121.out⟩, ⟨by repeat (first | (with_reducible first | exact HB.out | apply below_alloc | apply pw_below_drewN | apply below_drew1 | refine below_set ?_ GE121.out) | exact HB.out)⟩⟩
  case rest =>
    clear HC3
    try clear c2
    try clear p2
    try clear c5
    try clear c8
    try clear hcz10_0
    try clear hcz10_1
    try clear hcz10_10
    try clear hcz10_11
    try clear hcz10_12
    try clear hcz10_13
    try clear hcz10_14
    try clear hcz10_15
    try clear hcz10_16
    try clear hcz10_2
    try clear hcz10_3
    try clear hcz10_4
    try clear hcz10_5
    try clear hcz10_6
    try clear hcz10_7
    try clear hcz10_8
    try clear hcz10_9
    try clear hcz12_0
    try clear hcz12_1
    try clear hcz12_10
    try clear hcz12_11
    try clear hcz12_12
    try clear hcz12_13
    try clear hcz12_14
    try clear hcz12_15
    try clear hcz12_16
    try clear hcz12_2
    try clear hcz12_3
    try clear hcz12_4
    try clear hcz12_5
    try clear hcz12_6
    try clear hcz12_7
    try clear hcz12_8
    try clear hcz12_9
    try clear hcz13_0
    try clear hcz13_1
    try clear hcz13_10
    try clear hcz13_11
    try clear hcz13_12
    try clear hcz13_13
    try clear hcz13_14
    try clear hcz13_15
    try clear hcz13_16
    try clear hcz13_2
    try clear hcz13_3
    try clear hcz13_4
    try clear hcz13_5
    try clear hcz13_6
    try clear hcz13_7
    try clear hcz13_8
    try clear hcz13_9
    try clear hcz6_0
    try clear hcz6_1
    try clear hcz6_10
    try clear hcz6_11
    try clear hcz6_12
    try clear hcz6_13
    try clear hcz6_14
    try clear hcz6_15
    try clear hcz6_16
    try clear hcz6_2
    try clear hcz6_3
    try clear hcz6_4
    try clear hcz6_5
    try clear hcz6_6
    try clear hcz6_7
    try clear hcz6_8
    try clear hcz6_9
    try clear hfz10_0
    try clear hfz10_1
    try clear hfz10_10
    try clear hfz10_11
    try clear hfz10_12
    try clear hfz10_13
    try clear hfz10_14
    try clear hfz10_15
    try clear hfz10_16
    try clear hfz10_2
    try clear hfz10_3
    try clear hfz10_4
    try clear hfz10_5
    try clear hfz10_6
    try clear hfz10_7
    try clear hfz10_8
    try clear hfz10_9
    try clear hfz12_0
    try clear hfz12_1
    try clear hfz12_10
    try clear hfz12_11
    try clear hfz12_12
    try clear hfz12_13
    try clear hfz12_14
    try clear hfz12_15
    try clear hfz12_16
    try clear hfz12_2
    try clear hfz12_3
    try clear hfz12_4
    try clear hfz12_5
    try clear hfz12_6
    try clear hfz12_7
    try clear hfz12_8
    try clear hfz12_9
    try clear hfz13_0
    try clear hfz13_1
    try clear hfz13_10
    try clear hfz13_11
    try clear hfz13_12
    try clear hfz13_13
    try clear hfz13_14
    try clear hfz13_15
    try clear hfz13_16
    try clear hfz13_2
    try clear hfz13_3
    try clear hfz13_4
    try clear hfz13_5
    try clear hfz13_6
    try clear hfz13_7
    try clear hfz13_8
    try clear hfz13_9
    try clear hfz6_0
    try clear hfz6_1
    try clear hfz6_10
    try clear hfz6_11
    try clear hfz6_12
    try clear hfz6_13
    try clear hfz6_14
    try clear hfz6_15
    try clear hfz6_16
    try clear hfz6_2
    try clear hfz6_3
    try clear hfz6_4
    try clear hfz6_5
    try clear hfz6_6
    try clear hfz6_7
    try clear hfz6_8
    try clear hfz6_9
    obtain ⟨kq, x21_2, rfl, HA, HJ2, BK121, HB⟩ := hcut
    cases kq with
    | zero => exact absurd HA.out (by simp [posix_Right.j0])
    | succ kj2 =>
      have H := HA.out
      clear HA
      simp only [posix_Right.j0] at H
      by_cases c15 : x21_2 = true
      · subst c15
        have H1 : (some false) = some r := by rw [if_pos rfl] at H; exact H
        clear H
        have H := H1
        clear H1
        obtain rfl := Option.some.inj H
        go_wp2
        go_ret
        exact ⟨by first | rfl | (simp [errW_none, errW_some] <;> rfl) | (simp [*, errW_none, errW_some] <;> rfl), by repeat (first | (with_reducible first | exact HB.out | apply below_alloc | apply pw_below_drewN | apply below_drew1 | refine below_set ?_ GE121.out) | exact HB.out)⟩
      · replace c15 := Bool.eq_false_iff.mpr c15
        subst c15
        have H1 : (if a0_6 = true then (if a0_4 = true then ((posix_named.f a0_5).bind fun t124 => (if t124 = true then ((posix_within.f a0_3 (-89999) 89999).bind fun t125 => (if t125 = true then ((posix_changes.f kj2 a0_7 a0_8 a0_9 a0_10 a0_11 a1).bind fun t126 => (if t126 = true then ((posix_changes.f kj2 a0_12 a0_13 a0_14 a0_15 a0_16 a1).bind fun t127 => (some t127)) else (some false))) else (some false))) else (some false))) else (some false)) else (some ((a0_3 == 0 && (!a0_4 && (a0_5.toList.isEmpty))) && (!a0_6 && ((a0_7 == 0 && (a0_8 == 0 && (a0_9 == 0 && (a0_10 == 0 && (a0_11 == 0))))) && ((a0_12 == 0 && (a0_13 == 0 && (a0_14 == 0 && (a0_15 == 0 && (a0_16 == 0))))))))))) = some r := by rw [if_neg (show ¬ (false = true) by decide)] at H; exact H
        clear H
        have H := H1
        clear H1
        by_cases c16 : a0_6 = true
        · subst c16
          have H1 : (if a0_4 = true then ((posix_named.f a0_5).bind fun t124 => (if t124 = true then ((posix_within.f a0_3 (-89999) 89999).bind fun t125 => (if t125 = true then ((posix_changes.f kj2 a0_7 a0_8 a0_9 a0_10 a0_11 a1).bind fun t126 => (if t126 = true then ((posix_changes.f kj2 a0_12 a0_13 a0_14 a0_15 a0_16 a1).bind fun t127 => (some t127)) else (some false))) else (some false))) else (some false))) else (some false)) = some r := by rw [if_pos rfl] at H; exact H
          clear H
          have H := H1
          clear H1
          by_cases c17 : a0_4 = true
          · subst c17
            have H1 : ((posix_named.f a0_5).bind fun t124 => (if t124 = true then ((posix_within.f a0_3 (-89999) 89999).bind fun t125 => (if t125 = true then ((posix_changes.f kj2 a0_7 a0_8 a0_9 a0_10 a0_11 a1).bind fun t126 => (if t126 = true then ((posix_changes.f kj2 a0_12 a0_13 a0_14 a0_15 a0_16 a1).bind fun t127 => (some t127)) else (some false))) else (some false))) else (some false))) = some r := by rw [if_pos rfl] at H; exact H
            clear H
            have H := H1
            clear H1
            replace H := Option.bind_eq_some_iff.mp H
            obtain ⟨t124, A180, H⟩ := H
            replace H : (if t124 = true then ((posix_within.f a0_3 (-89999) 89999).bind fun t125 => (if t125 = true then ((posix_changes.f kj2 a0_7 a0_8 a0_9 a0_10 a0_11 a1).bind fun t126 => (if t126 = true then ((posix_changes.f kj2 a0_12 a0_13 a0_14 a0_15 a0_16 a1).bind fun t127 => (some t127)) else (some false))) else (some false))) else (some false)) = some r := H
            have A18 := Aside0.mk A180
            clear A180
            by_cases c19 : t124 = true
            · subst c19
              have H1 : ((posix_within.f a0_3 (-89999) 89999).bind fun t125 => (if t125 = true then ((posix_changes.f kj2 a0_7 a0_8 a0_9 a0_10 a0_11 a1).bind fun t126 => (if t126 = true then ((posix_changes.f kj2 a0_12 a0_13 a0_14 a0_15 a0_16 a1).bind fun t127 => (some t127)) else (some false))) else (some false))) = some r := by rw [if_pos rfl] at H; exact H
              clear H
              have H := H1
              clear H1
              replace H := Option.bind_eq_some_iff.mp H
              obtain ⟨t125, A200, H⟩ := H
              replace H : (if t125 = true then ((posix_changes.f kj2 a0_7 a0_8 a0_9 a0_10 a0_11 a1).bind fun t126 => (if t126 = true then ((posix_changes.f kj2 a0_12 a0_13 a0_14 a0_15 a0_16 a1).bind fun t127 => (some t127)) else (some false))) else (some false)) = some r := H
              have A20 := Aside0.mk A200
              clear A200
              by_cases c21 : t125 = true
              · subst c21
                have H1 : ((posix_changes.f kj2 a0_7 a0_8 a0_9 a0_10 a0_11 a1).bind fun t126 => (if t126 = true then ((posix_changes.f kj2 a0_12 a0_13 a0_14 a0_15 a0_16 a1).bind fun t127 => (some t127)) else (some false))) = some r := by rw [if_pos rfl] at H; exact H
                clear H
                have H := H1
                clear H1
                replace H := Option.bind_eq_some_iff.mp H
                obtain ⟨t126, A220, H⟩ := H
                replace H : (if t126 = true then ((posix_changes.f kj2 a0_12 a0_13 a0_14 a0_15 a0_16 a1).bind fun t127 => (some t127)) else (some false)) = some r := H
                have A22 := Aside0.mk A220
                clear A220
                by_cases c23 : t126 = true
                · subst c23
                  have H1 : ((posix_changes.f kj2 a0_12 a0_13 a0_14 a0_15 a0_16 a1).bind fun t127 => (some t127)) = some r := by rw [if_pos rfl] at H; exact H
                  clear H
                  have H := H1
                  clear H1
                  replace H := Option.bind_eq_some_iff.mp H
                  obtain ⟨t127, A240, H⟩ := H
                  replace H : (some t127) = some r := H
                  have A24 := Aside0.mk A240
                  clear A240
                  obtain rfl := Option.some.inj H
                  have hcz25_0 : wc.cell? ⟨gb121, 0, none⟩ = some (.int .i64 a0_0) := (blk_cell BK121.out 0).trans rfl
                  have hcz25_1 : wc.cell? ⟨gb121, 1, none⟩ = some (.bool a0_1) := (blk_cell BK121.out 1).trans rfl
                  have hcz25_2 : wc.cell? ⟨gb121, 2, none⟩ = some (.string a0_2) := (blk_cell BK121.out 2).trans rfl
                  have hcz25_3 : wc.cell? ⟨gb121, 3, none⟩ = some (.int .i64 a0_3) := (blk_cell BK121.out 3).trans rfl
                  have hcz25_4 : wc.cell? ⟨gb121, 4, none⟩ = some (.bool true) := (blk_cell BK121.out 4).trans rfl
                  have hcz25_5 : wc.cell? ⟨gb121, 5, none⟩ = some (.string a0_5) := (blk_cell BK121.out 5).trans rfl
                  have hcz25_6 : wc.cell? ⟨gb121, 6, none⟩ = some (.bool true) := (blk_cell BK121.out 6).trans rfl
                  have hcz25_7 : wc.cell? ⟨gb121, 7, none⟩ = some (.int .i64 a0_7) := (blk_cell BK121.out 7).trans rfl
                  have hcz25_8 : wc.cell? ⟨gb121, 8, none⟩ = some (.int .i64 a0_8) := (blk_cell BK121.out 8).trans rfl
                  have hcz25_9 : wc.cell? ⟨gb121, 9, none⟩ = some (.int .i64 a0_9) := (blk_cell BK121.out 9).trans rfl
                  have hcz25_10 : wc.cell? ⟨gb121, 10, none⟩ = some (.int .i64 a0_10) := (blk_cell BK121.out 10).trans rfl
                  have hcz25_11 : wc.cell? ⟨gb121, 11, none⟩ = some (.int .i64 a0_11) := (blk_cell BK121.out 11).trans rfl
                  have hcz25_12 : wc.cell? ⟨gb121, 12, none⟩ = some (.int .i64 a0_12) := (blk_cell BK121.out 12).trans rfl
                  have hcz25_13 : wc.cell? ⟨gb121, 13, none⟩ = some (.int .i64 a0_13) := (blk_cell BK121.out 13).trans rfl
                  have hcz25_14 : wc.cell? ⟨gb121, 14, none⟩ = some (.int .i64 a0_14) := (blk_cell BK121.out 14).trans rfl
                  have hcz25_15 : wc.cell? ⟨gb121, 15, none⟩ = some (.int .i64 a0_15) := (blk_cell BK121.out 15).trans rfl
                  have hcz25_16 : wc.cell? ⟨gb121, 16, none⟩ = some (.int .i64 a0_16) := (blk_cell BK121.out 16).trans rfl
                  have hfz25_0 := blk_frozen BK121.out 0
                  have hfz25_1 := blk_frozen BK121.out 1
                  have hfz25_2 := blk_frozen BK121.out 2
                  have hfz25_3 := blk_frozen BK121.out 3
                  have hfz25_4 := blk_frozen BK121.out 4
                  have hfz25_5 := blk_frozen BK121.out 5
                  have hfz25_6 := blk_frozen BK121.out 6
                  have hfz25_7 := blk_frozen BK121.out 7
                  have hfz25_8 := blk_frozen BK121.out 8
                  have hfz25_9 := blk_frozen BK121.out 9
                  have hfz25_10 := blk_frozen BK121.out 10
                  have hfz25_11 := blk_frozen BK121.out 11
                  have hfz25_12 := blk_frozen BK121.out 12
                  have hfz25_13 := blk_frozen BK121.out 13
                  have hfz25_14 := blk_frozen BK121.out 14
                  have hfz25_15 := blk_frozen BK121.out 15
                  have hfz25_16 := blk_frozen BK121.out 16
                  go_wp2_with (first | (go_at_call 45; (with_reducible refine (posix_named.calls a0_5 true _ A18.out).mono ?_); rintro e w26 ⟨rfl, hb⟩; have n0_ := Aside0.mk (blk_below (g := gb121) (o := .cells #[.int .i64 a0_0, .bool a0_1, .string a0_2, .int .i64 a0_3, .bool true, .string a0_5, .bool true, .int .i64 a0_7, .int .i64 a0_8, .int .i64 a0_9, .int .i64 a0_10, .int .i64 a0_11, .int .i64 a0_12, .int .i64 a0_13, .int .i64 a0_14, .int .i64 a0_15, .int .i64 a0_16] 27 (0, 0)) (by (with_reducible repeat (first | refine blk_drewN ?_ _ | refine blk_drew ?_ | refine blk_alloc ?_ _)); exact BK121.out) hb); have n1_ := Aside0.mk (below_step (by repeat (first | (with_reducible first | exact HB.out | apply below_alloc | apply pw_below_drewN | apply below_drew1 | refine below_set ?_ GE121.out) | exact HB.out)) hb); clear BK121; clear HB; have BK121 := n0_; have HB := n1_; clear n0_ n1_; (try clear hb); (try clear hb2); (try clear hk); (try clear hi); have hcz27_0 : w26.cell? ⟨gb121, 0, none⟩ = some (.int .i64 a0_0) := (blk_cell BK121.out 0).trans rfl; have hcz27_1 : w26.cell? ⟨gb121, 1, none⟩ = some (.bool a0_1) := (blk_cell BK121.out 1).trans rfl; have hcz27_2 : w26.cell? ⟨gb121, 2, none⟩ = some (.string a0_2) := (blk_cell BK121.out 2).trans rfl; have hcz27_3 : w26.cell? ⟨gb121, 3, none⟩ = some (.int .i64 a0_3) := (blk_cell BK121.out 3).trans rfl; have hcz27_4 : w26.cell? ⟨gb121, 4, none⟩ = some (.bool true) := (blk_cell BK121.out 4).trans rfl; have hcz27_5 : w26.cell? ⟨gb121, 5, none⟩ = some (.string a0_5) := (blk_cell BK121.out 5).trans rfl; have hcz27_6 : w26.cell? ⟨gb121, 6, none⟩ = some (.bool true) := (blk_cell BK121.out 6).trans rfl; have hcz27_7 : w26.cell? ⟨gb121, 7, none⟩ = some (.int .i64 a0_7) := (blk_cell BK121.out 7).trans rfl; have hcz27_8 : w26.cell? ⟨gb121, 8, none⟩ = some (.int .i64 a0_8) := (blk_cell BK121.out 8).trans rfl; have hcz27_9 : w26.cell? ⟨gb121, 9, none⟩ = some (.int .i64 a0_9) := (blk_cell BK121.out 9).trans rfl; have hcz27_10 : w26.cell? ⟨gb121, 10, none⟩ = some (.int .i64 a0_10) := (blk_cell BK121.out 10).trans rfl; have hcz27_11 : w26.cell? ⟨gb121, 11, none⟩ = some (.int .i64 a0_11) := (blk_cell BK121.out 11).trans rfl; have hcz27_12 : w26.cell? ⟨gb121, 12, none⟩ = some (.int .i64 a0_12) := (blk_cell BK121.out 12).trans rfl; have hcz27_13 : w26.cell? ⟨gb121, 13, none⟩ = some (.int .i64 a0_13) := (blk_cell BK121.out 13).trans rfl; have hcz27_14 : w26.cell? ⟨gb121, 14, none⟩ = some (.int .i64 a0_14) := (blk_cell BK121.out 14).trans rfl; have hcz27_15 : w26.cell? ⟨gb121, 15, none⟩ = some (.int .i64 a0_15) := (blk_cell BK121.out 15).trans rfl; have hcz27_16 : w26.cell? ⟨gb121, 16, none⟩ = some (.int .i64 a0_16) := (blk_cell BK121.out 16).trans rfl; have hfz27_0 := blk_frozen BK121.out 0; have hfz27_1 := blk_frozen BK121.out 1; have hfz27_2 := blk_frozen BK121.out 2; have hfz27_3 := blk_frozen BK121.out 3; have hfz27_4 := blk_frozen BK121.out 4; have hfz27_5 := blk_frozen BK121.out 5; have hfz27_6 := blk_frozen BK121.out 6; have hfz27_7 := blk_frozen BK121.out 7; have hfz27_8 := blk_frozen BK121.out 8; have hfz27_9 := blk_frozen BK121.out 9; have hfz27_10 := blk_frozen BK121.out 10; have hfz27_11 := blk_frozen BK121.out 11; have hfz27_12 := blk_frozen BK121.out 12; have hfz27_13 := blk_frozen BK121.out 13; have hfz27_14 := blk_frozen BK121.out 14; have hfz27_15 := blk_frozen BK121.out 15; have hfz27_16 := blk_frozen BK121.out 16) | (go_at_call 46; (with_reducible refine (posix_within.calls a0_3 (-89999) 89999 true _ A20.out).mono ?_); rintro e w' ⟨rfl, ⟨nd, rfl⟩⟩) | (go_at_call 47; (with_reducible refine (posix_changes.calls kj2 a0_7 a0_8 a0_9 a0_10 a0_11 a1 true _ A22.out).mono ?_); rintro e w28 ⟨rfl, hb⟩; have n0_ := Aside0.mk (blk_below (g := gb121) (o := .cells #[.int .i64 a0_0, .bool a0_1, .string a0_2, .int .i64 a0_3, .bool true, .string a0_5, .bool true, .int .i64 a0_7, .int .i64 a0_8, .int .i64 a0_9, .int .i64 a0_10, .int .i64 a0_11, .int .i64 a0_12, .int .i64 a0_13, .int .i64 a0_14, .int .i64 a0_15, .int .i64 a0_16] 27 (0, 0)) (by (with_reducible repeat (first | refine blk_drewN ?_ _ | refine blk_drew ?_ | refine blk_alloc ?_ _)); exact BK121.out) hb); have n1_ := Aside0.mk (below_step (by repeat (first | (with_reducible first | exact HB.out | apply below_alloc | apply pw_below_drewN | apply below_drew1 | refine below_set ?_ GE121.out) | exact HB.out)) hb); clear BK121; clear HB; have BK121 := n0_; have HB := n1_; clear n0_ n1_; (try clear hb); (try clear hb2); (try clear hk); (try clear hi); have hcz29_0 : w28.cell? ⟨gb121, 0, none⟩ = some (.int .i64 a0_0) := (blk_cell BK121.out 0).trans rfl; have hcz29_1 : w28.cell? ⟨gb121, 1, none⟩ = some (.bool a0_1) := (blk_cell BK121.out 1).trans rfl; have hcz29_2 : w28.cell? ⟨gb121, 2, none⟩ = some (.string a0_2) := (blk_cell BK121.out 2).trans rfl; have hcz29_3 : w28.cell? ⟨gb121, 3, none⟩ = some (.int .i64 a0_3) := (blk_cell BK121.out 3).trans rfl; have hcz29_4 : w28.cell? ⟨gb121, 4, none⟩ = some (.bool true) := (blk_cell BK121.out 4).trans rfl; have hcz29_5 : w28.cell? ⟨gb121, 5, none⟩ = some (.string a0_5) := (blk_cell BK121.out 5).trans rfl; have hcz29_6 : w28.cell? ⟨gb121, 6, none⟩ = some (.bool true) := (blk_cell BK121.out 6).trans rfl; have hcz29_7 : w28.cell? ⟨gb121, 7, none⟩ = some (.int .i64 a0_7) := (blk_cell BK121.out 7).trans rfl; have hcz29_8 : w28.cell? ⟨gb121, 8, none⟩ = some (.int .i64 a0_8) := (blk_cell BK121.out 8).trans rfl; have hcz29_9 : w28.cell? ⟨gb121, 9, none⟩ = some (.int .i64 a0_9) := (blk_cell BK121.out 9).trans rfl; have hcz29_10 : w28.cell? ⟨gb121, 10, none⟩ = some (.int .i64 a0_10) := (blk_cell BK121.out 10).trans rfl; have hcz29_11 : w28.cell? ⟨gb121, 11, none⟩ = some (.int .i64 a0_11) := (blk_cell BK121.out 11).trans rfl; have hcz29_12 : w28.cell? ⟨gb121, 12, none⟩ = some (.int .i64 a0_12) := (blk_cell BK121.out 12).trans rfl; have hcz29_13 : w28.cell? ⟨gb121, 13, none⟩ = some (.int .i64 a0_13) := (blk_cell BK121.out 13).trans rfl; have hcz29_14 : w28.cell? ⟨gb121, 14, none⟩ = some (.int .i64 a0_14) := (blk_cell BK121.out 14).trans rfl; have hcz29_15 : w28.cell? ⟨gb121, 15, none⟩ = some (.int .i64 a0_15) := (blk_cell BK121.out 15).trans rfl; have hcz29_16 : w28.cell? ⟨gb121, 16, none⟩ = some (.int .i64 a0_16) := (blk_cell BK121.out 16).trans rfl; have hfz29_0 := blk_frozen BK121.out 0; have hfz29_1 := blk_frozen BK121.out 1; have hfz29_2 := blk_frozen BK121.out 2; have hfz29_3 := blk_frozen BK121.out 3; have hfz29_4 := blk_frozen BK121.out 4; have hfz29_5 := blk_frozen BK121.out 5; have hfz29_6 := blk_frozen BK121.out 6; have hfz29_7 := blk_frozen BK121.out 7; have hfz29_8 := blk_frozen BK121.out 8; have hfz29_9 := blk_frozen BK121.out 9; have hfz29_10 := blk_frozen BK121.out 10; have hfz29_11 := blk_frozen BK121.out 11; have hfz29_12 := blk_frozen BK121.out 12; have hfz29_13 := blk_frozen BK121.out 13; have hfz29_14 := blk_frozen BK121.out 14; have hfz29_15 := blk_frozen BK121.out 15; have hfz29_16 := blk_frozen BK121.out 16) | (go_at_call 47; (with_reducible refine (posix_changes.calls kj2 a0_12 a0_13 a0_14 a0_15 a0_16 a1 t127 _ A24.out).mono ?_); rintro e w30 ⟨rfl, hb⟩; have n0_ := Aside0.mk (blk_below (g := gb121) (o := .cells #[.int .i64 a0_0, .bool a0_1, .string a0_2, .int .i64 a0_3, .bool true, .string a0_5, .bool true, .int .i64 a0_7, .int .i64 a0_8, .int .i64 a0_9, .int .i64 a0_10, .int .i64 a0_11, .int .i64 a0_12, .int .i64 a0_13, .int .i64 a0_14, .int .i64 a0_15, .int .i64 a0_16] 27 (0, 0)) (by (with_reducible repeat (first | refine blk_drewN ?_ _ | refine blk_drew ?_ | refine blk_alloc ?_ _)); exact BK121.out) hb); have n1_ := Aside0.mk (below_step (by repeat (first | (with_reducible first | exact HB.out | apply below_alloc | apply pw_below_drewN | apply below_drew1 | refine below_set ?_ GE121.out) | exact HB.out)) hb); clear BK121; clear HB; have BK121 := n0_; have HB := n1_; clear n0_ n1_; (try clear hb); (try clear hb2); (try clear hk); (try clear hi)))
                  go_ret
                  exact ⟨by first | rfl | (simp [errW_none, errW_some] <;> rfl) | (simp [*, errW_none, errW_some] <;> rfl), by repeat (first | (with_reducible first | exact HB.out | apply below_alloc | apply pw_below_drewN | apply below_drew1 | refine below_set ?_ GE121.out) | exact HB.out)⟩
                · replace c23 := Bool.eq_false_iff.mpr c23
                  subst c23
                  have H1 : (some false) = some r := by rw [if_neg (show ¬ (false = true) by decide)] at H; exact H
                  clear H
                  have H := H1
                  clear H1
                  obtain rfl := Option.some.inj H
                  have hcz31_0 : wc.cell? ⟨gb121, 0, none⟩ = some (.int .i64 a0_0) := (blk_cell BK121.out 0).trans rfl
                  have hcz31_1 : wc.cell? ⟨gb121, 1, none⟩ = some (.bool a0_1) := (blk_cell BK121.out 1).trans rfl
                  have hcz31_2 : wc.cell? ⟨gb121, 2, none⟩ = some (.string a0_2) := (blk_cell BK121.out 2).trans rfl
                  have hcz31_3 : wc.cell? ⟨gb121, 3, none⟩ = some (.int .i64 a0_3) := (blk_cell BK121.out 3).trans rfl
                  have hcz31_4 : wc.cell? ⟨gb121, 4, none⟩ = some (.bool true) := (blk_cell BK121.out 4).trans rfl
                  have hcz31_5 : wc.cell? ⟨gb121, 5, none⟩ = some (.string a0_5) := (blk_cell BK121.out 5).trans rfl
                  have hcz31_6 : wc.cell? ⟨gb121, 6, none⟩ = some (.bool true) := (blk_cell BK121.out 6).trans rfl
                  have hcz31_7 : wc.cell? ⟨gb121, 7, none⟩ = some (.int .i64 a0_7) := (blk_cell BK121.out 7).trans rfl
                  have hcz31_8 : wc.cell? ⟨gb121, 8, none⟩ = some (.int .i64 a0_8) := (blk_cell BK121.out 8).trans rfl
                  have hcz31_9 : wc.cell? ⟨gb121, 9, none⟩ = some (.int .i64 a0_9) := (blk_cell BK121.out 9).trans rfl
                  have hcz31_10 : wc.cell? ⟨gb121, 10, none⟩ = some (.int .i64 a0_10) := (blk_cell BK121.out 10).trans rfl
                  have hcz31_11 : wc.cell? ⟨gb121, 11, none⟩ = some (.int .i64 a0_11) := (blk_cell BK121.out 11).trans rfl
                  have hcz31_12 : wc.cell? ⟨gb121, 12, none⟩ = some (.int .i64 a0_12) := (blk_cell BK121.out 12).trans rfl
                  have hcz31_13 : wc.cell? ⟨gb121, 13, none⟩ = some (.int .i64 a0_13) := (blk_cell BK121.out 13).trans rfl
                  have hcz31_14 : wc.cell? ⟨gb121, 14, none⟩ = some (.int .i64 a0_14) := (blk_cell BK121.out 14).trans rfl
                  have hcz31_15 : wc.cell? ⟨gb121, 15, none⟩ = some (.int .i64 a0_15) := (blk_cell BK121.out 15).trans rfl
                  have hcz31_16 : wc.cell? ⟨gb121, 16, none⟩ = some (.int .i64 a0_16) := (blk_cell BK121.out 16).trans rfl
                  have hfz31_0 := blk_frozen BK121.out 0
                  have hfz31_1 := blk_frozen BK121.out 1
                  have hfz31_2 := blk_frozen BK121.out 2
                  have hfz31_3 := blk_frozen BK121.out 3
                  have hfz31_4 := blk_frozen BK121.out 4
                  have hfz31_5 := blk_frozen BK121.out 5
                  have hfz31_6 := blk_frozen BK121.out 6
                  have hfz31_7 := blk_frozen BK121.out 7
                  have hfz31_8 := blk_frozen BK121.out 8
                  have hfz31_9 := blk_frozen BK121.out 9
                  have hfz31_10 := blk_frozen BK121.out 10
                  have hfz31_11 := blk_frozen BK121.out 11
                  have hfz31_12 := blk_frozen BK121.out 12
                  have hfz31_13 := blk_frozen BK121.out 13
                  have hfz31_14 := blk_frozen BK121.out 14
                  have hfz31_15 := blk_frozen BK121.out 15
                  have hfz31_16 := blk_frozen BK121.out 16
                  go_wp2_with (first | (go_at_call 45; (with_reducible refine (posix_named.calls a0_5 true _ A18.out).mono ?_); rintro e w32 ⟨rfl, hb⟩; have n0_ := Aside0.mk (blk_below (g := gb121) (o := .cells #[.int .i64 a0_0, .bool a0_1, .string a0_2, .int .i64 a0_3, .bool true, .string a0_5, .bool true, .int .i64 a0_7, .int .i64 a0_8, .int .i64 a0_9, .int .i64 a0_10, .int .i64 a0_11, .int .i64 a0_12, .int .i64 a0_13, .int .i64 a0_14, .int .i64 a0_15, .int .i64 a0_16] 27 (0, 0)) (by (with_reducible repeat (first | refine blk_drewN ?_ _ | refine blk_drew ?_ | refine blk_alloc ?_ _)); exact BK121.out) hb); have n1_ := Aside0.mk (below_step (by repeat (first | (with_reducible first | exact HB.out | apply below_alloc | apply pw_below_drewN | apply below_drew1 | refine below_set ?_ GE121.out) | exact HB.out)) hb); clear BK121; clear HB; have BK121 := n0_; have HB := n1_; clear n0_ n1_; (try clear hb); (try clear hb2); (try clear hk); (try clear hi); have hcz33_0 : w32.cell? ⟨gb121, 0, none⟩ = some (.int .i64 a0_0) := (blk_cell BK121.out 0).trans rfl; have hcz33_1 : w32.cell? ⟨gb121, 1, none⟩ = some (.bool a0_1) := (blk_cell BK121.out 1).trans rfl; have hcz33_2 : w32.cell? ⟨gb121, 2, none⟩ = some (.string a0_2) := (blk_cell BK121.out 2).trans rfl; have hcz33_3 : w32.cell? ⟨gb121, 3, none⟩ = some (.int .i64 a0_3) := (blk_cell BK121.out 3).trans rfl; have hcz33_4 : w32.cell? ⟨gb121, 4, none⟩ = some (.bool true) := (blk_cell BK121.out 4).trans rfl; have hcz33_5 : w32.cell? ⟨gb121, 5, none⟩ = some (.string a0_5) := (blk_cell BK121.out 5).trans rfl; have hcz33_6 : w32.cell? ⟨gb121, 6, none⟩ = some (.bool true) := (blk_cell BK121.out 6).trans rfl; have hcz33_7 : w32.cell? ⟨gb121, 7, none⟩ = some (.int .i64 a0_7) := (blk_cell BK121.out 7).trans rfl; have hcz33_8 : w32.cell? ⟨gb121, 8, none⟩ = some (.int .i64 a0_8) := (blk_cell BK121.out 8).trans rfl; have hcz33_9 : w32.cell? ⟨gb121, 9, none⟩ = some (.int .i64 a0_9) := (blk_cell BK121.out 9).trans rfl; have hcz33_10 : w32.cell? ⟨gb121, 10, none⟩ = some (.int .i64 a0_10) := (blk_cell BK121.out 10).trans rfl; have hcz33_11 : w32.cell? ⟨gb121, 11, none⟩ = some (.int .i64 a0_11) := (blk_cell BK121.out 11).trans rfl; have hcz33_12 : w32.cell? ⟨gb121, 12, none⟩ = some (.int .i64 a0_12) := (blk_cell BK121.out 12).trans rfl; have hcz33_13 : w32.cell? ⟨gb121, 13, none⟩ = some (.int .i64 a0_13) := (blk_cell BK121.out 13).trans rfl; have hcz33_14 : w32.cell? ⟨gb121, 14, none⟩ = some (.int .i64 a0_14) := (blk_cell BK121.out 14).trans rfl; have hcz33_15 : w32.cell? ⟨gb121, 15, none⟩ = some (.int .i64 a0_15) := (blk_cell BK121.out 15).trans rfl; have hcz33_16 : w32.cell? ⟨gb121, 16, none⟩ = some (.int .i64 a0_16) := (blk_cell BK121.out 16).trans rfl; have hfz33_0 := blk_frozen BK121.out 0; have hfz33_1 := blk_frozen BK121.out 1; have hfz33_2 := blk_frozen BK121.out 2; have hfz33_3 := blk_frozen BK121.out 3; have hfz33_4 := blk_frozen BK121.out 4; have hfz33_5 := blk_frozen BK121.out 5; have hfz33_6 := blk_frozen BK121.out 6; have hfz33_7 := blk_frozen BK121.out 7; have hfz33_8 := blk_frozen BK121.out 8; have hfz33_9 := blk_frozen BK121.out 9; have hfz33_10 := blk_frozen BK121.out 10; have hfz33_11 := blk_frozen BK121.out 11; have hfz33_12 := blk_frozen BK121.out 12; have hfz33_13 := blk_frozen BK121.out 13; have hfz33_14 := blk_frozen BK121.out 14; have hfz33_15 := blk_frozen BK121.out 15; have hfz33_16 := blk_frozen BK121.out 16) | (go_at_call 46; (with_reducible refine (posix_within.calls a0_3 (-89999) 89999 true _ A20.out).mono ?_); rintro e w' ⟨rfl, ⟨nd, rfl⟩⟩) | (go_at_call 47; (with_reducible refine (posix_changes.calls kj2 a0_7 a0_8 a0_9 a0_10 a0_11 a1 false _ A22.out).mono ?_); rintro e w34 ⟨rfl, hb⟩; have n0_ := Aside0.mk (blk_below (g := gb121) (o := .cells #[.int .i64 a0_0, .bool a0_1, .string a0_2, .int .i64 a0_3, .bool true, .string a0_5, .bool true, .int .i64 a0_7, .int .i64 a0_8, .int .i64 a0_9, .int .i64 a0_10, .int .i64 a0_11, .int .i64 a0_12, .int .i64 a0_13, .int .i64 a0_14, .int .i64 a0_15, .int .i64 a0_16] 27 (0, 0)) (by (with_reducible repeat (first | refine blk_drewN ?_ _ | refine blk_drew ?_ | refine blk_alloc ?_ _)); exact BK121.out) hb); have n1_ := Aside0.mk (below_step (by repeat (first | (with_reducible first | exact HB.out | apply below_alloc | apply pw_below_drewN | apply below_drew1 | refine below_set ?_ GE121.out) | exact HB.out)) hb); clear BK121; clear HB; have BK121 := n0_; have HB := n1_; clear n0_ n1_; (try clear hb); (try clear hb2); (try clear hk); (try clear hi)))
                  go_ret
                  exact ⟨by first | rfl | (simp [errW_none, errW_some] <;> rfl) | (simp [*, errW_none, errW_some] <;> rfl), by repeat (first | (with_reducible first | exact HB.out | apply below_alloc | apply pw_below_drewN | apply below_drew1 | refine below_set ?_ GE121.out) | exact HB.out)⟩
              · replace c21 := Bool.eq_false_iff.mpr c21
                subst c21
                have H1 : (some false) = some r := by rw [if_neg (show ¬ (false = true) by decide)] at H; exact H
                clear H
                have H := H1
                clear H1
                obtain rfl := Option.some.inj H
                have hcz35_0 : wc.cell? ⟨gb121, 0, none⟩ = some (.int .i64 a0_0) := (blk_cell BK121.out 0).trans rfl
                have hcz35_1 : wc.cell? ⟨gb121, 1, none⟩ = some (.bool a0_1) := (blk_cell BK121.out 1).trans rfl
                have hcz35_2 : wc.cell? ⟨gb121, 2, none⟩ = some (.string a0_2) := (blk_cell BK121.out 2).trans rfl
                have hcz35_3 : wc.cell? ⟨gb121, 3, none⟩ = some (.int .i64 a0_3) := (blk_cell BK121.out 3).trans rfl
                have hcz35_4 : wc.cell? ⟨gb121, 4, none⟩ = some (.bool true) := (blk_cell BK121.out 4).trans rfl
                have hcz35_5 : wc.cell? ⟨gb121, 5, none⟩ = some (.string a0_5) := (blk_cell BK121.out 5).trans rfl
                have hcz35_6 : wc.cell? ⟨gb121, 6, none⟩ = some (.bool true) := (blk_cell BK121.out 6).trans rfl
                have hcz35_7 : wc.cell? ⟨gb121, 7, none⟩ = some (.int .i64 a0_7) := (blk_cell BK121.out 7).trans rfl
                have hcz35_8 : wc.cell? ⟨gb121, 8, none⟩ = some (.int .i64 a0_8) := (blk_cell BK121.out 8).trans rfl
                have hcz35_9 : wc.cell? ⟨gb121, 9, none⟩ = some (.int .i64 a0_9) := (blk_cell BK121.out 9).trans rfl
                have hcz35_10 : wc.cell? ⟨gb121, 10, none⟩ = some (.int .i64 a0_10) := (blk_cell BK121.out 10).trans rfl
                have hcz35_11 : wc.cell? ⟨gb121, 11, none⟩ = some (.int .i64 a0_11) := (blk_cell BK121.out 11).trans rfl
                have hcz35_12 : wc.cell? ⟨gb121, 12, none⟩ = some (.int .i64 a0_12) := (blk_cell BK121.out 12).trans rfl
                have hcz35_13 : wc.cell? ⟨gb121, 13, none⟩ = some (.int .i64 a0_13) := (blk_cell BK121.out 13).trans rfl
                have hcz35_14 : wc.cell? ⟨gb121, 14, none⟩ = some (.int .i64 a0_14) := (blk_cell BK121.out 14).trans rfl
                have hcz35_15 : wc.cell? ⟨gb121, 15, none⟩ = some (.int .i64 a0_15) := (blk_cell BK121.out 15).trans rfl
                have hcz35_16 : wc.cell? ⟨gb121, 16, none⟩ = some (.int .i64 a0_16) := (blk_cell BK121.out 16).trans rfl
                have hfz35_0 := blk_frozen BK121.out 0
                have hfz35_1 := blk_frozen BK121.out 1
                have hfz35_2 := blk_frozen BK121.out 2
                have hfz35_3 := blk_frozen BK121.out 3
                have hfz35_4 := blk_frozen BK121.out 4
                have hfz35_5 := blk_frozen BK121.out 5
                have hfz35_6 := blk_frozen BK121.out 6
                have hfz35_7 := blk_frozen BK121.out 7
                have hfz35_8 := blk_frozen BK121.out 8
                have hfz35_9 := blk_frozen BK121.out 9
                have hfz35_10 := blk_frozen BK121.out 10
                have hfz35_11 := blk_frozen BK121.out 11
                have hfz35_12 := blk_frozen BK121.out 12
                have hfz35_13 := blk_frozen BK121.out 13
                have hfz35_14 := blk_frozen BK121.out 14
                have hfz35_15 := blk_frozen BK121.out 15
                have hfz35_16 := blk_frozen BK121.out 16
                go_wp2_with (first | (go_at_call 45; (with_reducible refine (posix_named.calls a0_5 true _ A18.out).mono ?_); rintro e w36 ⟨rfl, hb⟩; have n0_ := Aside0.mk (blk_below (g := gb121) (o := .cells #[.int .i64 a0_0, .bool a0_1, .string a0_2, .int .i64 a0_3, .bool true, .string a0_5, .bool true, .int .i64 a0_7, .int .i64 a0_8, .int .i64 a0_9, .int .i64 a0_10, .int .i64 a0_11, .int .i64 a0_12, .int .i64 a0_13, .int .i64 a0_14, .int .i64 a0_15, .int .i64 a0_16] 27 (0, 0)) (by (with_reducible repeat (first | refine blk_drewN ?_ _ | refine blk_drew ?_ | refine blk_alloc ?_ _)); exact BK121.out) hb); have n1_ := Aside0.mk (below_step (by repeat (first | (with_reducible first | exact HB.out | apply below_alloc | apply pw_below_drewN | apply below_drew1 | refine below_set ?_ GE121.out) | exact HB.out)) hb); clear BK121; clear HB; have BK121 := n0_; have HB := n1_; clear n0_ n1_; (try clear hb); (try clear hb2); (try clear hk); (try clear hi); have hcz37_0 : w36.cell? ⟨gb121, 0, none⟩ = some (.int .i64 a0_0) := (blk_cell BK121.out 0).trans rfl; have hcz37_1 : w36.cell? ⟨gb121, 1, none⟩ = some (.bool a0_1) := (blk_cell BK121.out 1).trans rfl; have hcz37_2 : w36.cell? ⟨gb121, 2, none⟩ = some (.string a0_2) := (blk_cell BK121.out 2).trans rfl; have hcz37_3 : w36.cell? ⟨gb121, 3, none⟩ = some (.int .i64 a0_3) := (blk_cell BK121.out 3).trans rfl; have hcz37_4 : w36.cell? ⟨gb121, 4, none⟩ = some (.bool true) := (blk_cell BK121.out 4).trans rfl; have hcz37_5 : w36.cell? ⟨gb121, 5, none⟩ = some (.string a0_5) := (blk_cell BK121.out 5).trans rfl; have hcz37_6 : w36.cell? ⟨gb121, 6, none⟩ = some (.bool true) := (blk_cell BK121.out 6).trans rfl; have hcz37_7 : w36.cell? ⟨gb121, 7, none⟩ = some (.int .i64 a0_7) := (blk_cell BK121.out 7).trans rfl; have hcz37_8 : w36.cell? ⟨gb121, 8, none⟩ = some (.int .i64 a0_8) := (blk_cell BK121.out 8).trans rfl; have hcz37_9 : w36.cell? ⟨gb121, 9, none⟩ = some (.int .i64 a0_9) := (blk_cell BK121.out 9).trans rfl; have hcz37_10 : w36.cell? ⟨gb121, 10, none⟩ = some (.int .i64 a0_10) := (blk_cell BK121.out 10).trans rfl; have hcz37_11 : w36.cell? ⟨gb121, 11, none⟩ = some (.int .i64 a0_11) := (blk_cell BK121.out 11).trans rfl; have hcz37_12 : w36.cell? ⟨gb121, 12, none⟩ = some (.int .i64 a0_12) := (blk_cell BK121.out 12).trans rfl; have hcz37_13 : w36.cell? ⟨gb121, 13, none⟩ = some (.int .i64 a0_13) := (blk_cell BK121.out 13).trans rfl; have hcz37_14 : w36.cell? ⟨gb121, 14, none⟩ = some (.int .i64 a0_14) := (blk_cell BK121.out 14).trans rfl; have hcz37_15 : w36.cell? ⟨gb121, 15, none⟩ = some (.int .i64 a0_15) := (blk_cell BK121.out 15).trans rfl; have hcz37_16 : w36.cell? ⟨gb121, 16, none⟩ = some (.int .i64 a0_16) := (blk_cell BK121.out 16).trans rfl; have hfz37_0 := blk_frozen BK121.out 0; have hfz37_1 := blk_frozen BK121.out 1; have hfz37_2 := blk_frozen BK121.out 2; have hfz37_3 := blk_frozen BK121.out 3; have hfz37_4 := blk_frozen BK121.out 4; have hfz37_5 := blk_frozen BK121.out 5; have hfz37_6 := blk_frozen BK121.out 6; have hfz37_7 := blk_frozen BK121.out 7; have hfz37_8 := blk_frozen BK121.out 8; have hfz37_9 := blk_frozen BK121.out 9; have hfz37_10 := blk_frozen BK121.out 10; have hfz37_11 := blk_frozen BK121.out 11; have hfz37_12 := blk_frozen BK121.out 12; have hfz37_13 := blk_frozen BK121.out 13; have hfz37_14 := blk_frozen BK121.out 14; have hfz37_15 := blk_frozen BK121.out 15; have hfz37_16 := blk_frozen BK121.out 16) | (go_at_call 46; (with_reducible refine (posix_within.calls a0_3 (-89999) 89999 false _ A20.out).mono ?_); rintro e w' ⟨rfl, ⟨nd, rfl⟩⟩))
                go_ret
                exact ⟨by first | rfl | (simp [errW_none, errW_some] <;> rfl) | (simp [*, errW_none, errW_some] <;> rfl), by repeat (first | (with_reducible first | exact HB.out | apply below_alloc | apply pw_below_drewN | apply below_drew1 | refine below_set ?_ GE121.out) | exact HB.out)⟩
            · replace c19 := Bool.eq_false_iff.mpr c19
              subst c19
              have H1 : (some false) = some r := by rw [if_neg (show ¬ (false = true) by decide)] at H; exact H
              clear H
              have H := H1
              clear H1
              obtain rfl := Option.some.inj H
              have hcz38_0 : wc.cell? ⟨gb121, 0, none⟩ = some (.int .i64 a0_0) := (blk_cell BK121.out 0).trans rfl
              have hcz38_1 : wc.cell? ⟨gb121, 1, none⟩ = some (.bool a0_1) := (blk_cell BK121.out 1).trans rfl
              have hcz38_2 : wc.cell? ⟨gb121, 2, none⟩ = some (.string a0_2) := (blk_cell BK121.out 2).trans rfl
              have hcz38_3 : wc.cell? ⟨gb121, 3, none⟩ = some (.int .i64 a0_3) := (blk_cell BK121.out 3).trans rfl
              have hcz38_4 : wc.cell? ⟨gb121, 4, none⟩ = some (.bool true) := (blk_cell BK121.out 4).trans rfl
              have hcz38_5 : wc.cell? ⟨gb121, 5, none⟩ = some (.string a0_5) := (blk_cell BK121.out 5).trans rfl
              have hcz38_6 : wc.cell? ⟨gb121, 6, none⟩ = some (.bool true) := (blk_cell BK121.out 6).trans rfl
              have hcz38_7 : wc.cell? ⟨gb121, 7, none⟩ = some (.int .i64 a0_7) := (blk_cell BK121.out 7).trans rfl
              have hcz38_8 : wc.cell? ⟨gb121, 8, none⟩ = some (.int .i64 a0_8) := (blk_cell BK121.out 8).trans rfl
              have hcz38_9 : wc.cell? ⟨gb121, 9, none⟩ = some (.int .i64 a0_9) := (blk_cell BK121.out 9).trans rfl
              have hcz38_10 : wc.cell? ⟨gb121, 10, none⟩ = some (.int .i64 a0_10) := (blk_cell BK121.out 10).trans rfl
              have hcz38_11 : wc.cell? ⟨gb121, 11, none⟩ = some (.int .i64 a0_11) := (blk_cell BK121.out 11).trans rfl
              have hcz38_12 : wc.cell? ⟨gb121, 12, none⟩ = some (.int .i64 a0_12) := (blk_cell BK121.out 12).trans rfl
              have hcz38_13 : wc.cell? ⟨gb121, 13, none⟩ = some (.int .i64 a0_13) := (blk_cell BK121.out 13).trans rfl
              have hcz38_14 : wc.cell? ⟨gb121, 14, none⟩ = some (.int .i64 a0_14) := (blk_cell BK121.out 14).trans rfl
              have hcz38_15 : wc.cell? ⟨gb121, 15, none⟩ = some (.int .i64 a0_15) := (blk_cell BK121.out 15).trans rfl
              have hcz38_16 : wc.cell? ⟨gb121, 16, none⟩ = some (.int .i64 a0_16) := (blk_cell BK121.out 16).trans rfl
              have hfz38_0 := blk_frozen BK121.out 0
              have hfz38_1 := blk_frozen BK121.out 1
              have hfz38_2 := blk_frozen BK121.out 2
              have hfz38_3 := blk_frozen BK121.out 3
              have hfz38_4 := blk_frozen BK121.out 4
              have hfz38_5 := blk_frozen BK121.out 5
              have hfz38_6 := blk_frozen BK121.out 6
              have hfz38_7 := blk_frozen BK121.out 7
              have hfz38_8 := blk_frozen BK121.out 8
              have hfz38_9 := blk_frozen BK121.out 9
              have hfz38_10 := blk_frozen BK121.out 10
              have hfz38_11 := blk_frozen BK121.out 11
              have hfz38_12 := blk_frozen BK121.out 12
              have hfz38_13 := blk_frozen BK121.out 13
              have hfz38_14 := blk_frozen BK121.out 14
              have hfz38_15 := blk_frozen BK121.out 15
              have hfz38_16 := blk_frozen BK121.out 16
              go_wp2_with (first | (go_at_call 45; (with_reducible refine (posix_named.calls a0_5 false _ A18.out).mono ?_); rintro e w39 ⟨rfl, hb⟩; have n0_ := Aside0.mk (blk_below (g := gb121) (o := .cells #[.int .i64 a0_0, .bool a0_1, .string a0_2, .int .i64 a0_3, .bool true, .string a0_5, .bool true, .int .i64 a0_7, .int .i64 a0_8, .int .i64 a0_9, .int .i64 a0_10, .int .i64 a0_11, .int .i64 a0_12, .int .i64 a0_13, .int .i64 a0_14, .int .i64 a0_15, .int .i64 a0_16] 27 (0, 0)) (by (with_reducible repeat (first | refine blk_drewN ?_ _ | refine blk_drew ?_ | refine blk_alloc ?_ _)); exact BK121.out) hb); have n1_ := Aside0.mk (below_step (by repeat (first | (with_reducible first | exact HB.out | apply below_alloc | apply pw_below_drewN | apply below_drew1 | refine below_set ?_ GE121.out) | exact HB.out)) hb); clear BK121; clear HB; have BK121 := n0_; have HB := n1_; clear n0_ n1_; (try clear hb); (try clear hb2); (try clear hk); (try clear hi)))
              go_ret
              exact ⟨by first | rfl | (simp [errW_none, errW_some] <;> rfl) | (simp [*, errW_none, errW_some] <;> rfl), by repeat (first | (with_reducible first | exact HB.out | apply below_alloc | apply pw_below_drewN | apply below_drew1 | refine below_set ?_ GE121.out) | exact HB.out)⟩
          · replace c17 := Bool.eq_false_iff.mpr c17
            subst c17
            have H1 : (some false) = some r := by rw [if_neg (show ¬ (false = true) by decide)] at H; exact H
            clear H
            have H := H1
            clear H1
            obtain rfl := Option.some.inj H
            have hcz40_0 : wc.cell? ⟨gb121, 0, none⟩ = some (.int .i64 a0_0) := (blk_cell BK121.out 0).trans rfl
            have hcz40_1 : wc.cell? ⟨gb121, 1, none⟩ = some (.bool a0_1) := (blk_cell BK121.out 1).trans rfl
            have hcz40_2 : wc.cell? ⟨gb121, 2, none⟩ = some (.string a0_2) := (blk_cell BK121.out 2).trans rfl
            have hcz40_3 : wc.cell? ⟨gb121, 3, none⟩ = some (.int .i64 a0_3) := (blk_cell BK121.out 3).trans rfl
            have hcz40_4 : wc.cell? ⟨gb121, 4, none⟩ = some (.bool false) := (blk_cell BK121.out 4).trans rfl
            have hcz40_5 : wc.cell? ⟨gb121, 5, none⟩ = some (.string a0_5) := (blk_cell BK121.out 5).trans rfl
            have hcz40_6 : wc.cell? ⟨gb121, 6, none⟩ = some (.bool true) := (blk_cell BK121.out 6).trans rfl
            have hcz40_7 : wc.cell? ⟨gb121, 7, none⟩ = some (.int .i64 a0_7) := (blk_cell BK121.out 7).trans rfl
            have hcz40_8 : wc.cell? ⟨gb121, 8, none⟩ = some (.int .i64 a0_8) := (blk_cell BK121.out 8).trans rfl
            have hcz40_9 : wc.cell? ⟨gb121, 9, none⟩ = some (.int .i64 a0_9) := (blk_cell BK121.out 9).trans rfl
            have hcz40_10 : wc.cell? ⟨gb121, 10, none⟩ = some (.int .i64 a0_10) := (blk_cell BK121.out 10).trans rfl
            have hcz40_11 : wc.cell? ⟨gb121, 11, none⟩ = some (.int .i64 a0_11) := (blk_cell BK121.out 11).trans rfl
            have hcz40_12 : wc.cell? ⟨gb121, 12, none⟩ = some (.int .i64 a0_12) := (blk_cell BK121.out 12).trans rfl
            have hcz40_13 : wc.cell? ⟨gb121, 13, none⟩ = some (.int .i64 a0_13) := (blk_cell BK121.out 13).trans rfl
            have hcz40_14 : wc.cell? ⟨gb121, 14, none⟩ = some (.int .i64 a0_14) := (blk_cell BK121.out 14).trans rfl
            have hcz40_15 : wc.cell? ⟨gb121, 15, none⟩ = some (.int .i64 a0_15) := (blk_cell BK121.out 15).trans rfl
            have hcz40_16 : wc.cell? ⟨gb121, 16, none⟩ = some (.int .i64 a0_16) := (blk_cell BK121.out 16).trans rfl
            have hfz40_0 := blk_frozen BK121.out 0
            have hfz40_1 := blk_frozen BK121.out 1
            have hfz40_2 := blk_frozen BK121.out 2
            have hfz40_3 := blk_frozen BK121.out 3
            have hfz40_4 := blk_frozen BK121.out 4
            have hfz40_5 := blk_frozen BK121.out 5
            have hfz40_6 := blk_frozen BK121.out 6
            have hfz40_7 := blk_frozen BK121.out 7
            have hfz40_8 := blk_frozen BK121.out 8
            have hfz40_9 := blk_frozen BK121.out 9
            have hfz40_10 := blk_frozen BK121.out 10
            have hfz40_11 := blk_frozen BK121.out 11
            have hfz40_12 := blk_frozen BK121.out 12
            have hfz40_13 := blk_frozen BK121.out 13
            have hfz40_14 := blk_frozen BK121.out 14
            have hfz40_15 := blk_frozen BK121.out 15
            have hfz40_16 := blk_frozen BK121.out 16
            go_wp2
            go_ret
            exact ⟨by first | rfl | (simp [errW_none, errW_some] <;> rfl) | (simp [*, errW_none, errW_some] <;> rfl), by repeat (first | (with_reducible first | exact HB.out | apply below_alloc | apply pw_below_drewN | apply below_drew1 | refine below_set ?_ GE121.out) | exact HB.out)⟩
        · replace c16 := Bool.eq_false_iff.mpr c16
          subst c16
          have H1 : (some ((a0_3 == 0 && (!a0_4 && (a0_5.toList.isEmpty))) && (!false && ((a0_7 == 0 && (a0_8 == 0 && (a0_9 == 0 && (a0_10 == 0 && (a0_11 == 0))))) && ((a0_12 == 0 && (a0_13 == 0 && (a0_14 == 0 && (a0_15 == 0 && (a0_16 == 0)))))))))) = some r := by rw [if_neg (show ¬ (false = true) by decide)] at H; exact H
          clear H
          have H := H1
          clear H1
          obtain rfl := Option.some.inj H
          have hcz41_0 : wc.cell? ⟨gb121, 0, none⟩ = some (.int .i64 a0_0) := (blk_cell BK121.out 0).trans rfl
          have hcz41_1 : wc.cell? ⟨gb121, 1, none⟩ = some (.bool a0_1) := (blk_cell BK121.out 1).trans rfl
          have hcz41_2 : wc.cell? ⟨gb121, 2, none⟩ = some (.string a0_2) := (blk_cell BK121.out 2).trans rfl
          have hcz41_3 : wc.cell? ⟨gb121, 3, none⟩ = some (.int .i64 a0_3) := (blk_cell BK121.out 3).trans rfl
          have hcz41_4 : wc.cell? ⟨gb121, 4, none⟩ = some (.bool a0_4) := (blk_cell BK121.out 4).trans rfl
          have hcz41_5 : wc.cell? ⟨gb121, 5, none⟩ = some (.string a0_5) := (blk_cell BK121.out 5).trans rfl
          have hcz41_6 : wc.cell? ⟨gb121, 6, none⟩ = some (.bool false) := (blk_cell BK121.out 6).trans rfl
          have hcz41_7 : wc.cell? ⟨gb121, 7, none⟩ = some (.int .i64 a0_7) := (blk_cell BK121.out 7).trans rfl
          have hcz41_8 : wc.cell? ⟨gb121, 8, none⟩ = some (.int .i64 a0_8) := (blk_cell BK121.out 8).trans rfl
          have hcz41_9 : wc.cell? ⟨gb121, 9, none⟩ = some (.int .i64 a0_9) := (blk_cell BK121.out 9).trans rfl
          have hcz41_10 : wc.cell? ⟨gb121, 10, none⟩ = some (.int .i64 a0_10) := (blk_cell BK121.out 10).trans rfl
          have hcz41_11 : wc.cell? ⟨gb121, 11, none⟩ = some (.int .i64 a0_11) := (blk_cell BK121.out 11).trans rfl
          have hcz41_12 : wc.cell? ⟨gb121, 12, none⟩ = some (.int .i64 a0_12) := (blk_cell BK121.out 12).trans rfl
          have hcz41_13 : wc.cell? ⟨gb121, 13, none⟩ = some (.int .i64 a0_13) := (blk_cell BK121.out 13).trans rfl
          have hcz41_14 : wc.cell? ⟨gb121, 14, none⟩ = some (.int .i64 a0_14) := (blk_cell BK121.out 14).trans rfl
          have hcz41_15 : wc.cell? ⟨gb121, 15, none⟩ = some (.int .i64 a0_15) := (blk_cell BK121.out 15).trans rfl
          have hcz41_16 : wc.cell? ⟨gb121, 16, none⟩ = some (.int .i64 a0_16) := (blk_cell BK121.out 16).trans rfl
          have hfz41_0 := blk_frozen BK121.out 0
          have hfz41_1 := blk_frozen BK121.out 1
          have hfz41_2 := blk_frozen BK121.out 2
          have hfz41_3 := blk_frozen BK121.out 3
          have hfz41_4 := blk_frozen BK121.out 4
          have hfz41_5 := blk_frozen BK121.out 5
          have hfz41_6 := blk_frozen BK121.out 6
          have hfz41_7 := blk_frozen BK121.out 7
          have hfz41_8 := blk_frozen BK121.out 8
          have hfz41_9 := blk_frozen BK121.out 9
          have hfz41_10 := blk_frozen BK121.out 10
          have hfz41_11 := blk_frozen BK121.out 11
          have hfz41_12 := blk_frozen BK121.out 12
          have hfz41_13 := blk_frozen BK121.out 13
          have hfz41_14 := blk_frozen BK121.out 14
          have hfz41_15 := blk_frozen BK121.out 15
          have hfz41_16 := blk_frozen BK121.out 16
          go_wp2_with (first | ((with_reducible refine gate_dst (N := 25) rfl ?_); refine wpList_load_row rfl 27 _ rfl (gb121) rfl 27 #[.int .i64 a0_0, .bool a0_1, .string a0_2, .int .i64 a0_3, .bool a0_4, .string a0_5, .bool false, .int .i64 a0_7, .int .i64 a0_8, .int .i64 a0_9, .int .i64 a0_10, .int .i64 a0_11, .int .i64 a0_12, .int .i64 a0_13, .int .i64 a0_14, .int .i64 a0_15, .int .i64 a0_16] (0, 0) _ (by (with_reducible repeat (first | refine blk_drewN ?_ _ | refine blk_drew ?_ | refine blk_alloc ?_ _)); exact BK121.out) Tryd.underlying27 rfl (by kernel_rfl) ?_))
          go_ret
          exact ⟨by first | rfl | (simp [errW_none, errW_some] <;> rfl) | (simp [*, errW_none, errW_some] <;> rfl), by repeat (first | (with_reducible first | exact HB.out | apply below_alloc | apply pw_below_drewN | apply below_drew1 | refine below_set ?_ GE121.out) | exact HB.out)⟩
end Go.Proofs.YtgbehcahdgamoaaDoor.Fn

namespace Go.Proofs.YtgbehcahdgamoaaDoor.Fn
open Go.RowKit Go.Proofs.YtgbehcahdgamoaaDoorW.PrintWords Go.Proofs.YtgbehcahdgamoaaDoorW.PrintLast Go.Proofs.YtgbehcahdgamoaaDoorW.PrintMore
set_option linter.unusedVariables false
set_option linter.unusedSimpArgs false
/-! ### rule_may: function 25 -/
def rule_may.f (a0 : Int) : Option (Bool) := if a0 ≥ (-2147483648) then (some (decide (a0 ≤ 2147483647))) else (some false)
set_option maxHeartbeats 8000000 in
set_option maxRecDepth 100000 in
theorem rule_may.calls (a0 : Int) (r : Bool) (w : World) (h : rule_may.f a0 = some r) :
    Calls Tryd.prog 25 #[.int .i64 a0] w fun e w' => e = .returned (.bool r) ∧ Drawn0 w w' := by
  have H : (if a0 ≥ (-2147483648) then (some (decide (a0 ≤ 2147483647))) else (some false)) = some r := h
  clear h
  by_cases c2 : a0 ≥ (-2147483648)
  · rw [if_pos c2] at H
    have c2b0 : decide ((-2147483648) ≤ a0) = true := decide_eq_true c2
    clear c2
    obtain rfl := Option.some.inj H
    go_enter Tryd.func25, Tryd.ntmps25
    go_wp2
    go_ret
    exact ⟨by first | rfl | (simp; done) | (simp [*]; done), by repeat (first | exact Drawn0.refl _ | apply Drawn0.step)⟩
  · rw [if_neg c2] at H
    have c2b0 : decide ((-2147483648) ≤ a0) = false := decide_eq_false c2
    clear c2
    obtain rfl := Option.some.inj H
    go_enter Tryd.func25, Tryd.ntmps25
    go_wp2
    go_ret
    exact ⟨by first | rfl | (simp; done) | (simp [*]; done), by repeat (first | exact Drawn0.refl _ | apply Drawn0.step)⟩
end Go.Proofs.YtgbehcahdgamoaaDoor.Fn

namespace Go.Proofs.YtgbehcahdgamoaaDoor.Fn
open Go.RowKit Go.Proofs.YtgbehcahdgamoaaDoorW.PrintWords Go.Proofs.YtgbehcahdgamoaaDoorW.PrintLast Go.Proofs.YtgbehcahdgamoaaDoorW.PrintMore
set_option linter.unusedVariables false
set_option linter.unusedSimpArgs false
/-! ### rule_probe: function 27 -/
def rule_probe.f (a0_0 : Int) (a0_1 : Int) (a0_2 : Int) (a0_3 : Int) (a0_4 : Int) : Option (Int × Bool × ByteArray × Int × Bool × ByteArray × Bool × Int × Int × Int × Int × Int × Int × Int × Int × Int × Int) := some (0, false, (⟨#[65, 65, 65]⟩ : ByteArray), 0, true, (⟨#[66, 66, 66]⟩ : ByteArray), true, a0_0, a0_1, a0_2, a0_3, a0_4, a0_0, a0_1, a0_2, a0_3, a0_4)
set_option maxHeartbeats 8000000 in
set_option maxRecDepth 100000 in
theorem rule_probe.calls (a0_0 : Int) (a0_1 : Int) (a0_2 : Int) (a0_3 : Int) (a0_4 : Int) (r1 : Int) (r2 : Bool) (r3 : ByteArray) (r4 : Int) (r5 : Bool) (r6 : ByteArray) (r7 : Bool) (r8 : Int) (r9 : Int) (r10 : Int) (r11 : Int) (r12 : Int) (r13 : Int) (r14 : Int) (r15 : Int) (r16 : Int) (r17 : Int) (w : World) (h : rule_probe.f a0_0 a0_1 a0_2 a0_3 a0_4 = some (r1, r2, r3, r4, r5, r6, r7, r8, r9, r10, r11, r12, r13, r14, r15, r16, r17)) :
    Calls Tryd.prog 27 #[.agg #[.int .i64 a0_0, .int .i64 a0_1, .int .i64 a0_2, .int .i64 a0_3, .int .i64 a0_4]] w fun e w' => e = .returned (.agg #[.int .i64 r1, .bool r2, .string r3, .int .i64 r4, .bool r5, .string r6, .bool r7, .int .i64 r8, .int .i64 r9, .int .i64 r10, .int .i64 r11, .int .i64 r12, .int .i64 r13, .int .i64 r14, .int .i64 r15, .int .i64 r16, .int .i64 r17]) ∧ Below w.heap.size w w' := by
  have hu25 := Tryd.underlying25
  have hu27 := Tryd.underlying27
  have hu23 := Tryd.underlying23
  have HB := Aside0.mk (Below.refl w.heap.size w)
  have H : (some (0, false, (⟨#[65, 65, 65]⟩ : ByteArray), 0, true, (⟨#[66, 66, 66]⟩ : ByteArray), true, a0_0, a0_1, a0_2, a0_3, a0_4, a0_0, a0_1, a0_2, a0_3, a0_4)) = some (r1, r2, r3, r4, r5, r6, r7, r8, r9, r10, r11, r12, r13, r14, r15, r16, r17) := h
  clear h
  simp only [Option.some.injEq, Prod.mk.injEq] at H
  obtain ⟨rfl, rfl, rfl, rfl, rfl, rfl, rfl, rfl, rfl, rfl, rfl, rfl, rfl, rfl, rfl, rfl, rfl⟩ := H
  go_enter Tryd.func27, Tryd.ntmps27
  go_wp2_with (first | ((with_reducible refine gate_dst (N := 1) rfl ?_); refine box_event ?hg (N := 1) ?hd (cs := #[.int .i64 a0_0, .int .i64 a0_1, .int .i64 a0_2, .int .i64 a0_3, .int .i64 a0_4]) (t := 25) ?hr ?_; (case hd => rfl); (case hg => rfl); (case hr => first | (go_simp; done) | (go_simp; rfl)); intro gb128 hg w2 hbox hb; have n0_ := Aside0.mk (below_step (by repeat (first | (with_reducible first | exact HB.out | apply below_alloc | apply pw_below_drewN | apply below_drew1) | exact HB.out)) hb); have n1_ := Aside0.mk (hbox); have n2_ := Aside0.mk ((by rw [hg]; exact (below_size (by repeat (first | (with_reducible first | exact HB.out | apply below_alloc | apply pw_below_drewN | apply below_drew1) | exact HB.out))) : w.heap.size ≤ gb128)); have n3_ := Aside0.mk ((by rw [hg]; exact (below_size (by repeat (first | (with_reducible first | exact HB.out | apply below_alloc | apply pw_below_drewN | apply below_drew1) | exact HB.out))) : w.heap.size ≤ gb128)); clear HB; have HB := n0_; have BK128 := n1_; have GW128 := n2_; have GE128 := n3_; clear n0_ n1_ n2_ n3_; clear hb hbox hg) | ((with_reducible refine gate_dst (N := 2) rfl ?_); refine box_event ?hg (N := 2) ?hd (cs := #[.int .i64 0, .bool false, .string (⟨#[]⟩ : ByteArray), .int .i64 0, .bool false, .string (⟨#[]⟩ : ByteArray), .bool false, .int .i64 0, .int .i64 0, .int .i64 0, .int .i64 0, .int .i64 0, .int .i64 0, .int .i64 0, .int .i64 0, .int .i64 0, .int .i64 0]) (t := 27) ?hr ?_; (case hd => rfl); (case hg => rfl); (case hr => first | (go_simp; done) | (go_simp; rfl)); intro gb129 hg w3 hbox hb; have n0_ := Aside0.mk (blk_below (g := gb128) (o := .cells #[.int .i64 a0_0, .int .i64 a0_1, .int .i64 a0_2, .int .i64 a0_3, .int .i64 a0_4] 25 (0, 0)) (by (with_reducible repeat (first | refine blk_drewN ?_ _ | refine blk_drew ?_ | refine blk_alloc ?_ _)); exact BK128.out) hb); have n1_ := Aside0.mk (below_step (by repeat (first | (with_reducible first | exact HB.out | apply below_alloc | apply pw_below_drewN | apply below_drew1 | refine below_set ?_ GE128.out) | exact HB.out)) hb); have n2_ := Aside0.mk (hbox); have n3_ := Aside0.mk ((by rw [hg]; exact (below_size (by repeat (first | (with_reducible first | exact HB.out | apply below_alloc | apply pw_below_drewN | apply below_drew1 | refine below_set ?_ GE128.out) | exact HB.out))) : w.heap.size ≤ gb129)); have n4_ := Aside0.mk ((by rw [hg]; exact (below_size (by repeat (first | (with_reducible first | exact HB.out | apply below_alloc | apply pw_below_drewN | apply below_drew1 | refine below_set ?_ GE128.out) | exact HB.out))) : w.heap.size ≤ gb129)); have n5_ := Aside0.mk ((by rw [hg]; exact Nat.ne_of_lt (blk_lt (g := gb128) (o := .cells #[.int .i64 a0_0, .int .i64 a0_1, .int .i64 a0_2, .int .i64 a0_3, .int .i64 a0_4] 25 (0, 0)) (by (with_reducible repeat (first | refine blk_drewN ?_ _ | refine blk_drew ?_ | refine blk_alloc ?_ _)); exact BK128.out)) : gb128 ≠ gb129)); have n6_ := Aside0.mk ((by rw [hg]; exact Nat.ne_of_gt (blk_lt (g := gb128) (o := .cells #[.int .i64 a0_0, .int .i64 a0_1, .int .i64 a0_2, .int .i64 a0_3, .int .i64 a0_4] 25 (0, 0)) (by (with_reducible repeat (first | refine blk_drewN ?_ _ | refine blk_drew ?_ | refine blk_alloc ?_ _)); exact BK128.out)) : gb129 ≠ gb128)); clear BK128; clear HB; have BK128 := n0_; have HB := n1_; have BK129 := n2_; have GW129 := n3_; have GE129 := n4_; have NB128_129 := n5_; have NB129_128 := n6_; clear n0_ n1_ n2_ n3_ n4_ n5_ n6_; clear hb hbox hg) | ((with_reducible refine gate_dst (N := 3) rfl ?_); refine box_event ?hg (N := 3) ?hd (cs := #[.int .i64 0, .bool false, .string (⟨#[]⟩ : ByteArray)]) (t := 23) ?hr ?_; (case hd => rfl); (case hg => rfl); (case hr => first | (go_simp; done) | (go_simp; rfl)); intro gb130 hg w4 hbox hb; have n0_ := Aside0.mk (blk_below (g := gb128) (o := .cells #[.int .i64 a0_0, .int .i64 a0_1, .int .i64 a0_2, .int .i64 a0_3, .int .i64 a0_4] 25 (0, 0)) (by (with_reducible repeat (first | refine blk_drewN ?_ _ | refine blk_drew ?_ | refine blk_alloc ?_ _)); exact BK128.out) hb); have n1_ := Aside0.mk (blk_below (g := gb129) (o := .cells #[.int .i64 0, .bool false, .string (⟨#[]⟩ : ByteArray), .int .i64 0, .bool false, .string (⟨#[]⟩ : ByteArray), .bool false, .int .i64 0, .int .i64 0, .int .i64 0, .int .i64 0, .int .i64 0, .int .i64 0, .int .i64 0, .int .i64 0, .int .i64 0, .int .i64 0] 27 (0, 0)) (by (with_reducible repeat (first | refine blk_drewN ?_ _ | refine blk_drew ?_ | refine blk_alloc ?_ _)); exact BK129.out) hb); have n2_ := Aside0.mk (below_step (by repeat (first | (with_reducible first | exact HB.out | apply below_alloc | apply pw_below_drewN | apply below_drew1 | refine below_set ?_ GE128.out | refine below_set ?_ GE129.out) | exact HB.out)) hb); have n3_ := Aside0.mk (hbox); have n4_ := Aside0.mk ((by rw [hg]; exact (below_size (by repeat (first | (with_reducible first | exact HB.out | apply below_alloc | apply pw_below_drewN | apply below_drew1 | refine below_set ?_ GE128.out | refine below_set ?_ GE129.out) | exact HB.out))) : w.heap.size ≤ gb130)); have n5_ := Aside0.mk ((by rw [hg]; exact (below_size (by repeat (first | (with_reducible first | exact HB.out | apply below_alloc | apply pw_below_drewN | apply below_drew1 | refine below_set ?_ GE128.out | refine below_set ?_ GE129.out) | exact HB.out))) : w.heap.size ≤ gb130)); have n6_ := Aside0.mk ((by rw [hg]; exact Nat.ne_of_lt (blk_lt (g := gb128) (o := .cells #[.int .i64 a0_0, .int .i64 a0_1, .int .i64 a0_2, .int .i64 a0_3, .int .i64 a0_4] 25 (0, 0)) (by (with_reducible repeat (first | refine blk_drewN ?_ _ | refine blk_drew ?_ | refine blk_alloc ?_ _)); exact BK128.out)) : gb128 ≠ gb130)); have n7_ := Aside0.mk ((by rw [hg]; exact Nat.ne_of_gt (blk_lt (g := gb128) (o := .cells #[.int .i64 a0_0, .int .i64 a0_1, .int .i64 a0_2, .int .i64 a0_3, .int .i64 a0_4] 25 (0, 0)) (by (with_reducible repeat (first | refine blk_drewN ?_ _ | refine blk_drew ?_ | refine blk_alloc ?_ _)); exact BK128.out)) : gb130 ≠ gb128)); have n8_ := Aside0.mk ((by rw [hg]; exact Nat.ne_of_lt (blk_lt (g := gb129) (o := .cells #[.int .i64 0, .bool false, .string (⟨#[]⟩ : ByteArray), .int .i64 0, .bool false, .string (⟨#[]⟩ : ByteArray), .bool false, .int .i64 0, .int .i64 0, .int .i64 0, .int .i64 0, .int .i64 0, .int .i64 0, .int .i64 0, .int .i64 0, .int .i64 0, .int .i64 0] 27 (0, 0)) (by (with_reducible repeat (first | refine blk_drewN ?_ _ | refine blk_drew ?_ | refine blk_alloc ?_ _)); exact BK129.out)) : gb129 ≠ gb130)); have n9_ := Aside0.mk ((by rw [hg]; exact Nat.ne_of_gt (blk_lt (g := gb129) (o := .cells #[.int .i64 0, .bool false, .string (⟨#[]⟩ : ByteArray), .int .i64 0, .bool false, .string (⟨#[]⟩ : ByteArray), .bool false, .int .i64 0, .int .i64 0, .int .i64 0, .int .i64 0, .int .i64 0, .int .i64 0, .int .i64 0, .int .i64 0, .int .i64 0, .int .i64 0] 27 (0, 0)) (by (with_reducible repeat (first | refine blk_drewN ?_ _ | refine blk_drew ?_ | refine blk_alloc ?_ _)); exact BK129.out)) : gb130 ≠ gb129)); clear BK128; clear BK129; clear HB; have BK128 := n0_; have BK129 := n1_; have HB := n2_; have BK130 := n3_; have GW130 := n4_; have GE130 := n5_; have NB128_130 := n6_; have NB130_128 := n7_; have NB129_130 := n8_; have NB130_129 := n9_; clear n0_ n1_ n2_ n3_ n4_ n5_ n6_ n7_ n8_ n9_; clear hb hbox hg; have hnb5 := NB130_128.out; have hnc5 := NB128_130.out; have hnb6 := NB130_129.out; have hnc6 := NB129_130.out; have hcz7_0 : w4.cell? ⟨gb130, 0, none⟩ = some (.int .i64 0) := (blk_cell BK130.out 0).trans rfl; have hcz7_1 : w4.cell? ⟨gb130, 1, none⟩ = some (.bool false) := (blk_cell BK130.out 1).trans rfl; have hcz7_2 : w4.cell? ⟨gb130, 2, none⟩ = some (.string (⟨#[]⟩ : ByteArray)) := (blk_cell BK130.out 2).trans rfl; have hfz7_0 := blk_frozen BK130.out 0; have hfz7_1 := blk_frozen BK130.out 1; have hfz7_2 := blk_frozen BK130.out 2; have hnb8 := NB129_128.out; have hnc8 := NB128_129.out; have hcz9_0 : w4.cell? ⟨gb129, 0, none⟩ = some (.int .i64 0) := (blk_cell BK129.out 0).trans rfl; have hcz9_1 : w4.cell? ⟨gb129, 1, none⟩ = some (.bool false) := (blk_cell BK129.out 1).trans rfl; have hcz9_2 : w4.cell? ⟨gb129, 2, none⟩ = some (.string (⟨#[]⟩ : ByteArray)) := (blk_cell BK129.out 2).trans rfl; have hcz9_3 : w4.cell? ⟨gb129, 3, none⟩ = some (.int .i64 0) := (blk_cell BK129.out 3).trans rfl; have hcz9_4 : w4.cell? ⟨gb129, 4, none⟩ = some (.bool false) := (blk_cell BK129.out 4).trans rfl; have hcz9_5 : w4.cell? ⟨gb129, 5, none⟩ = some (.string (⟨#[]⟩ : ByteArray)) := (blk_cell BK129.out 5).trans rfl; have hcz9_6 : w4.cell? ⟨gb129, 6, none⟩ = some (.bool false) := (blk_cell BK129.out 6).trans rfl; have hcz9_7 : w4.cell? ⟨gb129, 7, none⟩ = some (.int .i64 0) := (blk_cell BK129.out 7).trans rfl; have hcz9_8 : w4.cell? ⟨gb129, 8, none⟩ = some (.int .i64 0) := (blk_cell BK129.out 8).trans rfl; have hcz9_9 : w4.cell? ⟨gb129, 9, none⟩ = some (.int .i64 0) := (blk_cell BK129.out 9).trans rfl; have hcz9_10 : w4.cell? ⟨gb129, 10, none⟩ = some (.int .i64 0) := (blk_cell BK129.out 10).trans rfl; have hcz9_11 : w4.cell? ⟨gb129, 11, none⟩ = some (.int .i64 0) := (blk_cell BK129.out 11).trans rfl; have hcz9_12 : w4.cell? ⟨gb129, 12, none⟩ = some (.int .i64 0) := (blk_cell BK129.out 12).trans rfl; have hcz9_13 : w4.cell? ⟨gb129, 13, none⟩ = some (.int .i64 0) := (blk_cell BK129.out 13).trans rfl; have hcz9_14 : w4.cell? ⟨gb129, 14, none⟩ = some (.int .i64 0) := (blk_cell BK129.out 14).trans rfl; have hcz9_15 : w4.cell? ⟨gb129, 15, none⟩ = some (.int .i64 0) := (blk_cell BK129.out 15).trans rfl; have hcz9_16 : w4.cell? ⟨gb129, 16, none⟩ = some (.int .i64 0) := (blk_cell BK129.out 16).trans rfl; have hfz9_0 := blk_frozen BK129.out 0; have hfz9_1 := blk_frozen BK129.out 1; have hfz9_2 := blk_frozen BK129.out 2; have hfz9_3 := blk_frozen BK129.out 3; have hfz9_4 := blk_frozen BK129.out 4; have hfz9_5 := blk_frozen BK129.out 5; have hfz9_6 := blk_frozen BK129.out 6; have hfz9_7 := blk_frozen BK129.out 7; have hfz9_8 := blk_frozen BK129.out 8; have hfz9_9 := blk_frozen BK129.out 9; have hfz9_10 := blk_frozen BK129.out 10; have hfz9_11 := blk_frozen BK129.out 11; have hfz9_12 := blk_frozen BK129.out 12; have hfz9_13 := blk_frozen BK129.out 13; have hfz9_14 := blk_frozen BK129.out 14; have hfz9_15 := blk_frozen BK129.out 15; have hfz9_16 := blk_frozen BK129.out 16) | ((with_reducible refine gate_dst (N := 5) rfl ?_); refine wpList_load_row rfl 23 _ rfl (gb130) rfl 23 #[.int .i64 0, .bool false, .string (⟨#[65, 65, 65]⟩ : ByteArray)] (0, 0) _ (by (with_reducible repeat (first | refine blk_drewN ?_ _ | refine blk_drew ?_ | refine blk_alloc ?_ _)); refine blk_put (cs := #[.int .i64 0, .bool false, .string (⟨#[]⟩ : ByteArray)]) ?_ 2 _ rfl; (with_reducible repeat (first | refine blk_drewN ?_ _ | refine blk_drew ?_ | refine blk_alloc ?_ _)); refine blk_put (cs := #[.int .i64 0, .bool false, .string (⟨#[]⟩ : ByteArray)]) ?_ 1 _ rfl; (with_reducible repeat (first | refine blk_drewN ?_ _ | refine blk_drew ?_ | refine blk_alloc ?_ _)); refine blk_put (cs := #[.int .i64 0, .bool false, .string (⟨#[]⟩ : ByteArray)]) ?_ 0 _ rfl; (with_reducible repeat (first | refine blk_drewN ?_ _ | refine blk_drew ?_ | refine blk_alloc ?_ _)); exact BK130.out) Tryd.underlying23 rfl (by kernel_rfl) ?_) | ((with_reducible refine gate_dst (N := 7) rfl ?_); refine wpList_load_row rfl 25 _ rfl (gb128) rfl 25 #[.int .i64 a0_0, .int .i64 a0_1, .int .i64 a0_2, .int .i64 a0_3, .int .i64 a0_4] (0, 0) _ (by (with_reducible repeat (first | refine blk_drewN ?_ _ | refine blk_drew ?_ | refine blk_alloc ?_ _)); refine blk_far ?_ NB128_130.out _; (with_reducible repeat (first | refine blk_drewN ?_ _ | refine blk_drew ?_ | refine blk_alloc ?_ _)); refine blk_far ?_ NB128_130.out _; (with_reducible repeat (first | refine blk_drewN ?_ _ | refine blk_drew ?_ | refine blk_alloc ?_ _)); refine blk_far ?_ NB128_130.out _; (with_reducible repeat (first | refine blk_drewN ?_ _ | refine blk_drew ?_ | refine blk_alloc ?_ _)); exact BK128.out) Tryd.underlying25 rfl (by kernel_rfl) ?_) | ((with_reducible refine gate_dst (N := 8) rfl ?_); refine wpList_load_row rfl 25 _ rfl (gb128) rfl 25 #[.int .i64 a0_0, .int .i64 a0_1, .int .i64 a0_2, .int .i64 a0_3, .int .i64 a0_4] (0, 0) _ (by (with_reducible repeat (first | refine blk_drewN ?_ _ | refine blk_drew ?_ | refine blk_alloc ?_ _)); refine blk_far ?_ NB128_130.out _; (with_reducible repeat (first | refine blk_drewN ?_ _ | refine blk_drew ?_ | refine blk_alloc ?_ _)); refine blk_far ?_ NB128_130.out _; (with_reducible repeat (first | refine blk_drewN ?_ _ | refine blk_drew ?_ | refine blk_alloc ?_ _)); refine blk_far ?_ NB128_130.out _; (with_reducible repeat (first | refine blk_drewN ?_ _ | refine blk_drew ?_ | refine blk_alloc ?_ _)); exact BK128.out) Tryd.underlying25 rfl (by kernel_rfl) ?_))
  refine bodyPost_ret (results_cell_row rfl _ _ gb129 27 #[.int .i64 0, .bool false, .string (⟨#[65, 65, 65]⟩ : ByteArray), .int .i64 0, .bool true, .string (⟨#[66, 66, 66]⟩ : ByteArray), .bool true, .int .i64 a0_0, .int .i64 a0_1, .int .i64 a0_2, .int .i64 a0_3, .int .i64 a0_4, .int .i64 a0_0, .int .i64 a0_1, .int .i64 a0_2, .int .i64 a0_3, .int .i64 a0_4] (0, 0) _ rfl (by (with_reducible repeat (first | refine blk_drewN ?_ _ | refine blk_drew ?_ | refine blk_alloc ?_ _)); refine blk_put (cs := #[.int .i64 0, .bool false, .string (⟨#[65, 65, 65]⟩ : ByteArray), .int .i64 0, .bool true, .string (⟨#[66, 66, 66]⟩ : ByteArray), .bool true, .int .i64 a0_0, .int .i64 a0_1, .int .i64 a0_2, .int .i64 a0_3, .int .i64 a0_4, .int .i64 a0_0, .int .i64 a0_1, .int .i64 a0_2, .int .i64 a0_3, .int .i64 0]) ?_ 16 _ rfl; (with_reducible repeat (first | refine blk_drewN ?_ _ | refine blk_drew ?_ | refine blk_alloc ?_ _)); refine blk_put (cs := #[.int .i64 0, .bool false, .string (⟨#[65, 65, 65]⟩ : ByteArray), .int .i64 0, .bool true, .string (⟨#[66, 66, 66]⟩ : ByteArray), .bool true, .int .i64 a0_0, .int .i64 a0_1, .int .i64 a0_2, .int .i64 a0_3, .int .i64 a0_4, .int .i64 a0_0, .int .i64 a0_1, .int .i64 a0_2, .int .i64 0, .int .i64 0]) ?_ 15 _ rfl; (with_reducible repeat (first | refine blk_drewN ?_ _ | refine blk_drew ?_ | refine blk_alloc ?_ _)); refine blk_put (cs := #[.int .i64 0, .bool false, .string (⟨#[65, 65, 65]⟩ : ByteArray), .int .i64 0, .bool true, .string (⟨#[66, 66, 66]⟩ : ByteArray), .bool true, .int .i64 a0_0, .int .i64 a0_1, .int .i64 a0_2, .int .i64 a0_3, .int .i64 a0_4, .int .i64 a0_0, .int .i64 a0_1, .int .i64 0, .int .i64 0, .int .i64 0]) ?_ 14 _ rfl; (with_reducible repeat (first | refine blk_drewN ?_ _ | refine blk_drew ?_ | refine blk_alloc ?_ _)); refine blk_put (cs := #[.int .i64 0, .bool false, .string (⟨#[65, 65, 65]⟩ : ByteArray), .int .i64 0, .bool true, .string (⟨#[66, 66, 66]⟩ : ByteArray), .bool true, .int .i64 a0_0, .int .i64 a0_1, .int .i64 a0_2, .int .i64 a0_3, .int .i64 a0_4, .int .i64 a0_0, .int .i64 0, .int .i64 0, .int .i64 0, .int .i64 0]) ?_ 13 _ rfl; (with_reducible repeat (first | refine blk_drewN ?_ _ | refine blk_drew ?_ | refine blk_alloc ?_ _)); refine blk_put (cs := #[.int .i64 0, .bool false, .string (⟨#[65, 65, 65]⟩ : ByteArray), .int .i64 0, .bool true, .string (⟨#[66, 66, 66]⟩ : ByteArray), .bool true, .int .i64 a0_0, .int .i64 a0_1, .int .i64 a0_2, .int .i64 a0_3, .int .i64 a0_4, .int .i64 0, .int .i64 0, .int .i64 0, .int .i64 0, .int .i64 0]) ?_ 12 _ rfl; (with_reducible repeat (first | refine blk_drewN ?_ _ | refine blk_drew ?_ | refine blk_alloc ?_ _)); refine blk_put (cs := #[.int .i64 0, .bool false, .string (⟨#[65, 65, 65]⟩ : ByteArray), .int .i64 0, .bool true, .string (⟨#[66, 66, 66]⟩ : ByteArray), .bool true, .int .i64 a0_0, .int .i64 a0_1, .int .i64 a0_2, .int .i64 a0_3, .int .i64 0, .int .i64 0, .int .i64 0, .int .i64 0, .int .i64 0, .int .i64 0]) ?_ 11 _ rfl; (with_reducible repeat (first | refine blk_drewN ?_ _ | refine blk_drew ?_ | refine blk_alloc ?_ _)); refine blk_put (cs := #[.int .i64 0, .bool false, .string (⟨#[65, 65, 65]⟩ : ByteArray), .int .i64 0, .bool true, .string (⟨#[66, 66, 66]⟩ : ByteArray), .bool true, .int .i64 a0_0, .int .i64 a0_1, .int .i64 a0_2, .int .i64 0, .int .i64 0, .int .i64 0, .int .i64 0, .int .i64 0, .int .i64 0, .int .i64 0]) ?_ 10 _ rfl; (with_reducible repeat (first | refine blk_drewN ?_ _ | refine blk_drew ?_ | refine blk_alloc ?_ _)); refine blk_put (cs := #[.int .i64 0, .bool false, .string (⟨#[65, 65, 65]⟩ : ByteArray), .int .i64 0, .bool true, .string (⟨#[66, 66, 66]⟩ : ByteArray), .bool true, .int .i64 a0_0, .int .i64 a0_1, .int .i64 0, .int .i64 0, .int .i64 0, .int .i64 0, .int .i64 0, .int .i64 0, .int .i64 0, .int .i64 0]) ?_ 9 _ rfl; (with_reducible repeat (first | refine blk_drewN ?_ _ | refine blk_drew ?_ | refine blk_alloc ?_ _)); refine blk_put (cs := #[.int .i64 0, .bool false, .string (⟨#[65, 65, 65]⟩ : ByteArray), .int .i64 0, .bool true, .string (⟨#[66, 66, 66]⟩ : ByteArray), .bool true, .int .i64 a0_0, .int .i64 0, .int .i64 0, .int .i64 0, .int .i64 0, .int .i64 0, .int .i64 0, .int .i64 0, .int .i64 0, .int .i64 0]) ?_ 8 _ rfl; (with_reducible repeat (first | refine blk_drewN ?_ _ | refine blk_drew ?_ | refine blk_alloc ?_ _)); refine blk_put (cs := #[.int .i64 0, .bool false, .string (⟨#[65, 65, 65]⟩ : ByteArray), .int .i64 0, .bool true, .string (⟨#[66, 66, 66]⟩ : ByteArray), .bool true, .int .i64 0, .int .i64 0, .int .i64 0, .int .i64 0, .int .i64 0, .int .i64 0, .int .i64 0, .int .i64 0, .int .i64 0, .int .i64 0]) ?_ 7 _ rfl; (with_reducible repeat (first | refine blk_drewN ?_ _ | refine blk_drew ?_ | refine blk_alloc ?_ _)); refine blk_put (cs := #[.int .i64 0, .bool false, .string (⟨#[65, 65, 65]⟩ : ByteArray), .int .i64 0, .bool true, .string (⟨#[66, 66, 66]⟩ : ByteArray), .bool false, .int .i64 0, .int .i64 0, .int .i64 0, .int .i64 0, .int .i64 0, .int .i64 0, .int .i64 0, .int .i64 0, .int .i64 0, .int .i64 0]) ?_ 6 _ rfl; (with_reducible repeat (first | refine blk_drewN ?_ _ | refine blk_drew ?_ | refine blk_alloc ?_ _)); refine blk_put (cs := #[.int .i64 0, .bool false, .string (⟨#[65, 65, 65]⟩ : ByteArray), .int .i64 0, .bool true, .string (⟨#[]⟩ : ByteArray), .bool false, .int .i64 0, .int .i64 0, .int .i64 0, .int .i64 0, .int .i64 0, .int .i64 0, .int .i64 0, .int .i64 0, .int .i64 0, .int .i64 0]) ?_ 5 _ rfl; (with_reducible repeat (first | refine blk_drewN ?_ _ | refine blk_drew ?_ | refine blk_alloc ?_ _)); refine blk_put (cs := #[.int .i64 0, .bool false, .string (⟨#[65, 65, 65]⟩ : ByteArray), .int .i64 0, .bool false, .string (⟨#[]⟩ : ByteArray), .bool false, .int .i64 0, .int .i64 0, .int .i64 0, .int .i64 0, .int .i64 0, .int .i64 0, .int .i64 0, .int .i64 0, .int .i64 0, .int .i64 0]) ?_ 4 _ rfl; (with_reducible repeat (first | refine blk_drewN ?_ _ | refine blk_drew ?_ | refine blk_alloc ?_ _)); refine blk_put (cs := #[.int .i64 0, .bool false, .string (⟨#[65, 65, 65]⟩ : ByteArray), .int .i64 0, .bool false, .string (⟨#[]⟩ : ByteArray), .bool false, .int .i64 0, .int .i64 0, .int .i64 0, .int .i64 0, .int .i64 0, .int .i64 0, .int .i64 0, .int .i64 0, .int .i64 0, .int .i64 0]) ?_ 3 _ rfl; (with_reducible repeat (first | refine blk_drewN ?_ _ | refine blk_drew ?_ | refine blk_alloc ?_ _)); refine blk_put (cs := #[.int .i64 0, .bool false, .string (⟨#[]⟩ : ByteArray), .int .i64 0, .bool false, .string (⟨#[]⟩ : ByteArray), .bool false, .int .i64 0, .int .i64 0, .int .i64 0, .int .i64 0, .int .i64 0, .int .i64 0, .int .i64 0, .int .i64 0, .int .i64 0, .int .i64 0]) ?_ 2 _ rfl; (with_reducible repeat (first | refine blk_drewN ?_ _ | refine blk_drew ?_ | refine blk_alloc ?_ _)); refine blk_put (cs := #[.int .i64 0, .bool false, .string (⟨#[]⟩ : ByteArray), .int .i64 0, .bool false, .string (⟨#[]⟩ : ByteArray), .bool false, .int .i64 0, .int .i64 0, .int .i64 0, .int .i64 0, .int .i64 0, .int .i64 0, .int .i64 0, .int .i64 0, .int .i64 0, .int .i64 0]) ?_ 1 _ rfl; (with_reducible repeat (first | refine blk_drewN ?_ _ | refine blk_drew ?_ | refine blk_alloc ?_ _)); refine blk_put (cs := #[.int .i64 0, .bool false, .string (⟨#[]⟩ : ByteArray), .int .i64 0, .bool false, .string (⟨#[]⟩ : ByteArray), .bool false, .int .i64 0, .int .i64 0, .int .i64 0, .int .i64 0, .int .i64 0, .int .i64 0, .int .i64 0, .int .i64 0, .int .i64 0, .int .i64 0]) ?_ 0 _ rfl; (with_reducible repeat (first | refine blk_drewN ?_ _ | refine blk_drew ?_ | refine blk_alloc ?_ _)); refine blk_far ?_ NB129_130.out _; (with_reducible repeat (first | refine blk_drewN ?_ _ | refine blk_drew ?_ | refine blk_alloc ?_ _)); refine blk_far ?_ NB129_130.out _; (with_reducible repeat (first | refine blk_drewN ?_ _ | refine blk_drew ?_ | refine blk_alloc ?_ _)); refine blk_far ?_ NB129_130.out _; (with_reducible repeat (first | refine blk_drewN ?_ _ | refine blk_drew ?_ | refine blk_alloc ?_ _)); exact BK129.out) Tryd.underlying27 rfl (by kernel_rfl)) rfl ?_
  exact ⟨by first | rfl | (simp [errW_none, errW_some] <;> rfl) | (simp [*, errW_none, errW_some] <;> rfl), by repeat (first | (with_reducible first | exact HB.out | apply below_alloc | apply pw_below_drewN | apply below_drew1 | refine below_set ?_ GE128.out | refine below_set ?_ GE129.out | refine below_set ?_ GE130.out) | exact HB.out)⟩
end Go.Proofs.YtgbehcahdgamoaaDoor.Fn

namespace Go.Proofs.YtgbehcahdgamoaaDoor.Fn
open Go.RowKit Go.Proofs.YtgbehcahdgamoaaDoorW.PrintWords Go.Proofs.YtgbehcahdgamoaaDoorW.PrintLast Go.Proofs.YtgbehcahdgamoaaDoorW.PrintMore
set_option linter.unusedVariables false
set_option linter.unusedSimpArgs false
/-! ### rule_Day: function 12 -/
def rule_Day.j0 : Nat → Int → Bool → Int → Int → Int → Int → Int → Option (Int × Int)
  | 0, _, _, _, _, _, _, _ => none
  | k + 1, x0, x21, x132000, x132001, x132002, x132003, x132004 => if x21 = true then (some (0, 1)) else ((civil_Days.f x0 1 1).bind fun bt151 => (if x132000 = 1 then ((civil_Leap.f x0).bind fun t153 => (if t153 = true then (if (wrap64 (x132001 - 1)) ≥ 59 then (some (wrap64 (bt151.1 + (wrap64 ((wrap64 (x132001 - 1)) + 1))), 0)) else (some (wrap64 (bt151.1 + (wrap64 (x132001 - 1))), 0))) else (some (wrap64 (bt151.1 + (wrap64 (x132001 - 1))), 0)))) else (if x132000 = 2 then (some (wrap64 (bt151.1 + x132001), 0)) else ((civil_Days.f x0 x132001 1).bind fun bt154 => ((civil_Weekday.f bt154.1).bind fun t156 => ((civil_Length.f x0 x132001).bind fun t157 => (if (wrap64 ((Int.tmod (wrap64 ((wrap64 (x132003 - t156)) + 7)) 7) + (wrap64 (7 * (wrap64 (x132002 - 1)))))) ≥ t157 then (some (wrap64 (bt154.1 + (wrap64 ((wrap64 ((Int.tmod (wrap64 ((wrap64 (x132003 - t156)) + 7)) 7) + (wrap64 (7 * (wrap64 (x132002 - 1)))))) - 7))), 0)) else (some (wrap64 (bt154.1 + (wrap64 ((Int.tmod (wrap64 ((wrap64 (x132003 - t156)) + 7)) 7) + (wrap64 (7 * (wrap64 (x132002 - 1))))))), 0)))))))))
def rule_Day.f (k : Nat) (a0 : Int) (a1_0 : Int) (a1_1 : Int) (a1_2 : Int) (a1_3 : Int) (a1_4 : Int) : Option (Int × Int) := (rule_may.f a0).bind fun t132 => (if t132 = true then ((rule_probe.f a1_0 a1_1 a1_2 a1_3 a1_4).bind fun bt133 => ((posix_Right.f k bt133.1 bt133.2.1 bt133.2.2.1 bt133.2.2.2.1 bt133.2.2.2.2.1 bt133.2.2.2.2.2.1 bt133.2.2.2.2.2.2.1 bt133.2.2.2.2.2.2.2.1 bt133.2.2.2.2.2.2.2.2.1 bt133.2.2.2.2.2.2.2.2.2.1 bt133.2.2.2.2.2.2.2.2.2.2.1 bt133.2.2.2.2.2.2.2.2.2.2.2.1 bt133.2.2.2.2.2.2.2.2.2.2.2.2.1 bt133.2.2.2.2.2.2.2.2.2.2.2.2.2.1 bt133.2.2.2.2.2.2.2.2.2.2.2.2.2.2.1 bt133.2.2.2.2.2.2.2.2.2.2.2.2.2.2.2.1 bt133.2.2.2.2.2.2.2.2.2.2.2.2.2.2.2.2 true).bind fun t150 => (rule_Day.j0 k a0 (!t150) a1_0 a1_1 a1_2 a1_3 a1_4))) else (rule_Day.j0 k a0 true a1_0 a1_1 a1_2 a1_3 a1_4))
theorem rule_Day.mono_l : ∀ k, (∀ y0 y1 y2 y3 y4 y5 y6, LeO (rule_Day.j0 k y0 y1 y2 y3 y4 y5 y6) (rule_Day.j0 (k + 1) y0 y1 y2 y3 y4 y5 y6))
  | 0 => fun _ _ _ _ _ _ _ r h => by simp [rule_Day.j0] at h
  | k + 1 => by
    have ih0 := rule_Day.mono_l k
    · intro y0 y1 y2 y3 y4 y5 y6
      unfold rule_Day.j0
      repeat' first
      | (with_reducible exact ih0 _ _ _ _ _ _ _)
      | (with_reducible exact posix_Right.mono _ _ _ _ _ _ _ _ _ _ _ _ _ _ _ _ _ _ _)
      | (with_reducible exact LeO.refl _)
      | (with_reducible exact LeO.none _)
      | (with_reducible refine LeO.ite ?_ ?_)
      | (with_reducible refine LeO.bind ?_ (fun _ => ?_))
      | exact ih0 _ _ _ _ _ _ _
      | exact posix_Right.mono _ _ _ _ _ _ _ _ _ _ _ _ _ _ _ _ _ _ _
      | exact LeO.none _
      | refine LeO.ite ?_ ?_
      | refine LeO.bind ?_ (fun _ => ?_)
theorem rule_Day.mono : ∀ a0 a1 a2 a3 a4 a5 k, LeO (rule_Day.f k a0 a1 a2 a3 a4 a5) (rule_Day.f (k + 1) a0 a1 a2 a3 a4 a5) := by
  intro a0 a1 a2 a3 a4 a5 k
  have ih0 := rule_Day.mono_l k
  unfold rule_Day.f
  repeat' first
      | (with_reducible exact ih0 _ _ _ _ _ _ _)
      | (with_reducible exact posix_Right.mono _ _ _ _ _ _ _ _ _ _ _ _ _ _ _ _ _ _ _)
      | (with_reducible exact LeO.refl _)
      | (with_reducible exact LeO.none _)
      | (with_reducible refine LeO.ite ?_ ?_)
      | (with_reducible refine LeO.bind ?_ (fun _ => ?_))
      | exact ih0 _ _ _ _ _ _ _
      | exact posix_Right.mono _ _ _ _ _ _ _ _ _ _ _ _ _ _ _ _ _ _ _
      | exact LeO.none _
      | refine LeO.ite ?_ ?_
      | refine LeO.bind ?_ (fun _ => ?_)
set_option maxHeartbeats 8000000 in
set_option maxRecDepth 100000 in
theorem rule_Day.calls (k : Nat) (a0 : Int) (a1_0 : Int) (a1_1 : Int) (a1_2 : Int) (a1_3 : Int) (a1_4 : Int) (r1 : Int) (r2 : Int) (w : World) (hG : GL w) (h : rule_Day.f k a0 a1_0 a1_1 a1_2 a1_3 a1_4 = some (r1, r2)) :
    Calls Tryd.prog 12 #[.int .i64 a0, .agg #[.int .i64 a1_0, .int .i64 a1_1, .int .i64 a1_2, .int .i64 a1_3, .int .i64 a1_4]] w fun e w' => e = .returned (.tuple #[.int .i64 r1, .int .i64 r2]) ∧ Below w.heap.size w w' := by
  have hu25 := Tryd.underlying25
  have HG := Aside0.mk hG
  clear hG
  have HB := Aside0.mk (Below.refl w.heap.size w)
  have H : ((rule_may.f a0).bind fun t132 => (if t132 = true then ((rule_probe.f a1_0 a1_1 a1_2 a1_3 a1_4).bind fun bt133 => ((posix_Right.f k bt133.1 bt133.2.1 bt133.2.2.1 bt133.2.2.2.1 bt133.2.2.2.2.1 bt133.2.2.2.2.2.1 bt133.2.2.2.2.2.2.1 bt133.2.2.2.2.2.2.2.1 bt133.2.2.2.2.2.2.2.2.1 bt133.2.2.2.2.2.2.2.2.2.1 bt133.2.2.2.2.2.2.2.2.2.2.1 bt133.2.2.2.2.2.2.2.2.2.2.2.1 bt133.2.2.2.2.2.2.2.2.2.2.2.2.1 bt133.2.2.2.2.2.2.2.2.2.2.2.2.2.1 bt133.2.2.2.2.2.2.2.2.2.2.2.2.2.2.1 bt133.2.2.2.2.2.2.2.2.2.2.2.2.2.2.2.1 bt133.2.2.2.2.2.2.2.2.2.2.2.2.2.2.2.2 true).bind fun t150 => (rule_Day.j0 k a0 (!t150) a1_0 a1_1 a1_2 a1_3 a1_4))) else (rule_Day.j0 k a0 true a1_0 a1_1 a1_2 a1_3 a1_4))) = some (r1, r2) := h
  clear h
  have HC3 := Aside0.mk H
  clear H
  go_enter Tryd.func12, Tryd.ntmps12
  go_upto_region 1 with (first | ((with_reducible refine gate_dst (N := 3) rfl ?_); refine box_event ?hg (N := 3) ?hd (cs := #[.int .i64 a1_0, .int .i64 a1_1, .int .i64 a1_2, .int .i64 a1_3, .int .i64 a1_4]) (t := 25) ?hr ?_; (case hd => rfl); (case hg => rfl); (case hr => first | (go_simp; done) | (go_simp; rfl)); intro gb131 hg w4 hbox hb; have n0_ := Aside0.mk (below_step (by repeat (first | (with_reducible first | exact HB.out | apply below_alloc | apply pw_below_drewN | apply below_drew1) | exact HB.out)) hb); have n1_ := Aside0.mk (hbox); have n2_ := Aside0.mk ((by rw [hg]; exact (below_size (by repeat (first | (with_reducible first | exact HB.out | apply below_alloc | apply pw_below_drewN | apply below_drew1) | exact HB.out))) : w.heap.size ≤ gb131)); have n3_ := Aside0.mk ((by rw [hg]; exact (below_size (by repeat (first | (with_reducible first | exact HB.out | apply below_alloc | apply pw_below_drewN | apply below_drew1) | exact HB.out))) : w.heap.size ≤ gb131)); clear HB; have HB := n0_; have BK131 := n1_; have GW131 := n2_; have GE131 := n3_; clear n0_ n1_ n2_ n3_; clear hb hbox hg))
  repeat (go_quiet (first | ((with_reducible refine gate_dst (N := 3) rfl ?_); refine box_event ?hg (N := 3) ?hd (cs := #[.int .i64 a1_0, .int .i64 a1_1, .int .i64 a1_2, .int .i64 a1_3, .int .i64 a1_4]) (t := 25) ?hr ?_; (case hd => rfl); (case hg => rfl); (case hr => first | (go_simp; done) | (go_simp; rfl)); intro gb131 hg w4 hbox hb; have n0_ := Aside0.mk (below_step (by repeat (first | (with_reducible first | exact HB.out | apply below_alloc | apply pw_below_drewN | apply below_drew1) | exact HB.out)) hb); have n1_ := Aside0.mk (hbox); have n2_ := Aside0.mk ((by rw [hg]; exact (below_size (by repeat (first | (with_reducible first | exact HB.out | apply below_alloc | apply pw_below_drewN | apply below_drew1) | exact HB.out))) : w.heap.size ≤ gb131)); have n3_ := Aside0.mk ((by rw [hg]; exact (below_size (by repeat (first | (with_reducible first | exact HB.out | apply below_alloc | apply pw_below_drewN | apply below_drew1) | exact HB.out))) : w.heap.size ≤ gb131)); clear HB; have HB := n0_; have BK131 := n1_; have GW131 := n2_; have GE131 := n3_; clear n0_ n1_ n2_ n3_; clear hb hbox hg)); go_upto_region 1 with (first | ((with_reducible refine gate_dst (N := 3) rfl ?_); refine box_event ?hg (N := 3) ?hd (cs := #[.int .i64 a1_0, .int .i64 a1_1, .int .i64 a1_2, .int .i64 a1_3, .int .i64 a1_4]) (t := 25) ?hr ?_; (case hd => rfl); (case hg => rfl); (case hr => first | (go_simp; done) | (go_simp; rfl)); intro gb131 hg w4 hbox hb; have n0_ := Aside0.mk (below_step (by repeat (first | (with_reducible first | exact HB.out | apply below_alloc | apply pw_below_drewN | apply below_drew1) | exact HB.out)) hb); have n1_ := Aside0.mk (hbox); have n2_ := Aside0.mk ((by rw [hg]; exact (below_size (by repeat (first | (with_reducible first | exact HB.out | apply below_alloc | apply pw_below_drewN | apply below_drew1) | exact HB.out))) : w.heap.size ≤ gb131)); have n3_ := Aside0.mk ((by rw [hg]; exact (below_size (by repeat (first | (with_reducible first | exact HB.out | apply below_alloc | apply pw_below_drewN | apply below_drew1) | exact HB.out))) : w.heap.size ≤ gb131)); clear HB; have HB := n0_; have BK131 := n1_; have GW131 := n2_; have GE131 := n3_; clear n0_ n1_ n2_ n3_; clear hb hbox hg)))
  (try simp only [Act.put, List.setIfInBounds_toArray, List.set_cons_zero, List.set_cons_succ])
  go_cut [21] (fun v21 wc => ∃ (kq : Nat) (x21_2 : Bool), v21 = .bool x21_2 ∧ Aside0 (rule_Day.j0 kq a0 x21_2 a1_0 a1_1 a1_2 a1_3 a1_4 = some (r1, r2)) ∧ Aside0 (kq ≤ k) ∧ Aside0 (wc.heap[gb131]? = some (.cells #[.int .i64 a1_0, .int .i64 a1_1, .int .i64 a1_2, .int .i64 a1_3, .int .i64 a1_4] 25 (0, 0))) ∧ Aside0 (Below w.heap.size w wc))
  case first =>
    have H := HC3.out
    clear HC3
    replace H := Option.bind_eq_some_iff.mp H
    obtain ⟨t132, A50, H⟩ := H
    replace H : (if t132 = true then ((rule_probe.f a1_0 a1_1 a1_2 a1_3 a1_4).bind fun bt133 => ((posix_Right.f k bt133.1 bt133.2.1 bt133.2.2.1 bt133.2.2.2.1 bt133.2.2.2.2.1 bt133.2.2.2.2.2.1 bt133.2.2.2.2.2.2.1 bt133.2.2.2.2.2.2.2.1 bt133.2.2.2.2.2.2.2.2.1 bt133.2.2.2.2.2.2.2.2.2.1 bt133.2.2.2.2.2.2.2.2.2.2.1 bt133.2.2.2.2.2.2.2.2.2.2.2.1 bt133.2.2.2.2.2.2.2.2.2.2.2.2.1 bt133.2.2.2.2.2.2.2.2.2.2.2.2.2.1 bt133.2.2.2.2.2.2.2.2.2.2.2.2.2.2.1 bt133.2.2.2.2.2.2.2.2.2.2.2.2.2.2.2.1 bt133.2.2.2.2.2.2.2.2.2.2.2.2.2.2.2.2 true).bind fun t150 => (rule_Day.j0 k a0 (!t150) a1_0 a1_1 a1_2 a1_3 a1_4))) else (rule_Day.j0 k a0 true a1_0 a1_1 a1_2 a1_3 a1_4)) = some (r1, r2) := H
    have A5 := Aside0.mk A50
    clear A50
    by_cases c6 : t132 = true
    · subst c6
      have H1 : ((rule_probe.f a1_0 a1_1 a1_2 a1_3 a1_4).bind fun bt133 => ((posix_Right.f k bt133.1 bt133.2.1 bt133.2.2.1 bt133.2.2.2.1 bt133.2.2.2.2.1 bt133.2.2.2.2.2.1 bt133.2.2.2.2.2.2.1 bt133.2.2.2.2.2.2.2.1 bt133.2.2.2.2.2.2.2.2.1 bt133.2.2.2.2.2.2.2.2.2.1 bt133.2.2.2.2.2.2.2.2.2.2.1 bt133.2.2.2.2.2.2.2.2.2.2.2.1 bt133.2.2.2.2.2.2.2.2.2.2.2.2.1 bt133.2.2.2.2.2.2.2.2.2.2.2.2.2.1 bt133.2.2.2.2.2.2.2.2.2.2.2.2.2.2.1 bt133.2.2.2.2.2.2.2.2.2.2.2.2.2.2.2.1 bt133.2.2.2.2.2.2.2.2.2.2.2.2.2.2.2.2 true).bind fun t150 => (rule_Day.j0 k a0 (!t150) a1_0 a1_1 a1_2 a1_3 a1_4))) = some (r1, r2) := by rw [if_pos rfl] at H; exact H
      clear H
      have H := H1
      clear H1
      replace H := Option.bind_eq_some_iff.mp H
      obtain ⟨⟨t133, t134, t135, t136, t137, t138, t139, t140, t141, t142, t143, t144, t145, t146, t147, t148, t149⟩, A70, H⟩ := H
      replace H : ((posix_Right.f k t133 t134 t135 t136 t137 t138 t139 t140 t141 t142 t143 t144 t145 t146 t147 t148 t149 true).bind fun t150 => (rule_Day.j0 k a0 (!t150) a1_0 a1_1 a1_2 a1_3 a1_4)) = some (r1, r2) := H
      have A7 := Aside0.mk A70
      clear A70
      replace H := Option.bind_eq_some_iff.mp H
      obtain ⟨t150, A80, H⟩ := H
      replace H : (rule_Day.j0 k a0 (!t150) a1_0 a1_1 a1_2 a1_3 a1_4) = some (r1, r2) := H
      have A8 := Aside0.mk A80
      clear A80
      have H' := Aside0.mk H
      clear H
      go_wp2_with (first | (go_at_call 25; (with_reducible refine (rule_may.calls a0 true _ A5.out).mono ?_); rintro e w' ⟨rfl, ⟨nd, rfl⟩⟩; (try first | exact ⟨rfl, _, World.drewN_drewN _ _ _⟩ | exact ⟨rfl, _, Eq.trans (World.drewN_drewN _ _ _) (congrArg (World.drewN _) (Nat.add_assoc _ _ _))⟩); have hcz9_0 : w4.cell? ⟨gb131, 0, none⟩ = some (.int .i64 a1_0) := (blk_cell BK131.out 0).trans rfl; have hcz9_1 : w4.cell? ⟨gb131, 1, none⟩ = some (.int .i64 a1_1) := (blk_cell BK131.out 1).trans rfl; have hcz9_2 : w4.cell? ⟨gb131, 2, none⟩ = some (.int .i64 a1_2) := (blk_cell BK131.out 2).trans rfl; have hcz9_3 : w4.cell? ⟨gb131, 3, none⟩ = some (.int .i64 a1_3) := (blk_cell BK131.out 3).trans rfl; have hcz9_4 : w4.cell? ⟨gb131, 4, none⟩ = some (.int .i64 a1_4) := (blk_cell BK131.out 4).trans rfl; have hfz9_0 := blk_frozen BK131.out 0; have hfz9_1 := blk_frozen BK131.out 1; have hfz9_2 := blk_frozen BK131.out 2; have hfz9_3 := blk_frozen BK131.out 3; have hfz9_4 := blk_frozen BK131.out 4) | (go_at_call 27; (with_reducible refine (rule_probe.calls a1_0 a1_1 a1_2 a1_3 a1_4 t133 t134 t135 t136 t137 t138 t139 t140 t141 t142 t143 t144 t145 t146 t147 t148 t149 _ A7.out).mono ?_); rintro e w10 ⟨rfl, hb⟩; have n0_ := Aside0.mk (blk_below (g := gb131) (o := .cells #[.int .i64 a1_0, .int .i64 a1_1, .int .i64 a1_2, .int .i64 a1_3, .int .i64 a1_4] 25 (0, 0)) (by (with_reducible repeat (first | refine blk_drewN ?_ _ | refine blk_drew ?_ | refine blk_alloc ?_ _)); exact BK131.out) hb); have n1_ := Aside0.mk (below_step (by repeat (first | (with_reducible first | exact HB.out | apply below_alloc | apply pw_below_drewN | apply below_drew1 | refine below_set ?_ GE131.out) | exact HB.out)) hb); clear BK131; clear HB; have BK131 := n0_; have HB := n1_; clear n0_ n1_; (try clear hb); (try clear hb2); (try clear hk); (try clear hi)) | (go_at_call 26; (with_reducible refine (posix_Right.calls k t133 t134 t135 t136 t137 t138 t139 t140 t141 t142 t143 t144 t145 t146 t147 t148 t149 true t150 _ A8.out).mono ?_); rintro e w11 ⟨rfl, hb⟩; have n0_ := Aside0.mk (blk_below (g := gb131) (o := .cells #[.int .i64 a1_0, .int .i64 a1_1, .int .i64 a1_2, .int .i64 a1_3, .int .i64 a1_4] 25 (0, 0)) (by (with_reducible repeat (first | refine blk_drewN ?_ _ | refine blk_drew ?_ | refine blk_alloc ?_ _)); exact BK131.out) hb); have n1_ := Aside0.mk (below_step (by repeat (first | (with_reducible first | exact HB.out | apply below_alloc | apply pw_below_drewN | apply below_drew1 | refine below_set ?_ GE131.out) | exact HB.out)) hb); clear BK131; clear HB; have BK131 := n0_; have HB := n1_; clear n0_ n1_; (try clear hb); (try clear hb2); (try clear hk); (try clear hi)))
      repeat (go_quiet (first | (go_at_call 25; (with_reducible refine (rule_may.calls a0 true _ A5.out).mono ?_); rintro e w' ⟨rfl, ⟨nd, rfl⟩⟩; (try first | exact ⟨rfl, _, World.drewN_drewN _ _ _⟩ | exact ⟨rfl, _, Eq.trans (World.drewN_drewN _ _ _) (congrArg (World.drewN _) (Nat.add_assoc _ _ _))⟩); have hcz9_0 : w4.cell? ⟨gb131, 0, none⟩ = some (.int .i64 a1_0) := (blk_cell BK131.out 0).trans rfl; have hcz9_1 : w4.cell? ⟨gb131, 1, none⟩ = some (.int .i64 a1_1) := (blk_cell BK131.out 1).trans rfl; have hcz9_2 : w4.cell? ⟨gb131, 2, none⟩ = some (.int .i64 a1_2) := (blk_cell BK131.out 2).trans rfl; have hcz9_3 : w4.cell? ⟨gb131, 3, none⟩ = some (.int .i64 a1_3) := (blk_cell BK131.out 3).trans rfl; have hcz9_4 : w4.cell? ⟨gb131, 4, none⟩ = some (.int .i64 a1_4) := (blk_cell BK131.out 4).trans rfl; have hfz9_0 := blk_frozen BK131.out 0; have hfz9_1 := blk_frozen BK131.out 1; have hfz9_2 := blk_frozen BK131.out 2; have hfz9_3 := blk_frozen BK131.out 3; have hfz9_4 := blk_frozen BK131.out 4) | (go_at_call 27; (with_reducible refine (rule_probe.calls a1_0 a1_1 a1_2 a1_3 a1_4 t133 t134 t135 t136 t137 t138 t139 t140 t141 t142 t143 t144 t145 t146 t147 t148 t149 _ A7.out).mono ?_); rintro e w10 ⟨rfl, hb⟩; have n0_ := Aside0.mk (blk_below (g := gb131) (o := .cells #[.int .i64 a1_0, .int .i64 a1_1, .int .i64 a1_2, .int .i64 a1_3, .int .i64 a1_4] 25 (0, 0)) (by (with_reducible repeat (first | refine blk_drewN ?_ _ | refine blk_drew ?_ | refine blk_alloc ?_ _)); exact BK131.out) hb); have n1_ := Aside0.mk (below_step (by repeat (first | (with_reducible first | exact HB.out | apply below_alloc | apply pw_below_drewN | apply below_drew1 | refine below_set ?_ GE131.out) | exact HB.out)) hb); clear BK131; clear HB; have BK131 := n0_; have HB := n1_; clear n0_ n1_; (try clear hb); (try clear hb2); (try clear hk); (try clear hi)) | (go_at_call 26; (with_reducible refine (posix_Right.calls k t133 t134 t135 t136 t137 t138 t139 t140 t141 t142 t143 t144 t145 t146 t147 t148 t149 true t150 _ A8.out).mono ?_); rintro e w11 ⟨rfl, hb⟩; have n0_ := Aside0.mk (blk_below (g := gb131) (o := .cells #[.int .i64 a1_0, .int .i64 a1_1, .int .i64 a1_2, .int .i64 a1_3, .int .i64 a1_4] 25 (0, 0)) (by (with_reducible repeat (first | refine blk_drewN ?_ _ | refine blk_drew ?_ | refine blk_alloc ?_ _)); exact BK131.out) hb); have n1_ := Aside0.mk (below_step (by repeat (first | (with_reducible first | exact HB.out | apply below_alloc | apply pw_below_drewN | apply below_drew1 | refine below_set ?_ GE131.out) | exact HB.out)) hb); clear BK131; clear HB; have BK131 := n0_; have HB := n1_; clear n0_ n1_; (try clear hb); (try clear hb2); (try clear hk); (try clear hi))); try go_wp2_with (first | (go_at_call 25; (with_reducible refine (rule_may.calls a0 true _ A5.out).mono ?_); rintro e w' ⟨rfl, ⟨nd, rfl⟩⟩; (try first | exact ⟨rfl, _, World.drewN_drewN _ _ _⟩ | exact ⟨rfl, _, Eq.trans (World.drewN_drewN _ _ _) (congrArg (World.drewN _) (Nat.add_assoc _ _ _))⟩); have hcz9_0 : w4.cell? ⟨gb131, 0, none⟩ = some (.int .i64 a1_0) := (blk_cell BK131.out 0).trans rfl; have hcz9_1 : w4.cell? ⟨gb131, 1, none⟩ = some (.int .i64 a1_1) := (blk_cell BK131.out 1).trans rfl; have hcz9_2 : w4.cell? ⟨gb131, 2, none⟩ = some (.int .i64 a1_2) := (blk_cell BK131.out 2).trans rfl; have hcz9_3 : w4.cell? ⟨gb131, 3, none⟩ = some (.int .i64 a1_3) := (blk_cell BK131.out 3).trans rfl; have hcz9_4 : w4.cell? ⟨gb131, 4, none⟩ = some (.int .i64 a1_4) := (blk_cell BK131.out 4).trans rfl; have hfz9_0 := blk_frozen BK131.out 0; have hfz9_1 := blk_frozen BK131.out 1; have hfz9_2 := blk_frozen BK131.out 2; have hfz9_3 := blk_frozen BK131.out 3; have hfz9_4 := blk_frozen BK131.out 4) | (go_at_call 27; (with_reducible refine (rule_probe.calls a1_0 a1_1 a1_2 a1_3 a1_4 t133 t134 t135 t136 t137 t138 t139 t140 t141 t142 t143 t144 t145 t146 t147 t148 t149 _ A7.out).mono ?_); rintro e w10 ⟨rfl, hb⟩; have n0_ := Aside0.mk (blk_below (g := gb131) (o := .cells #[.int .i64 a1_0, .int .i64 a1_1, .int .i64 a1_2, .int .i64 a1_3, .int .i64 a1_4] 25 (0, 0)) (by (with_reducible repeat (first | refine blk_drewN ?_ _ | refine blk_drew ?_ | refine blk_alloc ?_ _)); exact BK131.out) hb); have n1_ := Aside0.mk (below_step (by repeat (first | (with_reducible first | exact HB.out | apply below_alloc | apply pw_below_drewN | apply below_drew1 | refine below_set ?_ GE131.out) | exact HB.out)) hb); clear BK131; clear HB; have BK131 := n0_; have HB := n1_; clear n0_ n1_; (try clear hb); (try clear hb2); (try clear hk); (try clear hi)) | (go_at_call 26; (with_reducible refine (posix_Right.calls k t133 t134 t135 t136 t137 t138 t139 t140 t141 t142 t143 t144 t145 t146 t147 t148 t149 true t150 _ A8.out).mono ?_); rintro e w11 ⟨rfl, hb⟩; have n0_ := Aside0.mk (blk_below (g := gb131) (o := .cells #[.int .i64 a1_0, .int .i64 a1_1, .int .i64 a1_2, .int .i64 a1_3, .int .i64 a1_4] 25 (0, 0)) (by (with_reducible repeat (first | refine blk_drewN ?_ _ | refine blk_drew ?_ | refine blk_alloc ?_ _)); exact BK131.out) hb); have n1_ := Aside0.mk (below_step (by repeat (first | (with_reducible first | exact HB.out | apply below_alloc | apply pw_below_drewN | apply below_drew1 | refine below_set ?_ GE131.out) | exact HB.out)) hb); clear BK131; clear HB; have BK131 := n0_; have HB := n1_; clear n0_ n1_; (try clear hb); (try clear hb2); (try clear hk); (try clear hi))))
      go_meet
      case rel => exact ⟨_, (!t150), (by first | rfl | (simp; done) | (simp [*]; done)), H', ⟨by first | omega | exact Nat.le_refl _⟩, ⟨by (with_reducible repeat (first | refine blk_drewN ?_ _ | refine blk_drew ?_ | refine blk_alloc ?_ _)); exact BK131.out⟩, ⟨by repeat (first | (with_reducible first | exact HB.out | apply below_alloc | apply pw_below_drewN | apply below_drew1 | refine below_set ?_ GE131.out) | exact HB.out)⟩⟩
    · replace c6 := Bool.eq_false_iff.mpr c6
      subst c6
      have H1 : (rule_Day.j0 k a0 true a1_0 a1_1 a1_2 a1_3 a1_4) = some (r1, r2) := by rw [if_neg (show ¬ (false = true) by decide)] at H; exact H
      clear H
      have H := H1
      clear H1
      have H' := Aside0.mk H
      clear H
      go_wp2_with (first | (go_at_call 25; (with_reducible refine (rule_may.calls a0 false _ A5.out).mono ?_); rintro e w' ⟨rfl, ⟨nd, rfl⟩⟩; (try first | exact ⟨rfl, _, World.drewN_drewN _ _ _⟩ | exact ⟨rfl, _, Eq.trans (World.drewN_drewN _ _ _) (congrArg (World.drewN _) (Nat.add_assoc _ _ _))⟩)))
      repeat (go_quiet (first | (go_at_call 25; (with_reducible refine (rule_may.calls a0 false _ A5.out).mono ?_); rintro e w' ⟨rfl, ⟨nd, rfl⟩⟩; (try first | exact ⟨rfl, _, World.drewN_drewN _ _ _⟩ | exact ⟨rfl, _, Eq.trans (World.drewN_drewN _ _ _) (congrArg (World.drewN _) (Nat.add_assoc _ _ _))⟩))); try go_wp2_with (first | (go_at_call 25; (with_reducible refine (rule_may.calls a0 false _ A5.out).mono ?_); rintro e w' ⟨rfl, ⟨nd, rfl⟩⟩; (try first | exact ⟨rfl, _, World.drewN_drewN _ _ _⟩ | exact ⟨rfl, _, Eq.trans (World.drewN_drewN _ _ _) (congrArg (World.drewN _) (Nat.add_assoc _ _ _))⟩))))
      go_meet
      case rel => exact ⟨_, (true), (by first | rfl | (simp; done) | (simp [*]; done)), H', ⟨by first | omega | exact Nat.le_refl _⟩, ⟨by (with_reducible repeat (first | refine blk_drewN ?_ _ | refine blk_drew ?_ | refine blk_alloc ?_ _)); exact BK131.out⟩, ⟨by repeat (first | (with_reducible first | exact HB.out | apply below_alloc | apply pw_below_drewN | apply below_drew1 | refine below_set ?_ GE131.out) | exact HB.out)⟩⟩
  case rest =>
    clear HC3
    try clear c1
    try clear p2
    try clear c6
    try clear hcz9_0
    try clear hcz9_1
    try clear hcz9_2
    try clear hcz9_3
    try clear hcz9_4
    try clear hfz9_0
    try clear hfz9_1
    try clear hfz9_2
    try clear hfz9_3
    try clear hfz9_4
    obtain ⟨kq, x21_2, rfl, HA, HJ2, BK131, HB⟩ := hcut
    cases kq with
    | zero => exact absurd HA.out (by simp [rule_Day.j0])
    | succ kj2 =>
      have H := HA.out
      clear HA
      simp only [rule_Day.j0] at H
      by_cases c12 : x21_2 = true
      · subst c12
        have H1 : (some (0, 1)) = some (r1, r2) := by rw [if_pos rfl] at H; exact H
        clear H
        have H := H1
        clear H1
        simp only [Option.some.injEq, Prod.mk.injEq] at H
        obtain ⟨rfl, rfl⟩ := H
        go_wp2
        repeat (go_quiet (fail); try go_wp2)
        go_ret2
        exact ⟨by first | rfl | (simp [errW_none, errW_some] <;> rfl) | (simp [*, errW_none, errW_some] <;> rfl), by repeat (first | (with_reducible first | exact HB.out | apply below_alloc | apply pw_below_drewN | apply below_drew1 | refine below_set ?_ GE131.out) | exact HB.out)⟩
      · replace c12 := Bool.eq_false_iff.mpr c12
        subst c12
        have H1 : ((civil_Days.f a0 1 1).bind fun bt151 => (if a1_0 = 1 then ((civil_Leap.f a0).bind fun t153 => (if t153 = true then (if (wrap64 (a1_1 - 1)) ≥ 59 then (some (wrap64 (bt151.1 + (wrap64 ((wrap64 (a1_1 - 1)) + 1))), 0)) else (some (wrap64 (bt151.1 + (wrap64 (a1_1 - 1))), 0))) else (some (wrap64 (bt151.1 + (wrap64 (a1_1 - 1))), 0)))) else (if a1_0 = 2 then (some (wrap64 (bt151.1 + a1_1), 0)) else ((civil_Days.f a0 a1_1 1).bind fun bt154 => ((civil_Weekday.f bt154.1).bind fun t156 => ((civil_Length.f a0 a1_1).bind fun t157 => (if (wrap64 ((Int.tmod (wrap64 ((wrap64 (a1_3 - t156)) + 7)) 7) + (wrap64 (7 * (wrap64 (a1_2 - 1)))))) ≥ t157 then (some (wrap64 (bt154.1 + (wrap64 ((wrap64 ((Int.tmod (wrap64 ((wrap64 (a1_3 - t156)) + 7)) 7) + (wrap64 (7 * (wrap64 (a1_2 - 1)))))) - 7))), 0)) else (some (wrap64 (bt154.1 + (wrap64 ((Int.tmod (wrap64 ((wrap64 (a1_3 - t156)) + 7)) 7) + (wrap64 (7 * (wrap64 (a1_2 - 1))))))), 0))))))))) = some (r1, r2) := by rw [if_neg (show ¬ (false = true) by decide)] at H; exact H
        clear H
        have H := H1
        clear H1
        replace H := Option.bind_eq_some_iff.mp H
        obtain ⟨⟨t151, t152⟩, A130, H⟩ := H
        replace H : (if a1_0 = 1 then ((civil_Leap.f a0).bind fun t153 => (if t153 = true then (if (wrap64 (a1_1 - 1)) ≥ 59 then (some (wrap64 (t151 + (wrap64 ((wrap64 (a1_1 - 1)) + 1))), 0)) else (some (wrap64 (t151 + (wrap64 (a1_1 - 1))), 0))) else (some (wrap64 (t151 + (wrap64 (a1_1 - 1))), 0)))) else (if a1_0 = 2 then (some (wrap64 (t151 + a1_1), 0)) else ((civil_Days.f a0 a1_1 1).bind fun bt154 => ((civil_Weekday.f bt154.1).bind fun t156 => ((civil_Length.f a0 a1_1).bind fun t157 => (if (wrap64 ((Int.tmod (wrap64 ((wrap64 (a1_3 - t156)) + 7)) 7) + (wrap64 (7 * (wrap64 (a1_2 - 1)))))) ≥ t157 then (some (wrap64 (bt154.1 + (wrap64 ((wrap64 ((Int.tmod (wrap64 ((wrap64 (a1_3 - t156)) + 7)) 7) + (wrap64 (7 * (wrap64 (a1_2 - 1)))))) - 7))), 0)) else (some (wrap64 (bt154.1 + (wrap64 ((Int.tmod (wrap64 ((wrap64 (a1_3 - t156)) + 7)) 7) + (wrap64 (7 * (wrap64 (a1_2 - 1))))))), 0)))))))) = some (r1, r2) := H
        have A13 := Aside0.mk A130
        clear A130
        by_cases c14 : a1_0 = 1
        · rw [if_pos c14] at H
          have c14b0 : (a1_0 == 1) = true := beq_iff_eq.mpr c14
          have c14b1 : (a1_0 != 1) = false := bne_eq_false_iff_eq.mpr c14
          clear c14
          replace H := Option.bind_eq_some_iff.mp H
          obtain ⟨t153, A150, H⟩ := H
          replace H : (if t153 = true then (if (wrap64 (a1_1 - 1)) ≥ 59 then (some (wrap64 (t151 + (wrap64 ((wrap64 (a1_1 - 1)) + 1))), 0)) else (some (wrap64 (t151 + (wrap64 (a1_1 - 1))), 0))) else (some (wrap64 (t151 + (wrap64 (a1_1 - 1))), 0))) = some (r1, r2) := H
          have A15 := Aside0.mk A150
          clear A150
          by_cases c16 : t153 = true
          · subst c16
            have H1 : (if (wrap64 (a1_1 - 1)) ≥ 59 then (some (wrap64 (t151 + (wrap64 ((wrap64 (a1_1 - 1)) + 1))), 0)) else (some (wrap64 (t151 + (wrap64 (a1_1 - 1))), 0))) = some (r1, r2) := by rw [if_pos rfl] at H; exact H
            clear H
            have H := H1
            clear H1
            by_cases c17 : (wrap64 (a1_1 - 1)) ≥ 59
            · rw [if_pos c17] at H
              have c17b0 : decide (59 ≤ (wrap64 (a1_1 - 1))) = true := decide_eq_true c17
              clear c17
              simp only [Option.some.injEq, Prod.mk.injEq] at H
              obtain ⟨rfl, rfl⟩ := H
              go_wp2_with (first | (go_at_call 24; (with_reducible refine (civil_Days.calls a0 1 1 t151 t152 _ ?side1 A13.out).mono ?_); (case side1 => exact GL.below HG.out (by repeat (first | (with_reducible first | exact HB.out | apply below_alloc | apply pw_below_drewN | apply below_drew1 | refine below_set ?_ GE131.out) | exact HB.out))); rintro e w18 ⟨rfl, hb⟩; have n0_ := Aside0.mk (blk_below (g := gb131) (o := .cells #[.int .i64 a1_0, .int .i64 a1_1, .int .i64 a1_2, .int .i64 a1_3, .int .i64 a1_4] 25 (0, 0)) (by (with_reducible repeat (first | refine blk_drewN ?_ _ | refine blk_drew ?_ | refine blk_alloc ?_ _)); exact BK131.out) hb); have n1_ := Aside0.mk (below_step (by repeat (first | (with_reducible first | exact HB.out | apply below_alloc | apply pw_below_drewN | apply below_drew1 | refine below_set ?_ GE131.out) | exact HB.out)) hb); clear BK131; clear HB; have BK131 := n0_; have HB := n1_; clear n0_ n1_; (try clear hb); (try clear hb2); (try clear hk); (try clear hi); have hcz19_0 : w18.cell? ⟨gb131, 0, none⟩ = some (.int .i64 a1_0) := (blk_cell BK131.out 0).trans rfl; have hcz19_1 : w18.cell? ⟨gb131, 1, none⟩ = some (.int .i64 a1_1) := (blk_cell BK131.out 1).trans rfl; have hcz19_2 : w18.cell? ⟨gb131, 2, none⟩ = some (.int .i64 a1_2) := (blk_cell BK131.out 2).trans rfl; have hcz19_3 : w18.cell? ⟨gb131, 3, none⟩ = some (.int .i64 a1_3) := (blk_cell BK131.out 3).trans rfl; have hcz19_4 : w18.cell? ⟨gb131, 4, none⟩ = some (.int .i64 a1_4) := (blk_cell BK131.out 4).trans rfl; have hfz19_0 := blk_frozen BK131.out 0; have hfz19_1 := blk_frozen BK131.out 1; have hfz19_2 := blk_frozen BK131.out 2; have hfz19_3 := blk_frozen BK131.out 3; have hfz19_4 := blk_frozen BK131.out 4) | (go_at_call 28; (with_reducible refine (civil_Leap.calls a0 true _ A15.out).mono ?_); rintro e w' ⟨rfl, ⟨nd, rfl⟩⟩; (try first | exact ⟨rfl, _, World.drewN_drewN _ _ _⟩ | exact ⟨rfl, _, Eq.trans (World.drewN_drewN _ _ _) (congrArg (World.drewN _) (Nat.add_assoc _ _ _))⟩)))
              repeat (go_quiet (first | (go_at_call 24; (with_reducible refine (civil_Days.calls a0 1 1 t151 t152 _ ?side1 A13.out).mono ?_); (case side1 => exact GL.below HG.out (by repeat (first | (with_reducible first | exact HB.out | apply below_alloc | apply pw_below_drewN | apply below_drew1 | refine below_set ?_ GE131.out) | exact HB.out))); rintro e w18 ⟨rfl, hb⟩; have n0_ := Aside0.mk (blk_below (g := gb131) (o := .cells #[.int .i64 a1_0, .int .i64 a1_1, .int .i64 a1_2, .int .i64 a1_3, .int .i64 a1_4] 25 (0, 0)) (by (with_reducible repeat (first | refine blk_drewN ?_ _ | refine blk_drew ?_ | refine blk_alloc ?_ _)); exact BK131.out) hb); have n1_ := Aside0.mk (below_step (by repeat (first | (with_reducible first | exact HB.out | apply below_alloc | apply pw_below_drewN | apply below_drew1 | refine below_set ?_ GE131.out) | exact HB.out)) hb); clear BK131; clear HB; have BK131 := n0_; have HB := n1_; clear n0_ n1_; (try clear hb); (try clear hb2); (try clear hk); (try clear hi); have hcz19_0 : w18.cell? ⟨gb131, 0, none⟩ = some (.int .i64 a1_0) := (blk_cell BK131.out 0).trans rfl; have hcz19_1 : w18.cell? ⟨gb131, 1, none⟩ = some (.int .i64 a1_1) := (blk_cell BK131.out 1).trans rfl; have hcz19_2 : w18.cell? ⟨gb131, 2, none⟩ = some (.int .i64 a1_2) := (blk_cell BK131.out 2).trans rfl; have hcz19_3 : w18.cell? ⟨gb131, 3, none⟩ = some (.int .i64 a1_3) := (blk_cell BK131.out 3).trans rfl; have hcz19_4 : w18.cell? ⟨gb131, 4, none⟩ = some (.int .i64 a1_4) := (blk_cell BK131.out 4).trans rfl; have hfz19_0 := blk_frozen BK131.out 0; have hfz19_1 := blk_frozen BK131.out 1; have hfz19_2 := blk_frozen BK131.out 2; have hfz19_3 := blk_frozen BK131.out 3; have hfz19_4 := blk_frozen BK131.out 4) | (go_at_call 28; (with_reducible refine (civil_Leap.calls a0 true _ A15.out).mono ?_); rintro e w' ⟨rfl, ⟨nd, rfl⟩⟩; (try first | exact ⟨rfl, _, World.drewN_drewN _ _ _⟩ | exact ⟨rfl, _, Eq.trans (World.drewN_drewN _ _ _) (congrArg (World.drewN _) (Nat.add_assoc _ _ _))⟩))); try go_wp2_with (first | (go_at_call 24; (with_reducible refine (civil_Days.calls a0 1 1 t151 t152 _ ?side1 A13.out).mono ?_); (case side1 => exact GL.below HG.out (by repeat (first | (with_reducible first | exact HB.out | apply below_alloc | apply pw_below_drewN | apply below_drew1 | refine below_set ?_ GE131.out) | exact HB.out))); rintro e w18 ⟨rfl, hb⟩; have n0_ := Aside0.mk (blk_below (g := gb131) (o := .cells #[.int .i64 a1_0, .int .i64 a1_1, .int .i64 a1_2, .int .i64 a1_3, .int .i64 a1_4] 25 (0, 0)) (by (with_reducible repeat (first | refine blk_drewN ?_ _ | refine blk_drew ?_ | refine blk_alloc ?_ _)); exact BK131.out) hb); have n1_ := Aside0.mk (below_step (by repeat (first | (with_reducible first | exact HB.out | apply below_alloc | apply pw_below_drewN | apply below_drew1 | refine below_set ?_ GE131.out) | exact HB.out)) hb); clear BK131; clear HB; have BK131 := n0_; have HB := n1_; clear n0_ n1_; (try clear hb); (try clear hb2); (try clear hk); (try clear hi); have hcz19_0 : w18.cell? ⟨gb131, 0, none⟩ = some (.int .i64 a1_0) := (blk_cell BK131.out 0).trans rfl; have hcz19_1 : w18.cell? ⟨gb131, 1, none⟩ = some (.int .i64 a1_1) := (blk_cell BK131.out 1).trans rfl; have hcz19_2 : w18.cell? ⟨gb131, 2, none⟩ = some (.int .i64 a1_2) := (blk_cell BK131.out 2).trans rfl; have hcz19_3 : w18.cell? ⟨gb131, 3, none⟩ = some (.int .i64 a1_3) := (blk_cell BK131.out 3).trans rfl; have hcz19_4 : w18.cell? ⟨gb131, 4, none⟩ = some (.int .i64 a1_4) := (blk_cell BK131.out 4).trans rfl; have hfz19_0 := blk_frozen BK131.out 0; have hfz19_1 := blk_frozen BK131.out 1; have hfz19_2 := blk_frozen BK131.out 2; have hfz19_3 := blk_frozen BK131.out 3; have hfz19_4 := blk_frozen BK131.out 4) | (go_at_call 28; (with_reducible refine (civil_Leap.calls a0 true _ A15.out).mono ?_); rintro e w' ⟨rfl, ⟨nd, rfl⟩⟩; (try first | exact ⟨rfl, _, World.drewN_drewN _ _ _⟩ | exact ⟨rfl, _, Eq.trans (World.drewN_drewN _ _ _) (congrArg (World.drewN _) (Nat.add_assoc _ _ _))⟩))))
              go_ret2
              exact ⟨by first | rfl | (simp [errW_none, errW_some] <;> rfl) | (simp [*, errW_none, errW_some] <;> rfl), by repeat (first | (with_reducible first | exact HB.out | apply below_alloc | apply pw_below_drewN | apply below_drew1 | refine below_set ?_ GE131.out) | exact HB.out)⟩
            · rw [if_neg c17] at H
              have c17b0 : decide (59 ≤ (wrap64 (a1_1 - 1))) = false := decide_eq_false c17
              clear c17
              simp only [Option.some.injEq, Prod.mk.injEq] at H
              obtain ⟨rfl, rfl⟩ := H
              go_wp2_with (first | (go_at_call 24; (with_reducible refine (civil_Days.calls a0 1 1 t151 t152 _ ?side1 A13.out).mono ?_); (case side1 => exact GL.below HG.out (by repeat (first | (with_reducible first | exact HB.out | apply below_alloc | apply pw_below_drewN | apply below_drew1 | refine below_set ?_ GE131.out) | exact HB.out))); rintro e w20 ⟨rfl, hb⟩; have n0_ := Aside0.mk (blk_below (g := gb131) (o := .cells #[.int .i64 a1_0, .int .i64 a1_1, .int .i64 a1_2, .int .i64 a1_3, .int .i64 a1_4] 25 (0, 0)) (by (with_reducible repeat (first | refine blk_drewN ?_ _ | refine blk_drew ?_ | refine blk_alloc ?_ _)); exact BK131.out) hb); have n1_ := Aside0.mk (below_step (by repeat (first | (with_reducible first | exact HB.out | apply below_alloc | apply pw_below_drewN | apply below_drew1 | refine below_set ?_ GE131.out) | exact HB.out)) hb); clear BK131; clear HB; have BK131 := n0_; have HB := n1_; clear n0_ n1_; (try clear hb); (try clear hb2); (try clear hk); (try clear hi); have hcz21_0 : w20.cell? ⟨gb131, 0, none⟩ = some (.int .i64 a1_0) := (blk_cell BK131.out 0).trans rfl; have hcz21_1 : w20.cell? ⟨gb131, 1, none⟩ = some (.int .i64 a1_1) := (blk_cell BK131.out 1).trans rfl; have hcz21_2 : w20.cell? ⟨gb131, 2, none⟩ = some (.int .i64 a1_2) := (blk_cell BK131.out 2).trans rfl; have hcz21_3 : w20.cell? ⟨gb131, 3, none⟩ = some (.int .i64 a1_3) := (blk_cell BK131.out 3).trans rfl; have hcz21_4 : w20.cell? ⟨gb131, 4, none⟩ = some (.int .i64 a1_4) := (blk_cell BK131.out 4).trans rfl; have hfz21_0 := blk_frozen BK131.out 0; have hfz21_1 := blk_frozen BK131.out 1; have hfz21_2 := blk_frozen BK131.out 2; have hfz21_3 := blk_frozen BK131.out 3; have hfz21_4 := blk_frozen BK131.out 4) | (go_at_call 28; (with_reducible refine (civil_Leap.calls a0 true _ A15.out).mono ?_); rintro e w' ⟨rfl, ⟨nd, rfl⟩⟩; (try first | exact ⟨rfl, _, World.drewN_drewN _ _ _⟩ | exact ⟨rfl, _, Eq.trans (World.drewN_drewN _ _ _) (congrArg (World.drewN _) (Nat.add_assoc _ _ _))⟩)))
              repeat (go_quiet (first | (go_at_call 24; (with_reducible refine (civil_Days.calls a0 1 1 t151 t152 _ ?side1 A13.out).mono ?_); (case side1 => exact GL.below HG.out (by repeat (first | (with_reducible first | exact HB.out | apply below_alloc | apply pw_below_drewN | apply below_drew1 | refine below_set ?_ GE131.out) | exact HB.out))); rintro e w20 ⟨rfl, hb⟩; have n0_ := Aside0.mk (blk_below (g := gb131) (o := .cells #[.int .i64 a1_0, .int .i64 a1_1, .int .i64 a1_2, .int .i64 a1_3, .int .i64 a1_4] 25 (0, 0)) (by (with_reducible repeat (first | refine blk_drewN ?_ _ | refine blk_drew ?_ | refine blk_alloc ?_ _)); exact BK131.out) hb); have n1_ := Aside0.mk (below_step (by repeat (first | (with_reducible first | exact HB.out | apply below_alloc | apply pw_below_drewN | apply below_drew1 | refine below_set ?_ GE131.out) | exact HB.out)) hb); clear BK131; clear HB; have BK131 := n0_; have HB := n1_; clear n0_ n1_; (try clear hb); (try clear hb2); (try clear hk); (try clear hi); have hcz21_0 : w20.cell? ⟨gb131, 0, none⟩ = some (.int .i64 a1_0) := (blk_cell BK131.out 0).trans rfl; have hcz21_1 : w20.cell? ⟨gb131, 1, none⟩ = some (.int .i64 a1_1) := (blk_cell BK131.out 1).trans rfl; have hcz21_2 : w20.cell? ⟨gb131, 2, none⟩ = some (.int .i64 a1_2) := (blk_cell BK131.out 2).trans rfl; have hcz21_3 : w20.cell? ⟨gb131, 3, none⟩ = some (.int .i64 a1_3) := (blk_cell BK131.out 3).trans rfl; have hcz21_4 : w20.cell? ⟨gb131, 4, none⟩ = some (.int .i64 a1_4) := (blk_cell BK131.out 4).trans rfl; have hfz21_0 := blk_frozen BK131.out 0; have hfz21_1 := blk_frozen BK131.out 1; have hfz21_2 := blk_frozen BK131.out 2; have hfz21_3 := blk_frozen BK131.out 3; have hfz21_4 := blk_frozen BK131.out 4) | (go_at_call 28; (with_reducible refine (civil_Leap.calls a0 true _ A15.out).mono ?_); rintro e w' ⟨rfl, ⟨nd, rfl⟩⟩; (try first | exact ⟨rfl, _, World.drewN_drewN _ _ _⟩ | exact ⟨rfl, _, Eq.trans (World.drewN_drewN _ _ _) (congrArg (World.drewN _) (Nat.add_assoc _ _ _))⟩))); try go_wp2_with (first | (go_at_call 24; (with_reducible refine (civil_Days.calls a0 1 1 t151 t152 _ ?side1 A13.out).mono ?_); (case side1 => exact GL.below HG.out (by repeat (first | (with_reducible first | exact HB.out | apply below_alloc | apply pw_below_drewN | apply below_drew1 | refine below_set ?_ GE131.out) | exact HB.out))); rintro e w20 ⟨rfl, hb⟩; have n0_ := Aside0.mk (blk_below (g := gb131) (o := .cells #[.int .i64 a1_0, .int .i64 a1_1, .int .i64 a1_2, .int .i64 a1_3, .int .i64 a1_4] 25 (0, 0)) (by (with_reducible repeat (first | refine blk_drewN ?_ _ | refine blk_drew ?_ | refine blk_alloc ?_ _)); exact BK131.out) hb); have n1_ := Aside0.mk (below_step (by repeat (first | (with_reducible first | exact HB.out | apply below_alloc | apply pw_below_drewN | apply below_drew1 | refine below_set ?_ GE131.out) | exact HB.out)) hb); clear BK131; clear HB; have BK131 := n0_; have HB := n1_; clear n0_ n1_; (try clear hb); (try clear hb2); (try clear hk); (try clear hi); have hcz21_0 : w20.cell? ⟨gb131, 0, none⟩ = some (.int .i64 a1_0) := (blk_cell BK131.out 0).trans rfl; have hcz21_1 : w20.cell? ⟨gb131, 1, none⟩ = some (.int .i64 a1_1) := (blk_cell BK131.out 1).trans rfl; have hcz21_2 : w20.cell? ⟨gb131, 2, none⟩ = some (.int .i64 a1_2) := (blk_cell BK131.out 2).trans rfl; have hcz21_3 : w20.cell? ⟨gb131, 3, none⟩ = some (.int .i64 a1_3) := (blk_cell BK131.out 3).trans rfl; have hcz21_4 : w20.cell? ⟨gb131, 4, none⟩ = some (.int .i64 a1_4) := (blk_cell BK131.out 4).trans rfl; have hfz21_0 := blk_frozen BK131.out 0; have hfz21_1 := blk_frozen BK131.out 1; have hfz21_2 := blk_frozen BK131.out 2; have hfz21_3 := blk_frozen BK131.out 3; have hfz21_4 := blk_frozen BK131.out 4) | (go_at_call 28; (with_reducible refine (civil_Leap.calls a0 true _ A15.out).mono ?_); rintro e w' ⟨rfl, ⟨nd, rfl⟩⟩; (try first | exact ⟨rfl, _, World.drewN_drewN _ _ _⟩ | exact ⟨rfl, _, Eq.trans (World.drewN_drewN _ _ _) (congrArg (World.drewN _) (Nat.add_assoc _ _ _))⟩))))
              go_ret2
              exact ⟨by first | rfl | (simp [errW_none, errW_some] <;> rfl) | (simp [*, errW_none, errW_some] <;> rfl), by repeat (first | (with_reducible first | exact HB.out | apply below_alloc | apply pw_below_drewN | apply below_drew1 | refine below_set ?_ GE131.out) | exact HB.out)⟩
          · replace c16 := Bool.eq_false_iff.mpr c16
            subst c16
            have H1 : (some (wrap64 (t151 + (wrap64 (a1_1 - 1))), 0)) = some (r1, r2) := by rw [if_neg (show ¬ (false = true) by decide)] at H; exact H
            clear H
            have H := H1
            clear H1
            simp only [Option.some.injEq, Prod.mk.injEq] at H
            obtain ⟨rfl, rfl⟩ := H
            go_wp2_with (first | (go_at_call 24; (with_reducible refine (civil_Days.calls a0 1 1 t151 t152 _ ?side1 A13.out).mono ?_); (case side1 => exact GL.below HG.out (by repeat (first | (with_reducible first | exact HB.out | apply below_alloc | apply pw_below_drewN | apply below_drew1 | refine below_set ?_ GE131.out) | exact HB.out))); rintro e w22 ⟨rfl, hb⟩; have n0_ := Aside0.mk (blk_below (g := gb131) (o := .cells #[.int .i64 a1_0, .int .i64 a1_1, .int .i64 a1_2, .int .i64 a1_3, .int .i64 a1_4] 25 (0, 0)) (by (with_reducible repeat (first | refine blk_drewN ?_ _ | refine blk_drew ?_ | refine blk_alloc ?_ _)); exact BK131.out) hb); have n1_ := Aside0.mk (below_step (by repeat (first | (with_reducible first | exact HB.out | apply below_alloc | apply pw_below_drewN | apply below_drew1 | refine below_set ?_ GE131.out) | exact HB.out)) hb); clear BK131; clear HB; have BK131 := n0_; have HB := n1_; clear n0_ n1_; (try clear hb); (try clear hb2); (try clear hk); (try clear hi); have hcz23_0 : w22.cell? ⟨gb131, 0, none⟩ = some (.int .i64 a1_0) := (blk_cell BK131.out 0).trans rfl; have hcz23_1 : w22.cell? ⟨gb131, 1, none⟩ = some (.int .i64 a1_1) := (blk_cell BK131.out 1).trans rfl; have hcz23_2 : w22.cell? ⟨gb131, 2, none⟩ = some (.int .i64 a1_2) := (blk_cell BK131.out 2).trans rfl; have hcz23_3 : w22.cell? ⟨gb131, 3, none⟩ = some (.int .i64 a1_3) := (blk_cell BK131.out 3).trans rfl; have hcz23_4 : w22.cell? ⟨gb131, 4, none⟩ = some (.int .i64 a1_4) := (blk_cell BK131.out 4).trans rfl; have hfz23_0 := blk_frozen BK131.out 0; have hfz23_1 := blk_frozen BK131.out 1; have hfz23_2 := blk_frozen BK131.out 2; have hfz23_3 := blk_frozen BK131.out 3; have hfz23_4 := blk_frozen BK131.out 4) | (go_at_call 28; (with_reducible refine (civil_Leap.calls a0 false _ A15.out).mono ?_); rintro e w' ⟨rfl, ⟨nd, rfl⟩⟩; (try first | exact ⟨rfl, _, World.drewN_drewN _ _ _⟩ | exact ⟨rfl, _, Eq.trans (World.drewN_drewN _ _ _) (congrArg (World.drewN _) (Nat.add_assoc _ _ _))⟩)))
            repeat (go_quiet (first | (go_at_call 24; (with_reducible refine (civil_Days.calls a0 1 1 t151 t152 _ ?side1 A13.out).mono ?_); (case side1 => exact GL.below HG.out (by repeat (first | (with_reducible first | exact HB.out | apply below_alloc | apply pw_below_drewN | apply below_drew1 | refine below_set ?_ GE131.out) | exact HB.out))); rintro e w22 ⟨rfl, hb⟩; have n0_ := Aside0.mk (blk_below (g := gb131) (o := .cells #[.int .i64 a1_0, .int .i64 a1_1, .int .i64 a1_2, .int .i64 a1_3, .int .i64 a1_4] 25 (0, 0)) (by (with_reducible repeat (first | refine blk_drewN ?_ _ | refine blk_drew ?_ | refine blk_alloc ?_ _)); exact BK131.out) hb); have n1_ := Aside0.mk (below_step (by repeat (first | (with_reducible first | exact HB.out | apply below_alloc | apply pw_below_drewN | apply below_drew1 | refine below_set ?_ GE131.out) | exact HB.out)) hb); clear BK131; clear HB; have BK131 := n0_; have HB := n1_; clear n0_ n1_; (try clear hb); (try clear hb2); (try clear hk); (try clear hi); have hcz23_0 : w22.cell? ⟨gb131, 0, none⟩ = some (.int .i64 a1_0) := (blk_cell BK131.out 0).trans rfl; have hcz23_1 : w22.cell? ⟨gb131, 1, none⟩ = some (.int .i64 a1_1) := (blk_cell BK131.out 1).trans rfl; have hcz23_2 : w22.cell? ⟨gb131, 2, none⟩ = some (.int .i64 a1_2) := (blk_cell BK131.out 2).trans rfl; have hcz23_3 : w22.cell? ⟨gb131, 3, none⟩ = some (.int .i64 a1_3) := (blk_cell BK131.out 3).trans rfl; have hcz23_4 : w22.cell? ⟨gb131, 4, none⟩ = some (.int .i64 a1_4) := (blk_cell BK131.out 4).trans rfl; have hfz23_0 := blk_frozen BK131.out 0; have hfz23_1 := blk_frozen BK131.out 1; have hfz23_2 := blk_frozen BK131.out 2; have hfz23_3 := blk_frozen BK131.out 3; have hfz23_4 := blk_frozen BK131.out 4) | (go_at_call 28; (with_reducible refine (civil_Leap.calls a0 false _ A15.out).mono ?_); rintro e w' ⟨rfl, ⟨nd, rfl⟩⟩; (try first | exact ⟨rfl, _, World.drewN_drewN _ _ _⟩ | exact ⟨rfl, _, Eq.trans (World.drewN_drewN _ _ _) (congrArg (World.drewN _) (Nat.add_assoc _ _ _))⟩))); try go_wp2_with (first | (go_at_call 24; (with_reducible refine (civil_Days.calls a0 1 1 t151 t152 _ ?side1 A13.out).mono ?_); (case side1 => exact GL.below HG.out (by repeat (first | (with_reducible first | exact HB.out | apply below_alloc | apply pw_below_drewN | apply below_drew1 | refine below_set ?_ GE131.out) | exact HB.out))); rintro e w22 ⟨rfl, hb⟩; have n0_ := Aside0.mk (blk_below (g := gb131) (o := .cells #[.int .i64 a1_0, .int .i64 a1_1, .int .i64 a1_2, .int .i64 a1_3, .int .i64 a1_4] 25 (0, 0)) (by (with_reducible repeat (first | refine blk_drewN ?_ _ | refine blk_drew ?_ | refine blk_alloc ?_ _)); exact BK131.out) hb); have n1_ := Aside0.mk (below_step (by repeat (first | (with_reducible first | exact HB.out | apply below_alloc | apply pw_below_drewN | apply below_drew1 | refine below_set ?_ GE131.out) | exact HB.out)) hb); clear BK131; clear HB; have BK131 := n0_; have HB := n1_; clear n0_ n1_; (try clear hb); (try clear hb2); (try clear hk); (try clear hi); have hcz23_0 : w22.cell? ⟨gb131, 0, none⟩ = some (.int .i64 a1_0) := (blk_cell BK131.out 0).trans rfl; have hcz23_1 : w22.cell? ⟨gb131, 1, none⟩ = some (.int .i64 a1_1) := (blk_cell BK131.out 1).trans rfl; have hcz23_2 : w22.cell? ⟨gb131, 2, none⟩ = some (.int .i64 a1_2) := (blk_cell BK131.out 2).trans rfl; have hcz23_3 : w22.cell? ⟨gb131, 3, none⟩ = some (.int .i64 a1_3) := (blk_cell BK131.out 3).trans rfl; have hcz23_4 : w22.cell? ⟨gb131, 4, none⟩ = some (.int .i64 a1_4) := (blk_cell BK131.out 4).trans rfl; have hfz23_0 := blk_frozen BK131.out 0; have hfz23_1 := blk_frozen BK131.out 1; have hfz23_2 := blk_frozen BK131.out 2; have hfz23_3 := blk_frozen BK131.out 3; have hfz23_4 := blk_frozen BK131.out 4) | (go_at_call 28; (with_reducible refine (civil_Leap.calls a0 false _ A15.out).mono ?_); rintro e w' ⟨rfl, ⟨nd, rfl⟩⟩; (try first | exact ⟨rfl, _, World.drewN_drewN _ _ _⟩ | exact ⟨rfl, _, Eq.trans (World.drewN_drewN _ _ _) (congrArg (World.drewN _) (Nat.add_assoc _ _ _))⟩))))
            go_ret2
            exact ⟨by first | rfl | (simp [errW_none, errW_some] <;> rfl) | (simp [*, errW_none, errW_some] <;> rfl), by repeat (first | (with_reducible first | exact HB.out | apply below_alloc | apply pw_below_drewN | apply below_drew1 | refine below_set ?_ GE131.out) | exact HB.out)⟩
        · rw [if_neg c14] at H
          have c14b0 : (a1_0 == 1) = false := beq_eq_false_iff_ne.mpr c14
          have c14b1 : (a1_0 != 1) = true := bne_iff_ne.mpr c14
          by_cases c24 : a1_0 = 2
          · rw [if_pos c24] at H
            have c24b0 : (a1_0 == 2) = true := beq_iff_eq.mpr c24
            have c24b1 : (a1_0 != 2) = false := bne_eq_false_iff_eq.mpr c24
            clear c24
            simp only [Option.some.injEq, Prod.mk.injEq] at H
            obtain ⟨rfl, rfl⟩ := H
            go_wp2_with (first | (go_at_call 24; (with_reducible refine (civil_Days.calls a0 1 1 t151 t152 _ ?side1 A13.out).mono ?_); (case side1 => exact GL.below HG.out (by repeat (first | (with_reducible first | exact HB.out | apply below_alloc | apply pw_below_drewN | apply below_drew1 | refine below_set ?_ GE131.out) | exact HB.out))); rintro e w25 ⟨rfl, hb⟩; have n0_ := Aside0.mk (blk_below (g := gb131) (o := .cells #[.int .i64 a1_0, .int .i64 a1_1, .int .i64 a1_2, .int .i64 a1_3, .int .i64 a1_4] 25 (0, 0)) (by (with_reducible repeat (first | refine blk_drewN ?_ _ | refine blk_drew ?_ | refine blk_alloc ?_ _)); exact BK131.out) hb); have n1_ := Aside0.mk (below_step (by repeat (first | (with_reducible first | exact HB.out | apply below_alloc | apply pw_below_drewN | apply below_drew1 | refine below_set ?_ GE131.out) | exact HB.out)) hb); clear BK131; clear HB; have BK131 := n0_; have HB := n1_; clear n0_ n1_; (try clear hb); (try clear hb2); (try clear hk); (try clear hi); have hcz26_0 : w25.cell? ⟨gb131, 0, none⟩ = some (.int .i64 a1_0) := (blk_cell BK131.out 0).trans rfl; have hcz26_1 : w25.cell? ⟨gb131, 1, none⟩ = some (.int .i64 a1_1) := (blk_cell BK131.out 1).trans rfl; have hcz26_2 : w25.cell? ⟨gb131, 2, none⟩ = some (.int .i64 a1_2) := (blk_cell BK131.out 2).trans rfl; have hcz26_3 : w25.cell? ⟨gb131, 3, none⟩ = some (.int .i64 a1_3) := (blk_cell BK131.out 3).trans rfl; have hcz26_4 : w25.cell? ⟨gb131, 4, none⟩ = some (.int .i64 a1_4) := (blk_cell BK131.out 4).trans rfl; have hfz26_0 := blk_frozen BK131.out 0; have hfz26_1 := blk_frozen BK131.out 1; have hfz26_2 := blk_frozen BK131.out 2; have hfz26_3 := blk_frozen BK131.out 3; have hfz26_4 := blk_frozen BK131.out 4))
            repeat (go_quiet (first | (go_at_call 24; (with_reducible refine (civil_Days.calls a0 1 1 t151 t152 _ ?side1 A13.out).mono ?_); (case side1 => exact GL.below HG.out (by repeat (first | (with_reducible first | exact HB.out | apply below_alloc | apply pw_below_drewN | apply below_drew1 | refine below_set ?_ GE131.out) | exact HB.out))); rintro e w25 ⟨rfl, hb⟩; have n0_ := Aside0.mk (blk_below (g := gb131) (o := .cells #[.int .i64 a1_0, .int .i64 a1_1, .int .i64 a1_2, .int .i64 a1_3, .int .i64 a1_4] 25 (0, 0)) (by (with_reducible repeat (first | refine blk_drewN ?_ _ | refine blk_drew ?_ | refine blk_alloc ?_ _)); exact BK131.out) hb); have n1_ := Aside0.mk (below_step (by repeat (first | (with_reducible first | exact HB.out | apply below_alloc | apply pw_below_drewN | apply below_drew1 | refine below_set ?_ GE131.out) | exact HB.out)) hb); clear BK131; clear HB; have BK131 := n0_; have HB := n1_; clear n0_ n1_; (try clear hb); (try clear hb2); (try clear hk); (try clear hi); have hcz26_0 : w25.cell? ⟨gb131, 0, none⟩ = some (.int .i64 a1_0) := (blk_cell BK131.out 0).trans rfl; have hcz26_1 : w25.cell? ⟨gb131, 1, none⟩ = some (.int .i64 a1_1) := (blk_cell BK131.out 1).trans rfl; have hcz26_2 : w25.cell? ⟨gb131, 2, none⟩ = some (.int .i64 a1_2) := (blk_cell BK131.out 2).trans rfl; have hcz26_3 : w25.cell? ⟨gb131, 3, none⟩ = some (.int .i64 a1_3) := (blk_cell BK131.out 3).trans rfl; have hcz26_4 : w25.cell? ⟨gb131, 4, none⟩ = some (.int .i64 a1_4) := (blk_cell BK131.out 4).trans rfl; have hfz26_0 := blk_frozen BK131.out 0; have hfz26_1 := blk_frozen BK131.out 1; have hfz26_2 := blk_frozen BK131.out 2; have hfz26_3 := blk_frozen BK131.out 3; have hfz26_4 := blk_frozen BK131.out 4)); try go_wp2_with (first | (go_at_call 24; (with_reducible refine (civil_Days.calls a0 1 1 t151 t152 _ ?side1 A13.out).mono ?_); (case side1 => exact GL.below HG.out (by repeat (first | (with_reducible first | exact HB.out | apply below_alloc | apply pw_below_drewN | apply below_drew1 | refine below_set ?_ GE131.out) | exact HB.out))); rintro e w25 ⟨rfl, hb⟩; have n0_ := Aside0.mk (blk_below (g := gb131) (o := .cells #[.int .i64 a1_0, .int .i64 a1_1, .int .i64 a1_2, .int .i64 a1_3, .int .i64 a1_4] 25 (0, 0)) (by (with_reducible repeat (first | refine blk_drewN ?_ _ | refine blk_drew ?_ | refine blk_alloc ?_ _)); exact BK131.out) hb); have n1_ := Aside0.mk (below_step (by repeat (first | (with_reducible first | exact HB.out | apply below_alloc | apply pw_below_drewN | apply below_drew1 | refine below_set ?_ GE131.out) | exact HB.out)) hb); clear BK131; clear HB; have BK131 := n0_; have HB := n1_; clear n0_ n1_; (try clear hb); (try clear hb2); (try clear hk); (try clear hi); have hcz26_0 : w25.cell? ⟨gb131, 0, none⟩ = some (.int .i64 a1_0) := (blk_cell BK131.out 0).trans rfl; have hcz26_1 : w25.cell? ⟨gb131, 1, none⟩ = some (.int .i64 a1_1) := (blk_cell BK131.out 1).trans rfl; have hcz26_2 : w25.cell? ⟨gb131, 2, none⟩ = some (.int .i64 a1_2) := (blk_cell BK131.out 2).trans rfl; have hcz26_3 : w25.cell? ⟨gb131, 3, none⟩ = some (.int .i64 a1_3) := (blk_cell BK131.out 3).trans rfl; have hcz26_4 : w25.cell? ⟨gb131, 4, none⟩ = some (.int .i64 a1_4) := (blk_cell BK131.out 4).trans rfl; have hfz26_0 := blk_frozen BK131.out 0; have hfz26_1 := blk_frozen BK131.out 1; have hfz26_2 := blk_frozen BK131.out 2; have hfz26_3 := blk_frozen BK131.out 3; have hfz26_4 := blk_frozen BK131.out 4)))
            go_ret2
            exact ⟨by first | rfl | (simp [errW_none, errW_some] <;> rfl) | (simp [*, errW_none, errW_some] <;> rfl), by repeat (first | (with_reducible first | exact HB.out | apply below_alloc | apply pw_below_drewN | apply below_drew1 | refine below_set ?_ GE131.out) | exact HB.out)⟩
          · rw [if_neg c24] at H
            have c24b0 : (a1_0 == 2) = false := beq_eq_false_iff_ne.mpr c24
            have c24b1 : (a1_0 != 2) = true := bne_iff_ne.mpr c24
            replace H := Option.bind_eq_some_iff.mp H
            obtain ⟨⟨t154, t155⟩, A270, H⟩ := H
            replace H : ((civil_Weekday.f t154).bind fun t156 => ((civil_Length.f a0 a1_1).bind fun t157 => (if (wrap64 ((Int.tmod (wrap64 ((wrap64 (a1_3 - t156)) + 7)) 7) + (wrap64 (7 * (wrap64 (a1_2 - 1)))))) ≥ t157 then (some (wrap64 (t154 + (wrap64 ((wrap64 ((Int.tmod (wrap64 ((wrap64 (a1_3 - t156)) + 7)) 7) + (wrap64 (7 * (wrap64 (a1_2 - 1)))))) - 7))), 0)) else (some (wrap64 (t154 + (wrap64 ((Int.tmod (wrap64 ((wrap64 (a1_3 - t156)) + 7)) 7) + (wrap64 (7 * (wrap64 (a1_2 - 1))))))), 0))))) = some (r1, r2) := H
            have A27 := Aside0.mk A270
            clear A270
            replace H := Option.bind_eq_some_iff.mp H
            obtain ⟨t156, A280, H⟩ := H
            replace H : ((civil_Length.f a0 a1_1).bind fun t157 => (if (wrap64 ((Int.tmod (wrap64 ((wrap64 (a1_3 - t156)) + 7)) 7) + (wrap64 (7 * (wrap64 (a1_2 - 1)))))) ≥ t157 then (some (wrap64 (t154 + (wrap64 ((wrap64 ((Int.tmod (wrap64 ((wrap64 (a1_3 - t156)) + 7)) 7) + (wrap64 (7 * (wrap64 (a1_2 - 1)))))) - 7))), 0)) else (some (wrap64 (t154 + (wrap64 ((Int.tmod (wrap64 ((wrap64 (a1_3 - t156)) + 7)) 7) + (wrap64 (7 * (wrap64 (a1_2 - 1))))))), 0)))) = some (r1, r2) := H
            have A28 := Aside0.mk A280
            clear A280
            replace H := Option.bind_eq_some_iff.mp H
            obtain ⟨t157, A290, H⟩ := H
            replace H : (if (wrap64 ((Int.tmod (wrap64 ((wrap64 (a1_3 - t156)) + 7)) 7) + (wrap64 (7 * (wrap64 (a1_2 - 1)))))) ≥ t157 then (some (wrap64 (t154 + (wrap64 ((wrap64 ((Int.tmod (wrap64 ((wrap64 (a1_3 - t156)) + 7)) 7) + (wrap64 (7 * (wrap64 (a1_2 - 1)))))) - 7))), 0)) else (some (wrap64 (t154 + (wrap64 ((Int.tmod (wrap64 ((wrap64 (a1_3 - t156)) + 7)) 7) + (wrap64 (7 * (wrap64 (a1_2 - 1))))))), 0))) = some (r1, r2) := H
            have A29 := Aside0.mk A290
            clear A290
            by_cases c30 : (wrap64 ((Int.tmod (wrap64 ((wrap64 (a1_3 - t156)) + 7)) 7) + (wrap64 (7 * (wrap64 (a1_2 - 1)))))) ≥ t157
            · rw [if_pos c30] at H
              have c30b0 : decide (t157 ≤ (wrap64 ((Int.tmod (wrap64 ((wrap64 (a1_3 - t156)) + 7)) 7) + (wrap64 (7 * (wrap64 (a1_2 - 1))))))) = true := decide_eq_true c30
              clear c30
              simp only [Option.some.injEq, Prod.mk.injEq] at H
              obtain ⟨rfl, rfl⟩ := H
              go_wp2_with (first | (go_at_call 24; (with_reducible refine (civil_Days.calls a0 1 1 t151 t152 _ ?side1 A13.out).mono ?_); (case side1 => exact GL.below HG.out (by repeat (first | (with_reducible first | exact HB.out | apply below_alloc | apply pw_below_drewN | apply below_drew1 | refine below_set ?_ GE131.out) | exact HB.out))); rintro e w31 ⟨rfl, hb⟩; have n0_ := Aside0.mk (blk_below (g := gb131) (o := .cells #[.int .i64 a1_0, .int .i64 a1_1, .int .i64 a1_2, .int .i64 a1_3, .int .i64 a1_4] 25 (0, 0)) (by (with_reducible repeat (first | refine blk_drewN ?_ _ | refine blk_drew ?_ | refine blk_alloc ?_ _)); exact BK131.out) hb); have n1_ := Aside0.mk (below_step (by repeat (first | (with_reducible first | exact HB.out | apply below_alloc | apply pw_below_drewN | apply below_drew1 | refine below_set ?_ GE131.out) | exact HB.out)) hb); clear BK131; clear HB; have BK131 := n0_; have HB := n1_; clear n0_ n1_; (try clear hb); (try clear hb2); (try clear hk); (try clear hi); have hcz32_0 : w31.cell? ⟨gb131, 0, none⟩ = some (.int .i64 a1_0) := (blk_cell BK131.out 0).trans rfl; have hcz32_1 : w31.cell? ⟨gb131, 1, none⟩ = some (.int .i64 a1_1) := (blk_cell BK131.out 1).trans rfl; have hcz32_2 : w31.cell? ⟨gb131, 2, none⟩ = some (.int .i64 a1_2) := (blk_cell BK131.out 2).trans rfl; have hcz32_3 : w31.cell? ⟨gb131, 3, none⟩ = some (.int .i64 a1_3) := (blk_cell BK131.out 3).trans rfl; have hcz32_4 : w31.cell? ⟨gb131, 4, none⟩ = some (.int .i64 a1_4) := (blk_cell BK131.out 4).trans rfl; have hfz32_0 := blk_frozen BK131.out 0; have hfz32_1 := blk_frozen BK131.out 1; have hfz32_2 := blk_frozen BK131.out 2; have hfz32_3 := blk_frozen BK131.out 3; have hfz32_4 := blk_frozen BK131.out 4) | (go_at_call 24; (with_reducible refine (civil_Days.calls a0 a1_1 1 t154 t155 _ ?side1 A27.out).mono ?_); (case side1 => exact GL.below HG.out (by repeat (first | (with_reducible first | exact HB.out | apply below_alloc | apply pw_below_drewN | apply below_drew1 | refine below_set ?_ GE131.out) | exact HB.out))); rintro e w33 ⟨rfl, hb⟩; have n0_ := Aside0.mk (blk_below (g := gb131) (o := .cells #[.int .i64 a1_0, .int .i64 a1_1, .int .i64 a1_2, .int .i64 a1_3, .int .i64 a1_4] 25 (0, 0)) (by (with_reducible repeat (first | refine blk_drewN ?_ _ | refine blk_drew ?_ | refine blk_alloc ?_ _)); exact BK131.out) hb); have n1_ := Aside0.mk (below_step (by repeat (first | (with_reducible first | exact HB.out | apply below_alloc | apply pw_below_drewN | apply below_drew1 | refine below_set ?_ GE131.out) | exact HB.out)) hb); clear BK131; clear HB; have BK131 := n0_; have HB := n1_; clear n0_ n1_; (try clear hb); (try clear hb2); (try clear hk); (try clear hi); have hcz34_0 : w33.cell? ⟨gb131, 0, none⟩ = some (.int .i64 a1_0) := (blk_cell BK131.out 0).trans rfl; have hcz34_1 : w33.cell? ⟨gb131, 1, none⟩ = some (.int .i64 a1_1) := (blk_cell BK131.out 1).trans rfl; have hcz34_2 : w33.cell? ⟨gb131, 2, none⟩ = some (.int .i64 a1_2) := (blk_cell BK131.out 2).trans rfl; have hcz34_3 : w33.cell? ⟨gb131, 3, none⟩ = some (.int .i64 a1_3) := (blk_cell BK131.out 3).trans rfl; have hcz34_4 : w33.cell? ⟨gb131, 4, none⟩ = some (.int .i64 a1_4) := (blk_cell BK131.out 4).trans rfl; have hfz34_0 := blk_frozen BK131.out 0; have hfz34_1 := blk_frozen BK131.out 1; have hfz34_2 := blk_frozen BK131.out 2; have hfz34_3 := blk_frozen BK131.out 3; have hfz34_4 := blk_frozen BK131.out 4) | (go_at_call 23; (with_reducible refine (civil_Weekday.calls t154 t156 _ A28.out).mono ?_); rintro e w' ⟨rfl, ⟨nd, rfl⟩⟩; (try first | exact ⟨rfl, _, World.drewN_drewN _ _ _⟩ | exact ⟨rfl, _, Eq.trans (World.drewN_drewN _ _ _) (congrArg (World.drewN _) (Nat.add_assoc _ _ _))⟩)) | (go_at_call 22; (with_reducible refine (civil_Length.calls a0 a1_1 t157 _ ?side1 A29.out).mono ?_); (case side1 => exact GL.below HG.out (by repeat (first | (with_reducible first | exact HB.out | apply below_alloc | apply pw_below_drewN | apply below_drew1 | refine below_set ?_ GE131.out) | exact HB.out))); rintro e w35 ⟨rfl, hb⟩; have n0_ := Aside0.mk (blk_below (g := gb131) (o := .cells #[.int .i64 a1_0, .int .i64 a1_1, .int .i64 a1_2, .int .i64 a1_3, .int .i64 a1_4] 25 (0, 0)) (by (with_reducible repeat (first | refine blk_drewN ?_ _ | refine blk_drew ?_ | refine blk_alloc ?_ _)); exact BK131.out) hb); have n1_ := Aside0.mk (below_step (by repeat (first | (with_reducible first | exact HB.out | apply below_alloc | apply pw_below_drewN | apply below_drew1 | refine below_set ?_ GE131.out) | exact HB.out)) hb); clear BK131; clear HB; have BK131 := n0_; have HB := n1_; clear n0_ n1_; (try clear hb); (try clear hb2); (try clear hk); (try clear hi)))
              repeat (go_quiet (first | (go_at_call 24; (with_reducible refine (civil_Days.calls a0 1 1 t151 t152 _ ?side1 A13.out).mono ?_); (case side1 => exact GL.below HG.out (by repeat (first | (with_reducible first | exact HB.out | apply below_alloc | apply pw_below_drewN | apply below_drew1 | refine below_set ?_ GE131.out) | exact HB.out))); rintro e w31 ⟨rfl, hb⟩; have n0_ := Aside0.mk (blk_below (g := gb131) (o := .cells #[.int .i64 a1_0, .int .i64 a1_1, .int .i64 a1_2, .int .i64 a1_3, .int .i64 a1_4] 25 (0, 0)) (by (with_reducible repeat (first | refine blk_drewN ?_ _ | refine blk_drew ?_ | refine blk_alloc ?_ _)); exact BK131.out) hb); have n1_ := Aside0.mk (below_step (by repeat (first | (with_reducible first | exact HB.out | apply below_alloc | apply pw_below_drewN | apply below_drew1 | refine below_set ?_ GE131.out) | exact HB.out)) hb); clear BK131; clear HB; have BK131 := n0_; have HB := n1_; clear n0_ n1_; (try clear hb); (try clear hb2); (try clear hk); (try clear hi); have hcz32_0 : w31.cell? ⟨gb131, 0, none⟩ = some (.int .i64 a1_0) := (blk_cell BK131.out 0).trans rfl; have hcz32_1 : w31.cell? ⟨gb131, 1, none⟩ = some (.int .i64 a1_1) := (blk_cell BK131.out 1).trans rfl; have hcz32_2 : w31.cell? ⟨gb131, 2, none⟩ = some (.int .i64 a1_2) := (blk_cell BK131.out 2).trans rfl; have hcz32_3 : w31.cell? ⟨gb131, 3, none⟩ = some (.int .i64 a1_3) := (blk_cell BK131.out 3).trans rfl; have hcz32_4 : w31.cell? ⟨gb131, 4, none⟩ = some (.int .i64 a1_4) := (blk_cell BK131.out 4).trans rfl; have hfz32_0 := blk_frozen BK131.out 0; have hfz32_1 := blk_frozen BK131.out 1; have hfz32_2 := blk_frozen BK131.out 2; have hfz32_3 := blk_frozen BK131.out 3; have hfz32_4 := blk_frozen BK131.out 4) | (go_at_call 24; (with_reducible refine (civil_Days.calls a0 a1_1 1 t154 t155 _ ?side1 A27.out).mono ?_); (case side1 => exact GL.below HG.out (by repeat (first | (with_reducible first | exact HB.out | apply below_alloc | apply pw_below_drewN | apply below_drew1 | refine below_set ?_ GE131.out) | exact HB.out))); rintro e w33 ⟨rfl, hb⟩; have n0_ := Aside0.mk (blk_below (g := gb131) (o := .cells #[.int .i64 a1_0, .int .i64 a1_1, .int .i64 a1_2, .int .i64 a1_3, .int .i64 a1_4] 25 (0, 0)) (by (with_reducible repeat (first | refine blk_drewN ?_ _ | refine blk_drew ?_ | refine blk_alloc ?_ _)); exact BK131.out) hb); have n1_ := Aside0.mk (below_step (by repeat (first | (with_reducible first | exact HB.out | apply below_alloc | apply pw_below_drewN | apply below_drew1 | refine below_set ?_ GE131.out) | exact HB.out)) hb); clear BK131; clear HB; have BK131 := n0_; have HB := n1_; clear n0_ n1_; (try clear hb); (try clear hb2); (try clear hk); (try clear hi); have hcz34_0 : w33.cell? ⟨gb131, 0, none⟩ = some (.int .i64 a1_0) := (blk_cell BK131.out 0).trans rfl; have hcz34_1 : w33.cell? ⟨gb131, 1, none⟩ = some (.int .i64 a1_1) := (blk_cell BK131.out 1).trans rfl; have hcz34_2 : w33.cell? ⟨gb131, 2, none⟩ = some (.int .i64 a1_2) := (blk_cell BK131.out 2).trans rfl; have hcz34_3 : w33.cell? ⟨gb131, 3, none⟩ = some (.int .i64 a1_3) := (blk_cell BK131.out 3).trans rfl; have hcz34_4 : w33.cell? ⟨gb131, 4, none⟩ = some (.int .i64 a1_4) := (blk_cell BK131.out 4).trans rfl; have hfz34_0 := blk_frozen BK131.out 0; have hfz34_1 := blk_frozen BK131.out 1; have hfz34_2 := blk_frozen BK131.out 2; have hfz34_3 := blk_frozen BK131.out 3; have hfz34_4 := blk_frozen BK131.out 4) | (go_at_call 23; (with_reducible refine (civil_Weekday.calls t154 t156 _ A28.out).mono ?_); rintro e w' ⟨rfl, ⟨nd, rfl⟩⟩; (try first | exact ⟨rfl, _, World.drewN_drewN _ _ _⟩ | exact ⟨rfl, _, Eq.trans (World.drewN_drewN _ _ _) (congrArg (World.drewN _) (Nat.add_assoc _ _ _))⟩)) | (go_at_call 22; (with_reducible refine (civil_Length.calls a0 a1_1 t157 _ ?side1 A29.out).mono ?_); (case side1 => exact GL.below HG.out (by repeat (first | (with_reducible first | exact HB.out | apply below_alloc | apply pw_below_drewN | apply below_drew1 | refine below_set ?_ GE131.out) | exact HB.out))); rintro e w35 ⟨rfl, hb⟩; have n0_ := Aside0.mk (blk_below (g := gb131) (o := .cells #[.int .i64 a1_0, .int .i64 a1_1, .int .i64 a1_2, .int .i64 a1_3, .int .i64 a1_4] 25 (0, 0)) (by (with_reducible repeat (first | refine blk_drewN ?_ _ | refine blk_drew ?_ | refine blk_alloc ?_ _)); exact BK131.out) hb); have n1_ := Aside0.mk (below_step (by repeat (first | (with_reducible first | exact HB.out | apply below_alloc | apply pw_below_drewN | apply below_drew1 | refine below_set ?_ GE131.out) | exact HB.out)) hb); clear BK131; clear HB; have BK131 := n0_; have HB := n1_; clear n0_ n1_; (try clear hb); (try clear hb2); (try clear hk); (try clear hi))); try go_wp2_with (first | (go_at_call 24; (with_reducible refine (civil_Days.calls a0 1 1 t151 t152 _ ?side1 A13.out).mono ?_); (case side1 => exact GL.below HG.out (by repeat (first | (with_reducible first | exact HB.out | apply below_alloc | apply pw_below_drewN | apply below_drew1 | refine below_set ?_ GE131.out) | exact HB.out))); rintro e w31 ⟨rfl, hb⟩; have n0_ := Aside0.mk (blk_below (g := gb131) (o := .cells #[.int .i64 a1_0, .int .i64 a1_1, .int .i64 a1_2, .int .i64 a1_3, .int .i64 a1_4] 25 (0, 0)) (by (with_reducible repeat (first | refine blk_drewN ?_ _ | refine blk_drew ?_ | refine blk_alloc ?_ _)); exact BK131.out) hb); have n1_ := Aside0.mk (below_step (by repeat (first | (with_reducible first | exact HB.out | apply below_alloc | apply pw_below_drewN | apply below_drew1 | refine below_set ?_ GE131.out) | exact HB.out)) hb); clear BK131; clear HB; have BK131 := n0_; have HB := n1_; clear n0_ n1_; (try clear hb); (try clear hb2); (try clear hk); (try clear hi); have hcz32_0 : w31.cell? ⟨gb131, 0, none⟩ = some (.int .i64 a1_0) := (blk_cell BK131.out 0).trans rfl; have hcz32_1 : w31.cell? ⟨gb131, 1, none⟩ = some (.int .i64 a1_1) := (blk_cell BK131.out 1).trans rfl; have hcz32_2 : w31.cell? ⟨gb131, 2, none⟩ = some (.int .i64 a1_2) := (blk_cell BK131.out 2).trans rfl; have hcz32_3 : w31.cell? ⟨gb131, 3, none⟩ = some (.int .i64 a1_3) := (blk_cell BK131.out 3).trans rfl; have hcz32_4 : w31.cell? ⟨gb131, 4, none⟩ = some (.int .i64 a1_4) := (blk_cell BK131.out 4).trans rfl; have hfz32_0 := blk_frozen BK131.out 0; have hfz32_1 := blk_frozen BK131.out 1; have hfz32_2 := blk_frozen BK131.out 2; have hfz32_3 := blk_frozen BK131.out 3; have hfz32_4 := blk_frozen BK131.out 4) | (go_at_call 24; (with_reducible refine (civil_Days.calls a0 a1_1 1 t154 t155 _ ?side1 A27.out).mono ?_); (case side1 => exact GL.below HG.out (by repeat (first | (with_reducible first | exact HB.out | apply below_alloc | apply pw_below_drewN | apply below_drew1 | refine below_set ?_ GE131.out) | exact HB.out))); rintro e w33 ⟨rfl, hb⟩; have n0_ := Aside0.mk (blk_below (g := gb131) (o := .cells #[.int .i64 a1_0, .int .i64 a1_1, .int .i64 a1_2, .int .i64 a1_3, .int .i64 a1_4] 25 (0, 0)) (by (with_reducible repeat (first | refine blk_drewN ?_ _ | refine blk_drew ?_ | refine blk_alloc ?_ _)); exact BK131.out) hb); have n1_ := Aside0.mk (below_step (by repeat (first | (with_reducible first | exact HB.out | apply below_alloc | apply pw_below_drewN | apply below_drew1 | refine below_set ?_ GE131.out) | exact HB.out)) hb); clear BK131; clear HB; have BK131 := n0_; have HB := n1_; clear n0_ n1_; (try clear hb); (try clear hb2); (try clear hk); (try clear hi); have hcz34_0 : w33.cell? ⟨gb131, 0, none⟩ = some (.int .i64 a1_0) := (blk_cell BK131.out 0).trans rfl; have hcz34_1 : w33.cell? ⟨gb131, 1, none⟩ = some (.int .i64 a1_1) := (blk_cell BK131.out 1).trans rfl; have hcz34_2 : w33.cell? ⟨gb131, 2, none⟩ = some (.int .i64 a1_2) := (blk_cell BK131.out 2).trans rfl; have hcz34_3 : w33.cell? ⟨gb131, 3, none⟩ = some (.int .i64 a1_3) := (blk_cell BK131.out 3).trans rfl; have hcz34_4 : w33.cell? ⟨gb131, 4, none⟩ = some (.int .i64 a1_4) := (blk_cell BK131.out 4).trans rfl; have hfz34_0 := blk_frozen BK131.out 0; have hfz34_1 := blk_frozen BK131.out 1; have hfz34_2 := blk_frozen BK131.out 2; have hfz34_3 := blk_frozen BK131.out 3; have hfz34_4 := blk_frozen BK131.out 4) | (go_at_call 23; (with_reducible refine (civil_Weekday.calls t154 t156 _ A28.out).mono ?_); rintro e w' ⟨rfl, ⟨nd, rfl⟩⟩; (try first | exact ⟨rfl, _, World.drewN_drewN _ _ _⟩ | exact ⟨rfl, _, Eq.trans (World.drewN_drewN _ _ _) (congrArg (World.drewN _) (Nat.add_assoc _ _ _))⟩)) | (go_at_call 22; (with_reducible refine (civil_Length.calls a0 a1_1 t157 _ ?side1 A29.out).mono ?_); (case side1 => exact GL.below HG.out (by repeat (first | (with_reducible first | exact HB.out | apply below_alloc | apply pw_below_drewN | apply below_drew1 | refine below_set ?_ GE131.out) | exact HB.out))); rintro e w35 ⟨rfl, hb⟩; have n0_ := Aside0.mk (blk_below (g := gb131) (o := .cells #[.int .i64 a1_0, .int .i64 a1_1, .int .i64 a1_2, .int .i64 a1_3, .int .i64 a1_4] 25 (0, 0)) (by (with_reducible repeat (first | refine blk_drewN ?_ _ | refine blk_drew ?_ | refine blk_alloc ?_ _)); exact BK131.out) hb); have n1_ := Aside0.mk (below_step (by repeat (first | (with_reducible first | exact HB.out | apply below_alloc | apply pw_below_drewN | apply below_drew1 | refine below_set ?_ GE131.out) | exact HB.out)) hb); clear BK131; clear HB; have BK131 := n0_; have HB := n1_; clear n0_ n1_; (try clear hb); (try clear hb2); (try clear hk); (try clear hi))))
              go_ret2
              exact ⟨by first | rfl | (simp [errW_none, errW_some] <;> rfl) | (simp [*, errW_none, errW_some] <;> rfl), by repeat (first | (with_reducible first | exact HB.out | apply below_alloc | apply pw_below_drewN | apply below_drew1 | refine below_set ?_ GE131.out) | exact HB.out)⟩
            · rw [if_neg c30] at H
              have c30b0 : decide (t157 ≤ (wrap64 ((Int.tmod (wrap64 ((wrap64 (a1_3 - t156)) + 7)) 7) + (wrap64 (7 * (wrap64 (a1_2 - 1))))))) = false := decide_eq_false c30
              clear c30
              simp only [Option.some.injEq, Prod.mk.injEq] at H
              obtain ⟨rfl, rfl⟩ := H
              go_wp2_with (first | (go_at_call 24; (with_reducible refine (civil_Days.calls a0 1 1 t151 t152 _ ?side1 A13.out).mono ?_); (case side1 => exact GL.below HG.out (by repeat (first | (with_reducible first | exact HB.out | apply below_alloc | apply pw_below_drewN | apply below_drew1 | refine below_set ?_ GE131.out) | exact HB.out))); rintro e w36 ⟨rfl, hb⟩; have n0_ := Aside0.mk (blk_below (g := gb131) (o := .cells #[.int .i64 a1_0, .int .i64 a1_1, .int .i64 a1_2, .int .i64 a1_3, .int .i64 a1_4] 25 (0, 0)) (by (with_reducible repeat (first | refine blk_drewN ?_ _ | refine blk_drew ?_ | refine blk_alloc ?_ _)); exact BK131.out) hb); have n1_ := Aside0.mk (below_step (by repeat (first | (with_reducible first | exact HB.out | apply below_alloc | apply pw_below_drewN | apply below_drew1 | refine below_set ?_ GE131.out) | exact HB.out)) hb); clear BK131; clear HB; have BK131 := n0_; have HB := n1_; clear n0_ n1_; (try clear hb); (try clear hb2); (try clear hk); (try clear hi); have hcz37_0 : w36.cell? ⟨gb131, 0, none⟩ = some (.int .i64 a1_0) := (blk_cell BK131.out 0).trans rfl; have hcz37_1 : w36.cell? ⟨gb131, 1, none⟩ = some (.int .i64 a1_1) := (blk_cell BK131.out 1).trans rfl; have hcz37_2 : w36.cell? ⟨gb131, 2, none⟩ = some (.int .i64 a1_2) := (blk_cell BK131.out 2).trans rfl; have hcz37_3 : w36.cell? ⟨gb131, 3, none⟩ = some (.int .i64 a1_3) := (blk_cell BK131.out 3).trans rfl; have hcz37_4 : w36.cell? ⟨gb131, 4, none⟩ = some (.int .i64 a1_4) := (blk_cell BK131.out 4).trans rfl; have hfz37_0 := blk_frozen BK131.out 0; have hfz37_1 := blk_frozen BK131.out 1; have hfz37_2 := blk_frozen BK131.out 2; have hfz37_3 := blk_frozen BK131.out 3; have hfz37_4 := blk_frozen BK131.out 4) | (go_at_call 24; (with_reducible refine (civil_Days.calls a0 a1_1 1 t154 t155 _ ?side1 A27.out).mono ?_); (case side1 => exact GL.below HG.out (by repeat (first | (with_reducible first | exact HB.out | apply below_alloc | apply pw_below_drewN | apply below_drew1 | refine below_set ?_ GE131.out) | exact HB.out))); rintro e w38 ⟨rfl, hb⟩; have n0_ := Aside0.mk (blk_below (g := gb131) (o := .cells #[.int .i64 a1_0, .int .i64 a1_1, .int .i64 a1_2, .int .i64 a1_3, .int .i64 a1_4] 25 (0, 0)) (by (with_reducible repeat (first | refine blk_drewN ?_ _ | refine blk_drew ?_ | refine blk_alloc ?_ _)); exact BK131.out) hb); have n1_ := Aside0.mk (below_step (by repeat (first | (with_reducible first | exact HB.out | apply below_alloc | apply pw_below_drewN | apply below_drew1 | refine below_set ?_ GE131.out) | exact HB.out)) hb); clear BK131; clear HB; have BK131 := n0_; have HB := n1_; clear n0_ n1_; (try clear hb); (try clear hb2); (try clear hk); (try clear hi); have hcz39_0 : w38.cell? ⟨gb131, 0, none⟩ = some (.int .i64 a1_0) := (blk_cell BK131.out 0).trans rfl; have hcz39_1 : w38.cell? ⟨gb131, 1, none⟩ = some (.int .i64 a1_1) := (blk_cell BK131.out 1).trans rfl; have hcz39_2 : w38.cell? ⟨gb131, 2, none⟩ = some (.int .i64 a1_2) := (blk_cell BK131.out 2).trans rfl; have hcz39_3 : w38.cell? ⟨gb131, 3, none⟩ = some (.int .i64 a1_3) := (blk_cell BK131.out 3).trans rfl; have hcz39_4 : w38.cell? ⟨gb131, 4, none⟩ = some (.int .i64 a1_4) := (blk_cell BK131.out 4).trans rfl; have hfz39_0 := blk_frozen BK131.out 0; have hfz39_1 := blk_frozen BK131.out 1; have hfz39_2 := blk_frozen BK131.out 2; have hfz39_3 := blk_frozen BK131.out 3; have hfz39_4 := blk_frozen BK131.out 4) | (go_at_call 23; (with_reducible refine (civil_Weekday.calls t154 t156 _ A28.out).mono ?_); rintro e w' ⟨rfl, ⟨nd, rfl⟩⟩; (try first | exact ⟨rfl, _, World.drewN_drewN _ _ _⟩ | exact ⟨rfl, _, Eq.trans (World.drewN_drewN _ _ _) (congrArg (World.drewN _) (Nat.add_assoc _ _ _))⟩)) | (go_at_call 22; (with_reducible refine (civil_Length.calls a0 a1_1 t157 _ ?side1 A29.out).mono ?_); (case side1 => exact GL.below HG.out (by repeat (first | (with_reducible first | exact HB.out | apply below_alloc | apply pw_below_drewN | apply below_drew1 | refine below_set ?_ GE131.out) | exact HB.out))); rintro e w40 ⟨rfl, hb⟩; have n0_ := Aside0.mk (blk_below (g := gb131) (o := .cells #[.int .i64 a1_0, .int .i64 a1_1, .int .i64 a1_2, .int .i64 a1_3, .int .i64 a1_4] 25 (0, 0)) (by (with_reducible repeat (first | refine blk_drewN ?_ _ | refine blk_drew ?_ | refine blk_alloc ?_ _)); exact BK131.out) hb); have n1_ := Aside0.mk (below_step (by repeat (first | (with_reducible first | exact HB.out | apply below_alloc | apply pw_below_drewN | apply below_drew1 | refine below_set ?_ GE131.out) | exact HB.out)) hb); clear BK131; clear HB; have BK131 := n0_; have HB := n1_; clear n0_ n1_; (try clear hb); (try clear hb2); (try clear hk); (try clear hi)))
              repeat (go_quiet (first | (go_at_call 24; (with_reducible refine (civil_Days.calls a0 1 1 t151 t152 _ ?side1 A13.out).mono ?_); (case side1 => exact GL.below HG.out (by repeat (first | (with_reducible first | exact HB.out | apply below_alloc | apply pw_below_drewN | apply below_drew1 | refine below_set ?_ GE131.out) | exact HB.out))); rintro e w36 ⟨rfl, hb⟩; have n0_ := Aside0.mk (blk_below (g := gb131) (o := .cells #[.int .i64 a1_0, .int .i64 a1_1, .int .i64 a1_2, .int .i64 a1_3, .int .i64 a1_4] 25 (0, 0)) (by (with_reducible repeat (first | refine blk_drewN ?_ _ | refine blk_drew ?_ | refine blk_alloc ?_ _)); exact BK131.out) hb); have n1_ := Aside0.mk (below_step (by repeat (first | (with_reducible first | exact HB.out | apply below_alloc | apply pw_below_drewN | apply below_drew1 | refine below_set ?_ GE131.out) | exact HB.out)) hb); clear BK131; clear HB; have BK131 := n0_; have HB := n1_; clear n0_ n1_; (try clear hb); (try clear hb2); (try clear hk); (try clear hi); have hcz37_0 : w36.cell? ⟨gb131, 0, none⟩ = some (.int .i64 a1_0) := (blk_cell BK131.out 0).trans rfl; have hcz37_1 : w36.cell? ⟨gb131, 1, none⟩ = some (.int .i64 a1_1) := (blk_cell BK131.out 1).trans rfl; have hcz37_2 : w36.cell? ⟨gb131, 2, none⟩ = some (.int .i64 a1_2) := (blk_cell BK131.out 2).trans rfl; have hcz37_3 : w36.cell? ⟨gb131, 3, none⟩ = some (.int .i64 a1_3) := (blk_cell BK131.out 3).trans rfl; have hcz37_4 : w36.cell? ⟨gb131, 4, none⟩ = some (.int .i64 a1_4) := (blk_cell BK131.out 4).trans rfl; have hfz37_0 := blk_frozen BK131.out 0; have hfz37_1 := blk_frozen BK131.out 1; have hfz37_2 := blk_frozen BK131.out 2; have hfz37_3 := blk_frozen BK131.out 3; have hfz37_4 := blk_frozen BK131.out 4) | (go_at_call 24; (with_reducible refine (civil_Days.calls a0 a1_1 1 t154 t155 _ ?side1 A27.out).mono ?_); (case side1 => exact GL.below HG.out (by repeat (first | (with_reducible first | exact HB.out | apply below_alloc | apply pw_below_drewN | apply below_drew1 | refine below_set ?_ GE131.out) | exact HB.out))); rintro e w38 ⟨rfl, hb⟩; have n0_ := Aside0.mk (blk_below (g := gb131) (o := .cells #[.int .i64 a1_0, .int .i64 a1_1, .int .i64 a1_2, .int .i64 a1_3, .int .i64 a1_4] 25 (0, 0)) (by (with_reducible repeat (first | refine blk_drewN ?_ _ | refine blk_drew ?_ | refine blk_alloc ?_ _)); exact BK131.out) hb); have n1_ := Aside0.mk (below_step (by repeat (first | (with_reducible first | exact HB.out | apply below_alloc | apply pw_below_drewN | apply below_drew1 | refine below_set ?_ GE131.out) | exact HB.out)) hb); clear BK131; clear HB; have BK131 := n0_; have HB := n1_; clear n0_ n1_; (try clear hb); (try clear hb2); (try clear hk); (try clear hi); have hcz39_0 : w38.cell? ⟨gb131, 0, none⟩ = some (.int .i64 a1_0) := (blk_cell BK131.out 0).trans rfl; have hcz39_1 : w38.cell? ⟨gb131, 1, none⟩ = some (.int .i64 a1_1) := (blk_cell BK131.out 1).trans rfl; have hcz39_2 : w38.cell? ⟨gb131, 2, none⟩ = some (.int .i64 a1_2) := (blk_cell BK131.out 2).trans rfl; have hcz39_3 : w38.cell? ⟨gb131, 3, none⟩ = some (.int .i64 a1_3) := (blk_cell BK131.out 3).trans rfl; have hcz39_4 : w38.cell? ⟨gb131, 4, none⟩ = some (.int .i64 a1_4) := (blk_cell BK131.out 4).trans rfl; have hfz39_0 := blk_frozen BK131.out 0; have hfz39_1 := blk_frozen BK131.out 1; have hfz39_2 := blk_frozen BK131.out 2; have hfz39_3 := blk_frozen BK131.out 3; have hfz39_4 := blk_frozen BK131.out 4) | (go_at_call 23; (with_reducible refine (civil_Weekday.calls t154 t156 _ A28.out).mono ?_); rintro e w' ⟨rfl, ⟨nd, rfl⟩⟩; (try first | exact ⟨rfl, _, World.drewN_drewN _ _ _⟩ | exact ⟨rfl, _, Eq.trans (World.drewN_drewN _ _ _) (congrArg (World.drewN _) (Nat.add_assoc _ _ _))⟩)) | (go_at_call 22; (with_reducible refine (civil_Length.calls a0 a1_1 t157 _ ?side1 A29.out).mono ?_); (case side1 => exact GL.below HG.out (by repeat (first | (with_reducible first | exact HB.out | apply below_alloc | apply pw_below_drewN | apply below_drew1 | refine below_set ?_ GE131.out) | exact HB.out))); rintro e w40 ⟨rfl, hb⟩; have n0_ := Aside0.mk (blk_below (g := gb131) (o := .cells #[.int .i64 a1_0, .int .i64 a1_1, .int .i64 a1_2, .int .i64 a1_3, .int .i64 a1_4] 25 (0, 0)) (by (with_reducible repeat (first | refine blk_drewN ?_ _ | refine blk_drew ?_ | refine blk_alloc ?_ _)); exact BK131.out) hb); have n1_ := Aside0.mk (below_step (by repeat (first | (with_reducible first | exact HB.out | apply below_alloc | apply pw_below_drewN | apply below_drew1 | refine below_set ?_ GE131.out) | exact HB.out)) hb); clear BK131; clear HB; have BK131 := n0_; have HB := n1_; clear n0_ n1_; (try clear hb); (try clear hb2); (try clear hk); (try clear hi))); try go_wp2_with (first | (go_at_call 24; (with_reducible refine (civil_Days.calls a0 1 1 t151 t152 _ ?side1 A13.out).mono ?_); (case side1 => exact GL.below HG.out (by repeat (first | (with_reducible first | exact HB.out | apply below_alloc | apply pw_below_drewN | apply below_drew1 | refine below_set ?_ GE131.out) | exact HB.out))); rintro e w36 ⟨rfl, hb⟩; have n0_ := Aside0.mk (blk_below (g := gb131) (o := .cells #[.int .i64 a1_0, .int .i64 a1_1, .int .i64 a1_2, .int .i64 a1_3, .int .i64 a1_4] 25 (0, 0)) (by (with_reducible repeat (first | refine blk_drewN ?_ _ | refine blk_drew ?_ | refine blk_alloc ?_ _)); exact BK131.out) hb); have n1_ := Aside0.mk (below_step (by repeat (first | (with_reducible first | exact HB.out | apply below_alloc | apply pw_below_drewN | apply below_drew1 | refine below_set ?_ GE131.out) | exact HB.out)) hb); clear BK131; clear HB; have BK131 := n0_; have HB := n1_; clear n0_ n1_; (try clear hb); (try clear hb2); (try clear hk); (try clear hi); have hcz37_0 : w36.cell? ⟨gb131, 0, none⟩ = some (.int .i64 a1_0) := (blk_cell BK131.out 0).trans rfl; have hcz37_1 : w36.cell? ⟨gb131, 1, none⟩ = some (.int .i64 a1_1) := (blk_cell BK131.out 1).trans rfl; have hcz37_2 : w36.cell? ⟨gb131, 2, none⟩ = some (.int .i64 a1_2) := (blk_cell BK131.out 2).trans rfl; have hcz37_3 : w36.cell? ⟨gb131, 3, none⟩ = some (.int .i64 a1_3) := (blk_cell BK131.out 3).trans rfl; have hcz37_4 : w36.cell? ⟨gb131, 4, none⟩ = some (.int .i64 a1_4) := (blk_cell BK131.out 4).trans rfl; have hfz37_0 := blk_frozen BK131.out 0; have hfz37_1 := blk_frozen BK131.out 1; have hfz37_2 := blk_frozen BK131.out 2; have hfz37_3 := blk_frozen BK131.out 3; have hfz37_4 := blk_frozen BK131.out 4) | (go_at_call 24; (with_reducible refine (civil_Days.calls a0 a1_1 1 t154 t155 _ ?side1 A27.out).mono ?_); (case side1 => exact GL.below HG.out (by repeat (first | (with_reducible first | exact HB.out | apply below_alloc | apply pw_below_drewN | apply below_drew1 | refine below_set ?_ GE131.out) | exact HB.out))); rintro e w38 ⟨rfl, hb⟩; have n0_ := Aside0.mk (blk_below (g := gb131) (o := .cells #[.int .i64 a1_0, .int .i64 a1_1, .int .i64 a1_2, .int .i64 a1_3, .int .i64 a1_4] 25 (0, 0)) (by (with_reducible repeat (first | refine blk_drewN ?_ _ | refine blk_drew ?_ | refine blk_alloc ?_ _)); exact BK131.out) hb); have n1_ := Aside0.mk (below_step (by repeat (first | (with_reducible first | exact HB.out | apply below_alloc | apply pw_below_drewN | apply below_drew1 | refine below_set ?_ GE131.out) | exact HB.out)) hb); clear BK131; clear HB; have BK131 := n0_; have HB := n1_; clear n0_ n1_; (try clear hb); (try clear hb2); (try clear hk); (try clear hi); have hcz39_0 : w38.cell? ⟨gb131, 0, none⟩ = some (.int .i64 a1_0) := (blk_cell BK131.out 0).trans rfl; have hcz39_1 : w38.cell? ⟨gb131, 1, none⟩ = some (.int .i64 a1_1) := (blk_cell BK131.out 1).trans rfl; have hcz39_2 : w38.cell? ⟨gb131, 2, none⟩ = some (.int .i64 a1_2) := (blk_cell BK131.out 2).trans rfl; have hcz39_3 : w38.cell? ⟨gb131, 3, none⟩ = some (.int .i64 a1_3) := (blk_cell BK131.out 3).trans rfl; have hcz39_4 : w38.cell? ⟨gb131, 4, none⟩ = some (.int .i64 a1_4) := (blk_cell BK131.out 4).trans rfl; have hfz39_0 := blk_frozen BK131.out 0; have hfz39_1 := blk_frozen BK131.out 1; have hfz39_2 := blk_frozen BK131.out 2; have hfz39_3 := blk_frozen BK131.out 3; have hfz39_4 := blk_frozen BK131.out 4) | (go_at_call 23; (with_reducible refine (civil_Weekday.calls t154 t156 _ A28.out).mono ?_); rintro e w' ⟨rfl, ⟨nd, rfl⟩⟩; (try first | exact ⟨rfl, _, World.drewN_drewN _ _ _⟩ | exact ⟨rfl, _, Eq.trans (World.drewN_drewN _ _ _) (congrArg (World.drewN _) (Nat.add_assoc _ _ _))⟩)) | (go_at_call 22; (with_reducible refine (civil_Length.calls a0 a1_1 t157 _ ?side1 A29.out).mono ?_); (case side1 => exact GL.below HG.out (by repeat (first | (with_reducible first | exact HB.out | apply below_alloc | apply pw_below_drewN | apply below_drew1 | refine below_set ?_ GE131.out) | exact HB.out))); rintro e w40 ⟨rfl, hb⟩; have n0_ := Aside0.mk (blk_below (g := gb131) (o := .cells #[.int .i64 a1_0, .int .i64 a1_1, .int .i64 a1_2, .int .i64 a1_3, .int .i64 a1_4] 25 (0, 0)) (by (with_reducible repeat (first | refine blk_drewN ?_ _ | refine blk_drew ?_ | refine blk_alloc ?_ _)); exact BK131.out) hb); have n1_ := Aside0.mk (below_step (by repeat (first | (with_reducible first | exact HB.out | apply below_alloc | apply pw_below_drewN | apply below_drew1 | refine below_set ?_ GE131.out) | exact HB.out)) hb); clear BK131; clear HB; have BK131 := n0_; have HB := n1_; clear n0_ n1_; (try clear hb); (try clear hb2); (try clear hk); (try clear hi))))
              go_ret2
              exact ⟨by first | rfl | (simp [errW_none, errW_some] <;> rfl) | (simp [*, errW_none, errW_some] <;> rfl), by repeat (first | (with_reducible first | exact HB.out | apply below_alloc | apply pw_below_drewN | apply below_drew1 | refine below_set ?_ GE131.out) | exact HB.out)⟩
end Go.Proofs.YtgbehcahdgamoaaDoor.Fn

namespace Go.Proofs.YtgbehcahdgamoaaDoor.Fn
open Go.RowKit Go.Proofs.YtgbehcahdgamoaaDoorW.PrintWords Go.Proofs.YtgbehcahdgamoaaDoorW.PrintLast Go.Proofs.YtgbehcahdgamoaaDoorW.PrintMore
set_option linter.unusedVariables false
set_option linter.unusedSimpArgs false
/-! ### rule_Turns: function 14 -/
def rule_Turns.j0 : Nat → Int → Bool → Int → Bool → ByteArray → Int → Bool → ByteArray → Bool → Int → Int → Int → Int → Int → Int → Int → Int → Int → Int → Option (Int × Int × Int)
  | 0, _, _, _, _, _, _, _, _, _, _, _, _, _, _, _, _, _, _, _ => none
  | k + 1, x1, x19, x178000, x178001, x178002, x178003, x178004, x178005, x178006, x178007, x178008, x178009, x178010, x178011, x178012, x178013, x178014, x178015, x178016 => if x19 = true then (some (0, 0, 1)) else ((rule_Day.f k x1 x178007 x178008 x178009 x178010 x178011).bind fun bt180 => ((rule_Day.f k x1 x178012 x178013 x178014 x178015 x178016).bind fun bt182 => (some (wrap64 ((wrap64 (bt180.1 * 86400)) + (wrap64 (x178011 - x178000))), wrap64 ((wrap64 (bt182.1 * 86400)) + (wrap64 (x178016 - x178003))), 0))))
def rule_Turns.f (k : Nat) (a0_0 : Int) (a0_1 : Bool) (a0_2 : ByteArray) (a0_3 : Int) (a0_4 : Bool) (a0_5 : ByteArray) (a0_6 : Bool) (a0_7 : Int) (a0_8 : Int) (a0_9 : Int) (a0_10 : Int) (a0_11 : Int) (a0_12 : Int) (a0_13 : Int) (a0_14 : Int) (a0_15 : Int) (a0_16 : Int) (a1 : Int) : Option (Int × Int × Int) := (posix_Right.f k a0_0 a0_1 a0_2 a0_3 a0_4 a0_5 a0_6 a0_7 a0_8 a0_9 a0_10 a0_11 a0_12 a0_13 a0_14 a0_15 a0_16 true).bind fun t178 => (if t178 = true then (if a0_6 = true then ((rule_may.f a1).bind fun t179 => (rule_Turns.j0 k a1 (!t179) a0_0 a0_1 a0_2 a0_3 a0_4 a0_5 a0_6 a0_7 a0_8 a0_9 a0_10 a0_11 a0_12 a0_13 a0_14 a0_15 a0_16)) else (rule_Turns.j0 k a1 true a0_0 a0_1 a0_2 a0_3 a0_4 a0_5 a0_6 a0_7 a0_8 a0_9 a0_10 a0_11 a0_12 a0_13 a0_14 a0_15 a0_16)) else (rule_Turns.j0 k a1 true a0_0 a0_1 a0_2 a0_3 a0_4 a0_5 a0_6 a0_7 a0_8 a0_9 a0_10 a0_11 a0_12 a0_13 a0_14 a0_15 a0_16))
theorem rule_Turns.mono_l : ∀ k, (∀ y0 y1 y2 y3 y4 y5 y6 y7 y8 y9 y10 y11 y12 y13 y14 y15 y16 y17 y18, LeO (rule_Turns.j0 k y0 y1 y2 y3 y4 y5 y6 y7 y8 y9 y10 y11 y12 y13 y14 y15 y16 y17 y18) (rule_Turns.j0 (k + 1) y0 y1 y2 y3 y4 y5 y6 y7 y8 y9 y10 y11 y12 y13 y14 y15 y16 y17 y18))
  | 0 => fun _ _ _ _ _ _ _ _ _ _ _ _ _ _ _ _ _ _ _ r h => by simp [rule_Turns.j0] at h
  | k + 1 => by
    have ih0 := rule_Turns.mono_l k
    · intro y0 y1 y2 y3 y4 y5 y6 y7 y8 y9 y10 y11 y12 y13 y14 y15 y16 y17 y18
      unfold rule_Turns.j0
      repeat' first
      | (with_reducible exact ih0 _ _ _ _ _ _ _ _ _ _ _ _ _ _ _ _ _ _ _)
      | (with_reducible exact posix_Right.mono _ _ _ _ _ _ _ _ _ _ _ _ _ _ _ _ _ _ _)
      | (with_reducible exact rule_Day.mono _ _ _ _ _ _ _)
      | (with_reducible exact LeO.refl _)
      | (with_reducible exact LeO.none _)
      | (with_reducible refine LeO.ite ?_ ?_)
      | (with_reducible refine LeO.bind ?_ (fun _ => ?_))
      | exact ih0 _ _ _ _ _ _ _ _ _ _ _ _ _ _ _ _ _ _ _
      | exact posix_Right.mono _ _ _ _ _ _ _ _ _ _ _ _ _ _ _ _ _ _ _
      | exact rule_Day.mono _ _ _ _ _ _ _
      | exact LeO.none _
      | refine LeO.ite ?_ ?_
      | refine LeO.bind ?_ (fun _ => ?_)
theorem rule_Turns.mono : ∀ a0 a1 a2 a3 a4 a5 a6 a7 a8 a9 a10 a11 a12 a13 a14 a15 a16 a17 k, LeO (rule_Turns.f k a0 a1 a2 a3 a4 a5 a6 a7 a8 a9 a10 a11 a12 a13 a14 a15 a16 a17) (rule_Turns.f (k + 1) a0 a1 a2 a3 a4 a5 a6 a7 a8 a9 a10 a11 a12 a13 a14 a15 a16 a17) := by
  intro a0 a1 a2 a3 a4 a5 a6 a7 a8 a9 a10 a11 a12 a13 a14 a15 a16 a17 k
  have ih0 := rule_Turns.mono_l k
  unfold rule_Turns.f
  repeat' first
      | (with_reducible exact ih0 _ _ _ _ _ _ _ _ _ _ _ _ _ _ _ _ _ _ _)
      | (with_reducible exact posix_Right.mono _ _ _ _ _ _ _ _ _ _ _ _ _ _ _ _ _ _ _)
      | (with_reducible exact rule_Day.mono _ _ _ _ _ _ _)
      | (with_reducible exact LeO.refl _)
      | (with_reducible exact LeO.none _)
      | (with_reducible refine LeO.ite ?_ ?_)
      | (with_reducible refine LeO.bind ?_ (fun _ => ?_))
      | exact ih0 _ _ _ _ _ _ _ _ _ _ _ _ _ _ _ _ _ _ _
      | exact posix_Right.mono _ _ _ _ _ _ _ _ _ _ _ _ _ _ _ _ _ _ _
      | exact rule_Day.mono _ _ _ _ _ _ _
      | exact LeO.none _
      | refine LeO.ite ?_ ?_
      | refine LeO.bind ?_ (fun _ => ?_)
set_option maxHeartbeats 8000000 in
set_option maxRecDepth 100000 in
theorem rule_Turns.calls (k : Nat) (a0_0 : Int) (a0_1 : Bool) (a0_2 : ByteArray) (a0_3 : Int) (a0_4 : Bool) (a0_5 : ByteArray) (a0_6 : Bool) (a0_7 : Int) (a0_8 : Int) (a0_9 : Int) (a0_10 : Int) (a0_11 : Int) (a0_12 : Int) (a0_13 : Int) (a0_14 : Int) (a0_15 : Int) (a0_16 : Int) (a1 : Int) (r1 : Int) (r2 : Int) (r3 : Int) (w : World) (hG : GL w) (h : rule_Turns.f k a0_0 a0_1 a0_2 a0_3 a0_4 a0_5 a0_6 a0_7 a0_8 a0_9 a0_10 a0_11 a0_12 a0_13 a0_14 a0_15 a0_16 a1 = some (r1, r2, r3)) :
    Calls Tryd.prog 14 #[.agg #[.int .i64 a0_0, .bool a0_1, .string a0_2, .int .i64 a0_3, .bool a0_4, .string a0_5, .bool a0_6, .int .i64 a0_7, .int .i64 a0_8, .int .i64 a0_9, .int .i64 a0_10, .int .i64 a0_11, .int .i64 a0_12, .int .i64 a0_13, .int .i64 a0_14, .int .i64 a0_15, .int .i64 a0_16], .int .i64 a1] w fun e w' => e = .returned (.tuple #[.int .i64 r1, .int .i64 r2, .int .i64 r3]) ∧ Below w.heap.size w w' := by
  have hu27 := Tryd.underlying27
  have hu25 := Tryd.underlying25
  have HG := Aside0.mk hG
  clear hG
  have HB := Aside0.mk (Below.refl w.heap.size w)
  have H : ((posix_Right.f k a0_0 a0_1 a0_2 a0_3 a0_4 a0_5 a0_6 a0_7 a0_8 a0_9 a0_10 a0_11 a0_12 a0_13 a0_14 a0_15 a0_16 true).bind fun t178 => (if t178 = true then (if a0_6 = true then ((rule_may.f a1).bind fun t179 => (rule_Turns.j0 k a1 (!t179) a0_0 a0_1 a0_2 a0_3 a0_4 a0_5 a0_6 a0_7 a0_8 a0_9 a0_10 a0_11 a0_12 a0_13 a0_14 a0_15 a0_16)) else (rule_Turns.j0 k a1 true a0_0 a0_1 a0_2 a0_3 a0_4 a0_5 a0_6 a0_7 a0_8 a0_9 a0_10 a0_11 a0_12 a0_13 a0_14 a0_15 a0_16)) else (rule_Turns.j0 k a1 true a0_0 a0_1 a0_2 a0_3 a0_4 a0_5 a0_6 a0_7 a0_8 a0_9 a0_10 a0_11 a0_12 a0_13 a0_14 a0_15 a0_16))) = some (r1, r2, r3) := h
  clear h
  have HC3 := Aside0.mk H
  clear H
  go_enter Tryd.func14, Tryd.ntmps14
  go_upto_region 1 with (first | ((with_reducible refine gate_dst (N := 2) rfl ?_); refine box_event ?hg (N := 2) ?hd (cs := #[.int .i64 a0_0, .bool a0_1, .string a0_2, .int .i64 a0_3, .bool a0_4, .string a0_5, .bool a0_6, .int .i64 a0_7, .int .i64 a0_8, .int .i64 a0_9, .int .i64 a0_10, .int .i64 a0_11, .int .i64 a0_12, .int .i64 a0_13, .int .i64 a0_14, .int .i64 a0_15, .int .i64 a0_16]) (t := 27) ?hr ?_; (case hd => rfl); (case hg => rfl); (case hr => first | (go_simp; done) | (go_simp; rfl)); intro gb177 hg w4 hbox hb; have n0_ := Aside0.mk (below_step (by repeat (first | (with_reducible first | exact HB.out | apply below_alloc | apply pw_below_drewN | apply below_drew1) | exact HB.out)) hb); have n1_ := Aside0.mk (hbox); have n2_ := Aside0.mk ((by rw [hg]; exact (below_size (by repeat (first | (with_reducible first | exact HB.out | apply below_alloc | apply pw_below_drewN | apply below_drew1) | exact HB.out))) : w.heap.size ≤ gb177)); have n3_ := Aside0.mk ((by rw [hg]; exact (below_size (by repeat (first | (with_reducible first | exact HB.out | apply below_alloc | apply pw_below_drewN | apply below_drew1) | exact HB.out))) : w.heap.size ≤ gb177)); clear HB; have HB := n0_; have BK177 := n1_; have GW177 := n2_; have GE177 := n3_; clear n0_ n1_ n2_ n3_; clear hb hbox hg))
  repeat (go_quiet (first | ((with_reducible refine gate_dst (N := 2) rfl ?_); refine box_event ?hg (N := 2) ?hd (cs := #[.int .i64 a0_0, .bool a0_1, .string a0_2, .int .i64 a0_3, .bool a0_4, .string a0_5, .bool a0_6, .int .i64 a0_7, .int .i64 a0_8, .int .i64 a0_9, .int .i64 a0_10, .int .i64 a0_11, .int .i64 a0_12, .int .i64 a0_13, .int .i64 a0_14, .int .i64 a0_15, .int .i64 a0_16]) (t := 27) ?hr ?_; (case hd => rfl); (case hg => rfl); (case hr => first | (go_simp; done) | (go_simp; rfl)); intro gb177 hg w4 hbox hb; have n0_ := Aside0.mk (below_step (by repeat (first | (with_reducible first | exact HB.out | apply below_alloc | apply pw_below_drewN | apply below_drew1) | exact HB.out)) hb); have n1_ := Aside0.mk (hbox); have n2_ := Aside0.mk ((by rw [hg]; exact (below_size (by repeat (first | (with_reducible first | exact HB.out | apply below_alloc | apply pw_below_drewN | apply below_drew1) | exact HB.out))) : w.heap.size ≤ gb177)); have n3_ := Aside0.mk ((by rw [hg]; exact (below_size (by repeat (first | (with_reducible first | exact HB.out | apply below_alloc | apply pw_below_drewN | apply below_drew1) | exact HB.out))) : w.heap.size ≤ gb177)); clear HB; have HB := n0_; have BK177 := n1_; have GW177 := n2_; have GE177 := n3_; clear n0_ n1_ n2_ n3_; clear hb hbox hg)); go_upto_region 1 with (first | ((with_reducible refine gate_dst (N := 2) rfl ?_); refine box_event ?hg (N := 2) ?hd (cs := #[.int .i64 a0_0, .bool a0_1, .string a0_2, .int .i64 a0_3, .bool a0_4, .string a0_5, .bool a0_6, .int .i64 a0_7, .int .i64 a0_8, .int .i64 a0_9, .int .i64 a0_10, .int .i64 a0_11, .int .i64 a0_12, .int .i64 a0_13, .int .i64 a0_14, .int .i64 a0_15, .int .i64 a0_16]) (t := 27) ?hr ?_; (case hd => rfl); (case hg => rfl); (case hr => first | (go_simp; done) | (go_simp; rfl)); intro gb177 hg w4 hbox hb; have n0_ := Aside0.mk (below_step (by repeat (first | (with_reducible first | exact HB.out | apply below_alloc | apply pw_below_drewN | apply below_drew1) | exact HB.out)) hb); have n1_ := Aside0.mk (hbox); have n2_ := Aside0.mk ((by rw [hg]; exact (below_size (by repeat (first | (with_reducible first | exact HB.out | apply below_alloc | apply pw_below_drewN | apply below_drew1) | exact HB.out))) : w.heap.size ≤ gb177)); have n3_ := Aside0.mk ((by rw [hg]; exact (below_size (by repeat (first | (with_reducible first | exact HB.out | apply below_alloc | apply pw_below_drewN | apply below_drew1) | exact HB.out))) : w.heap.size ≤ gb177)); clear HB; have HB := n0_; have BK177 := n1_; have GW177 := n2_; have GE177 := n3_; clear n0_ n1_ n2_ n3_; clear hb hbox hg)))
  (try simp only [Act.put, List.setIfInBounds_toArray, List.set_cons_zero, List.set_cons_succ])
  go_cut [19] (fun v19 wc => ∃ (kq : Nat) (x19_2 : Bool), v19 = .bool x19_2 ∧ Aside0 (rule_Turns.j0 kq a1 x19_2 a0_0 a0_1 a0_2 a0_3 a0_4 a0_5 a0_6 a0_7 a0_8 a0_9 a0_10 a0_11 a0_12 a0_13 a0_14 a0_15 a0_16 = some (r1, r2, r3)) ∧ Aside0 (kq ≤ k) ∧ Aside0 (wc.heap[gb177]? = some (.cells #[.int .i64 a0_0, .bool a0_1, .string a0_2, .int .i64 a0_3, .bool a0_4, .string a0_5, .bool a0_6, .int .i64 a0_7, .int .i64 a0_8, .int .i64 a0_9, .int .i64 a0_10, .int .i64 a0_11, .int .i64 a0_12, .int .i64 a0_13, .int .i64 a0_14, .int .i64 a0_15, .int .i64 a0_16] 27 (0, 0))) ∧ Aside0 (Below w.heap.size w wc))
  case first =>
    have H := HC3.out
    clear HC3
    replace H := Option.bind_eq_some_iff.mp H
    obtain ⟨t178, A50, H⟩ := H
    replace H : (if t178 = true then (if a0_6 = true then ((rule_may.f a1).bind fun t179 => (rule_Turns.j0 k a1 (!t179) a0_0 a0_1 a0_2 a0_3 a0_4 a0_5 a0_6 a0_7 a0_8 a0_9 a0_10 a0_11 a0_12 a0_13 a0_14 a0_15 a0_16)) else (rule_Turns.j0 k a1 true a0_0 a0_1 a0_2 a0_3 a0_4 a0_5 a0_6 a0_7 a0_8 a0_9 a0_10 a0_11 a0_12 a0_13 a0_14 a0_15 a0_16)) else (rule_Turns.j0 k a1 true a0_0 a0_1 a0_2 a0_3 a0_4 a0_5 a0_6 a0_7 a0_8 a0_9 a0_10 a0_11 a0_12 a0_13 a0_14 a0_15 a0_16)) = some (r1, r2, r3) := H
    have A5 := Aside0.mk A50
    clear A50
    by_cases c6 : t178 = true
    · subst c6
      have H1 : (if a0_6 = true then ((rule_may.f a1).bind fun t179 => (rule_Turns.j0 k a1 (!t179) a0_0 a0_1 a0_2 a0_3 a0_4 a0_5 a0_6 a0_7 a0_8 a0_9 a0_10 a0_11 a0_12 a0_13 a0_14 a0_15 a0_16)) else (rule_Turns.j0 k a1 true a0_0 a0_1 a0_2 a0_3 a0_4 a0_5 a0_6 a0_7 a0_8 a0_9 a0_10 a0_11 a0_12 a0_13 a0_14 a0_15 a0_16)) = some (r1, r2, r3) := by rw [if_pos rfl] at H; exact H
      clear H
      have H := H1
      clear H1
      by_cases c7 : a0_6 = true
      · subst c7
        have H1 : ((rule_may.f a1).bind fun t179 => (rule_Turns.j0 k a1 (!t179) a0_0 a0_1 a0_2 a0_3 a0_4 a0_5 true a0_7 a0_8 a0_9 a0_10 a0_11 a0_12 a0_13 a0_14 a0_15 a0_16)) = some (r1, r2, r3) := by rw [if_pos rfl] at H; exact H
        clear H
        have H := H1
        clear H1
        replace H := Option.bind_eq_some_iff.mp H
        obtain ⟨t179, A80, H⟩ := H
        replace H : (rule_Turns.j0 k a1 (!t179) a0_0 a0_1 a0_2 a0_3 a0_4 a0_5 true a0_7 a0_8 a0_9 a0_10 a0_11 a0_12 a0_13 a0_14 a0_15 a0_16) = some (r1, r2, r3) := H
        have A8 := Aside0.mk A80
        clear A80
        have H' := Aside0.mk H
        clear H
        go_wp2_with (first | ((with_reducible refine gate_dst (N := 7) rfl ?_); refine wpList_load_row rfl 27 _ rfl (gb177) rfl 27 #[.int .i64 a0_0, .bool a0_1, .string a0_2, .int .i64 a0_3, .bool a0_4, .string a0_5, .bool true, .int .i64 a0_7, .int .i64 a0_8, .int .i64 a0_9, .int .i64 a0_10, .int .i64 a0_11, .int .i64 a0_12, .int .i64 a0_13, .int .i64 a0_14, .int .i64 a0_15, .int .i64 a0_16] (0, 0) _ (by (with_reducible repeat (first | refine blk_drewN ?_ _ | refine blk_drew ?_ | refine blk_alloc ?_ _)); exact BK177.out) Tryd.underlying27 rfl (by kernel_rfl) ?_) | (go_at_call 26; (with_reducible refine (posix_Right.calls k a0_0 a0_1 a0_2 a0_3 a0_4 a0_5 true a0_7 a0_8 a0_9 a0_10 a0_11 a0_12 a0_13 a0_14 a0_15 a0_16 true true _ A5.out).mono ?_); rintro e w9 ⟨rfl, hb⟩; have n0_ := Aside0.mk (blk_below (g := gb177) (o := .cells #[.int .i64 a0_0, .bool a0_1, .string a0_2, .int .i64 a0_3, .bool a0_4, .string a0_5, .bool true, .int .i64 a0_7, .int .i64 a0_8, .int .i64 a0_9, .int .i64 a0_10, .int .i64 a0_11, .int .i64 a0_12, .int .i64 a0_13, .int .i64 a0_14, .int .i64 a0_15, .int .i64 a0_16] 27 (0, 0)) (by (with_reducible repeat (first | refine blk_drewN ?_ _ | refine blk_drew ?_ | refine blk_alloc ?_ _)); exact BK177.out) hb); have n1_ := Aside0.mk (below_step (by repeat (first | (with_reducible first | exact HB.out | apply below_alloc | apply pw_below_drewN | apply below_drew1 | refine below_set ?_ GE177.out) | exact HB.out)) hb); clear BK177; clear HB; have BK177 := n0_; have HB := n1_; clear n0_ n1_; (try clear hb); (try clear hb2); (try clear hk); (try clear hi); have hcz10_0 : w9.cell? ⟨gb177, 0, none⟩ = some (.int .i64 a0_0) := (blk_cell BK177.out 0).trans rfl; have hcz10_1 : w9.cell? ⟨gb177, 1, none⟩ = some (.bool a0_1) := (blk_cell BK177.out 1).trans rfl; have hcz10_2 : w9.cell? ⟨gb177, 2, none⟩ = some (.string a0_2) := (blk_cell BK177.out 2).trans rfl; have hcz10_3 : w9.cell? ⟨gb177, 3, none⟩ = some (.int .i64 a0_3) := (blk_cell BK177.out 3).trans rfl; have hcz10_4 : w9.cell? ⟨gb177, 4, none⟩ = some (.bool a0_4) := (blk_cell BK177.out 4).trans rfl; have hcz10_5 : w9.cell? ⟨gb177, 5, none⟩ = some (.string a0_5) := (blk_cell BK177.out 5).trans rfl; have hcz10_6 : w9.cell? ⟨gb177, 6, none⟩ = some (.bool true) := (blk_cell BK177.out 6).trans rfl; have hcz10_7 : w9.cell? ⟨gb177, 7, none⟩ = some (.int .i64 a0_7) := (blk_cell BK177.out 7).trans rfl; have hcz10_8 : w9.cell? ⟨gb177, 8, none⟩ = some (.int .i64 a0_8) := (blk_cell BK177.out 8).trans rfl; have hcz10_9 : w9.cell? ⟨gb177, 9, none⟩ = some (.int .i64 a0_9) := (blk_cell BK177.out 9).trans rfl; have hcz10_10 : w9.cell? ⟨gb177, 10, none⟩ = some (.int .i64 a0_10) := (blk_cell BK177.out 10).trans rfl; have hcz10_11 : w9.cell? ⟨gb177, 11, none⟩ = some (.int .i64 a0_11) := (blk_cell BK177.out 11).trans rfl; have hcz10_12 : w9.cell? ⟨gb177, 12, none⟩ = some (.int .i64 a0_12) := (blk_cell BK177.out 12).trans rfl; have hcz10_13 : w9.cell? ⟨gb177, 13, none⟩ = some (.int .i64 a0_13) := (blk_cell BK177.out 13).trans rfl; have hcz10_14 : w9.cell? ⟨gb177, 14, none⟩ = some (.int .i64 a0_14) := (blk_cell BK177.out 14).trans rfl; have hcz10_15 : w9.cell? ⟨gb177, 15, none⟩ = some (.int .i64 a0_15) := (blk_cell BK177.out 15).trans rfl; have hcz10_16 : w9.cell? ⟨gb177, 16, none⟩ = some (.int .i64 a0_16) := (blk_cell BK177.out 16).trans rfl; have hfz10_0 := blk_frozen BK177.out 0; have hfz10_1 := blk_frozen BK177.out 1; have hfz10_2 := blk_frozen BK177.out 2; have hfz10_3 := blk_frozen BK177.out 3; have hfz10_4 := blk_frozen BK177.out 4; have hfz10_5 := blk_frozen BK177.out 5; have hfz10_6 := blk_frozen BK177.out 6; have hfz10_7 := blk_frozen BK177.out 7; have hfz10_8 := blk_frozen BK177.out 8; have hfz10_9 := blk_frozen BK177.out 9; have hfz10_10 := blk_frozen BK177.out 10; have hfz10_11 := blk_frozen BK177.out 11; have hfz10_12 := blk_frozen BK177.out 12; have hfz10_13 := blk_frozen BK177.out 13; have hfz10_14 := blk_frozen BK177.out 14; have hfz10_15 := blk_frozen BK177.out 15; have hfz10_16 := blk_frozen BK177.out 16) | (go_at_call 25; (with_reducible refine (rule_may.calls a1 t179 _ A8.out).mono ?_); rintro e w' ⟨rfl, ⟨nd, rfl⟩⟩; (try first | exact ⟨rfl, _, World.drewN_drewN _ _ _⟩ | exact ⟨rfl, _, Eq.trans (World.drewN_drewN _ _ _) (congrArg (World.drewN _) (Nat.add_assoc _ _ _))⟩)))
        repeat (go_quiet (first | ((with_reducible refine gate_dst (N := 7) rfl ?_); refine wpList_load_row rfl 27 _ rfl (gb177) rfl 27 #[.int .i64 a0_0, .bool a0_1, .string a0_2, .int .i64 a0_3, .bool a0_4, .string a0_5, .bool true, .int .i64 a0_7, .int .i64 a0_8, .int .i64 a0_9, .int .i64 a0_10, .int .i64 a0_11, .int .i64 a0_12, .int .i64 a0_13, .int .i64 a0_14, .int .i64 a0_15, .int .i64 a0_16] (0, 0) _ (by (with_reducible repeat (first | refine blk_drewN ?_ _ | refine blk_drew ?_ | refine blk_alloc ?_ _)); exact BK177.out) Tryd.underlying27 rfl (by kernel_rfl) ?_) | (go_at_call 26; (with_reducible refine (posix_Right.calls k a0_0 a0_1 a0_2 a0_3 a0_4 a0_5 true a0_7 a0_8 a0_9 a0_10 a0_11 a0_12 a0_13 a0_14 a0_15 a0_16 true true _ A5.out).mono ?_); rintro e w9 ⟨rfl, hb⟩; have n0_ := Aside0.mk (blk_below (g := gb177) (o := .cells #[.int .i64 a0_0, .bool a0_1, .string a0_2, .int .i64 a0_3, .bool a0_4, .string a0_5, .bool true, .int .i64 a0_7, .int .i64 a0_8, .int .i64 a0_9, .int .i64 a0_10, .int .i64 a0_11, .int .i64 a0_12, .int .i64 a0_13, .int .i64 a0_14, .int .i64 a0_15, .int .i64 a0_16] 27 (0, 0)) (by (with_reducible repeat (first | refine blk_drewN ?_ _ | refine blk_drew ?_ | refine blk_alloc ?_ _)); exact BK177.out) hb); have n1_ := Aside0.mk (below_step (by repeat (first | (with_reducible first | exact HB.out | apply below_alloc | apply pw_below_drewN | apply below_drew1 | refine below_set ?_ GE177.out) | exact HB.out)) hb); clear BK177; clear HB; have BK177 := n0_; have HB := n1_; clear n0_ n1_; (try clear hb); (try clear hb2); (try clear hk); (try clear hi); have hcz10_0 : w9.cell? ⟨gb177, 0, none⟩ = some (.int .i64 a0_0) := (blk_cell BK177.out 0).trans rfl; have hcz10_1 : w9.cell? ⟨gb177, 1, none⟩ = some (.bool a0_1) := (blk_cell BK177.out 1).trans rfl; have hcz10_2 : w9.cell? ⟨gb177, 2, none⟩ = some (.string a0_2) := (blk_cell BK177.out 2).trans rfl; have hcz10_3 : w9.cell? ⟨gb177, 3, none⟩ = some (.int .i64 a0_3) := (blk_cell BK177.out 3).trans rfl; have hcz10_4 : w9.cell? ⟨gb177, 4, none⟩ = some (.bool a0_4) := (blk_cell BK177.out 4).trans rfl; have hcz10_5 : w9.cell? ⟨gb177, 5, none⟩ = some (.string a0_5) := (blk_cell BK177.out 5).trans rfl; have hcz10_6 : w9.cell? ⟨gb177, 6, none⟩ = some (.bool true) := (blk_cell BK177.out 6).trans rfl; have hcz10_7 : w9.cell? ⟨gb177, 7, none⟩ = some (.int .i64 a0_7) := (blk_cell BK177.out 7).trans rfl; have hcz10_8 : w9.cell? ⟨gb177, 8, none⟩ = some (.int .i64 a0_8) := (blk_cell BK177.out 8).trans rfl; have hcz10_9 : w9.cell? ⟨gb177, 9, none⟩ = some (.int .i64 a0_9) := (blk_cell BK177.out 9).trans rfl; have hcz10_10 : w9.cell? ⟨gb177, 10, none⟩ = some (.int .i64 a0_10) := (blk_cell BK177.out 10).trans rfl; have hcz10_11 : w9.cell? ⟨gb177, 11, none⟩ = some (.int .i64 a0_11) := (blk_cell BK177.out 11).trans rfl; have hcz10_12 : w9.cell? ⟨gb177, 12, none⟩ = some (.int .i64 a0_12) := (blk_cell BK177.out 12).trans rfl; have hcz10_13 : w9.cell? ⟨gb177, 13, none⟩ = some (.int .i64 a0_13) := (blk_cell BK177.out 13).trans rfl; have hcz10_14 : w9.cell? ⟨gb177, 14, none⟩ = some (.int .i64 a0_14) := (blk_cell BK177.out 14).trans rfl; have hcz10_15 : w9.cell? ⟨gb177, 15, none⟩ = some (.int .i64 a0_15) := (blk_cell BK177.out 15).trans rfl; have hcz10_16 : w9.cell? ⟨gb177, 16, none⟩ = some (.int .i64 a0_16) := (blk_cell BK177.out 16).trans rfl; have hfz10_0 := blk_frozen BK177.out 0; have hfz10_1 := blk_frozen BK177.out 1; have hfz10_2 := blk_frozen BK177.out 2; have hfz10_3 := blk_frozen BK177.out 3; have hfz10_4 := blk_frozen BK177.out 4; have hfz10_5 := blk_frozen BK177.out 5; have hfz10_6 := blk_frozen BK177.out 6; have hfz10_7 := blk_frozen BK177.out 7; have hfz10_8 := blk_frozen BK177.out 8; have hfz10_9 := blk_frozen BK177.out 9; have hfz10_10 := blk_frozen BK177.out 10; have hfz10_11 := blk_frozen BK177.out 11; have hfz10_12 := blk_frozen BK177.out 12; have hfz10_13 := blk_frozen BK177.out 13; have hfz10_14 := blk_frozen BK177.out 14; have hfz10_15 := blk_frozen BK177.out 15; have hfz10_16 := blk_frozen BK177.out 16) | (go_at_call 25; (with_reducible refine (rule_may.calls a1 t179 _ A8.out).mono ?_); rintro e w' ⟨rfl, ⟨nd, rfl⟩⟩; (try first | exact ⟨rfl, _, World.drewN_drewN _ _ _⟩ | exact ⟨rfl, _, Eq.trans (World.drewN_drewN _ _ _) (congrArg (World.drewN _) (Nat.add_assoc _ _ _))⟩))); try go_wp2_with (first | ((with_reducible refine gate_dst (N := 7) rfl ?_); refine wpList_load_row rfl 27 _ rfl (gb177) rfl 27 #[.int .i64 a0_0, .bool a0_1, .string a0_2, .int .i64 a0_3, .bool a0_4, .string a0_5, .bool true, .int .i64 a0_7, .int .i64 a0_8, .int .i64 a0_9, .int .i64 a0_10, .int .i64 a0_11, .int .i64 a0_12, .int .i64 a0_13, .int .i64 a0_14, .int .i64 a0_15, .int .i64 a0_16] (0, 0) _ (by (with_reducible repeat (first | refine blk_drewN ?_ _ | refine blk_drew ?_ | refine blk_alloc ?_ _)); exact BK177.out) Tryd.underlying27 rfl (by kernel_rfl) ?_) | (go_at_call 26; (with_reducible refine (posix_Right.calls k a0_0 a0_1 a0_2 a0_3 a0_4 a0_5 true a0_7 a0_8 a0_9 a0_10 a0_11 a0_12 a0_13 a0_14 a0_15 a0_16 true true _ A5.out).mono ?_); rintro e w9 ⟨rfl, hb⟩; have n0_ := Aside0.mk (blk_below (g := gb177) (o := .cells #[.int .i64 a0_0, .bool a0_1, .string a0_2, .int .i64 a0_3, .bool a0_4, .string a0_5, .bool true, .int .i64 a0_7, .int .i64 a0_8, .int .i64 a0_9, .int .i64 a0_10, .int .i64 a0_11, .int .i64 a0_12, .int .i64 a0_13, .int .i64 a0_14, .int .i64 a0_15, .int .i64 a0_16] 27 (0, 0)) (by (with_reducible repeat (first | refine blk_drewN ?_ _ | refine blk_drew ?_ | refine blk_alloc ?_ _)); exact BK177.out) hb); have n1_ := Aside0.mk (below_step (by repeat (first | (with_reducible first | exact HB.out | apply below_alloc | apply pw_below_drewN | apply below_drew1 | refine below_set ?_ GE177.out) | exact HB.out)) hb); clear BK177; clear HB; have BK177 := n0_; have HB := n1_; clear n0_ n1_; (try clear hb); (try clear hb2); (try clear hk); (try clear hi); have hcz10_0 : w9.cell? ⟨gb177, 0, none⟩ = some (.int .i64 a0_0) := (blk_cell BK177.out 0).trans rfl; have hcz10_1 : w9.cell? ⟨gb177, 1, none⟩ = some (.bool a0_1) := (blk_cell BK177.out 1).trans rfl; have hcz10_2 : w9.cell? ⟨gb177, 2, none⟩ = some (.string a0_2) := (blk_cell BK177.out 2).trans rfl; have hcz10_3 : w9.cell? ⟨gb177, 3, none⟩ = some (.int .i64 a0_3) := (blk_cell BK177.out 3).trans rfl; have hcz10_4 : w9.cell? ⟨gb177, 4, none⟩ = some (.bool a0_4) := (blk_cell BK177.out 4).trans rfl; have hcz10_5 : w9.cell? ⟨gb177, 5, none⟩ = some (.string a0_5) := (blk_cell BK177.out 5).trans rfl; have hcz10_6 : w9.cell? ⟨gb177, 6, none⟩ = some (.bool true) := (blk_cell BK177.out 6).trans rfl; have hcz10_7 : w9.cell? ⟨gb177, 7, none⟩ = some (.int .i64 a0_7) := (blk_cell BK177.out 7).trans rfl; have hcz10_8 : w9.cell? ⟨gb177, 8, none⟩ = some (.int .i64 a0_8) := (blk_cell BK177.out 8).trans rfl; have hcz10_9 : w9.cell? ⟨gb177, 9, none⟩ = some (.int .i64 a0_9) := (blk_cell BK177.out 9).trans rfl; have hcz10_10 : w9.cell? ⟨gb177, 10, none⟩ = some (.int .i64 a0_10) := (blk_cell BK177.out 10).trans rfl; have hcz10_11 : w9.cell? ⟨gb177, 11, none⟩ = some (.int .i64 a0_11) := (blk_cell BK177.out 11).trans rfl; have hcz10_12 : w9.cell? ⟨gb177, 12, none⟩ = some (.int .i64 a0_12) := (blk_cell BK177.out 12).trans rfl; have hcz10_13 : w9.cell? ⟨gb177, 13, none⟩ = some (.int .i64 a0_13) := (blk_cell BK177.out 13).trans rfl; have hcz10_14 : w9.cell? ⟨gb177, 14, none⟩ = some (.int .i64 a0_14) := (blk_cell BK177.out 14).trans rfl; have hcz10_15 : w9.cell? ⟨gb177, 15, none⟩ = some (.int .i64 a0_15) := (blk_cell BK177.out 15).trans rfl; have hcz10_16 : w9.cell? ⟨gb177, 16, none⟩ = some (.int .i64 a0_16) := (blk_cell BK177.out 16).trans rfl; have hfz10_0 := blk_frozen BK177.out 0; have hfz10_1 := blk_frozen BK177.out 1; have hfz10_2 := blk_frozen BK177.out 2; have hfz10_3 := blk_frozen BK177.out 3; have hfz10_4 := blk_frozen BK177.out 4; have hfz10_5 := blk_frozen BK177.out 5; have hfz10_6 := blk_frozen BK177.out 6; have hfz10_7 := blk_frozen BK177.out 7; have hfz10_8 := blk_frozen BK177.out 8; have hfz10_9 := blk_frozen BK177.out 9; have hfz10_10 := blk_frozen BK177.out 10; have hfz10_11 := blk_frozen BK177.out 11; have hfz10_12 := blk_frozen BK177.out 12; have hfz10_13 := blk_frozen BK177.out 13; have hfz10_14 := blk_frozen BK177.out 14; have hfz10_15 := blk_frozen BK177.out 15; have hfz10_16 := blk_frozen BK177.out 16) | (go_at_call 25; (with_reducible refine (rule_may.calls a1 t179 _ A8.out).mono ?_); rintro e w' ⟨rfl, ⟨nd, rfl⟩⟩; (try first | exact ⟨rfl, _, World.drewN_drewN _ _ _⟩ | exact ⟨rfl, _, Eq.trans (World.drewN_drewN _ _ _) (congrArg (World.drewN _) (Nat.add_assoc _ _ _))⟩))))
        go_meet
        case rel => exact ⟨_, (!t179), (by first | rfl | (simp; done) | (simp [*]; done)), H', ⟨by first | omega | exact Nat.le_refl _⟩, ⟨by (with_reducible repeat (first | refine blk_drewN ?_ _ | refine blk_drew ?_ | refine blk_alloc ?_ _)); exact BK177.out⟩, ⟨by repeat (first | (with_reducible first | exact HB.out | apply below_alloc | apply pw_below_drewN | apply below_drew1 | refine below_set ?_ GE177.out) | exact HB.out)⟩⟩
      · replace c7 := Bool.eq_false_iff.mpr c7
        subst c7
        have H1 : (rule_Turns.j0 k a1 true a0_0 a0_1 a0_2 a0_3 a0_4 a0_5 false a0_7 a0_8 a0_9 a0_10 a0_11 a0_12 a0_13 a0_14 a0_15 a0_16) = some (r1, r2, r3) := by rw [if_neg (show ¬ (false = true) by decide)] at H; exact H
        clear H
        have H := H1
        clear H1
        have H' := Aside0.mk H
        clear H
        go_wp2_with (first | ((with_reducible refine gate_dst (N := 7) rfl ?_); refine wpList_load_row rfl 27 _ rfl (gb177) rfl 27 #[.int .i64 a0_0, .bool a0_1, .string a0_2, .int .i64 a0_3, .bool a0_4, .string a0_5, .bool false, .int .i64 a0_7, .int .i64 a0_8, .int .i64 a0_9, .int .i64 a0_10, .int .i64 a0_11, .int .i64 a0_12, .int .i64 a0_13, .int .i64 a0_14, .int .i64 a0_15, .int .i64 a0_16] (0, 0) _ (by (with_reducible repeat (first | refine blk_drewN ?_ _ | refine blk_drew ?_ | refine blk_alloc ?_ _)); exact BK177.out) Tryd.underlying27 rfl (by kernel_rfl) ?_) | (go_at_call 26; (with_reducible refine (posix_Right.calls k a0_0 a0_1 a0_2 a0_3 a0_4 a0_5 false a0_7 a0_8 a0_9 a0_10 a0_11 a0_12 a0_13 a0_14 a0_15 a0_16 true true _ A5.out).mono ?_); rintro e w11 ⟨rfl, hb⟩; have n0_ := Aside0.mk (blk_below (g := gb177) (o := .cells #[.int .i64 a0_0, .bool a0_1, .string a0_2, .int .i64 a0_3, .bool a0_4, .string a0_5, .bool false, .int .i64 a0_7, .int .i64 a0_8, .int .i64 a0_9, .int .i64 a0_10, .int .i64 a0_11, .int .i64 a0_12, .int .i64 a0_13, .int .i64 a0_14, .int .i64 a0_15, .int .i64 a0_16] 27 (0, 0)) (by (with_reducible repeat (first | refine blk_drewN ?_ _ | refine blk_drew ?_ | refine blk_alloc ?_ _)); exact BK177.out) hb); have n1_ := Aside0.mk (below_step (by repeat (first | (with_reducible first | exact HB.out | apply below_alloc | apply pw_below_drewN | apply below_drew1 | refine below_set ?_ GE177.out) | exact HB.out)) hb); clear BK177; clear HB; have BK177 := n0_; have HB := n1_; clear n0_ n1_; (try clear hb); (try clear hb2); (try clear hk); (try clear hi); have hcz12_0 : w11.cell? ⟨gb177, 0, none⟩ = some (.int .i64 a0_0) := (blk_cell BK177.out 0).trans rfl; have hcz12_1 : w11.cell? ⟨gb177, 1, none⟩ = some (.bool a0_1) := (blk_cell BK177.out 1).trans rfl; have hcz12_2 : w11.cell? ⟨gb177, 2, none⟩ = some (.string a0_2) := (blk_cell BK177.out 2).trans rfl; have hcz12_3 : w11.cell? ⟨gb177, 3, none⟩ = some (.int .i64 a0_3) := (blk_cell BK177.out 3).trans rfl; have hcz12_4 : w11.cell? ⟨gb177, 4, none⟩ = some (.bool a0_4) := (blk_cell BK177.out 4).trans rfl; have hcz12_5 : w11.cell? ⟨gb177, 5, none⟩ = some (.string a0_5) := (blk_cell BK177.out 5).trans rfl; have hcz12_6 : w11.cell? ⟨gb177, 6, none⟩ = some (.bool false) := (blk_cell BK177.out 6).trans rfl; have hcz12_7 : w11.cell? ⟨gb177, 7, none⟩ = some (.int .i64 a0_7) := (blk_cell BK177.out 7).trans rfl; have hcz12_8 : w11.cell? ⟨gb177, 8, none⟩ = some (.int .i64 a0_8) := (blk_cell BK177.out 8).trans rfl; have hcz12_9 : w11.cell? ⟨gb177, 9, none⟩ = some (.int .i64 a0_9) := (blk_cell BK177.out 9).trans rfl; have hcz12_10 : w11.cell? ⟨gb177, 10, none⟩ = some (.int .i64 a0_10) := (blk_cell BK177.out 10).trans rfl; have hcz12_11 : w11.cell? ⟨gb177, 11, none⟩ = some (.int .i64 a0_11) := (blk_cell BK177.out 11).trans rfl; have hcz12_12 : w11.cell? ⟨gb177, 12, none⟩ = some (.int .i64 a0_12) := (blk_cell BK177.out 12).trans rfl; have hcz12_13 : w11.cell? ⟨gb177, 13, none⟩ = some (.int .i64 a0_13) := (blk_cell BK177.out 13).trans rfl; have hcz12_14 : w11.cell? ⟨gb177, 14, none⟩ = some (.int .i64 a0_14) := (blk_cell BK177.out 14).trans rfl; have hcz12_15 : w11.cell? ⟨gb177, 15, none⟩ = some (.int .i64 a0_15) := (blk_cell BK177.out 15).trans rfl; have hcz12_16 : w11.cell? ⟨gb177, 16, none⟩ = some (.int .i64 a0_16) := (blk_cell BK177.out 16).trans rfl; have hfz12_0 := blk_frozen BK177.out 0; have hfz12_1 := blk_frozen BK177.out 1; have hfz12_2 := blk_frozen BK177.out 2; have hfz12_3 := blk_frozen BK177.out 3; have hfz12_4 := blk_frozen BK177.out 4; have hfz12_5 := blk_frozen BK177.out 5; have hfz12_6 := blk_frozen BK177.out 6; have hfz12_7 := blk_frozen BK177.out 7; have hfz12_8 := blk_frozen BK177.out 8; have hfz12_9 := blk_frozen BK177.out 9; have hfz12_10 := blk_frozen BK177.out 10; have hfz12_11 := blk_frozen BK177.out 11; have hfz12_12 := blk_frozen BK177.out 12; have hfz12_13 := blk_frozen BK177.out 13; have hfz12_14 := blk_frozen BK177.out 14; have hfz12_15 := blk_frozen BK177.out 15; have hfz12_16 := blk_frozen BK177.out 16))
        repeat (go_quiet (first | ((with_reducible refine gate_dst (N := 7) rfl ?_); refine wpList_load_row rfl 27 _ rfl (gb177) rfl 27 #[.int .i64 a0_0, .bool a0_1, .string a0_2, .int .i64 a0_3, .bool a0_4, .string a0_5, .bool false, .int .i64 a0_7, .int .i64 a0_8, .int .i64 a0_9, .int .i64 a0_10, .int .i64 a0_11, .int .i64 a0_12, .int .i64 a0_13, .int .i64 a0_14, .int .i64 a0_15, .int .i64 a0_16] (0, 0) _ (by (with_reducible repeat (first | refine blk_drewN ?_ _ | refine blk_drew ?_ | refine blk_alloc ?_ _)); exact BK177.out) Tryd.underlying27 rfl (by kernel_rfl) ?_) | (go_at_call 26; (with_reducible refine (posix_Right.calls k a0_0 a0_1 a0_2 a0_3 a0_4 a0_5 false a0_7 a0_8 a0_9 a0_10 a0_11 a0_12 a0_13 a0_14 a0_15 a0_16 true true _ A5.out).mono ?_); rintro e w11 ⟨rfl, hb⟩; have n0_ := Aside0.mk (blk_below (g := gb177) (o := .cells #[.int .i64 a0_0, .bool a0_1, .string a0_2, .int .i64 a0_3, .bool a0_4, .string a0_5, .bool false, .int .i64 a0_7, .int .i64 a0_8, .int .i64 a0_9, .int .i64 a0_10, .int .i64 a0_11, .int .i64 a0_12, .int .i64 a0_13, .int .i64 a0_14, .int .i64 a0_15, .int .i64 a0_16] 27 (0, 0)) (by (with_reducible repeat (first | refine blk_drewN ?_ _ | refine blk_drew ?_ | refine blk_alloc ?_ _)); exact BK177.out) hb); have n1_ := Aside0.mk (below_step (by repeat (first | (with_reducible first | exact HB.out | apply below_alloc | apply pw_below_drewN | apply below_drew1 | refine below_set ?_ GE177.out) | exact HB.out)) hb); clear BK177; clear HB; have BK177 := n0_; have HB := n1_; clear n0_ n1_; (try clear hb); (try clear hb2); (try clear hk); (try clear hi); have hcz12_0 : w11.cell? ⟨gb177, 0, none⟩ = some (.int .i64 a0_0) := (blk_cell BK177.out 0).trans rfl; have hcz12_1 : w11.cell? ⟨gb177, 1, none⟩ = some (.bool a0_1) := (blk_cell BK177.out 1).trans rfl; have hcz12_2 : w11.cell? ⟨gb177, 2, none⟩ = some (.string a0_2) := (blk_cell BK177.out 2).trans rfl; have hcz12_3 : w11.cell? ⟨gb177, 3, none⟩ = some (.int .i64 a0_3) := (blk_cell BK177.out 3).trans rfl; have hcz12_4 : w11.cell? ⟨gb177, 4, none⟩ = some (.bool a0_4) := (blk_cell BK177.out 4).trans rfl; have hcz12_5 : w11.cell? ⟨gb177, 5, none⟩ = some (.string a0_5) := (blk_cell BK177.out 5).trans rfl; have hcz12_6 : w11.cell? ⟨gb177, 6, none⟩ = some (.bool false) := (blk_cell BK177.out 6).trans rfl; have hcz12_7 : w11.cell? ⟨gb177, 7, none⟩ = some (.int .i64 a0_7) := (blk_cell BK177.out 7).trans rfl; have hcz12_8 : w11.cell? ⟨gb177, 8, none⟩ = some (.int .i64 a0_8) := (blk_cell BK177.out 8).trans rfl; have hcz12_9 : w11.cell? ⟨gb177, 9, none⟩ = some (.int .i64 a0_9) := (blk_cell BK177.out 9).trans rfl; have hcz12_10 : w11.cell? ⟨gb177, 10, none⟩ = some (.int .i64 a0_10) := (blk_cell BK177.out 10).trans rfl; have hcz12_11 : w11.cell? ⟨gb177, 11, none⟩ = some (.int .i64 a0_11) := (blk_cell BK177.out 11).trans rfl; have hcz12_12 : w11.cell? ⟨gb177, 12, none⟩ = some (.int .i64 a0_12) := (blk_cell BK177.out 12).trans rfl; have hcz12_13 : w11.cell? ⟨gb177, 13, none⟩ = some (.int .i64 a0_13) := (blk_cell BK177.out 13).trans rfl; have hcz12_14 : w11.cell? ⟨gb177, 14, none⟩ = some (.int .i64 a0_14) := (blk_cell BK177.out 14).trans rfl; have hcz12_15 : w11.cell? ⟨gb177, 15, none⟩ = some (.int .i64 a0_15) := (blk_cell BK177.out 15).trans rfl; have hcz12_16 : w11.cell? ⟨gb177, 16, none⟩ = some (.int .i64 a0_16) := (blk_cell BK177.out 16).trans rfl; have hfz12_0 := blk_frozen BK177.out 0; have hfz12_1 := blk_frozen BK177.out 1; have hfz12_2 := blk_frozen BK177.out 2; have hfz12_3 := blk_frozen BK177.out 3; have hfz12_4 := blk_frozen BK177.out 4; have hfz12_5 := blk_frozen BK177.out 5; have hfz12_6 := blk_frozen BK177.out 6; have hfz12_7 := blk_frozen BK177.out 7; have hfz12_8 := blk_frozen BK177.out 8; have hfz12_9 := blk_frozen BK177.out 9; have hfz12_10 := blk_frozen BK177.out 10; have hfz12_11 := blk_frozen BK177.out 11; have hfz12_12 := blk_frozen BK177.out 12; have hfz12_13 := blk_frozen BK177.out 13; have hfz12_14 := blk_frozen BK177.out 14; have hfz12_15 := blk_frozen BK177.out 15; have hfz12_16 := blk_frozen BK177.out 16)); try go_wp2_with (first | ((with_reducible refine gate_dst (N := 7) rfl ?_); refine wpList_load_row rfl 27 _ rfl (gb177) rfl 27 #[.int .i64 a0_0, .bool a0_1, .string a0_2, .int .i64 a0_3, .bool a0_4, .string a0_5, .bool false, .int .i64 a0_7, .int .i64 a0_8, .int .i64 a0_9, .int .i64 a0_10, .int .i64 a0_11, .int .i64 a0_12, .int .i64 a0_13, .int .i64 a0_14, .int .i64 a0_15, .int .i64 a0_16] (0, 0) _ (by (with_reducible repeat (first | refine blk_drewN ?_ _ | refine blk_drew ?_ | refine blk_alloc ?_ _)); exact BK177.out) Tryd.underlying27 rfl (by kernel_rfl) ?_) | (go_at_call 26; (with_reducible refine (posix_Right.calls k a0_0 a0_1 a0_2 a0_3 a0_4 a0_5 false a0_7 a0_8 a0_9 a0_10 a0_11 a0_12 a0_13 a0_14 a0_15 a0_16 true true _ A5.out).mono ?_); rintro e w11 ⟨rfl, hb⟩; have n0_ := Aside0.mk (blk_below (g := gb177) (o := .cells #[.int .i64 a0_0, .bool a0_1, .string a0_2, .int .i64 a0_3, .bool a0_4, .string a0_5, .bool false, .int .i64 a0_7, .int .i64 a0_8, .int .i64 a0_9, .int .i64 a0_10, .int .i64 a0_11, .int .i64 a0_12, .int .i64 a0_13, .int .i64 a0_14, .int .i64 a0_15, .int .i64 a0_16] 27 (0, 0)) (by (with_reducible repeat (first | refine blk_drewN ?_ _ | refine blk_drew ?_ | refine blk_alloc ?_ _)); exact BK177.out) hb); have n1_ := Aside0.mk (below_step (by repeat (first | (with_reducible first | exact HB.out | apply below_alloc | apply pw_below_drewN | apply below_drew1 | refine below_set ?_ GE177.out) | exact HB.out)) hb); clear BK177; clear HB; have BK177 := n0_; have HB := n1_; clear n0_ n1_; (try clear hb); (try clear hb2); (try clear hk); (try clear hi); have hcz12_0 : w11.cell? ⟨gb177, 0, none⟩ = some (.int .i64 a0_0) := (blk_cell BK177.out 0).trans rfl; have hcz12_1 : w11.cell? ⟨gb177, 1, none⟩ = some (.bool a0_1) := (blk_cell BK177.out 1).trans rfl; have hcz12_2 : w11.cell? ⟨gb177, 2, none⟩ = some (.string a0_2) := (blk_cell BK177.out 2).trans rfl; have hcz12_3 : w11.cell? ⟨gb177, 3, none⟩ = some (.int .i64 a0_3) := (blk_cell BK177.out 3).trans rfl; have hcz12_4 : w11.cell? ⟨gb177, 4, none⟩ = some (.bool a0_4) := (blk_cell BK177.out 4).trans rfl; have hcz12_5 : w11.cell? ⟨gb177, 5, none⟩ = some (.string a0_5) := (blk_cell BK177.out 5).trans rfl; have hcz12_6 : w11.cell? ⟨gb177, 6, none⟩ = some (.bool false) := (blk_cell BK177.out 6).trans rfl; have hcz12_7 : w11.cell? ⟨gb177, 7, none⟩ = some (.int .i64 a0_7) := (blk_cell BK177.out 7).trans rfl; have hcz12_8 : w11.cell? ⟨gb177, 8, none⟩ = some (.int .i64 a0_8) := (blk_cell BK177.out 8).trans rfl; have hcz12_9 : w11.cell? ⟨gb177, 9, none⟩ = some (.int .i64 a0_9) := (blk_cell BK177.out 9).trans rfl; have hcz12_10 : w11.cell? ⟨gb177, 10, none⟩ = some (.int .i64 a0_10) := (blk_cell BK177.out 10).trans rfl; have hcz12_11 : w11.cell? ⟨gb177, 11, none⟩ = some (.int .i64 a0_11) := (blk_cell BK177.out 11).trans rfl; have hcz12_12 : w11.cell? ⟨gb177, 12, none⟩ = some (.int .i64 a0_12) := (blk_cell BK177.out 12).trans rfl; have hcz12_13 : w11.cell? ⟨gb177, 13, none⟩ = some (.int .i64 a0_13) := (blk_cell BK177.out 13).trans rfl; have hcz12_14 : w11.cell? ⟨gb177, 14, none⟩ = some (.int .i64 a0_14) := (blk_cell BK177.out 14).trans rfl; have hcz12_15 : w11.cell? ⟨gb177, 15, none⟩ = some (.int .i64 a0_15) := (blk_cell BK177.out 15).trans rfl; have hcz12_16 : w11.cell? ⟨gb177, 16, none⟩ = some (.int .i64 a0_16) := (blk_cell BK177.out 16).trans rfl; have hfz12_0 := blk_frozen BK177.out 0; have hfz12_1 := blk_frozen BK177.out 1; have hfz12_2 := blk_frozen BK177.out 2; have hfz12_3 := blk_frozen BK177.out 3; have hfz12_4 := blk_frozen BK177.out 4; have hfz12_5 := blk_frozen BK177.out 5; have hfz12_6 := blk_frozen BK177.out 6; have hfz12_7 := blk_frozen BK177.out 7; have hfz12_8 := blk_frozen BK177.out 8; have hfz12_9 := blk_frozen BK177.out 9; have hfz12_10 := blk_frozen BK177.out 10; have hfz12_11 := blk_frozen BK177.out 11; have hfz12_12 := blk_frozen BK177.out 12; have hfz12_13 := blk_frozen BK177.out 13; have hfz12_14 := blk_frozen BK177.out 14; have hfz12_15 := blk_frozen BK177.out 15; have hfz12_16 := blk_frozen BK177.out 16)))
        go_meet
        case rel => exact ⟨_, (true), (by first | rfl | (simp; done) | (simp [*]; done)), H', ⟨by first | omega | exact Nat.le_refl _⟩, ⟨by (with_reducible repeat (first | refine blk_drewN ?_ _ | refine blk_drew ?_ | refine blk_alloc ?_ _)); exact BK177.out⟩, ⟨by repeat (first | (with_reducible first | exact HB.out | apply below_alloc | apply pw_below_drewN | apply below_drew1 | refine below_set ?_ GE177.out) | exact HB.out)⟩⟩
    · replace c6 := Bool.eq_false_iff.mpr c6
      subst c6
      have H1 : (rule_Turns.j0 k a1 true a0_0 a0_1 a0_2 a0_3 a0_4 a0_5 a0_6 a0_7 a0_8 a0_9 a0_10 a0_11 a0_12 a0_13 a0_14 a0_15 a0_16) = some (r1, r2, r3) := by rw [if_neg (show ¬ (false = true) by decide)] at H; exact H
      clear H
      have H := H1
      clear H1
      have H' := Aside0.mk H
      clear H
      go_wp2_with (first | ((with_reducible refine gate_dst (N := 7) rfl ?_); refine wpList_load_row rfl 27 _ rfl (gb177) rfl 27 #[.int .i64 a0_0, .bool a0_1, .string a0_2, .int .i64 a0_3, .bool a0_4, .string a0_5, .bool a0_6, .int .i64 a0_7, .int .i64 a0_8, .int .i64 a0_9, .int .i64 a0_10, .int .i64 a0_11, .int .i64 a0_12, .int .i64 a0_13, .int .i64 a0_14, .int .i64 a0_15, .int .i64 a0_16] (0, 0) _ (by (with_reducible repeat (first | refine blk_drewN ?_ _ | refine blk_drew ?_ | refine blk_alloc ?_ _)); exact BK177.out) Tryd.underlying27 rfl (by kernel_rfl) ?_) | (go_at_call 26; (with_reducible refine (posix_Right.calls k a0_0 a0_1 a0_2 a0_3 a0_4 a0_5 a0_6 a0_7 a0_8 a0_9 a0_10 a0_11 a0_12 a0_13 a0_14 a0_15 a0_16 true false _ A5.out).mono ?_); rintro e w13 ⟨rfl, hb⟩; have n0_ := Aside0.mk (blk_below (g := gb177) (o := .cells #[.int .i64 a0_0, .bool a0_1, .string a0_2, .int .i64 a0_3, .bool a0_4, .string a0_5, .bool a0_6, .int .i64 a0_7, .int .i64 a0_8, .int .i64 a0_9, .int .i64 a0_10, .int .i64 a0_11, .int .i64 a0_12, .int .i64 a0_13, .int .i64 a0_14, .int .i64 a0_15, .int .i64 a0_16] 27 (0, 0)) (by (with_reducible repeat (first | refine blk_drewN ?_ _ | refine blk_drew ?_ | refine blk_alloc ?_ _)); exact BK177.out) hb); have n1_ := Aside0.mk (below_step (by repeat (first | (with_reducible first | exact HB.out | apply below_alloc | apply pw_below_drewN | apply below_drew1 | refine below_set ?_ GE177.out) | exact HB.out)) hb); clear BK177; clear HB; have BK177 := n0_; have HB := n1_; clear n0_ n1_; (try clear hb); (try clear hb2); (try clear hk); (try clear hi)))
      repeat (go_quiet (first | ((with_reducible refine gate_dst (N := 7) rfl ?_); refine wpList_load_row rfl 27 _ rfl (gb177) rfl 27 #[.int .i64 a0_0, .bool a0_1, .string a0_2, .int .i64 a0_3, .bool a0_4, .string a0_5, .bool a0_6, .int .i64 a0_7, .int .i64 a0_8, .int .i64 a0_9, .int .i64 a0_10, .int .i64 a0_11, .int .i64 a0_12, .int .i64 a0_13, .int .i64 a0_14, .int .i64 a0_15, .int .i64 a0_16] (0, 0) _ (by (with_reducible repeat (first | refine blk_drewN ?_ _ | refine blk_drew ?_ | refine blk_alloc ?_ _)); exact BK177.out) Tryd.underlying27 rfl (by kernel_rfl) ?_) | (go_at_call 26; (with_reducible refine (posix_Right.calls k a0_0 a0_1 a0_2 a0_3 a0_4 a0_5 a0_6 a0_7 a0_8 a0_9 a0_10 a0_11 a0_12 a0_13 a0_14 a0_15 a0_16 true false _ A5.out).mono ?_); rintro e w13 ⟨rfl, hb⟩; have n0_ := Aside0.mk (blk_below (g := gb177) (o := .cells #[.int .i64 a0_0, .bool a0_1, .string a0_2, .int .i64 a0_3, .bool a0_4, .string a0_5, .bool a0_6, .int .i64 a0_7, .int .i64 a0_8, .int .i64 a0_9, .int .i64 a0_10, .int .i64 a0_11, .int .i64 a0_12, .int .i64 a0_13, .int .i64 a0_14, .int .i64 a0_15, .int .i64 a0_16] 27 (0, 0)) (by (with_reducible repeat (first | refine blk_drewN ?_ _ | refine blk_drew ?_ | refine blk_alloc ?_ _)); exact BK177.out) hb); have n1_ := Aside0.mk (below_step (by repeat (first | (with_reducible first | exact HB.out | apply below_alloc | apply pw_below_drewN | apply below_drew1 | refine below_set ?_ GE177.out) | exact HB.out)) hb); clear BK177; clear HB; have BK177 := n0_; have HB := n1_; clear n0_ n1_; (try clear hb); (try clear hb2); (try clear hk); (try clear hi))); try go_wp2_with (first | ((with_reducible refine gate_dst (N := 7) rfl ?_); refine wpList_load_row rfl 27 _ rfl (gb177) rfl 27 #[.int .i64 a0_0, .bool a0_1, .string a0_2, .int .i64 a0_3, .bool a0_4, .string a0_5, .bool a0_6, .int .i64 a0_7, .int .i64 a0_8, .int .i64 a0_9, .int .i64 a0_10, .int .i64 a0_11, .int .i64 a0_12, .int .i64 a0_13, .int .i64 a0_14, .int .i64 a0_15, .int .i64 a0_16] (0, 0) _ (by (with_reducible repeat (first | refine blk_drewN ?_ _ | refine blk_drew ?_ | refine blk_alloc ?_ _)); exact BK177.out) Tryd.underlying27 rfl (by kernel_rfl) ?_) | (go_at_call 26; (with_reducible refine (posix_Right.calls k a0_0 a0_1 a0_2 a0_3 a0_4 a0_5 a0_6 a0_7 a0_8 a0_9 a0_10 a0_11 a0_12 a0_13 a0_14 a0_15 a0_16 true false _ A5.out).mono ?_); rintro e w13 ⟨rfl, hb⟩; have n0_ := Aside0.mk (blk_below (g := gb177) (o := .cells #[.int .i64 a0_0, .bool a0_1, .string a0_2, .int .i64 a0_3, .bool a0_4, .string a0_5, .bool a0_6, .int .i64 a0_7, .int .i64 a0_8, .int .i64 a0_9, .int .i64 a0_10, .int .i64 a0_11, .int .i64 a0_12, .int .i64 a0_13, .int .i64 a0_14, .int .i64 a0_15, .int .i64 a0_16] 27 (0, 0)) (by (with_reducible repeat (first | refine blk_drewN ?_ _ | refine blk_drew ?_ | refine blk_alloc ?_ _)); exact BK177.out) hb); have n1_ := Aside0.mk (below_step (by repeat (first | (with_reducible first | exact HB.out | apply below_alloc | apply pw_below_drewN | apply below_drew1 | refine below_set ?_ GE177.out) | exact HB.out)) hb); clear BK177; clear HB; have BK177 := n0_; have HB := n1_; clear n0_ n1_; (try clear hb); (try clear hb2); (try clear hk); (try clear hi))))
      go_meet
      case rel => exact ⟨_, (true), (by first | rfl | (simp; done) | (simp [*]; done)), H', ⟨by first | omega | exact Nat.le_refl _⟩, ⟨by (with_reducible repeat (first | refine blk_drewN ?_ _ | refine blk_drew ?_ | refine blk_alloc ?_ _)); exact BK177.out⟩, ⟨by repeat (first | (with_reducible first | exact HB.out | apply below_alloc | apply pw_below_drewN | apply below_drew1 | refine below_set ?_ GE177.out) | exact HB.out)⟩⟩
  case rest =>
    clear HC3
    try clear c1
    try clear p2
    try clear c6
    try clear c7
    try clear hcz10_0
    try clear hcz10_1
    try clear hcz10_10
    try clear hcz10_11
    try clear hcz10_12
    try clear hcz10_13
    try clear hcz10_14
    try clear hcz10_15
    try clear hcz10_16
    try clear hcz10_2
    try clear hcz10_3
    try clear hcz10_4
    try clear hcz10_5
    try clear hcz10_6
    try clear hcz10_7
    try clear hcz10_8
    try clear hcz10_9
    try clear hcz12_0
    try clear hcz12_1
    try clear hcz12_10
    try clear hcz12_11
    try clear hcz12_12
    try clear hcz12_13
    try clear hcz12_14
    try clear hcz12_15
    try clear hcz12_16
    try clear hcz12_2
    try clear hcz12_3
    try clear hcz12_4
    try clear hcz12_5
    try clear hcz12_6
    try clear hcz12_7
    try clear hcz12_8
    try clear hcz12_9
    try clear hfz10_0
    try clear hfz10_1
    try clear hfz10_10
    try clear hfz10_11
    try clear hfz10_12
    try clear hfz10_13
    try clear hfz10_14
    try clear hfz10_15
    try clear hfz10_16
    try clear hfz10_2
    try clear hfz10_3
    try clear hfz10_4
    try clear hfz10_5
    try clear hfz10_6
    try clear hfz10_7
    try clear hfz10_8
    try clear hfz10_9
    try clear hfz12_0
    try clear hfz12_1
    try clear hfz12_10
    try clear hfz12_11
    try clear hfz12_12
    try clear hfz12_13
    try clear hfz12_14
    try clear hfz12_15
    try clear hfz12_16
    try clear hfz12_2
    try clear hfz12_3
    try clear hfz12_4
    try clear hfz12_5
    try clear hfz12_6
    try clear hfz12_7
    try clear hfz12_8
    try clear hfz12_9
    obtain ⟨kq, x19_2, rfl, HA, HJ2, BK177, HB⟩ := hcut
    cases kq with
    | zero => exact absurd HA.out (by simp [rule_Turns.j0])
    | succ kj2 =>
      have H := HA.out
      clear HA
      simp only [rule_Turns.j0] at H
      by_cases c14 : x19_2 = true
      · subst c14
        have H1 : (some (0, 0, 1)) = some (r1, r2, r3) := by rw [if_pos rfl] at H; exact H
        clear H
        have H := H1
        clear H1
        simp only [Option.some.injEq, Prod.mk.injEq] at H
        obtain ⟨rfl, rfl, rfl⟩ := H
        go_wp2
        repeat (go_quiet (fail); try go_wp2)
        go_ret3
        exact ⟨by first | rfl | (simp [errW_none, errW_some] <;> rfl) | (simp [*, errW_none, errW_some] <;> rfl), by repeat (first | (with_reducible first | exact HB.out | apply below_alloc | apply pw_below_drewN | apply below_drew1 | refine below_set ?_ GE177.out) | exact HB.out)⟩
      · replace c14 := Bool.eq_false_iff.mpr c14
        subst c14
        have H1 : ((rule_Day.f kj2 a1 a0_7 a0_8 a0_9 a0_10 a0_11).bind fun bt180 => ((rule_Day.f kj2 a1 a0_12 a0_13 a0_14 a0_15 a0_16).bind fun bt182 => (some (wrap64 ((wrap64 (bt180.1 * 86400)) + (wrap64 (a0_11 - a0_0))), wrap64 ((wrap64 (bt182.1 * 86400)) + (wrap64 (a0_16 - a0_3))), 0)))) = some (r1, r2, r3) := by rw [if_neg (show ¬ (false = true) by decide)] at H; exact H
        clear H
        have H := H1
        clear H1
        replace H := Option.bind_eq_some_iff.mp H
        obtain ⟨⟨t180, t181⟩, A150, H⟩ := H
        replace H : ((rule_Day.f kj2 a1 a0_12 a0_13 a0_14 a0_15 a0_16).bind fun bt182 => (some (wrap64 ((wrap64 (t180 * 86400)) + (wrap64 (a0_11 - a0_0))), wrap64 ((wrap64 (bt182.1 * 86400)) + (wrap64 (a0_16 - a0_3))), 0))) = some (r1, r2, r3) := H
        have A15 := Aside0.mk A150
        clear A150
        replace H := Option.bind_eq_some_iff.mp H
        obtain ⟨⟨t182, t183⟩, A160, H⟩ := H
        replace H : (some (wrap64 ((wrap64 (t180 * 86400)) + (wrap64 (a0_11 - a0_0))), wrap64 ((wrap64 (t182 * 86400)) + (wrap64 (a0_16 - a0_3))), 0)) = some (r1, r2, r3) := H
        have A16 := Aside0.mk A160
        clear A160
        simp only [Option.some.injEq, Prod.mk.injEq] at H
        obtain ⟨rfl, rfl, rfl⟩ := H
        have hcz17_0 : wc.cell? ⟨gb177, 0, none⟩ = some (.int .i64 a0_0) := (blk_cell BK177.out 0).trans rfl
        have hcz17_1 : wc.cell? ⟨gb177, 1, none⟩ = some (.bool a0_1) := (blk_cell BK177.out 1).trans rfl
        have hcz17_2 : wc.cell? ⟨gb177, 2, none⟩ = some (.string a0_2) := (blk_cell BK177.out 2).trans rfl
        have hcz17_3 : wc.cell? ⟨gb177, 3, none⟩ = some (.int .i64 a0_3) := (blk_cell BK177.out 3).trans rfl
        have hcz17_4 : wc.cell? ⟨gb177, 4, none⟩ = some (.bool a0_4) := (blk_cell BK177.out 4).trans rfl
        have hcz17_5 : wc.cell? ⟨gb177, 5, none⟩ = some (.string a0_5) := (blk_cell BK177.out 5).trans rfl
        have hcz17_6 : wc.cell? ⟨gb177, 6, none⟩ = some (.bool a0_6) := (blk_cell BK177.out 6).trans rfl
        have hcz17_7 : wc.cell? ⟨gb177, 7, none⟩ = some (.int .i64 a0_7) := (blk_cell BK177.out 7).trans rfl
        have hcz17_8 : wc.cell? ⟨gb177, 8, none⟩ = some (.int .i64 a0_8) := (blk_cell BK177.out 8).trans rfl
        have hcz17_9 : wc.cell? ⟨gb177, 9, none⟩ = some (.int .i64 a0_9) := (blk_cell BK177.out 9).trans rfl
        have hcz17_10 : wc.cell? ⟨gb177, 10, none⟩ = some (.int .i64 a0_10) := (blk_cell BK177.out 10).trans rfl
        have hcz17_11 : wc.cell? ⟨gb177, 11, none⟩ = some (.int .i64 a0_11) := (blk_cell BK177.out 11).trans rfl
        have hcz17_12 : wc.cell? ⟨gb177, 12, none⟩ = some (.int .i64 a0_12) := (blk_cell BK177.out 12).trans rfl
        have hcz17_13 : wc.cell? ⟨gb177, 13, none⟩ = some (.int .i64 a0_13) := (blk_cell BK177.out 13).trans rfl
        have hcz17_14 : wc.cell? ⟨gb177, 14, none⟩ = some (.int .i64 a0_14) := (blk_cell BK177.out 14).trans rfl
        have hcz17_15 : wc.cell? ⟨gb177, 15, none⟩ = some (.int .i64 a0_15) := (blk_cell BK177.out 15).trans rfl
        have hcz17_16 : wc.cell? ⟨gb177, 16, none⟩ = some (.int .i64 a0_16) := (blk_cell BK177.out 16).trans rfl
        have hfz17_0 := blk_frozen BK177.out 0
        have hfz17_1 := blk_frozen BK177.out 1
        have hfz17_2 := blk_frozen BK177.out 2
        have hfz17_3 := blk_frozen BK177.out 3
        have hfz17_4 := blk_frozen BK177.out 4
        have hfz17_5 := blk_frozen BK177.out 5
        have hfz17_6 := blk_frozen BK177.out 6
        have hfz17_7 := blk_frozen BK177.out 7
        have hfz17_8 := blk_frozen BK177.out 8
        have hfz17_9 := blk_frozen BK177.out 9
        have hfz17_10 := blk_frozen BK177.out 10
        have hfz17_11 := blk_frozen BK177.out 11
        have hfz17_12 := blk_frozen BK177.out 12
        have hfz17_13 := blk_frozen BK177.out 13
        have hfz17_14 := blk_frozen BK177.out 14
        have hfz17_15 := blk_frozen BK177.out 15
        have hfz17_16 := blk_frozen BK177.out 16
        go_wp2_with (first | (go_at_call 12; (with_reducible refine (rule_Day.calls kj2 a1 a0_7 a0_8 a0_9 a0_10 a0_11 t180 t181 _ ?side1 A15.out).mono ?_); (case side1 => exact GL.below HG.out (by repeat (first | (with_reducible first | exact HB.out | apply below_alloc | apply pw_below_drewN | apply below_drew1 | refine below_set ?_ GE177.out) | exact HB.out))); rintro e w18 ⟨rfl, hb⟩; have n0_ := Aside0.mk (blk_below (g := gb177) (o := .cells #[.int .i64 a0_0, .bool a0_1, .string a0_2, .int .i64 a0_3, .bool a0_4, .string a0_5, .bool a0_6, .int .i64 a0_7, .int .i64 a0_8, .int .i64 a0_9, .int .i64 a0_10, .int .i64 a0_11, .int .i64 a0_12, .int .i64 a0_13, .int .i64 a0_14, .int .i64 a0_15, .int .i64 a0_16] 27 (0, 0)) (by (with_reducible repeat (first | refine blk_drewN ?_ _ | refine blk_drew ?_ | refine blk_alloc ?_ _)); exact BK177.out) hb); have n1_ := Aside0.mk (below_step (by repeat (first | (with_reducible first | exact HB.out | apply below_alloc | apply pw_below_drewN | apply below_drew1 | refine below_set ?_ GE177.out) | exact HB.out)) hb); clear BK177; clear HB; have BK177 := n0_; have HB := n1_; clear n0_ n1_; (try clear hb); (try clear hb2); (try clear hk); (try clear hi); have hcz19_0 : w18.cell? ⟨gb177, 0, none⟩ = some (.int .i64 a0_0) := (blk_cell BK177.out 0).trans rfl; have hcz19_1 : w18.cell? ⟨gb177, 1, none⟩ = some (.bool a0_1) := (blk_cell BK177.out 1).trans rfl; have hcz19_2 : w18.cell? ⟨gb177, 2, none⟩ = some (.string a0_2) := (blk_cell BK177.out 2).trans rfl; have hcz19_3 : w18.cell? ⟨gb177, 3, none⟩ = some (.int .i64 a0_3) := (blk_cell BK177.out 3).trans rfl; have hcz19_4 : w18.cell? ⟨gb177, 4, none⟩ = some (.bool a0_4) := (blk_cell BK177.out 4).trans rfl; have hcz19_5 : w18.cell? ⟨gb177, 5, none⟩ = some (.string a0_5) := (blk_cell BK177.out 5).trans rfl; have hcz19_6 : w18.cell? ⟨gb177, 6, none⟩ = some (.bool a0_6) := (blk_cell BK177.out 6).trans rfl; have hcz19_7 : w18.cell? ⟨gb177, 7, none⟩ = some (.int .i64 a0_7) := (blk_cell BK177.out 7).trans rfl; have hcz19_8 : w18.cell? ⟨gb177, 8, none⟩ = some (.int .i64 a0_8) := (blk_cell BK177.out 8).trans rfl; have hcz19_9 : w18.cell? ⟨gb177, 9, none⟩ = some (.int .i64 a0_9) := (blk_cell BK177.out 9).trans rfl; have hcz19_10 : w18.cell? ⟨gb177, 10, none⟩ = some (.int .i64 a0_10) := (blk_cell BK177.out 10).trans rfl; have hcz19_11 : w18.cell? ⟨gb177, 11, none⟩ = some (.int .i64 a0_11) := (blk_cell BK177.out 11).trans rfl; have hcz19_12 : w18.cell? ⟨gb177, 12, none⟩ = some (.int .i64 a0_12) := (blk_cell BK177.out 12).trans rfl; have hcz19_13 : w18.cell? ⟨gb177, 13, none⟩ = some (.int .i64 a0_13) := (blk_cell BK177.out 13).trans rfl; have hcz19_14 : w18.cell? ⟨gb177, 14, none⟩ = some (.int .i64 a0_14) := (blk_cell BK177.out 14).trans rfl; have hcz19_15 : w18.cell? ⟨gb177, 15, none⟩ = some (.int .i64 a0_15) := (blk_cell BK177.out 15).trans rfl; have hcz19_16 : w18.cell? ⟨gb177, 16, none⟩ = some (.int .i64 a0_16) := (blk_cell BK177.out 16).trans rfl; have hfz19_0 := blk_frozen BK177.out 0; have hfz19_1 := blk_frozen BK177.out 1; have hfz19_2 := blk_frozen BK177.out 2; have hfz19_3 := blk_frozen BK177.out 3; have hfz19_4 := blk_frozen BK177.out 4; have hfz19_5 := blk_frozen BK177.out 5; have hfz19_6 := blk_frozen BK177.out 6; have hfz19_7 := blk_frozen BK177.out 7; have hfz19_8 := blk_frozen BK177.out 8; have hfz19_9 := blk_frozen BK177.out 9; have hfz19_10 := blk_frozen BK177.out 10; have hfz19_11 := blk_frozen BK177.out 11; have hfz19_12 := blk_frozen BK177.out 12; have hfz19_13 := blk_frozen BK177.out 13; have hfz19_14 := blk_frozen BK177.out 14; have hfz19_15 := blk_frozen BK177.out 15; have hfz19_16 := blk_frozen BK177.out 16) | (go_at_call 12; (with_reducible refine (rule_Day.calls kj2 a1 a0_12 a0_13 a0_14 a0_15 a0_16 t182 t183 _ ?side1 A16.out).mono ?_); (case side1 => exact GL.below HG.out (by repeat (first | (with_reducible first | exact HB.out | apply below_alloc | apply pw_below_drewN | apply below_drew1 | refine below_set ?_ GE177.out) | exact HB.out))); rintro e w20 ⟨rfl, hb⟩; have n0_ := Aside0.mk (blk_below (g := gb177) (o := .cells #[.int .i64 a0_0, .bool a0_1, .string a0_2, .int .i64 a0_3, .bool a0_4, .string a0_5, .bool a0_6, .int .i64 a0_7, .int .i64 a0_8, .int .i64 a0_9, .int .i64 a0_10, .int .i64 a0_11, .int .i64 a0_12, .int .i64 a0_13, .int .i64 a0_14, .int .i64 a0_15, .int .i64 a0_16] 27 (0, 0)) (by (with_reducible repeat (first | refine blk_drewN ?_ _ | refine blk_drew ?_ | refine blk_alloc ?_ _)); exact BK177.out) hb); have n1_ := Aside0.mk (below_step (by repeat (first | (with_reducible first | exact HB.out | apply below_alloc | apply pw_below_drewN | apply below_drew1 | refine below_set ?_ GE177.out) | exact HB.out)) hb); clear BK177; clear HB; have BK177 := n0_; have HB := n1_; clear n0_ n1_; (try clear hb); (try clear hb2); (try clear hk); (try clear hi); have hcz21_0 : w20.cell? ⟨gb177, 0, none⟩ = some (.int .i64 a0_0) := (blk_cell BK177.out 0).trans rfl; have hcz21_1 : w20.cell? ⟨gb177, 1, none⟩ = some (.bool a0_1) := (blk_cell BK177.out 1).trans rfl; have hcz21_2 : w20.cell? ⟨gb177, 2, none⟩ = some (.string a0_2) := (blk_cell BK177.out 2).trans rfl; have hcz21_3 : w20.cell? ⟨gb177, 3, none⟩ = some (.int .i64 a0_3) := (blk_cell BK177.out 3).trans rfl; have hcz21_4 : w20.cell? ⟨gb177, 4, none⟩ = some (.bool a0_4) := (blk_cell BK177.out 4).trans rfl; have hcz21_5 : w20.cell? ⟨gb177, 5, none⟩ = some (.string a0_5) := (blk_cell BK177.out 5).trans rfl; have hcz21_6 : w20.cell? ⟨gb177, 6, none⟩ = some (.bool a0_6) := (blk_cell BK177.out 6).trans rfl; have hcz21_7 : w20.cell? ⟨gb177, 7, none⟩ = some (.int .i64 a0_7) := (blk_cell BK177.out 7).trans rfl; have hcz21_8 : w20.cell? ⟨gb177, 8, none⟩ = some (.int .i64 a0_8) := (blk_cell BK177.out 8).trans rfl; have hcz21_9 : w20.cell? ⟨gb177, 9, none⟩ = some (.int .i64 a0_9) := (blk_cell BK177.out 9).trans rfl; have hcz21_10 : w20.cell? ⟨gb177, 10, none⟩ = some (.int .i64 a0_10) := (blk_cell BK177.out 10).trans rfl; have hcz21_11 : w20.cell? ⟨gb177, 11, none⟩ = some (.int .i64 a0_11) := (blk_cell BK177.out 11).trans rfl; have hcz21_12 : w20.cell? ⟨gb177, 12, none⟩ = some (.int .i64 a0_12) := (blk_cell BK177.out 12).trans rfl; have hcz21_13 : w20.cell? ⟨gb177, 13, none⟩ = some (.int .i64 a0_13) := (blk_cell BK177.out 13).trans rfl; have hcz21_14 : w20.cell? ⟨gb177, 14, none⟩ = some (.int .i64 a0_14) := (blk_cell BK177.out 14).trans rfl; have hcz21_15 : w20.cell? ⟨gb177, 15, none⟩ = some (.int .i64 a0_15) := (blk_cell BK177.out 15).trans rfl; have hcz21_16 : w20.cell? ⟨gb177, 16, none⟩ = some (.int .i64 a0_16) := (blk_cell BK177.out 16).trans rfl; have hfz21_0 := blk_frozen BK177.out 0; have hfz21_1 := blk_frozen BK177.out 1; have hfz21_2 := blk_frozen BK177.out 2; have hfz21_3 := blk_frozen BK177.out 3; have hfz21_4 := blk_frozen BK177.out 4; have hfz21_5 := blk_frozen BK177.out 5; have hfz21_6 := blk_frozen BK177.out 6; have hfz21_7 := blk_frozen BK177.out 7; have hfz21_8 := blk_frozen BK177.out 8; have hfz21_9 := blk_frozen BK177.out 9; have hfz21_10 := blk_frozen BK177.out 10; have hfz21_11 := blk_frozen BK177.out 11; have hfz21_12 := blk_frozen BK177.out 12; have hfz21_13 := blk_frozen BK177.out 13; have hfz21_14 := blk_frozen BK177.out 14; have hfz21_15 := blk_frozen BK177.out 15; have hfz21_16 := blk_frozen BK177.out 16))
        repeat (go_quiet (first | (go_at_call 12; (with_reducible refine (rule_Day.calls kj2 a1 a0_7 a0_8 a0_9 a0_10 a0_11 t180 t181 _ ?side1 A15.out).mono ?_); (case side1 => exact GL.below HG.out (by repeat (first | (with_reducible first | exact HB.out | apply below_alloc | apply pw_below_drewN | apply below_drew1 | refine below_set ?_ GE177.out) | exact HB.out))); rintro e w18 ⟨rfl, hb⟩; have n0_ := Aside0.mk (blk_below (g := gb177) (o := .cells #[.int .i64 a0_0, .bool a0_1, .string a0_2, .int .i64 a0_3, .bool a0_4, .string a0_5, .bool a0_6, .int .i64 a0_7, .int .i64 a0_8, .int .i64 a0_9, .int .i64 a0_10, .int .i64 a0_11, .int .i64 a0_12, .int .i64 a0_13, .int .i64 a0_14, .int .i64 a0_15, .int .i64 a0_16] 27 (0, 0)) (by (with_reducible repeat (first | refine blk_drewN ?_ _ | refine blk_drew ?_ | refine blk_alloc ?_ _)); exact BK177.out) hb); have n1_ := Aside0.mk (below_step (by repeat (first | (with_reducible first | exact HB.out | apply below_alloc | apply pw_below_drewN | apply below_drew1 | refine below_set ?_ GE177.out) | exact HB.out)) hb); clear BK177; clear HB; have BK177 := n0_; have HB := n1_; clear n0_ n1_; (try clear hb); (try clear hb2); (try clear hk); (try clear hi); have hcz19_0 : w18.cell? ⟨gb177, 0, none⟩ = some (.int .i64 a0_0) := (blk_cell BK177.out 0).trans rfl; have hcz19_1 : w18.cell? ⟨gb177, 1, none⟩ = some (.bool a0_1) := (blk_cell BK177.out 1).trans rfl; have hcz19_2 : w18.cell? ⟨gb177, 2, none⟩ = some (.string a0_2) := (blk_cell BK177.out 2).trans rfl; have hcz19_3 : w18.cell? ⟨gb177, 3, none⟩ = some (.int .i64 a0_3) := (blk_cell BK177.out 3).trans rfl; have hcz19_4 : w18.cell? ⟨gb177, 4, none⟩ = some (.bool a0_4) := (blk_cell BK177.out 4).trans rfl; have hcz19_5 : w18.cell? ⟨gb177, 5, none⟩ = some (.string a0_5) := (blk_cell BK177.out 5).trans rfl; have hcz19_6 : w18.cell? ⟨gb177, 6, none⟩ = some (.bool a0_6) := (blk_cell BK177.out 6).trans rfl; have hcz19_7 : w18.cell? ⟨gb177, 7, none⟩ = some (.int .i64 a0_7) := (blk_cell BK177.out 7).trans rfl; have hcz19_8 : w18.cell? ⟨gb177, 8, none⟩ = some (.int .i64 a0_8) := (blk_cell BK177.out 8).trans rfl; have hcz19_9 : w18.cell? ⟨gb177, 9, none⟩ = some (.int .i64 a0_9) := (blk_cell BK177.out 9).trans rfl; have hcz19_10 : w18.cell? ⟨gb177, 10, none⟩ = some (.int .i64 a0_10) := (blk_cell BK177.out 10).trans rfl; have hcz19_11 : w18.cell? ⟨gb177, 11, none⟩ = some (.int .i64 a0_11) := (blk_cell BK177.out 11).trans rfl; have hcz19_12 : w18.cell? ⟨gb177, 12, none⟩ = some (.int .i64 a0_12) := (blk_cell BK177.out 12).trans rfl; have hcz19_13 : w18.cell? ⟨gb177, 13, none⟩ = some (.int .i64 a0_13) := (blk_cell BK177.out 13).trans rfl; have hcz19_14 : w18.cell? ⟨gb177, 14, none⟩ = some (.int .i64 a0_14) := (blk_cell BK177.out 14).trans rfl; have hcz19_15 : w18.cell? ⟨gb177, 15, none⟩ = some (.int .i64 a0_15) := (blk_cell BK177.out 15).trans rfl; have hcz19_16 : w18.cell? ⟨gb177, 16, none⟩ = some (.int .i64 a0_16) := (blk_cell BK177.out 16).trans rfl; have hfz19_0 := blk_frozen BK177.out 0; have hfz19_1 := blk_frozen BK177.out 1; have hfz19_2 := blk_frozen BK177.out 2; have hfz19_3 := blk_frozen BK177.out 3; have hfz19_4 := blk_frozen BK177.out 4; have hfz19_5 := blk_frozen BK177.out 5; have hfz19_6 := blk_frozen BK177.out 6; have hfz19_7 := blk_frozen BK177.out 7; have hfz19_8 := blk_frozen BK177.out 8; have hfz19_9 := blk_frozen BK177.out 9; have hfz19_10 := blk_frozen BK177.out 10; have hfz19_11 := blk_frozen BK177.out 11; have hfz19_12 := blk_frozen BK177.out 12; have hfz19_13 := blk_frozen BK177.out 13; have hfz19_14 := blk_frozen BK177.out 14; have hfz19_15 := blk_frozen BK177.out 15; have hfz19_16 := blk_frozen BK177.out 16) | (go_at_call 12; (with_reducible refine (rule_Day.calls kj2 a1 a0_12 a0_13 a0_14 a0_15 a0_16 t182 t183 _ ?side1 A16.out).mono ?_); (case side1 => exact GL.below HG.out (by repeat (first | (with_reducible first | exact HB.out | apply below_alloc | apply pw_below_drewN | apply below_drew1 | refine below_set ?_ GE177.out) | exact HB.out))); rintro e w20 ⟨rfl, hb⟩; have n0_ := Aside0.mk (blk_below (g := gb177) (o := .cells #[.int .i64 a0_0, .bool a0_1, .string a0_2, .int .i64 a0_3, .bool a0_4, .string a0_5, .bool a0_6, .int .i64 a0_7, .int .i64 a0_8, .int .i64 a0_9, .int .i64 a0_10, .int .i64 a0_11, .int .i64 a0_12, .int .i64 a0_13, .int .i64 a0_14, .int .i64 a0_15, .int .i64 a0_16] 27 (0, 0)) (by (with_reducible repeat (first | refine blk_drewN ?_ _ | refine blk_drew ?_ | refine blk_alloc ?_ _)); exact BK177.out) hb); have n1_ := Aside0.mk (below_step (by repeat (first | (with_reducible first | exact HB.out | apply below_alloc | apply pw_below_drewN | apply below_drew1 | refine below_set ?_ GE177.out) | exact HB.out)) hb); clear BK177; clear HB; have BK177 := n0_; have HB := n1_; clear n0_ n1_; (try clear hb); (try clear hb2); (try clear hk); (try clear hi); have hcz21_0 : w20.cell? ⟨gb177, 0, none⟩ = some (.int .i64 a0_0) := (blk_cell BK177.out 0).trans rfl; have hcz21_1 : w20.cell? ⟨gb177, 1, none⟩ = some (.bool a0_1) := (blk_cell BK177.out 1).trans rfl; have hcz21_2 : w20.cell? ⟨gb177, 2, none⟩ = some (.string a0_2) := (blk_cell BK177.out 2).trans rfl; have hcz21_3 : w20.cell? ⟨gb177, 3, none⟩ = some (.int .i64 a0_3) := (blk_cell BK177.out 3).trans rfl; have hcz21_4 : w20.cell? ⟨gb177, 4, none⟩ = some (.bool a0_4) := (blk_cell BK177.out 4).trans rfl; have hcz21_5 : w20.cell? ⟨gb177, 5, none⟩ = some (.string a0_5) := (blk_cell BK177.out 5).trans rfl; have hcz21_6 : w20.cell? ⟨gb177, 6, none⟩ = some (.bool a0_6) := (blk_cell BK177.out 6).trans rfl; have hcz21_7 : w20.cell? ⟨gb177, 7, none⟩ = some (.int .i64 a0_7) := (blk_cell BK177.out 7).trans rfl; have hcz21_8 : w20.cell? ⟨gb177, 8, none⟩ = some (.int .i64 a0_8) := (blk_cell BK177.out 8).trans rfl; have hcz21_9 : w20.cell? ⟨gb177, 9, none⟩ = some (.int .i64 a0_9) := (blk_cell BK177.out 9).trans rfl; have hcz21_10 : w20.cell? ⟨gb177, 10, none⟩ = some (.int .i64 a0_10) := (blk_cell BK177.out 10).trans rfl; have hcz21_11 : w20.cell? ⟨gb177, 11, none⟩ = some (.int .i64 a0_11) := (blk_cell BK177.out 11).trans rfl; have hcz21_12 : w20.cell? ⟨gb177, 12, none⟩ = some (.int .i64 a0_12) := (blk_cell BK177.out 12).trans rfl; have hcz21_13 : w20.cell? ⟨gb177, 13, none⟩ = some (.int .i64 a0_13) := (blk_cell BK177.out 13).trans rfl; have hcz21_14 : w20.cell? ⟨gb177, 14, none⟩ = some (.int .i64 a0_14) := (blk_cell BK177.out 14).trans rfl; have hcz21_15 : w20.cell? ⟨gb177, 15, none⟩ = some (.int .i64 a0_15) := (blk_cell BK177.out 15).trans rfl; have hcz21_16 : w20.cell? ⟨gb177, 16, none⟩ = some (.int .i64 a0_16) := (blk_cell BK177.out 16).trans rfl; have hfz21_0 := blk_frozen BK177.out 0; have hfz21_1 := blk_frozen BK177.out 1; have hfz21_2 := blk_frozen BK177.out 2; have hfz21_3 := blk_frozen BK177.out 3; have hfz21_4 := blk_frozen BK177.out 4; have hfz21_5 := blk_frozen BK177.out 5; have hfz21_6 := blk_frozen BK177.out 6; have hfz21_7 := blk_frozen BK177.out 7; have hfz21_8 := blk_frozen BK177.out 8; have hfz21_9 := blk_frozen BK177.out 9; have hfz21_10 := blk_frozen BK177.out 10; have hfz21_11 := blk_frozen BK177.out 11; have hfz21_12 := blk_frozen BK177.out 12; have hfz21_13 := blk_frozen BK177.out 13; have hfz21_14 := blk_frozen BK177.out 14; have hfz21_15 := blk_frozen BK177.out 15; have hfz21_16 := blk_frozen BK177.out 16)); try go_wp2_with (first | (go_at_call 12; (with_reducible refine (rule_Day.calls kj2 a1 a0_7 a0_8 a0_9 a0_10 a0_11 t180 t181 _ ?side1 A15.out).mono ?_); (case side1 => exact GL.below HG.out (by repeat (first | (with_reducible first | exact HB.out | apply below_alloc | apply pw_below_drewN | apply below_drew1 | refine below_set ?_ GE177.out) | exact HB.out))); rintro e w18 ⟨rfl, hb⟩; have n0_ := Aside0.mk (blk_below (g := gb177) (o := .cells #[.int .i64 a0_0, .bool a0_1, .string a0_2, .int .i64 a0_3, .bool a0_4, .string a0_5, .bool a0_6, .int .i64 a0_7, .int .i64 a0_8, .int .i64 a0_9, .int .i64 a0_10, .int .i64 a0_11, .int .i64 a0_12, .int .i64 a0_13, .int .i64 a0_14, .int .i64 a0_15, .int .i64 a0_16] 27 (0, 0)) (by (with_reducible repeat (first | refine blk_drewN ?_ _ | refine blk_drew ?_ | refine blk_alloc ?_ _)); exact BK177.out) hb); have n1_ := Aside0.mk (below_step (by repeat (first | (with_reducible first | exact HB.out | apply below_alloc | apply pw_below_drewN | apply below_drew1 | refine below_set ?_ GE177.out) | exact HB.out)) hb); clear BK177; clear HB; have BK177 := n0_; have HB := n1_; clear n0_ n1_; (try clear hb); (try clear hb2); (try clear hk); (try clear hi); have hcz19_0 : w18.cell? ⟨gb177, 0, none⟩ = some (.int .i64 a0_0) := (blk_cell BK177.out 0).trans rfl; have hcz19_1 : w18.cell? ⟨gb177, 1, none⟩ = some (.bool a0_1) := (blk_cell BK177.out 1).trans rfl; have hcz19_2 : w18.cell? ⟨gb177, 2, none⟩ = some (.string a0_2) := (blk_cell BK177.out 2).trans rfl; have hcz19_3 : w18.cell? ⟨gb177, 3, none⟩ = some (.int .i64 a0_3) := (blk_cell BK177.out 3).trans rfl; have hcz19_4 : w18.cell? ⟨gb177, 4, none⟩ = some (.bool a0_4) := (blk_cell BK177.out 4).trans rfl; have hcz19_5 : w18.cell? ⟨gb177, 5, none⟩ = some (.string a0_5) := (blk_cell BK177.out 5).trans rfl; have hcz19_6 : w18.cell? ⟨gb177, 6, none⟩ = some (.bool a0_6) := (blk_cell BK177.out 6).trans rfl; have hcz19_7 : w18.cell? ⟨gb177, 7, none⟩ = some (.int .i64 a0_7) := (blk_cell BK177.out 7).trans rfl; have hcz19_8 : w18.cell? ⟨gb177, 8, none⟩ = some (.int .i64 a0_8) := (blk_cell BK177.out 8).trans rfl; have hcz19_9 : w18.cell? ⟨gb177, 9, none⟩ = some (.int .i64 a0_9) := (blk_cell BK177.out 9).trans rfl; have hcz19_10 : w18.cell? ⟨gb177, 10, none⟩ = some (.int .i64 a0_10) := (blk_cell BK177.out 10).trans rfl; have hcz19_11 : w18.cell? ⟨gb177, 11, none⟩ = some (.int .i64 a0_11) := (blk_cell BK177.out 11).trans rfl; have hcz19_12 : w18.cell? ⟨gb177, 12, none⟩ = some (.int .i64 a0_12) := (blk_cell BK177.out 12).trans rfl; have hcz19_13 : w18.cell? ⟨gb177, 13, none⟩ = some (.int .i64 a0_13) := (blk_cell BK177.out 13).trans rfl; have hcz19_14 : w18.cell? ⟨gb177, 14, none⟩ = some (.int .i64 a0_14) := (blk_cell BK177.out 14).trans rfl; have hcz19_15 : w18.cell? ⟨gb177, 15, none⟩ = some (.int .i64 a0_15) := (blk_cell BK177.out 15).trans rfl; have hcz19_16 : w18.cell? ⟨gb177, 16, none⟩ = some (.int .i64 a0_16) := (blk_cell BK177.out 16).trans rfl; have hfz19_0 := blk_frozen BK177.out 0; have hfz19_1 := blk_frozen BK177.out 1; have hfz19_2 := blk_frozen BK177.out 2; have hfz19_3 := blk_frozen BK177.out 3; have hfz19_4 := blk_frozen BK177.out 4; have hfz19_5 := blk_frozen BK177.out 5; have hfz19_6 := blk_frozen BK177.out 6; have hfz19_7 := blk_frozen BK177.out 7; have hfz19_8 := blk_frozen BK177.out 8; have hfz19_9 := blk_frozen BK177.out 9; have hfz19_10 := blk_frozen BK177.out 10; have hfz19_11 := blk_frozen BK177.out 11; have hfz19_12 := blk_frozen BK177.out 12; have hfz19_13 := blk_frozen BK177.out 13; have hfz19_14 := blk_frozen BK177.out 14; have hfz19_15 := blk_frozen BK177.out 15; have hfz19_16 := blk_frozen BK177.out 16) | (go_at_call 12; (with_reducible refine (rule_Day.calls kj2 a1 a0_12 a0_13 a0_14 a0_15 a0_16 t182 t183 _ ?side1 A16.out).mono ?_); (case side1 => exact GL.below HG.out (by repeat (first | (with_reducible first | exact HB.out | apply below_alloc | apply pw_below_drewN | apply below_drew1 | refine below_set ?_ GE177.out) | exact HB.out))); rintro e w20 ⟨rfl, hb⟩; have n0_ := Aside0.mk (blk_below (g := gb177) (o := .cells #[.int .i64 a0_0, .bool a0_1, .string a0_2, .int .i64 a0_3, .bool a0_4, .string a0_5, .bool a0_6, .int .i64 a0_7, .int .i64 a0_8, .int .i64 a0_9, .int .i64 a0_10, .int .i64 a0_11, .int .i64 a0_12, .int .i64 a0_13, .int .i64 a0_14, .int .i64 a0_15, .int .i64 a0_16] 27 (0, 0)) (by (with_reducible repeat (first | refine blk_drewN ?_ _ | refine blk_drew ?_ | refine blk_alloc ?_ _)); exact BK177.out) hb); have n1_ := Aside0.mk (below_step (by repeat (first | (with_reducible first | exact HB.out | apply below_alloc | apply pw_below_drewN | apply below_drew1 | refine below_set ?_ GE177.out) | exact HB.out)) hb); clear BK177; clear HB; have BK177 := n0_; have HB := n1_; clear n0_ n1_; (try clear hb); (try clear hb2); (try clear hk); (try clear hi); have hcz21_0 : w20.cell? ⟨gb177, 0, none⟩ = some (.int .i64 a0_0) := (blk_cell BK177.out 0).trans rfl; have hcz21_1 : w20.cell? ⟨gb177, 1, none⟩ = some (.bool a0_1) := (blk_cell BK177.out 1).trans rfl; have hcz21_2 : w20.cell? ⟨gb177, 2, none⟩ = some (.string a0_2) := (blk_cell BK177.out 2).trans rfl; have hcz21_3 : w20.cell? ⟨gb177, 3, none⟩ = some (.int .i64 a0_3) := (blk_cell BK177.out 3).trans rfl; have hcz21_4 : w20.cell? ⟨gb177, 4, none⟩ = some (.bool a0_4) := (blk_cell BK177.out 4).trans rfl; have hcz21_5 : w20.cell? ⟨gb177, 5, none⟩ = some (.string a0_5) := (blk_cell BK177.out 5).trans rfl; have hcz21_6 : w20.cell? ⟨gb177, 6, none⟩ = some (.bool a0_6) := (blk_cell BK177.out 6).trans rfl; have hcz21_7 : w20.cell? ⟨gb177, 7, none⟩ = some (.int .i64 a0_7) := (blk_cell BK177.out 7).trans rfl; have hcz21_8 : w20.cell? ⟨gb177, 8, none⟩ = some (.int .i64 a0_8) := (blk_cell BK177.out 8).trans rfl; have hcz21_9 : w20.cell? ⟨gb177, 9, none⟩ = some (.int .i64 a0_9) := (blk_cell BK177.out 9).trans rfl; have hcz21_10 : w20.cell? ⟨gb177, 10, none⟩ = some (.int .i64 a0_10) := (blk_cell BK177.out 10).trans rfl; have hcz21_11 : w20.cell? ⟨gb177, 11, none⟩ = some (.int .i64 a0_11) := (blk_cell BK177.out 11).trans rfl; have hcz21_12 : w20.cell? ⟨gb177, 12, none⟩ = some (.int .i64 a0_12) := (blk_cell BK177.out 12).trans rfl; have hcz21_13 : w20.cell? ⟨gb177, 13, none⟩ = some (.int .i64 a0_13) := (blk_cell BK177.out 13).trans rfl; have hcz21_14 : w20.cell? ⟨gb177, 14, none⟩ = some (.int .i64 a0_14) := (blk_cell BK177.out 14).trans rfl; have hcz21_15 : w20.cell? ⟨gb177, 15, none⟩ = some (.int .i64 a0_15) := (blk_cell BK177.out 15).trans rfl; have hcz21_16 : w20.cell? ⟨gb177, 16, none⟩ = some (.int .i64 a0_16) := (blk_cell BK177.out 16).trans rfl; have hfz21_0 := blk_frozen BK177.out 0; have hfz21_1 := blk_frozen BK177.out 1; have hfz21_2 := blk_frozen BK177.out 2; have hfz21_3 := blk_frozen BK177.out 3; have hfz21_4 := blk_frozen BK177.out 4; have hfz21_5 := blk_frozen BK177.out 5; have hfz21_6 := blk_frozen BK177.out 6; have hfz21_7 := blk_frozen BK177.out 7; have hfz21_8 := blk_frozen BK177.out 8; have hfz21_9 := blk_frozen BK177.out 9; have hfz21_10 := blk_frozen BK177.out 10; have hfz21_11 := blk_frozen BK177.out 11; have hfz21_12 := blk_frozen BK177.out 12; have hfz21_13 := blk_frozen BK177.out 13; have hfz21_14 := blk_frozen BK177.out 14; have hfz21_15 := blk_frozen BK177.out 15; have hfz21_16 := blk_frozen BK177.out 16)))
        go_ret3
        exact ⟨by first | rfl | (simp [errW_none, errW_some] <;> rfl) | (simp [*, errW_none, errW_some] <;> rfl), by repeat (first | (with_reducible first | exact HB.out | apply below_alloc | apply pw_below_drewN | apply below_drew1 | refine below_set ?_ GE177.out) | exact HB.out)⟩
end Go.Proofs.YtgbehcahdgamoaaDoor.Fn

namespace Go.Proofs.YtgbehcahdgamoaaDoor.Fn
open Go.RowKit Go.Proofs.YtgbehcahdgamoaaDoorW.PrintWords Go.Proofs.YtgbehcahdgamoaaDoorW.PrintLast Go.Proofs.YtgbehcahdgamoaaDoorW.PrintMore
def inB (n lo hi : Int) : Bool := decide (lo ≤ n) && decide (n ≤ hi)
theorem within_eq (n lo hi : Int) : posix_within.f n lo hi = some (inB n lo hi) := by
  unfold posix_within.f inB
  by_cases h : n ≥ lo
  · rw [if_pos h]; simp; omega
  · rw [if_neg h]; simp; omega
def dateB (c0 : Int) (c1 : Int) (c2 : Int) (c3 : Int) (_c4 : Int) : Bool :=
  if c0 = 1 then (c2 == 0 && c3 == 0) && inB c1 1 365 else if c0 = 2 then (c2 == 0 && c3 == 0) && inB c1 0 365 else if c0 = 3 then inB c1 1 12 && (inB c2 1 5 && inB c3 0 6) else false
def chgB (c0 : Int) (c1 : Int) (c2 : Int) (c3 : Int) (c4 : Int) (wide : Bool) : Bool := (inB c4 0 89999 || (wide && inB c4 (-604799) 604799)) && dateB c0 c1 c2 c3 c4
theorem changes_j1 (k : Nat) (c0 : Int) (c1 : Int) (c2 : Int) (c3 : Int) (c4 : Int) : posix_changes.j1 (k + 1) (c2 == 0 && c3 == 0) c0 c1 c2 c3 c4 = some (dateB c0 c1 c2 c3 c4) := by
  simp only [posix_changes.j1, within_eq, Option.bind_some]
  unfold dateB
  split
  · cases (c2 == 0 && c3 == 0) <;> simp
  · split
    · cases (c2 == 0 && c3 == 0) <;> simp
    · split
      · cases inB c1 1 12 <;> cases inB c2 1 5 <;> simp
      · rfl
theorem changes_j0 (k : Nat) (c0 : Int) (c1 : Int) (c2 : Int) (c3 : Int) (c4 : Int) (b : Bool) : posix_changes.j0 (k + 2) b c0 c1 c2 c3 c4 = some (!b && dateB c0 c1 c2 c3 c4) := by
  have h := changes_j1 k c0 c1 c2 c3 c4
  rw [posix_changes.j0]
  cases b
  · rw [if_neg (by decide)]
    by_cases h2 : c2 = 0
    · rw [if_pos h2]
      simp only [h2, beq_self_eq_true, Bool.true_and] at h ⊢
      rw [h]
      rfl
    · rw [if_neg h2]
      have e : (c2 == 0 && c3 == 0) = false := by simp [h2]
      rw [e] at h
      rw [h]
      rfl
  · rfl
theorem changes_eq (k : Nat) (c0 : Int) (c1 : Int) (c2 : Int) (c3 : Int) (c4 : Int) (wide : Bool) : posix_changes.f (k + 2) c0 c1 c2 c3 c4 wide = some (chgB c0 c1 c2 c3 c4 wide) := by
  unfold posix_changes.f chgB
  rw [within_eq, within_eq]
  simp only [Option.bind_some, changes_j0]
  cases inB c4 0 89999 <;> cases wide <;> simp
def rightB (s0 : Int) (s1 : Bool) (s2 : ByteArray) (d0 : Int) (d1 : Bool) (d2 : ByteArray) (bo : Bool) (a0 : Int) (a1 : Int) (a2 : Int) (a3 : Int) (a4 : Int) (e0 : Int) (e1 : Int) (e2 : Int) (e3 : Int) (e4 : Int) (wide : Bool) : Bool :=
  !s1 && (namedB s2 && (inB s0 (-89999) 89999 && (if bo = true then d1 && (namedB d2 && (inB d0 (-89999) 89999 && (chgB a0 a1 a2 a3 a4 wide && chgB e0 e1 e2 e3 e4 wide)))
    else ((d0 == 0 && (!d1 && (d2.toList.isEmpty))) && ((a0 == 0 && (a1 == 0 && (a2 == 0 && (a3 == 0 && (a4 == 0))))) && ((e0 == 0 && (e1 == 0 && (e2 == 0 && (e3 == 0 && (e4 == 0)))))))))))
theorem right_j0 (k : Nat) (s0 : Int) (s1 : Bool) (s2 : ByteArray) (d0 : Int) (d1 : Bool) (d2 : ByteArray) (bo : Bool) (a0 : Int) (a1 : Int) (a2 : Int) (a3 : Int) (a4 : Int) (e0 : Int) (e1 : Int) (e2 : Int) (e3 : Int) (e4 : Int) (wide b : Bool) : posix_Right.j0 (k + 3) wide b s0 s1 s2 d0 d1 d2 bo a0 a1 a2 a3 a4 e0 e1 e2 e3 e4 = some (!b && (if bo = true then d1 && (namedB d2 && (inB d0 (-89999) 89999 && (chgB a0 a1 a2 a3 a4 wide && chgB e0 e1 e2 e3 e4 wide)))
    else ((d0 == 0 && (!d1 && (d2.toList.isEmpty))) && ((a0 == 0 && (a1 == 0 && (a2 == 0 && (a3 == 0 && (a4 == 0))))) && ((e0 == 0 && (e1 == 0 && (e2 == 0 && (e3 == 0 && (e4 == 0))))))))) ) := by
  rw [posix_Right.j0]
  simp only [posix_named.f, within_eq, changes_eq, Option.bind_some]
  cases b
  · cases bo
    · simp
    · cases d1 <;> cases namedB d2 <;> cases inB d0 (-89999) 89999 <;> cases chgB a0 a1 a2 a3 a4 wide <;> simp
  · rfl
theorem rightR_eq (k : Nat) (s0 : Int) (s1 : Bool) (s2 : ByteArray) (d0 : Int) (d1 : Bool) (d2 : ByteArray) (bo : Bool) (a0 : Int) (a1 : Int) (a2 : Int) (a3 : Int) (a4 : Int) (e0 : Int) (e1 : Int) (e2 : Int) (e3 : Int) (e4 : Int) (wide : Bool) : posix_Right.f (k + 3) s0 s1 s2 d0 d1 d2 bo a0 a1 a2 a3 a4 e0 e1 e2 e3 e4 wide = some (rightB s0 s1 s2 d0 d1 d2 bo a0 a1 a2 a3 a4 e0 e1 e2 e3 e4 wide) := by
  unfold posix_Right.f rightB
  simp only [posix_named.f, within_eq, right_j0, Option.bind_some]
  cases s1 <;> cases namedB s2 <;> cases inB s0 (-89999) 89999 <;> simp
theorem rmay_eq (y : Int) : rule_may.f y = some (mayB y) := by
  unfold rule_may.f mayB
  by_cases h : y ≥ -2147483648
  · rw [if_pos h]; simp; omega
  · rw [if_neg h]; simp; omega
theorem probe_right (c0 : Int) (c1 : Int) (c2 : Int) (c3 : Int) (c4 : Int) : rightB 0 false ⟨#[65, 65, 65]⟩ 0 true ⟨#[66, 66, 66]⟩ true c0 c1 c2 c3 c4 c0 c1 c2 c3 c4 true = chgB c0 c1 c2 c3 c4 true := by
  unfold rightB
  rw [show namedB ⟨#[65, 65, 65]⟩ = true by decide +kernel, show namedB ⟨#[66, 66, 66]⟩ = true by decide +kernel]
  simp [inB]
def dayN (y c0 c1 c2 c3 : Int) : Int :=
  if c0 = 1 then daysN y 1 1 + (c1 - 1) + (if leapB y = true ∧ 59 ≤ c1 - 1 then 1 else 0)
  else if c0 = 2 then daysN y 1 1 + c1
  else daysN y c1 1 + ((c3 - weekN (daysN y c1 1) + 7) % 7 + 7 * (c2 - 1)) - (if lenN y c1 ≤ (c3 - weekN (daysN y c1 1) + 7) % 7 + 7 * (c2 - 1) then 7 else 0)
theorem daysN_size (y m d : Int) (hy : mayB y = true) (hm : 1 ≤ m ∧ m ≤ 12) (hd : 0 ≤ d ∧ d ≤ 400) : -800000000000 ≤ daysN y m d ∧ daysN y m d ≤ 800000000000 := by
  unfold mayB at hy
  simp only [Bool.and_eq_true, decide_eq_true_eq] at hy
  unfold daysN yM mM
  by_cases h : m < 3
  · rw [if_pos h, if_pos h]; omega
  · rw [if_neg h, if_neg h]; omega
theorem weekN_range (n : Int) : 0 ≤ weekN n ∧ weekN n ≤ 6 := by unfold weekN; omega
theorem right_first (y m : Int) (hy : mayB y = true) (hm : 1 ≤ m ∧ m ≤ 12) : rightN y m 1 = true := by
  have := lenN_pos y m hm.1 hm.2
  unfold rightN
  rw [hy]
  simp
  omega
theorem day_j0 (k : Nat) (y : Int) (b : Bool) (c0 : Int) (c1 : Int) (c2 : Int) (c3 : Int) (c4 : Int) (hb : b = !(mayB y && chgB c0 c1 c2 c3 c4 true)) : rule_Day.j0 (k + 1) y b c0 c1 c2 c3 c4 = some (if b = true then (0, 1) else (dayN y c0 c1 c2 c3, 0)) := by
  rw [rule_Day.j0]
  cases b
  · rw [if_neg (by decide), if_neg (by decide)]
    have hh : mayB y = true ∧ chgB c0 c1 c2 c3 c4 true = true := by simpa using hb.symm
    obtain ⟨hy, hc⟩ := hh
    have hD : dateB c0 c1 c2 c3 c4 = true := by unfold chgB at hc; simp only [Bool.and_eq_true] at hc; exact hc.2
    rw [days_eq, if_pos (right_first y 1 hy (by omega))]
    have hs := daysN_size y 1 1 hy (by omega) (by omega)
    simp only [Option.bind_some, leap_eq]
    unfold dateB at hD
    unfold dayN
    by_cases h1 : c0 = 1
    · rw [if_pos h1] at hD
      rw [if_pos h1, if_pos h1]
      simp only [inB, Bool.and_eq_true, decide_eq_true_eq] at hD
      rw [w64 (a := c1 - 1) ⟨by omega, by omega⟩]
      cases hl : leapB y
      · rw [if_neg (by decide), w64 (a := daysN y 1 1 + (c1 - 1)) ⟨by omega, by omega⟩]
        simp
      · rw [if_pos rfl]
        by_cases h59 : c1 - 1 ≥ 59
        · rw [if_pos h59, w64 (a := c1 - 1 + 1) ⟨by omega, by omega⟩, w64 (a := daysN y 1 1 + (c1 - 1 + 1)) ⟨by omega, by omega⟩, if_pos ⟨rfl, by omega⟩]
          congr 2
          omega
        · rw [if_neg h59, w64 (a := daysN y 1 1 + (c1 - 1)) ⟨by omega, by omega⟩, if_neg (by omega)]
          simp
    · rw [if_neg h1] at hD
      rw [if_neg h1, if_neg h1]
      by_cases h2 : c0 = 2
      · rw [if_pos h2] at hD
        rw [if_pos h2, if_pos h2]
        simp only [inB, Bool.and_eq_true, decide_eq_true_eq] at hD
        rw [w64 (a := daysN y 1 1 + c1) ⟨by omega, by omega⟩]
      · rw [if_neg h2] at hD
        rw [if_neg h2, if_neg h2]
        by_cases h3 : c0 = 3
        · rw [if_pos h3] at hD
          simp only [inB, Bool.and_eq_true, decide_eq_true_eq] at hD
          have hm : 1 ≤ c1 ∧ c1 ≤ 12 := by omega
          have hs2 := daysN_size y c1 1 hy hm (by omega)
          rw [days_eq, if_pos (right_first y c1 hy hm)]
          simp only [Option.bind_some]
          rw [weekday_eq _ ⟨by omega, by omega⟩, length_eq]
          simp only [Option.bind_some]
          have hw := weekN_range (daysN y c1 1)
          generalize weekN (daysN y c1 1) = wk at hw
          rw [w64 (a := c3 - wk) ⟨by omega, by omega⟩, w64 (a := c3 - wk + 7) ⟨by omega, by omega⟩, w64 (a := c2 - 1) ⟨by omega, by omega⟩, w64 (a := 7 * (c2 - 1)) ⟨by omega, by omega⟩, Int.tmod_eq_emod_of_nonneg (by omega)]
          rw [w64 (a := (c3 - wk + 7) % 7 + 7 * (c2 - 1)) ⟨by omega, by omega⟩, w64 (a := (c3 - wk + 7) % 7 + 7 * (c2 - 1) - 7) ⟨by omega, by omega⟩]
          by_cases hl : (c3 - wk + 7) % 7 + 7 * (c2 - 1) ≥ lenN y c1
          · rw [if_pos hl, if_pos hl, w64 ⟨by omega, by omega⟩]
            congr 2
            omega
          · rw [if_neg hl, if_neg hl, w64 ⟨by omega, by omega⟩]
            congr 2
            omega
        · rw [if_neg h3] at hD
          cases hD
  · rfl
theorem day_eq (k : Nat) (y : Int) (c0 : Int) (c1 : Int) (c2 : Int) (c3 : Int) (c4 : Int) : rule_Day.f (k + 3) y c0 c1 c2 c3 c4 = some (if (mayB y && chgB c0 c1 c2 c3 c4 true) = true then (dayN y c0 c1 c2 c3, 0) else (0, 1)) := by
  unfold rule_Day.f rule_probe.f
  rw [rmay_eq]
  simp only [Option.bind_some]
  cases hy : mayB y
  · rw [if_neg (by decide), day_j0 (k + 2) y true c0 c1 c2 c3 c4 (by simp [hy])]
    rfl
  · rw [if_pos rfl, rightR_eq, probe_right]
    simp only [Option.bind_some]
    rw [day_j0 (k + 2) y (!(chgB c0 c1 c2 c3 c4 true)) c0 c1 c2 c3 c4 (by simp [hy])]
    cases chgB c0 c1 c2 c3 c4 true <;> rfl
def startN (y s0 a0 a1 a2 a3 a4 : Int) : Int := dayN y a0 a1 a2 a3 * 86400 + (a4 - s0)
theorem dayN_size (y : Int) (c0 : Int) (c1 : Int) (c2 : Int) (c3 : Int) (c4 : Int) (hy : mayB y = true) (hc : chgB c0 c1 c2 c3 c4 true = true) : -800000000400 ≤ dayN y c0 c1 c2 c3 ∧ dayN y c0 c1 c2 c3 ≤ 800000000400 := by
  have hD : dateB c0 c1 c2 c3 c4 = true := by unfold chgB at hc; simp only [Bool.and_eq_true] at hc; exact hc.2
  have hs := daysN_size y 1 1 hy (by omega) (by omega)
  unfold dateB at hD
  unfold dayN
  by_cases h1 : c0 = 1
  · rw [if_pos h1] at hD ⊢
    simp only [inB, Bool.and_eq_true, decide_eq_true_eq] at hD
    split <;> omega
  · rw [if_neg h1] at hD ⊢
    by_cases h2 : c0 = 2
    · rw [if_pos h2] at hD ⊢
      simp only [inB, Bool.and_eq_true, decide_eq_true_eq] at hD
      omega
    · rw [if_neg h2] at hD ⊢
      by_cases h3 : c0 = 3
      · rw [if_pos h3] at hD
        simp only [inB, Bool.and_eq_true, decide_eq_true_eq] at hD
        have hs2 := daysN_size y c1 1 hy (by omega) (by omega)
        have hw := weekN_range (daysN y c1 1)
        split <;> omega
      · rw [if_neg h3] at hD
        cases hD
theorem chg_time (c0 : Int) (c1 : Int) (c2 : Int) (c3 : Int) (c4 : Int) (hc : chgB c0 c1 c2 c3 c4 true = true) : -604799 ≤ c4 ∧ c4 ≤ 604799 := by
  unfold chgB at hc
  simp only [inB, Bool.and_eq_true, Bool.or_eq_true, Bool.true_and, decide_eq_true_eq] at hc
  omega
theorem turns_j0 (k : Nat) (y : Int) (b : Bool) (s0 : Int) (s1 : Bool) (s2 : ByteArray) (d0 : Int) (d1 : Bool) (d2 : ByteArray) (bo : Bool) (a0 : Int) (a1 : Int) (a2 : Int) (a3 : Int) (a4 : Int) (e0 : Int) (e1 : Int) (e2 : Int) (e3 : Int) (e4 : Int) (hb : b = false → mayB y = true ∧ rightB s0 s1 s2 d0 d1 d2 bo a0 a1 a2 a3 a4 e0 e1 e2 e3 e4 true = true ∧ bo = true) :
    rule_Turns.j0 (k + 4) y b s0 s1 s2 d0 d1 d2 bo a0 a1 a2 a3 a4 e0 e1 e2 e3 e4 = some (if b = true then (0, 0, 1) else (startN y s0 a0 a1 a2 a3 a4, startN y d0 e0 e1 e2 e3 e4, 0)) := by
  rw [rule_Turns.j0]
  cases b
  · rw [if_neg (by decide), if_neg (by decide)]
    obtain ⟨hy, hr, hbo⟩ := hb rfl
    unfold rightB at hr
    rw [if_pos hbo] at hr
    simp only [Bool.and_eq_true, inB, decide_eq_true_eq] at hr
    obtain ⟨_, _, hs, _, _, hd, ha, he⟩ := hr
    rw [day_eq, day_eq, hy, ha, he]
    simp only [Bool.and_self, if_true, Option.bind_some]
    have z1 := dayN_size y a0 a1 a2 a3 a4 hy ha
    have z2 := dayN_size y e0 e1 e2 e3 e4 hy he
    have t1 := chg_time a0 a1 a2 a3 a4 ha
    have t2 := chg_time e0 e1 e2 e3 e4 he
    rw [w64 (a := dayN y a0 a1 a2 a3 * 86400) ⟨by omega, by omega⟩, w64 (a := a4 - s0) ⟨by omega, by omega⟩, w64 (a := dayN y e0 e1 e2 e3 * 86400) ⟨by omega, by omega⟩, w64 (a := e4 - d0) ⟨by omega, by omega⟩,
      w64 (a := dayN y a0 a1 a2 a3 * 86400 + (a4 - s0)) ⟨by omega, by omega⟩, w64 (a := dayN y e0 e1 e2 e3 * 86400 + (e4 - d0)) ⟨by omega, by omega⟩]
    rfl
  · rfl
def turnsB (s0 : Int) (s1 : Bool) (s2 : ByteArray) (d0 : Int) (d1 : Bool) (d2 : ByteArray) (bo : Bool) (a0 : Int) (a1 : Int) (a2 : Int) (a3 : Int) (a4 : Int) (e0 : Int) (e1 : Int) (e2 : Int) (e3 : Int) (e4 : Int) (y : Int) : Bool := rightB s0 s1 s2 d0 d1 d2 bo a0 a1 a2 a3 a4 e0 e1 e2 e3 e4 true && (bo && mayB y)
theorem turns_eq (k : Nat) (s0 : Int) (s1 : Bool) (s2 : ByteArray) (d0 : Int) (d1 : Bool) (d2 : ByteArray) (bo : Bool) (a0 : Int) (a1 : Int) (a2 : Int) (a3 : Int) (a4 : Int) (e0 : Int) (e1 : Int) (e2 : Int) (e3 : Int) (e4 : Int) (y : Int) : rule_Turns.f (k + 4) s0 s1 s2 d0 d1 d2 bo a0 a1 a2 a3 a4 e0 e1 e2 e3 e4 y = some (if turnsB s0 s1 s2 d0 d1 d2 bo a0 a1 a2 a3 a4 e0 e1 e2 e3 e4 y = true then (startN y s0 a0 a1 a2 a3 a4, startN y d0 e0 e1 e2 e3 e4, 0) else (0, 0, 1)) := by
  unfold rule_Turns.f turnsB
  rw [rightR_eq, rmay_eq]
  simp only [Option.bind_some]
  cases hr : rightB s0 s1 s2 d0 d1 d2 bo a0 a1 a2 a3 a4 e0 e1 e2 e3 e4 true
  · rw [if_neg (by decide), turns_j0 k y true s0 s1 s2 d0 d1 d2 bo a0 a1 a2 a3 a4 e0 e1 e2 e3 e4 (by intro h; cases h)]
    rfl
  · rw [if_pos rfl]
    cases hbo : bo
    · rw [if_neg (by decide)]
      rw [turns_j0 k y true s0 s1 s2 d0 d1 d2 false a0 a1 a2 a3 a4 e0 e1 e2 e3 e4 (by intro h; cases h)]
      rfl
    · subst hbo
      rw [if_pos rfl, turns_j0 k y _ s0 s1 s2 d0 d1 d2 true a0 a1 a2 a3 a4 e0 e1 e2 e3 e4 (by intro h; exact ⟨by simpa using h, hr, rfl⟩)]
      cases mayB y <;> rfl
end Go.Proofs.YtgbehcahdgamoaaDoor.Fn
