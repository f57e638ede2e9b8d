/- Part 4 of the texts for LRuleAlways: contracts and plain laws that it leans on. -/
import Derived.Test.YtgbehcahdgamoaaDoorZRuleAlways3
import Derived.Shelf.SlSortCmp.InsertionK
import Derived.Shelf.SlicesQ.IndexFunc
import Derived.Ground.SlsfProg
import Derived.Ground.SlgfProg
import Derived.Test.YtgbehcahdgamoaaDoorProg
import Derived.Sort.LotA
import Derived.Lib.OwnBridge
import Derived.Lib.AppendIntMem
import Derived.Lib.SmallJoins
namespace Go.Proofs.YtgbehcahdgamoaaDoor.Fn
open Go.RowKit Go.Proofs.YtgbehcahdgamoaaDoorW.PrintWords Go.Proofs.YtgbehcahdgamoaaDoorW.PrintLast Go.Proofs.YtgbehcahdgamoaaDoorW.PrintMore
attribute [local go_sem] max2_int min2_int max_two min_two max_three min_three max_four min_four   -- for this text's walks alone
set_option linter.unusedVariables false
set_option linter.unusedSimpArgs false

/-! ### rule_Day: function 12 -/
def rule_Day.j0 : Nat → Int → Bool → Int → Int → Int → Int → Int → Option (Int × Int)
  | 0, _, _, _, _, _, _, _ => none
  | k + 1, x0, x21, x132000, x132001, x132002, x132003, x132004 => if x21 = true then (some (0, 1)) else ((civil_Days.f x0 1 1).bind fun bt151 => (if x132000 = 1 then ((civil_Leap.f x0).bind fun t153 => (if t153 = true then (if (wrap64 (x132001 - 1)) ≥ 59 then (some (wrap64 (bt151.1 + (wrap64 ((wrap64 (x132001 - 1)) + 1))), 0)) else (some (wrap64 (bt151.1 + (wrap64 (x132001 - 1))), 0))) else (some (wrap64 (bt151.1 + (wrap64 (x132001 - 1))), 0)))) else (if x132000 = 2 then (some (wrap64 (bt151.1 + x132001), 0)) else ((civil_Days.f x0 x132001 1).bind fun bt154 => ((civil_Weekday.f bt154.1).bind fun t156 => ((civil_Length.f x0 x132001).bind fun t157 => (if (wrap64 ((Int.tmod (wrap64 ((wrap64 (x132003 - t156)) + 7)) 7) + (wrap64 (7 * (wrap64 (x132002 - 1)))))) ≥ t157 then (some (wrap64 (bt154.1 + (wrap64 ((wrap64 ((Int.tmod (wrap64 ((wrap64 (x132003 - t156)) + 7)) 7) + (wrap64 (7 * (wrap64 (x132002 - 1)))))) - 7))), 0)) else (some (wrap64 (bt154.1 + (wrap64 ((Int.tmod (wrap64 ((wrap64 (x132003 - t156)) + 7)) 7) + (wrap64 (7 * (wrap64 (x132002 - 1))))))), 0)))))))))
def rule_Day.f (k : Nat) (a0 : Int) (a1_0 : Int) (a1_1 : Int) (a1_2 : Int) (a1_3 : Int) (a1_4 : Int) : Option (Int × Int) := (rule_may.f a0).bind fun t132 => (if t132 = true then ((rule_probe.f a1_0 a1_1 a1_2 a1_3 a1_4).bind fun bt133 => ((posix_Right.f k bt133.1 bt133.2.1 bt133.2.2.1 bt133.2.2.2.1 bt133.2.2.2.2.1 bt133.2.2.2.2.2.1 bt133.2.2.2.2.2.2.1 bt133.2.2.2.2.2.2.2.1 bt133.2.2.2.2.2.2.2.2.1 bt133.2.2.2.2.2.2.2.2.2.1 bt133.2.2.2.2.2.2.2.2.2.2.1 bt133.2.2.2.2.2.2.2.2.2.2.2.1 bt133.2.2.2.2.2.2.2.2.2.2.2.2.1 bt133.2.2.2.2.2.2.2.2.2.2.2.2.2.1 bt133.2.2.2.2.2.2.2.2.2.2.2.2.2.2.1 bt133.2.2.2.2.2.2.2.2.2.2.2.2.2.2.2.1 bt133.2.2.2.2.2.2.2.2.2.2.2.2.2.2.2.2 true).bind fun t150 => (rule_Day.j0 k a0 (!t150) a1_0 a1_1 a1_2 a1_3 a1_4))) else (rule_Day.j0 k a0 true a1_0 a1_1 a1_2 a1_3 a1_4))
theorem rule_Day.mono_l : ∀ k, (∀ y0 y1 y2 y3 y4 y5 y6, LeO (rule_Day.j0 k y0 y1 y2 y3 y4 y5 y6) (rule_Day.j0 (k + 1) y0 y1 y2 y3 y4 y5 y6))
  | 0 => fun _ _ _ _ _ _ _ r h => by simp [rule_Day.j0] at h
  | k + 1 => by
    have ih0 := rule_Day.mono_l k
    · intro y0 y1 y2 y3 y4 y5 y6
      unfold rule_Day.j0
      repeat' first
      | (with_reducible exact ih0 _ _ _ _ _ _ _)
      | (with_reducible exact posix_Right.mono _ _ _ _ _ _ _ _ _ _ _ _ _ _ _ _ _ _ _)
      | (with_reducible exact LeO.refl _)
      | (with_reducible exact LeO.none _)
      | (with_reducible refine LeO.ite ?_ ?_)
      | (with_reducible refine LeO.bind ?_ (fun _ => ?_))
      | exact ih0 _ _ _ _ _ _ _
      | exact posix_Right.mono _ _ _ _ _ _ _ _ _ _ _ _ _ _ _ _ _ _ _
      | exact LeO.none _
      | refine LeO.ite ?_ ?_
      | refine LeO.bind ?_ (fun _ => ?_)
theorem rule_Day.mono : ∀ a0 a1 a2 a3 a4 a5 k, LeO (rule_Day.f k a0 a1 a2 a3 a4 a5) (rule_Day.f (k + 1) a0 a1 a2 a3 a4 a5) := by
  intro a0 a1 a2 a3 a4 a5 k
  have ih0 := rule_Day.mono_l k
  unfold rule_Day.f
  repeat' first
      | (with_reducible exact ih0 _ _ _ _ _ _ _)
      | (with_reducible exact posix_Right.mono _ _ _ _ _ _ _ _ _ _ _ _ _ _ _ _ _ _ _)
      | (with_reducible exact LeO.refl _)
      | (with_reducible exact LeO.none _)
      | (with_reducible refine LeO.ite ?_ ?_)
      | (with_reducible refine LeO.bind ?_ (fun _ => ?_))
      | exact ih0 _ _ _ _ _ _ _
      | exact posix_Right.mono _ _ _ _ _ _ _ _ _ _ _ _ _ _ _ _ _ _ _
      | exact LeO.none _
      | refine LeO.ite ?_ ?_
      | refine LeO.bind ?_ (fun _ => ?_)
set_option maxHeartbeats 8000000 in
set_option maxRecDepth 100000 in
theorem rule_Day.calls (k : Nat) (a0 : Int) (a1_0 : Int) (a1_1 : Int) (a1_2 : Int) (a1_3 : Int) (a1_4 : Int) (r1 : Int) (r2 : Int) (w : World) (hG : GL w) (h : rule_Day.f k a0 a1_0 a1_1 a1_2 a1_3 a1_4 = some (r1, r2)) :
    Calls Tryd.prog 12 #[.int .i64 a0, .agg #[.int .i64 a1_0, .int .i64 a1_1, .int .i64 a1_2, .int .i64 a1_3, .int .i64 a1_4]] w fun e w' => e = .returned (.tuple #[.int .i64 r1, .int .i64 r2]) ∧ Below w.heap.size w w' := by
  have hu25 := Tryd.underlying25
  have HG := Aside0.mk hG
  clear hG
  have HB := Aside0.mk (Below.refl w.heap.size w)
  have H : ((rule_may.f a0).bind fun t132 => (if t132 = true then ((rule_probe.f a1_0 a1_1 a1_2 a1_3 a1_4).bind fun bt133 => ((posix_Right.f k bt133.1 bt133.2.1 bt133.2.2.1 bt133.2.2.2.1 bt133.2.2.2.2.1 bt133.2.2.2.2.2.1 bt133.2.2.2.2.2.2.1 bt133.2.2.2.2.2.2.2.1 bt133.2.2.2.2.2.2.2.2.1 bt133.2.2.2.2.2.2.2.2.2.1 bt133.2.2.2.2.2.2.2.2.2.2.1 bt133.2.2.2.2.2.2.2.2.2.2.2.1 bt133.2.2.2.2.2.2.2.2.2.2.2.2.1 bt133.2.2.2.2.2.2.2.2.2.2.2.2.2.1 bt133.2.2.2.2.2.2.2.2.2.2.2.2.2.2.1 bt133.2.2.2.2.2.2.2.2.2.2.2.2.2.2.2.1 bt133.2.2.2.2.2.2.2.2.2.2.2.2.2.2.2.2 true).bind fun t150 => (rule_Day.j0 k a0 (!t150) a1_0 a1_1 a1_2 a1_3 a1_4))) else (rule_Day.j0 k a0 true a1_0 a1_1 a1_2 a1_3 a1_4))) = some (r1, r2) := h
  clear h
  have HC3 := Aside0.mk H
  clear H
  go_enter Tryd.func12, Tryd.ntmps12
  go_upto_region 1 with (first | ((with_reducible refine gate_dst (N := 3) rfl ?_); refine box_event ?hg (N := 3) ?hd (cs := #[.int .i64 a1_0, .int .i64 a1_1, .int .i64 a1_2, .int .i64 a1_3, .int .i64 a1_4]) (t := 25) ?hr ?_; (case hd => rfl); (case hg => rfl); (case hr => first | (go_simp; done) | (go_simp; rfl)); intro gb131 hg w4 hbox hb; have n0_ := Aside0.mk (below_step (by repeat (first | (with_reducible first | exact HB.out | apply below_alloc | apply pw_below_drewN | apply below_drew1) | exact HB.out)) hb); have n1_ := Aside0.mk (hbox); have n2_ := Aside0.mk ((by rw [hg]; exact (below_size (by repeat (first | (with_reducible first | exact HB.out | apply below_alloc | apply pw_below_drewN | apply below_drew1) | exact HB.out))) : w.heap.size ≤ gb131)); have n3_ := Aside0.mk ((by rw [hg]; exact (below_size (by repeat (first | (with_reducible first | exact HB.out | apply below_alloc | apply pw_below_drewN | apply below_drew1) | exact HB.out))) : w.heap.size ≤ gb131)); clear HB; have HB := n0_; have BK131 := n1_; have GW131 := n2_; have GE131 := n3_; clear n0_ n1_ n2_ n3_; clear hb hbox hg))
  repeat (go_quiet (first | ((with_reducible refine gate_dst (N := 3) rfl ?_); refine box_event ?hg (N := 3) ?hd (cs := #[.int .i64 a1_0, .int .i64 a1_1, .int .i64 a1_2, .int .i64 a1_3, .int .i64 a1_4]) (t := 25) ?hr ?_; (case hd => rfl); (case hg => rfl); (case hr => first | (go_simp; done) | (go_simp; rfl)); intro gb131 hg w4 hbox hb; have n0_ := Aside0.mk (below_step (by repeat (first | (with_reducible first | exact HB.out | apply below_alloc | apply pw_below_drewN | apply below_drew1) | exact HB.out)) hb); have n1_ := Aside0.mk (hbox); have n2_ := Aside0.mk ((by rw [hg]; exact (below_size (by repeat (first | (with_reducible first | exact HB.out | apply below_alloc | apply pw_below_drewN | apply below_drew1) | exact HB.out))) : w.heap.size ≤ gb131)); have n3_ := Aside0.mk ((by rw [hg]; exact (below_size (by repeat (first | (with_reducible first | exact HB.out | apply below_alloc | apply pw_below_drewN | apply below_drew1) | exact HB.out))) : w.heap.size ≤ gb131)); clear HB; have HB := n0_; have BK131 := n1_; have GW131 := n2_; have GE131 := n3_; clear n0_ n1_ n2_ n3_; clear hb hbox hg)); go_upto_region 1 with (first | ((with_reducible refine gate_dst (N := 3) rfl ?_); refine box_event ?hg (N := 3) ?hd (cs := #[.int .i64 a1_0, .int .i64 a1_1, .int .i64 a1_2, .int .i64 a1_3, .int .i64 a1_4]) (t := 25) ?hr ?_; (case hd => rfl); (case hg => rfl); (case hr => first | (go_simp; done) | (go_simp; rfl)); intro gb131 hg w4 hbox hb; have n0_ := Aside0.mk (below_step (by repeat (first | (with_reducible first | exact HB.out | apply below_alloc | apply pw_below_drewN | apply below_drew1) | exact HB.out)) hb); have n1_ := Aside0.mk (hbox); have n2_ := Aside0.mk ((by rw [hg]; exact (below_size (by repeat (first | (with_reducible first | exact HB.out | apply below_alloc | apply pw_below_drewN | apply below_drew1) | exact HB.out))) : w.heap.size ≤ gb131)); have n3_ := Aside0.mk ((by rw [hg]; exact (below_size (by repeat (first | (with_reducible first | exact HB.out | apply below_alloc | apply pw_below_drewN | apply below_drew1) | exact HB.out))) : w.heap.size ≤ gb131)); clear HB; have HB := n0_; have BK131 := n1_; have GW131 := n2_; have GE131 := n3_; clear n0_ n1_ n2_ n3_; clear hb hbox hg)))
  (try simp only [Act.put, List.setIfInBounds_toArray, List.set_cons_zero, List.set_cons_succ])
  go_cut [21] (fun v21 wc => ∃ (kq : Nat) (x21_2 : Bool), v21 = .bool x21_2 ∧ Aside0 (rule_Day.j0 kq a0 x21_2 a1_0 a1_1 a1_2 a1_3 a1_4 = some (r1, r2)) ∧ Aside0 (kq ≤ k) ∧ Aside0 (wc.heap[gb131]? = some (.cells #[.int .i64 a1_0, .int .i64 a1_1, .int .i64 a1_2, .int .i64 a1_3, .int .i64 a1_4] 25 (0, 0))) ∧ Aside0 (Below w.heap.size w wc))
  case first =>
    have H := HC3.out
    clear HC3
    replace H := Option.bind_eq_some_iff.mp H
    obtain ⟨t132, A50, H⟩ := H
    replace H : (if t132 = true then ((rule_probe.f a1_0 a1_1 a1_2 a1_3 a1_4).bind fun bt133 => ((posix_Right.f k bt133.1 bt133.2.1 bt133.2.2.1 bt133.2.2.2.1 bt133.2.2.2.2.1 bt133.2.2.2.2.2.1 bt133.2.2.2.2.2.2.1 bt133.2.2.2.2.2.2.2.1 bt133.2.2.2.2.2.2.2.2.1 bt133.2.2.2.2.2.2.2.2.2.1 bt133.2.2.2.2.2.2.2.2.2.2.1 bt133.2.2.2.2.2.2.2.2.2.2.2.1 bt133.2.2.2.2.2.2.2.2.2.2.2.2.1 bt133.2.2.2.2.2.2.2.2.2.2.2.2.2.1 bt133.2.2.2.2.2.2.2.2.2.2.2.2.2.2.1 bt133.2.2.2.2.2.2.2.2.2.2.2.2.2.2.2.1 bt133.2.2.2.2.2.2.2.2.2.2.2.2.2.2.2.2 true).bind fun t150 => (rule_Day.j0 k a0 (!t150) a1_0 a1_1 a1_2 a1_3 a1_4))) else (rule_Day.j0 k a0 true a1_0 a1_1 a1_2 a1_3 a1_4)) = some (r1, r2) := H
    have A5 := Aside0.mk A50
    clear A50
    by_cases c6 : t132 = true
    · subst c6
      have H1 : ((rule_probe.f a1_0 a1_1 a1_2 a1_3 a1_4).bind fun bt133 => ((posix_Right.f k bt133.1 bt133.2.1 bt133.2.2.1 bt133.2.2.2.1 bt133.2.2.2.2.1 bt133.2.2.2.2.2.1 bt133.2.2.2.2.2.2.1 bt133.2.2.2.2.2.2.2.1 bt133.2.2.2.2.2.2.2.2.1 bt133.2.2.2.2.2.2.2.2.2.1 bt133.2.2.2.2.2.2.2.2.2.2.1 bt133.2.2.2.2.2.2.2.2.2.2.2.1 bt133.2.2.2.2.2.2.2.2.2.2.2.2.1 bt133.2.2.2.2.2.2.2.2.2.2.2.2.2.1 bt133.2.2.2.2.2.2.2.2.2.2.2.2.2.2.1 bt133.2.2.2.2.2.2.2.2.2.2.2.2.2.2.2.1 bt133.2.2.2.2.2.2.2.2.2.2.2.2.2.2.2.2 true).bind fun t150 => (rule_Day.j0 k a0 (!t150) a1_0 a1_1 a1_2 a1_3 a1_4))) = some (r1, r2) := by rw [if_pos rfl] at H; exact H
      clear H
      have H := H1
      clear H1
      replace H := Option.bind_eq_some_iff.mp H
      obtain ⟨⟨t133, t134, t135, t136, t137, t138, t139, t140, t141, t142, t143, t144, t145, t146, t147, t148, t149⟩, A70, H⟩ := H
      replace H : ((posix_Right.f k t133 t134 t135 t136 t137 t138 t139 t140 t141 t142 t143 t144 t145 t146 t147 t148 t149 true).bind fun t150 => (rule_Day.j0 k a0 (!t150) a1_0 a1_1 a1_2 a1_3 a1_4)) = some (r1, r2) := H
      have A7 := Aside0.mk A70
      clear A70
      replace H := Option.bind_eq_some_iff.mp H
      obtain ⟨t150, A80, H⟩ := H
      replace H : (rule_Day.j0 k a0 (!t150) a1_0 a1_1 a1_2 a1_3 a1_4) = some (r1, r2) := H
      have A8 := Aside0.mk A80
      clear A80
      have H' := Aside0.mk H
      clear H
      go_wp2_with (first | (go_at_call 25; (with_reducible refine (rule_may.calls a0 true _ A5.out).mono ?_); rintro e w' ⟨rfl, ⟨nd, rfl⟩⟩; (try first | exact ⟨rfl, _, World.drewN_drewN _ _ _⟩ | exact ⟨rfl, _, Eq.trans (World.drewN_drewN _ _ _) (congrArg (World.drewN _) (Nat.add_assoc _ _ _))⟩); have hcz9_0 : w4.cell? ⟨gb131, 0, none⟩ = some (.int .i64 a1_0) := (blk_cell BK131.out 0).trans rfl; have hcz9_1 : w4.cell? ⟨gb131, 1, none⟩ = some (.int .i64 a1_1) := (blk_cell BK131.out 1).trans rfl; have hcz9_2 : w4.cell? ⟨gb131, 2, none⟩ = some (.int .i64 a1_2) := (blk_cell BK131.out 2).trans rfl; have hcz9_3 : w4.cell? ⟨gb131, 3, none⟩ = some (.int .i64 a1_3) := (blk_cell BK131.out 3).trans rfl; have hcz9_4 : w4.cell? ⟨gb131, 4, none⟩ = some (.int .i64 a1_4) := (blk_cell BK131.out 4).trans rfl; have hfz9_0 := blk_frozen BK131.out 0; have hfz9_1 := blk_frozen BK131.out 1; have hfz9_2 := blk_frozen BK131.out 2; have hfz9_3 := blk_frozen BK131.out 3; have hfz9_4 := blk_frozen BK131.out 4) | (go_at_call 27; (with_reducible refine (rule_probe.calls a1_0 a1_1 a1_2 a1_3 a1_4 t133 t134 t135 t136 t137 t138 t139 t140 t141 t142 t143 t144 t145 t146 t147 t148 t149 _ A7.out).mono ?_); rintro e w10 ⟨rfl, hb⟩; have n0_ := Aside0.mk (blk_below (g := gb131) (o := .cells #[.int .i64 a1_0, .int .i64 a1_1, .int .i64 a1_2, .int .i64 a1_3, .int .i64 a1_4] 25 (0, 0)) (by (with_reducible repeat (first | refine blk_drewN ?_ _ | refine blk_drew ?_ | refine blk_alloc ?_ _)); exact BK131.out) hb); have n1_ := Aside0.mk (below_step (by repeat (first | (with_reducible first | exact HB.out | apply below_alloc | apply pw_below_drewN | apply below_drew1 | refine below_set ?_ GE131.out) | exact HB.out)) hb); clear BK131; clear HB; have BK131 := n0_; have HB := n1_; clear n0_ n1_; (try clear hb); (try clear hb2); (try clear hk); (try clear hi)) | (go_at_call 26; (with_reducible refine (posix_Right.calls k t133 t134 t135 t136 t137 t138 t139 t140 t141 t142 t143 t144 t145 t146 t147 t148 t149 true t150 _ A8.out).mono ?_); rintro e w11 ⟨rfl, hb⟩; have n0_ := Aside0.mk (blk_below (g := gb131) (o := .cells #[.int .i64 a1_0, .int .i64 a1_1, .int .i64 a1_2, .int .i64 a1_3, .int .i64 a1_4] 25 (0, 0)) (by (with_reducible repeat (first | refine blk_drewN ?_ _ | refine blk_drew ?_ | refine blk_alloc ?_ _)); exact BK131.out) hb); have n1_ := Aside0.mk (below_step (by repeat (first | (with_reducible first | exact HB.out | apply below_alloc | apply pw_below_drewN | apply below_drew1 | refine below_set ?_ GE131.out) | exact HB.out)) hb); clear BK131; clear HB; have BK131 := n0_; have HB := n1_; clear n0_ n1_; (try clear hb); (try clear hb2); (try clear hk); (try clear hi)))
      repeat (go_quiet (first | (go_at_call 25; (with_reducible refine (rule_may.calls a0 true _ A5.out).mono ?_); rintro e w' ⟨rfl, ⟨nd, rfl⟩⟩; (try first | exact ⟨rfl, _, World.drewN_drewN _ _ _⟩ | exact ⟨rfl, _, Eq.trans (World.drewN_drewN _ _ _) (congrArg (World.drewN _) (Nat.add_assoc _ _ _))⟩); have hcz9_0 : w4.cell? ⟨gb131, 0, none⟩ = some (.int .i64 a1_0) := (blk_cell BK131.out 0).trans rfl; have hcz9_1 : w4.cell? ⟨gb131, 1, none⟩ = some (.int .i64 a1_1) := (blk_cell BK131.out 1).trans rfl; have hcz9_2 : w4.cell? ⟨gb131, 2, none⟩ = some (.int .i64 a1_2) := (blk_cell BK131.out 2).trans rfl; have hcz9_3 : w4.cell? ⟨gb131, 3, none⟩ = some (.int .i64 a1_3) := (blk_cell BK131.out 3).trans rfl; have hcz9_4 : w4.cell? ⟨gb131, 4, none⟩ = some (.int .i64 a1_4) := (blk_cell BK131.out 4).trans rfl; have hfz9_0 := blk_frozen BK131.out 0; have hfz9_1 := blk_frozen BK131.out 1; have hfz9_2 := blk_frozen BK131.out 2; have hfz9_3 := blk_frozen BK131.out 3; have hfz9_4 := blk_frozen BK131.out 4) | (go_at_call 27; (with_reducible refine (rule_probe.calls a1_0 a1_1 a1_2 a1_3 a1_4 t133 t134 t135 t136 t137 t138 t139 t140 t141 t142 t143 t144 t145 t146 t147 t148 t149 _ A7.out).mono ?_); rintro e w10 ⟨rfl, hb⟩; have n0_ := Aside0.mk (blk_below (g := gb131) (o := .cells #[.int .i64 a1_0, .int .i64 a1_1, .int .i64 a1_2, .int .i64 a1_3, .int .i64 a1_4] 25 (0, 0)) (by (with_reducible repeat (first | refine blk_drewN ?_ _ | refine blk_drew ?_ | refine blk_alloc ?_ _)); exact BK131.out) hb); have n1_ := Aside0.mk (below_step (by repeat (first | (with_reducible first | exact HB.out | apply below_alloc | apply pw_below_drewN | apply below_drew1 | refine below_set ?_ GE131.out) | exact HB.out)) hb); clear BK131; clear HB; have BK131 := n0_; have HB := n1_; clear n0_ n1_; (try clear hb); (try clear hb2); (try clear hk); (try clear hi)) | (go_at_call 26; (with_reducible refine (posix_Right.calls k t133 t134 t135 t136 t137 t138 t139 t140 t141 t142 t143 t144 t145 t146 t147 t148 t149 true t150 _ A8.out).mono ?_); rintro e w11 ⟨rfl, hb⟩; have n0_ := Aside0.mk (blk_below (g := gb131) (o := .cells #[.int .i64 a1_0, .int .i64 a1_1, .int .i64 a1_2, .int .i64 a1_3, .int .i64 a1_4] 25 (0, 0)) (by (with_reducible repeat (first | refine blk_drewN ?_ _ | refine blk_drew ?_ | refine blk_alloc ?_ _)); exact BK131.out) hb); have n1_ := Aside0.mk (below_step (by repeat (first | (with_reducible first | exact HB.out | apply below_alloc | apply pw_below_drewN | apply below_drew1 | refine below_set ?_ GE131.out) | exact HB.out)) hb); clear BK131; clear HB; have BK131 := n0_; have HB := n1_; clear n0_ n1_; (try clear hb); (try clear hb2); (try clear hk); (try clear hi))); try go_wp2_with (first | (go_at_call 25; (with_reducible refine (rule_may.calls a0 true _ A5.out).mono ?_); rintro e w' ⟨rfl, ⟨nd, rfl⟩⟩; (try first | exact ⟨rfl, _, World.drewN_drewN _ _ _⟩ | exact ⟨rfl, _, Eq.trans (World.drewN_drewN _ _ _) (congrArg (World.drewN _) (Nat.add_assoc _ _ _))⟩); have hcz9_0 : w4.cell? ⟨gb131, 0, none⟩ = some (.int .i64 a1_0) := (blk_cell BK131.out 0).trans rfl; have hcz9_1 : w4.cell? ⟨gb131, 1, none⟩ = some (.int .i64 a1_1) := (blk_cell BK131.out 1).trans rfl; have hcz9_2 : w4.cell? ⟨gb131, 2, none⟩ = some (.int .i64 a1_2) := (blk_cell BK131.out 2).trans rfl; have hcz9_3 : w4.cell? ⟨gb131, 3, none⟩ = some (.int .i64 a1_3) := (blk_cell BK131.out 3).trans rfl; have hcz9_4 : w4.cell? ⟨gb131, 4, none⟩ = some (.int .i64 a1_4) := (blk_cell BK131.out 4).trans rfl; have hfz9_0 := blk_frozen BK131.out 0; have hfz9_1 := blk_frozen BK131.out 1; have hfz9_2 := blk_frozen BK131.out 2; have hfz9_3 := blk_frozen BK131.out 3; have hfz9_4 := blk_frozen BK131.out 4) | (go_at_call 27; (with_reducible refine (rule_probe.calls a1_0 a1_1 a1_2 a1_3 a1_4 t133 t134 t135 t136 t137 t138 t139 t140 t141 t142 t143 t144 t145 t146 t147 t148 t149 _ A7.out).mono ?_); rintro e w10 ⟨rfl, hb⟩; have n0_ := Aside0.mk (blk_below (g := gb131) (o := .cells #[.int .i64 a1_0, .int .i64 a1_1, .int .i64 a1_2, .int .i64 a1_3, .int .i64 a1_4] 25 (0, 0)) (by (with_reducible repeat (first | refine blk_drewN ?_ _ | refine blk_drew ?_ | refine blk_alloc ?_ _)); exact BK131.out) hb); have n1_ := Aside0.mk (below_step (by repeat (first | (with_reducible first | exact HB.out | apply below_alloc | apply pw_below_drewN | apply below_drew1 | refine below_set ?_ GE131.out) | exact HB.out)) hb); clear BK131; clear HB; have BK131 := n0_; have HB := n1_; clear n0_ n1_; (try clear hb); (try clear hb2); (try clear hk); (try clear hi)) | (go_at_call 26; (with_reducible refine (posix_Right.calls k t133 t134 t135 t136 t137 t138 t139 t140 t141 t142 t143 t144 t145 t146 t147 t148 t149 true t150 _ A8.out).mono ?_); rintro e w11 ⟨rfl, hb⟩; have n0_ := Aside0.mk (blk_below (g := gb131) (o := .cells #[.int .i64 a1_0, .int .i64 a1_1, .int .i64 a1_2, .int .i64 a1_3, .int .i64 a1_4] 25 (0, 0)) (by (with_reducible repeat (first | refine blk_drewN ?_ _ | refine blk_drew ?_ | refine blk_alloc ?_ _)); exact BK131.out) hb); have n1_ := Aside0.mk (below_step (by repeat (first | (with_reducible first | exact HB.out | apply below_alloc | apply pw_below_drewN | apply below_drew1 | refine below_set ?_ GE131.out) | exact HB.out)) hb); clear BK131; clear HB; have BK131 := n0_; have HB := n1_; clear n0_ n1_; (try clear hb); (try clear hb2); (try clear hk); (try clear hi))))
      go_meet
      case rel => exact ⟨_, (!t150), (by first | rfl | (simp; done) | (simp [*]; done)), H', ⟨by first | omega | exact Nat.le_refl _⟩, ⟨by (with_reducible repeat (first | refine blk_drewN ?_ _ | refine blk_drew ?_ | refine blk_alloc ?_ _)); exact BK131.out⟩, ⟨by repeat (first | (with_reducible first | exact HB.out | apply below_alloc | apply pw_below_drewN | apply below_drew1 | refine below_set ?_ GE131.out) | exact HB.out)⟩⟩
    · replace c6 := Bool.eq_false_iff.mpr c6
      subst c6
      have H1 : (rule_Day.j0 k a0 true a1_0 a1_1 a1_2 a1_3 a1_4) = some (r1, r2) := by rw [if_neg (show ¬ (false = true) by decide)] at H; exact H
      clear H
      have H := H1
      clear H1
      have H' := Aside0.mk H
      clear H
      go_wp2_with (first | (go_at_call 25; (with_reducible refine (rule_may.calls a0 false _ A5.out).mono ?_); rintro e w' ⟨rfl, ⟨nd, rfl⟩⟩; (try first | exact ⟨rfl, _, World.drewN_drewN _ _ _⟩ | exact ⟨rfl, _, Eq.trans (World.drewN_drewN _ _ _) (congrArg (World.drewN _) (Nat.add_assoc _ _ _))⟩)))
      repeat (go_quiet (first | (go_at_call 25; (with_reducible refine (rule_may.calls a0 false _ A5.out).mono ?_); rintro e w' ⟨rfl, ⟨nd, rfl⟩⟩; (try first | exact ⟨rfl, _, World.drewN_drewN _ _ _⟩ | exact ⟨rfl, _, Eq.trans (World.drewN_drewN _ _ _) (congrArg (World.drewN _) (Nat.add_assoc _ _ _))⟩))); try go_wp2_with (first | (go_at_call 25; (with_reducible refine (rule_may.calls a0 false _ A5.out).mono ?_); rintro e w' ⟨rfl, ⟨nd, rfl⟩⟩; (try first | exact ⟨rfl, _, World.drewN_drewN _ _ _⟩ | exact ⟨rfl, _, Eq.trans (World.drewN_drewN _ _ _) (congrArg (World.drewN _) (Nat.add_assoc _ _ _))⟩))))
      go_meet
      case rel => exact ⟨_, (true), (by first | rfl | (simp; done) | (simp [*]; done)), H', ⟨by first | omega | exact Nat.le_refl _⟩, ⟨by (with_reducible repeat (first | refine blk_drewN ?_ _ | refine blk_drew ?_ | refine blk_alloc ?_ _)); exact BK131.out⟩, ⟨by repeat (first | (with_reducible first | exact HB.out | apply below_alloc | apply pw_below_drewN | apply below_drew1 | refine below_set ?_ GE131.out) | exact HB.out)⟩⟩
  case rest =>
    clear HC3
    try clear c1
    try clear p2
    try clear c6
    try clear hcz9_0
    try clear hcz9_1
    try clear hcz9_2
    try clear hcz9_3
    try clear hcz9_4
    try clear hfz9_0
    try clear hfz9_1
    try clear hfz9_2
    try clear hfz9_3
    try clear hfz9_4
    obtain ⟨kq, x21_2, rfl, HA, HJ2, BK131, HB⟩ := hcut
    cases kq with
    | zero => exact absurd HA.out (by simp [rule_Day.j0])
    | succ kj2 =>
      have H := HA.out
      clear HA
      simp only [rule_Day.j0] at H
      by_cases c12 : x21_2 = true
      · subst c12
        have H1 : (some (0, 1)) = some (r1, r2) := by rw [if_pos rfl] at H; exact H
        clear H
        have H := H1
        clear H1
        simp only [Option.some.injEq, Prod.mk.injEq] at H
        obtain ⟨rfl, rfl⟩ := H
        go_wp2
        repeat (go_quiet (fail); try go_wp2)
        go_ret2
        exact ⟨by first | rfl | (simp [errW_none, errW_some] <;> rfl) | (simp [*, errW_none, errW_some] <;> rfl), by repeat (first | (with_reducible first | exact HB.out | apply below_alloc | apply pw_below_drewN | apply below_drew1 | refine below_set ?_ GE131.out) | exact HB.out)⟩
      · replace c12 := Bool.eq_false_iff.mpr c12
        subst c12
        have H1 : ((civil_Days.f a0 1 1).bind fun bt151 => (if a1_0 = 1 then ((civil_Leap.f a0).bind fun t153 => (if t153 = true then (if (wrap64 (a1_1 - 1)) ≥ 59 then (some (wrap64 (bt151.1 + (wrap64 ((wrap64 (a1_1 - 1)) + 1))), 0)) else (some (wrap64 (bt151.1 + (wrap64 (a1_1 - 1))), 0))) else (some (wrap64 (bt151.1 + (wrap64 (a1_1 - 1))), 0)))) else (if a1_0 = 2 then (some (wrap64 (bt151.1 + a1_1), 0)) else ((civil_Days.f a0 a1_1 1).bind fun bt154 => ((civil_Weekday.f bt154.1).bind fun t156 => ((civil_Length.f a0 a1_1).bind fun t157 => (if (wrap64 ((Int.tmod (wrap64 ((wrap64 (a1_3 - t156)) + 7)) 7) + (wrap64 (7 * (wrap64 (a1_2 - 1)))))) ≥ t157 then (some (wrap64 (bt154.1 + (wrap64 ((wrap64 ((Int.tmod (wrap64 ((wrap64 (a1_3 - t156)) + 7)) 7) + (wrap64 (7 * (wrap64 (a1_2 - 1)))))) - 7))), 0)) else (some (wrap64 (bt154.1 + (wrap64 ((Int.tmod (wrap64 ((wrap64 (a1_3 - t156)) + 7)) 7) + (wrap64 (7 * (wrap64 (a1_2 - 1))))))), 0))))))))) = some (r1, r2) := by rw [if_neg (show ¬ (false = true) by decide)] at H; exact H
        clear H
        have H := H1
        clear H1
        replace H := Option.bind_eq_some_iff.mp H
        obtain ⟨⟨t151, t152⟩, A130, H⟩ := H
        replace H : (if a1_0 = 1 then ((civil_Leap.f a0).bind fun t153 => (if t153 = true then (if (wrap64 (a1_1 - 1)) ≥ 59 then (some (wrap64 (t151 + (wrap64 ((wrap64 (a1_1 - 1)) + 1))), 0)) else (some (wrap64 (t151 + (wrap64 (a1_1 - 1))), 0))) else (some (wrap64 (t151 + (wrap64 (a1_1 - 1))), 0)))) else (if a1_0 = 2 then (some (wrap64 (t151 + a1_1), 0)) else ((civil_Days.f a0 a1_1 1).bind fun bt154 => ((civil_Weekday.f bt154.1).bind fun t156 => ((civil_Length.f a0 a1_1).bind fun t157 => (if (wrap64 ((Int.tmod (wrap64 ((wrap64 (a1_3 - t156)) + 7)) 7) + (wrap64 (7 * (wrap64 (a1_2 - 1)))))) ≥ t157 then (some (wrap64 (bt154.1 + (wrap64 ((wrap64 ((Int.tmod (wrap64 ((wrap64 (a1_3 - t156)) + 7)) 7) + (wrap64 (7 * (wrap64 (a1_2 - 1)))))) - 7))), 0)) else (some (wrap64 (bt154.1 + (wrap64 ((Int.tmod (wrap64 ((wrap64 (a1_3 - t156)) + 7)) 7) + (wrap64 (7 * (wrap64 (a1_2 - 1))))))), 0)))))))) = some (r1, r2) := H
        have A13 := Aside0.mk A130
        clear A130
        by_cases c14 : a1_0 = 1
        · rw [if_pos c14] at H
          have c14b0 : (a1_0 == 1) = true := beq_iff_eq.mpr c14
          have c14b1 : (a1_0 != 1) = false := bne_eq_false_iff_eq.mpr c14
          clear c14
          replace H := Option.bind_eq_some_iff.mp H
          obtain ⟨t153, A150, H⟩ := H
          replace H : (if t153 = true then (if (wrap64 (a1_1 - 1)) ≥ 59 then (some (wrap64 (t151 + (wrap64 ((wrap64 (a1_1 - 1)) + 1))), 0)) else (some (wrap64 (t151 + (wrap64 (a1_1 - 1))), 0))) else (some (wrap64 (t151 + (wrap64 (a1_1 - 1))), 0))) = some (r1, r2) := H
          have A15 := Aside0.mk A150
          clear A150
          by_cases c16 : t153 = true
          · subst c16
            have H1 : (if (wrap64 (a1_1 - 1)) ≥ 59 then (some (wrap64 (t151 + (wrap64 ((wrap64 (a1_1 - 1)) + 1))), 0)) else (some (wrap64 (t151 + (wrap64 (a1_1 - 1))), 0))) = some (r1, r2) := by rw [if_pos rfl] at H; exact H
            clear H
            have H := H1
            clear H1
            by_cases c17 : (wrap64 (a1_1 - 1)) ≥ 59
            · rw [if_pos c17] at H
              have c17b0 : decide (59 ≤ (wrap64 (a1_1 - 1))) = true := decide_eq_true c17
              clear c17
              simp only [Option.some.injEq, Prod.mk.injEq] at H
              obtain ⟨rfl, rfl⟩ := H
              go_wp2_with (first | (go_at_call 24; (with_reducible refine (civil_Days.calls a0 1 1 t151 t152 _ ?side1 A13.out).mono ?_); (case side1 => exact GL.below HG.out (by repeat (first | (with_reducible first | exact HB.out | apply below_alloc | apply pw_below_drewN | apply below_drew1 | refine below_set ?_ GE131.out) | exact HB.out))); rintro e w18 ⟨rfl, hb⟩; have n0_ := Aside0.mk (blk_below (g := gb131) (o := .cells #[.int .i64 a1_0, .int .i64 a1_1, .int .i64 a1_2, .int .i64 a1_3, .int .i64 a1_4] 25 (0, 0)) (by (with_reducible repeat (first | refine blk_drewN ?_ _ | refine blk_drew ?_ | refine blk_alloc ?_ _)); exact BK131.out) hb); have n1_ := Aside0.mk (below_step (by repeat (first | (with_reducible first | exact HB.out | apply below_alloc | apply pw_below_drewN | apply below_drew1 | refine below_set ?_ GE131.out) | exact HB.out)) hb); clear BK131; clear HB; have BK131 := n0_; have HB := n1_; clear n0_ n1_; (try clear hb); (try clear hb2); (try clear hk); (try clear hi); have hcz19_0 : w18.cell? ⟨gb131, 0, none⟩ = some (.int .i64 a1_0) := (blk_cell BK131.out 0).trans rfl; have hcz19_1 : w18.cell? ⟨gb131, 1, none⟩ = some (.int .i64 a1_1) := (blk_cell BK131.out 1).trans rfl; have hcz19_2 : w18.cell? ⟨gb131, 2, none⟩ = some (.int .i64 a1_2) := (blk_cell BK131.out 2).trans rfl; have hcz19_3 : w18.cell? ⟨gb131, 3, none⟩ = some (.int .i64 a1_3) := (blk_cell BK131.out 3).trans rfl; have hcz19_4 : w18.cell? ⟨gb131, 4, none⟩ = some (.int .i64 a1_4) := (blk_cell BK131.out 4).trans rfl; have hfz19_0 := blk_frozen BK131.out 0; have hfz19_1 := blk_frozen BK131.out 1; have hfz19_2 := blk_frozen BK131.out 2; have hfz19_3 := blk_frozen BK131.out 3; have hfz19_4 := blk_frozen BK131.out 4) | (go_at_call 28; (with_reducible refine (civil_Leap.calls a0 true _ A15.out).mono ?_); rintro e w' ⟨rfl, ⟨nd, rfl⟩⟩; (try first | exact ⟨rfl, _, World.drewN_drewN _ _ _⟩ | exact ⟨rfl, _, Eq.trans (World.drewN_drewN _ _ _) (congrArg (World.drewN _) (Nat.add_assoc _ _ _))⟩)))
              repeat (go_quiet (first | (go_at_call 24; (with_reducible refine (civil_Days.calls a0 1 1 t151 t152 _ ?side1 A13.out).mono ?_); (case side1 => exact GL.below HG.out (by repeat (first | (with_reducible first | exact HB.out | apply below_alloc | apply pw_below_drewN | apply below_drew1 | refine below_set ?_ GE131.out) | exact HB.out))); rintro e w18 ⟨rfl, hb⟩; have n0_ := Aside0.mk (blk_below (g := gb131) (o := .cells #[.int .i64 a1_0, .int .i64 a1_1, .int .i64 a1_2, .int .i64 a1_3, .int .i64 a1_4] 25 (0, 0)) (by (with_reducible repeat (first | refine blk_drewN ?_ _ | refine blk_drew ?_ | refine blk_alloc ?_ _)); exact BK131.out) hb); have n1_ := Aside0.mk (below_step (by repeat (first | (with_reducible first | exact HB.out | apply below_alloc | apply pw_below_drewN | apply below_drew1 | refine below_set ?_ GE131.out) | exact HB.out)) hb); clear BK131; clear HB; have BK131 := n0_; have HB := n1_; clear n0_ n1_; (try clear hb); (try clear hb2); (try clear hk); (try clear hi); have hcz19_0 : w18.cell? ⟨gb131, 0, none⟩ = some (.int .i64 a1_0) := (blk_cell BK131.out 0).trans rfl; have hcz19_1 : w18.cell? ⟨gb131, 1, none⟩ = some (.int .i64 a1_1) := (blk_cell BK131.out 1).trans rfl; have hcz19_2 : w18.cell? ⟨gb131, 2, none⟩ = some (.int .i64 a1_2) := (blk_cell BK131.out 2).trans rfl; have hcz19_3 : w18.cell? ⟨gb131, 3, none⟩ = some (.int .i64 a1_3) := (blk_cell BK131.out 3).trans rfl; have hcz19_4 : w18.cell? ⟨gb131, 4, none⟩ = some (.int .i64 a1_4) := (blk_cell BK131.out 4).trans rfl; have hfz19_0 := blk_frozen BK131.out 0; have hfz19_1 := blk_frozen BK131.out 1; have hfz19_2 := blk_frozen BK131.out 2; have hfz19_3 := blk_frozen BK131.out 3; have hfz19_4 := blk_frozen BK131.out 4) | (go_at_call 28; (with_reducible refine (civil_Leap.calls a0 true _ A15.out).mono ?_); rintro e w' ⟨rfl, ⟨nd, rfl⟩⟩; (try first | exact ⟨rfl, _, World.drewN_drewN _ _ _⟩ | exact ⟨rfl, _, Eq.trans (World.drewN_drewN _ _ _) (congrArg (World.drewN _) (Nat.add_assoc _ _ _))⟩))); try go_wp2_with (first | (go_at_call 24; (with_reducible refine (civil_Days.calls a0 1 1 t151 t152 _ ?side1 A13.out).mono ?_); (case side1 => exact GL.below HG.out (by repeat (first | (with_reducible first | exact HB.out | apply below_alloc | apply pw_below_drewN | apply below_drew1 | refine below_set ?_ GE131.out) | exact HB.out))); rintro e w18 ⟨rfl, hb⟩; have n0_ := Aside0.mk (blk_below (g := gb131) (o := .cells #[.int .i64 a1_0, .int .i64 a1_1, .int .i64 a1_2, .int .i64 a1_3, .int .i64 a1_4] 25 (0, 0)) (by (with_reducible repeat (first | refine blk_drewN ?_ _ | refine blk_drew ?_ | refine blk_alloc ?_ _)); exact BK131.out) hb); have n1_ := Aside0.mk (below_step (by repeat (first | (with_reducible first | exact HB.out | apply below_alloc | apply pw_below_drewN | apply below_drew1 | refine below_set ?_ GE131.out) | exact HB.out)) hb); clear BK131; clear HB; have BK131 := n0_; have HB := n1_; clear n0_ n1_; (try clear hb); (try clear hb2); (try clear hk); (try clear hi); have hcz19_0 : w18.cell? ⟨gb131, 0, none⟩ = some (.int .i64 a1_0) := (blk_cell BK131.out 0).trans rfl; have hcz19_1 : w18.cell? ⟨gb131, 1, none⟩ = some (.int .i64 a1_1) := (blk_cell BK131.out 1).trans rfl; have hcz19_2 : w18.cell? ⟨gb131, 2, none⟩ = some (.int .i64 a1_2) := (blk_cell BK131.out 2).trans rfl; have hcz19_3 : w18.cell? ⟨gb131, 3, none⟩ = some (.int .i64 a1_3) := (blk_cell BK131.out 3).trans rfl; have hcz19_4 : w18.cell? ⟨gb131, 4, none⟩ = some (.int .i64 a1_4) := (blk_cell BK131.out 4).trans rfl; have hfz19_0 := blk_frozen BK131.out 0; have hfz19_1 := blk_frozen BK131.out 1; have hfz19_2 := blk_frozen BK131.out 2; have hfz19_3 := blk_frozen BK131.out 3; have hfz19_4 := blk_frozen BK131.out 4) | (go_at_call 28; (with_reducible refine (civil_Leap.calls a0 true _ A15.out).mono ?_); rintro e w' ⟨rfl, ⟨nd, rfl⟩⟩; (try first | exact ⟨rfl, _, World.drewN_drewN _ _ _⟩ | exact ⟨rfl, _, Eq.trans (World.drewN_drewN _ _ _) (congrArg (World.drewN _) (Nat.add_assoc _ _ _))⟩))))
              go_ret2
              exact ⟨by first | rfl | (simp [errW_none, errW_some] <;> rfl) | (simp [*, errW_none, errW_some] <;> rfl), by repeat (first | (with_reducible first | exact HB.out | apply below_alloc | apply pw_below_drewN | apply below_drew1 | refine below_set ?_ GE131.out) | exact HB.out)⟩
            · rw [if_neg c17] at H
              have c17b0 : decide (59 ≤ (wrap64 (a1_1 - 1))) = false := decide_eq_false c17
              clear c17
              simp only [Option.some.injEq, Prod.mk.injEq] at H
              obtain ⟨rfl, rfl⟩ := H
              go_wp2_with (first | (go_at_call 24; (with_reducible refine (civil_Days.calls a0 1 1 t151 t152 _ ?side1 A13.out).mono ?_); (case side1 => exact GL.below HG.out (by repeat (first | (with_reducible first | exact HB.out | apply below_alloc | apply pw_below_drewN | apply below_drew1 | refine below_set ?_ GE131.out) | exact HB.out))); rintro e w20 ⟨rfl, hb⟩; have n0_ := Aside0.mk (blk_below (g := gb131) (o := .cells #[.int .i64 a1_0, .int .i64 a1_1, .int .i64 a1_2, .int .i64 a1_3, .int .i64 a1_4] 25 (0, 0)) (by (with_reducible repeat (first | refine blk_drewN ?_ _ | refine blk_drew ?_ | refine blk_alloc ?_ _)); exact BK131.out) hb); have n1_ := Aside0.mk (below_step (by repeat (first | (with_reducible first | exact HB.out | apply below_alloc | apply pw_below_drewN | apply below_drew1 | refine below_set ?_ GE131.out) | exact HB.out)) hb); clear BK131; clear HB; have BK131 := n0_; have HB := n1_; clear n0_ n1_; (try clear hb); (try clear hb2); (try clear hk); (try clear hi); have hcz21_0 : w20.cell? ⟨gb131, 0, none⟩ = some (.int .i64 a1_0) := (blk_cell BK131.out 0).trans rfl; have hcz21_1 : w20.cell? ⟨gb131, 1, none⟩ = some (.int .i64 a1_1) := (blk_cell BK131.out 1).trans rfl; have hcz21_2 : w20.cell? ⟨gb131, 2, none⟩ = some (.int .i64 a1_2) := (blk_cell BK131.out 2).trans rfl; have hcz21_3 : w20.cell? ⟨gb131, 3, none⟩ = some (.int .i64 a1_3) := (blk_cell BK131.out 3).trans rfl; have hcz21_4 : w20.cell? ⟨gb131, 4, none⟩ = some (.int .i64 a1_4) := (blk_cell BK131.out 4).trans rfl; have hfz21_0 := blk_frozen BK131.out 0; have hfz21_1 := blk_frozen BK131.out 1; have hfz21_2 := blk_frozen BK131.out 2; have hfz21_3 := blk_frozen BK131.out 3; have hfz21_4 := blk_frozen BK131.out 4) | (go_at_call 28; (with_reducible refine (civil_Leap.calls a0 true _ A15.out).mono ?_); rintro e w' ⟨rfl, ⟨nd, rfl⟩⟩; (try first | exact ⟨rfl, _, World.drewN_drewN _ _ _⟩ | exact ⟨rfl, _, Eq.trans (World.drewN_drewN _ _ _) (congrArg (World.drewN _) (Nat.add_assoc _ _ _))⟩)))
              repeat (go_quiet (first | (go_at_call 24; (with_reducible refine (civil_Days.calls a0 1 1 t151 t152 _ ?side1 A13.out).mono ?_); (case side1 => exact GL.below HG.out (by repeat (first | (with_reducible first | exact HB.out | apply below_alloc | apply pw_below_drewN | apply below_drew1 | refine below_set ?_ GE131.out) | exact HB.out))); rintro e w20 ⟨rfl, hb⟩; have n0_ := Aside0.mk (blk_below (g := gb131) (o := .cells #[.int .i64 a1_0, .int .i64 a1_1, .int .i64 a1_2, .int .i64 a1_3, .int .i64 a1_4] 25 (0, 0)) (by (with_reducible repeat (first | refine blk_drewN ?_ _ | refine blk_drew ?_ | refine blk_alloc ?_ _)); exact BK131.out) hb); have n1_ := Aside0.mk (below_step (by repeat (first | (with_reducible first | exact HB.out | apply below_alloc | apply pw_below_drewN | apply below_drew1 | refine below_set ?_ GE131.out) | exact HB.out)) hb); clear BK131; clear HB; have BK131 := n0_; have HB := n1_; clear n0_ n1_; (try clear hb); (try clear hb2); (try clear hk); (try clear hi); have hcz21_0 : w20.cell? ⟨gb131, 0, none⟩ = some (.int .i64 a1_0) := (blk_cell BK131.out 0).trans rfl; have hcz21_1 : w20.cell? ⟨gb131, 1, none⟩ = some (.int .i64 a1_1) := (blk_cell BK131.out 1).trans rfl; have hcz21_2 : w20.cell? ⟨gb131, 2, none⟩ = some (.int .i64 a1_2) := (blk_cell BK131.out 2).trans rfl; have hcz21_3 : w20.cell? ⟨gb131, 3, none⟩ = some (.int .i64 a1_3) := (blk_cell BK131.out 3).trans rfl; have hcz21_4 : w20.cell? ⟨gb131, 4, none⟩ = some (.int .i64 a1_4) := (blk_cell BK131.out 4).trans rfl; have hfz21_0 := blk_frozen BK131.out 0; have hfz21_1 := blk_frozen BK131.out 1; have hfz21_2 := blk_frozen BK131.out 2; have hfz21_3 := blk_frozen BK131.out 3; have hfz21_4 := blk_frozen BK131.out 4) | (go_at_call 28; (with_reducible refine (civil_Leap.calls a0 true _ A15.out).mono ?_); rintro e w' ⟨rfl, ⟨nd, rfl⟩⟩; (try first | exact ⟨rfl, _, World.drewN_drewN _ _ _⟩ | exact ⟨rfl, _, Eq.trans (World.drewN_drewN _ _ _) (congrArg (World.drewN _) (Nat.add_assoc _ _ _))⟩))); try go_wp2_with (first | (go_at_call 24; (with_reducible refine (civil_Days.calls a0 1 1 t151 t152 _ ?side1 A13.out).mono ?_); (case side1 => exact GL.below HG.out (by repeat (first | (with_reducible first | exact HB.out | apply below_alloc | apply pw_below_drewN | apply below_drew1 | refine below_set ?_ GE131.out) | exact HB.out))); rintro e w20 ⟨rfl, hb⟩; have n0_ := Aside0.mk (blk_below (g := gb131) (o := .cells #[.int .i64 a1_0, .int .i64 a1_1, .int .i64 a1_2, .int .i64 a1_3, .int .i64 a1_4] 25 (0, 0)) (by (with_reducible repeat (first | refine blk_drewN ?_ _ | refine blk_drew ?_ | refine blk_alloc ?_ _)); exact BK131.out) hb); have n1_ := Aside0.mk (below_step (by repeat (first | (with_reducible first | exact HB.out | apply below_alloc | apply pw_below_drewN | apply below_drew1 | refine below_set ?_ GE131.out) | exact HB.out)) hb); clear BK131; clear HB; have BK131 := n0_; have HB := n1_; clear n0_ n1_; (try clear hb); (try clear hb2); (try clear hk); (try clear hi); have hcz21_0 : w20.cell? ⟨gb131, 0, none⟩ = some (.int .i64 a1_0) := (blk_cell BK131.out 0).trans rfl; have hcz21_1 : w20.cell? ⟨gb131, 1, none⟩ = some (.int .i64 a1_1) := (blk_cell BK131.out 1).trans rfl; have hcz21_2 : w20.cell? ⟨gb131, 2, none⟩ = some (.int .i64 a1_2) := (blk_cell BK131.out 2).trans rfl; have hcz21_3 : w20.cell? ⟨gb131, 3, none⟩ = some (.int .i64 a1_3) := (blk_cell BK131.out 3).trans rfl; have hcz21_4 : w20.cell? ⟨gb131, 4, none⟩ = some (.int .i64 a1_4) := (blk_cell BK131.out 4).trans rfl; have hfz21_0 := blk_frozen BK131.out 0; have hfz21_1 := blk_frozen BK131.out 1; have hfz21_2 := blk_frozen BK131.out 2; have hfz21_3 := blk_frozen BK131.out 3; have hfz21_4 := blk_frozen BK131.out 4) | (go_at_call 28; (with_reducible refine (civil_Leap.calls a0 true _ A15.out).mono ?_); rintro e w' ⟨rfl, ⟨nd, rfl⟩⟩; (try first | exact ⟨rfl, _, World.drewN_drewN _ _ _⟩ | exact ⟨rfl, _, Eq.trans (World.drewN_drewN _ _ _) (congrArg (World.drewN _) (Nat.add_assoc _ _ _))⟩))))
              go_ret2
              exact ⟨by first | rfl | (simp [errW_none, errW_some] <;> rfl) | (simp [*, errW_none, errW_some] <;> rfl), by repeat (first | (with_reducible first | exact HB.out | apply below_alloc | apply pw_below_drewN | apply below_drew1 | refine below_set ?_ GE131.out) | exact HB.out)⟩
          · replace c16 := Bool.eq_false_iff.mpr c16
            subst c16
            have H1 : (some (wrap64 (t151 + (wrap64 (a1_1 - 1))), 0)) = some (r1, r2) := by rw [if_neg (show ¬ (false = true) by decide)] at H; exact H
            clear H
            have H := H1
            clear H1
            simp only [Option.some.injEq, Prod.mk.injEq] at H
            obtain ⟨rfl, rfl⟩ := H
            go_wp2_with (first | (go_at_call 24; (with_reducible refine (civil_Days.calls a0 1 1 t151 t152 _ ?side1 A13.out).mono ?_); (case side1 => exact GL.below HG.out (by repeat (first | (with_reducible first | exact HB.out | apply below_alloc | apply pw_below_drewN | apply below_drew1 | refine below_set ?_ GE131.out) | exact HB.out))); rintro e w22 ⟨rfl, hb⟩; have n0_ := Aside0.mk (blk_below (g := gb131) (o := .cells #[.int .i64 a1_0, .int .i64 a1_1, .int .i64 a1_2, .int .i64 a1_3, .int .i64 a1_4] 25 (0, 0)) (by (with_reducible repeat (first | refine blk_drewN ?_ _ | refine blk_drew ?_ | refine blk_alloc ?_ _)); exact BK131.out) hb); have n1_ := Aside0.mk (below_step (by repeat (first | (with_reducible first | exact HB.out | apply below_alloc | apply pw_below_drewN | apply below_drew1 | refine below_set ?_ GE131.out) | exact HB.out)) hb); clear BK131; clear HB; have BK131 := n0_; have HB := n1_; clear n0_ n1_; (try clear hb); (try clear hb2); (try clear hk); (try clear hi); have hcz23_0 : w22.cell? ⟨gb131, 0, none⟩ = some (.int .i64 a1_0) := (blk_cell BK131.out 0).trans rfl; have hcz23_1 : w22.cell? ⟨gb131, 1, none⟩ = some (.int .i64 a1_1) := (blk_cell BK131.out 1).trans rfl; have hcz23_2 : w22.cell? ⟨gb131, 2, none⟩ = some (.int .i64 a1_2) := (blk_cell BK131.out 2).trans rfl; have hcz23_3 : w22.cell? ⟨gb131, 3, none⟩ = some (.int .i64 a1_3) := (blk_cell BK131.out 3).trans rfl; have hcz23_4 : w22.cell? ⟨gb131, 4, none⟩ = some (.int .i64 a1_4) := (blk_cell BK131.out 4).trans rfl; have hfz23_0 := blk_frozen BK131.out 0; have hfz23_1 := blk_frozen BK131.out 1; have hfz23_2 := blk_frozen BK131.out 2; have hfz23_3 := blk_frozen BK131.out 3; have hfz23_4 := blk_frozen BK131.out 4) | (go_at_call 28; (with_reducible refine (civil_Leap.calls a0 false _ A15.out).mono ?_); rintro e w' ⟨rfl, ⟨nd, rfl⟩⟩; (try first | exact ⟨rfl, _, World.drewN_drewN _ _ _⟩ | exact ⟨rfl, _, Eq.trans (World.drewN_drewN _ _ _) (congrArg (World.drewN _) (Nat.add_assoc _ _ _))⟩)))
            repeat (go_quiet (first | (go_at_call 24; (with_reducible refine (civil_Days.calls a0 1 1 t151 t152 _ ?side1 A13.out).mono ?_); (case side1 => exact GL.below HG.out (by repeat (first | (with_reducible first | exact HB.out | apply below_alloc | apply pw_below_drewN | apply below_drew1 | refine below_set ?_ GE131.out) | exact HB.out))); rintro e w22 ⟨rfl, hb⟩; have n0_ := Aside0.mk (blk_below (g := gb131) (o := .cells #[.int .i64 a1_0, .int .i64 a1_1, .int .i64 a1_2, .int .i64 a1_3, .int .i64 a1_4] 25 (0, 0)) (by (with_reducible repeat (first | refine blk_drewN ?_ _ | refine blk_drew ?_ | refine blk_alloc ?_ _)); exact BK131.out) hb); have n1_ := Aside0.mk (below_step (by repeat (first | (with_reducible first | exact HB.out | apply below_alloc | apply pw_below_drewN | apply below_drew1 | refine below_set ?_ GE131.out) | exact HB.out)) hb); clear BK131; clear HB; have BK131 := n0_; have HB := n1_; clear n0_ n1_; (try clear hb); (try clear hb2); (try clear hk); (try clear hi); have hcz23_0 : w22.cell? ⟨gb131, 0, none⟩ = some (.int .i64 a1_0) := (blk_cell BK131.out 0).trans rfl; have hcz23_1 : w22.cell? ⟨gb131, 1, none⟩ = some (.int .i64 a1_1) := (blk_cell BK131.out 1).trans rfl; have hcz23_2 : w22.cell? ⟨gb131, 2, none⟩ = some (.int .i64 a1_2) := (blk_cell BK131.out 2).trans rfl; have hcz23_3 : w22.cell? ⟨gb131, 3, none⟩ = some (.int .i64 a1_3) := (blk_cell BK131.out 3).trans rfl; have hcz23_4 : w22.cell? ⟨gb131, 4, none⟩ = some (.int .i64 a1_4) := (blk_cell BK131.out 4).trans rfl; have hfz23_0 := blk_frozen BK131.out 0; have hfz23_1 := blk_frozen BK131.out 1; have hfz23_2 := blk_frozen BK131.out 2; have hfz23_3 := blk_frozen BK131.out 3; have hfz23_4 := blk_frozen BK131.out 4) | (go_at_call 28; (with_reducible refine (civil_Leap.calls a0 false _ A15.out).mono ?_); rintro e w' ⟨rfl, ⟨nd, rfl⟩⟩; (try first | exact ⟨rfl, _, World.drewN_drewN _ _ _⟩ | exact ⟨rfl, _, Eq.trans (World.drewN_drewN _ _ _) (congrArg (World.drewN _) (Nat.add_assoc _ _ _))⟩))); try go_wp2_with (first | (go_at_call 24; (with_reducible refine (civil_Days.calls a0 1 1 t151 t152 _ ?side1 A13.out).mono ?_); (case side1 => exact GL.below HG.out (by repeat (first | (with_reducible first | exact HB.out | apply below_alloc | apply pw_below_drewN | apply below_drew1 | refine below_set ?_ GE131.out) | exact HB.out))); rintro e w22 ⟨rfl, hb⟩; have n0_ := Aside0.mk (blk_below (g := gb131) (o := .cells #[.int .i64 a1_0, .int .i64 a1_1, .int .i64 a1_2, .int .i64 a1_3, .int .i64 a1_4] 25 (0, 0)) (by (with_reducible repeat (first | refine blk_drewN ?_ _ | refine blk_drew ?_ | refine blk_alloc ?_ _)); exact BK131.out) hb); have n1_ := Aside0.mk (below_step (by repeat (first | (with_reducible first | exact HB.out | apply below_alloc | apply pw_below_drewN | apply below_drew1 | refine below_set ?_ GE131.out) | exact HB.out)) hb); clear BK131; clear HB; have BK131 := n0_; have HB := n1_; clear n0_ n1_; (try clear hb); (try clear hb2); (try clear hk); (try clear hi); have hcz23_0 : w22.cell? ⟨gb131, 0, none⟩ = some (.int .i64 a1_0) := (blk_cell BK131.out 0).trans rfl; have hcz23_1 : w22.cell? ⟨gb131, 1, none⟩ = some (.int .i64 a1_1) := (blk_cell BK131.out 1).trans rfl; have hcz23_2 : w22.cell? ⟨gb131, 2, none⟩ = some (.int .i64 a1_2) := (blk_cell BK131.out 2).trans rfl; have hcz23_3 : w22.cell? ⟨gb131, 3, none⟩ = some (.int .i64 a1_3) := (blk_cell BK131.out 3).trans rfl; have hcz23_4 : w22.cell? ⟨gb131, 4, none⟩ = some (.int .i64 a1_4) := (blk_cell BK131.out 4).trans rfl; have hfz23_0 := blk_frozen BK131.out 0; have hfz23_1 := blk_frozen BK131.out 1; have hfz23_2 := blk_frozen BK131.out 2; have hfz23_3 := blk_frozen BK131.out 3; have hfz23_4 := blk_frozen BK131.out 4) | (go_at_call 28; (with_reducible refine (civil_Leap.calls a0 false _ A15.out).mono ?_); rintro e w' ⟨rfl, ⟨nd, rfl⟩⟩; (try first | exact ⟨rfl, _, World.drewN_drewN _ _ _⟩ | exact ⟨rfl, _, Eq.trans (World.drewN_drewN _ _ _) (congrArg (World.drewN _) (Nat.add_assoc _ _ _))⟩))))
            go_ret2
            exact ⟨by first | rfl | (simp [errW_none, errW_some] <;> rfl) | (simp [*, errW_none, errW_some] <;> rfl), by repeat (first | (with_reducible first | exact HB.out | apply below_alloc | apply pw_below_drewN | apply below_drew1 | refine below_set ?_ GE131.out) | exact HB.out)⟩
        · rw [if_neg c14] at H
          have c14b0 : (a1_0 == 1) = false := beq_eq_false_iff_ne.mpr c14
          have c14b1 : (a1_0 != 1) = true := bne_iff_ne.mpr c14
          by_cases c24 : a1_0 = 2
          · rw [if_pos c24] at H
            have c24b0 : (a1_0 == 2) = true := beq_iff_eq.mpr c24
            have c24b1 : (a1_0 != 2) = false := bne_eq_false_iff_eq.mpr c24
            clear c24
            simp only [Option.some.injEq, Prod.mk.injEq] at H
            obtain ⟨rfl, rfl⟩ := H
            go_wp2_with (first | (go_at_call 24; (with_reducible refine (civil_Days.calls a0 1 1 t151 t152 _ ?side1 A13.out).mono ?_); (case side1 => exact GL.below HG.out (by repeat (first | (with_reducible first | exact HB.out | apply below_alloc | apply pw_below_drewN | apply below_drew1 | refine below_set ?_ GE131.out) | exact HB.out))); rintro e w25 ⟨rfl, hb⟩; have n0_ := Aside0.mk (blk_below (g := gb131) (o := .cells #[.int .i64 a1_0, .int .i64 a1_1, .int .i64 a1_2, .int .i64 a1_3, .int .i64 a1_4] 25 (0, 0)) (by (with_reducible repeat (first | refine blk_drewN ?_ _ | refine blk_drew ?_ | refine blk_alloc ?_ _)); exact BK131.out) hb); have n1_ := Aside0.mk (below_step (by repeat (first | (with_reducible first | exact HB.out | apply below_alloc | apply pw_below_drewN | apply below_drew1 | refine below_set ?_ GE131.out) | exact HB.out)) hb); clear BK131; clear HB; have BK131 := n0_; have HB := n1_; clear n0_ n1_; (try clear hb); (try clear hb2); (try clear hk); (try clear hi); have hcz26_0 : w25.cell? ⟨gb131, 0, none⟩ = some (.int .i64 a1_0) := (blk_cell BK131.out 0).trans rfl; have hcz26_1 : w25.cell? ⟨gb131, 1, none⟩ = some (.int .i64 a1_1) := (blk_cell BK131.out 1).trans rfl; have hcz26_2 : w25.cell? ⟨gb131, 2, none⟩ = some (.int .i64 a1_2) := (blk_cell BK131.out 2).trans rfl; have hcz26_3 : w25.cell? ⟨gb131, 3, none⟩ = some (.int .i64 a1_3) := (blk_cell BK131.out 3).trans rfl; have hcz26_4 : w25.cell? ⟨gb131, 4, none⟩ = some (.int .i64 a1_4) := (blk_cell BK131.out 4).trans rfl; have hfz26_0 := blk_frozen BK131.out 0; have hfz26_1 := blk_frozen BK131.out 1; have hfz26_2 := blk_frozen BK131.out 2; have hfz26_3 := blk_frozen BK131.out 3; have hfz26_4 := blk_frozen BK131.out 4))
            repeat (go_quiet (first | (go_at_call 24; (with_reducible refine (civil_Days.calls a0 1 1 t151 t152 _ ?side1 A13.out).mono ?_); (case side1 => exact GL.below HG.out (by repeat (first | (with_reducible first | exact HB.out | apply below_alloc | apply pw_below_drewN | apply below_drew1 | refine below_set ?_ GE131.out) | exact HB.out))); rintro e w25 ⟨rfl, hb⟩; have n0_ := Aside0.mk (blk_below (g := gb131) (o := .cells #[.int .i64 a1_0, .int .i64 a1_1, .int .i64 a1_2, .int .i64 a1_3, .int .i64 a1_4] 25 (0, 0)) (by (with_reducible repeat (first | refine blk_drewN ?_ _ | refine blk_drew ?_ | refine blk_alloc ?_ _)); exact BK131.out) hb); have n1_ := Aside0.mk (below_step (by repeat (first | (with_reducible first | exact HB.out | apply below_alloc | apply pw_below_drewN | apply below_drew1 | refine below_set ?_ GE131.out) | exact HB.out)) hb); clear BK131; clear HB; have BK131 := n0_; have HB := n1_; clear n0_ n1_; (try clear hb); (try clear hb2); (try clear hk); (try clear hi); have hcz26_0 : w25.cell? ⟨gb131, 0, none⟩ = some (.int .i64 a1_0) := (blk_cell BK131.out 0).trans rfl; have hcz26_1 : w25.cell? ⟨gb131, 1, none⟩ = some (.int .i64 a1_1) := (blk_cell BK131.out 1).trans rfl; have hcz26_2 : w25.cell? ⟨gb131, 2, none⟩ = some (.int .i64 a1_2) := (blk_cell BK131.out 2).trans rfl; have hcz26_3 : w25.cell? ⟨gb131, 3, none⟩ = some (.int .i64 a1_3) := (blk_cell BK131.out 3).trans rfl; have hcz26_4 : w25.cell? ⟨gb131, 4, none⟩ = some (.int .i64 a1_4) := (blk_cell BK131.out 4).trans rfl; have hfz26_0 := blk_frozen BK131.out 0; have hfz26_1 := blk_frozen BK131.out 1; have hfz26_2 := blk_frozen BK131.out 2; have hfz26_3 := blk_frozen BK131.out 3; have hfz26_4 := blk_frozen BK131.out 4)); try go_wp2_with (first | (go_at_call 24; (with_reducible refine (civil_Days.calls a0 1 1 t151 t152 _ ?side1 A13.out).mono ?_); (case side1 => exact GL.below HG.out (by repeat (first | (with_reducible first | exact HB.out | apply below_alloc | apply pw_below_drewN | apply below_drew1 | refine below_set ?_ GE131.out) | exact HB.out))); rintro e w25 ⟨rfl, hb⟩; have n0_ := Aside0.mk (blk_below (g := gb131) (o := .cells #[.int .i64 a1_0, .int .i64 a1_1, .int .i64 a1_2, .int .i64 a1_3, .int .i64 a1_4] 25 (0, 0)) (by (with_reducible repeat (first | refine blk_drewN ?_ _ | refine blk_drew ?_ | refine blk_alloc ?_ _)); exact BK131.out) hb); have n1_ := Aside0.mk (below_step (by repeat (first | (with_reducible first | exact HB.out | apply below_alloc | apply pw_below_drewN | apply below_drew1 | refine below_set ?_ GE131.out) | exact HB.out)) hb); clear BK131; clear HB; have BK131 := n0_; have HB := n1_; clear n0_ n1_; (try clear hb); (try clear hb2); (try clear hk); (try clear hi); have hcz26_0 : w25.cell? ⟨gb131, 0, none⟩ = some (.int .i64 a1_0) := (blk_cell BK131.out 0).trans rfl; have hcz26_1 : w25.cell? ⟨gb131, 1, none⟩ = some (.int .i64 a1_1) := (blk_cell BK131.out 1).trans rfl; have hcz26_2 : w25.cell? ⟨gb131, 2, none⟩ = some (.int .i64 a1_2) := (blk_cell BK131.out 2).trans rfl; have hcz26_3 : w25.cell? ⟨gb131, 3, none⟩ = some (.int .i64 a1_3) := (blk_cell BK131.out 3).trans rfl; have hcz26_4 : w25.cell? ⟨gb131, 4, none⟩ = some (.int .i64 a1_4) := (blk_cell BK131.out 4).trans rfl; have hfz26_0 := blk_frozen BK131.out 0; have hfz26_1 := blk_frozen BK131.out 1; have hfz26_2 := blk_frozen BK131.out 2; have hfz26_3 := blk_frozen BK131.out 3; have hfz26_4 := blk_frozen BK131.out 4)))
            go_ret2
            exact ⟨by first | rfl | (simp [errW_none, errW_some] <;> rfl) | (simp [*, errW_none, errW_some] <;> rfl), by repeat (first | (with_reducible first | exact HB.out | apply below_alloc | apply pw_below_drewN | apply below_drew1 | refine below_set ?_ GE131.out) | exact HB.out)⟩
          · rw [if_neg c24] at H
            have c24b0 : (a1_0 == 2) = false := beq_eq_false_iff_ne.mpr c24
            have c24b1 : (a1_0 != 2) = true := bne_iff_ne.mpr c24
            replace H := Option.bind_eq_some_iff.mp H
            obtain ⟨⟨t154, t155⟩, A270, H⟩ := H
            replace H : ((civil_Weekday.f t154).bind fun t156 => ((civil_Length.f a0 a1_1).bind fun t157 => (if (wrap64 ((Int.tmod (wrap64 ((wrap64 (a1_3 - t156)) + 7)) 7) + (wrap64 (7 * (wrap64 (a1_2 - 1)))))) ≥ t157 then (some (wrap64 (t154 + (wrap64 ((wrap64 ((Int.tmod (wrap64 ((wrap64 (a1_3 - t156)) + 7)) 7) + (wrap64 (7 * (wrap64 (a1_2 - 1)))))) - 7))), 0)) else (some (wrap64 (t154 + (wrap64 ((Int.tmod (wrap64 ((wrap64 (a1_3 - t156)) + 7)) 7) + (wrap64 (7 * (wrap64 (a1_2 - 1))))))), 0))))) = some (r1, r2) := H
            have A27 := Aside0.mk A270
            clear A270
            replace H := Option.bind_eq_some_iff.mp H
            obtain ⟨t156, A280, H⟩ := H
            replace H : ((civil_Length.f a0 a1_1).bind fun t157 => (if (wrap64 ((Int.tmod (wrap64 ((wrap64 (a1_3 - t156)) + 7)) 7) + (wrap64 (7 * (wrap64 (a1_2 - 1)))))) ≥ t157 then (some (wrap64 (t154 + (wrap64 ((wrap64 ((Int.tmod (wrap64 ((wrap64 (a1_3 - t156)) + 7)) 7) + (wrap64 (7 * (wrap64 (a1_2 - 1)))))) - 7))), 0)) else (some (wrap64 (t154 + (wrap64 ((Int.tmod (wrap64 ((wrap64 (a1_3 - t156)) + 7)) 7) + (wrap64 (7 * (wrap64 (a1_2 - 1))))))), 0)))) = some (r1, r2) := H
            have A28 := Aside0.mk A280
            clear A280
            replace H := Option.bind_eq_some_iff.mp H
            obtain ⟨t157, A290, H⟩ := H
            replace H : (if (wrap64 ((Int.tmod (wrap64 ((wrap64 (a1_3 - t156)) + 7)) 7) + (wrap64 (7 * (wrap64 (a1_2 - 1)))))) ≥ t157 then (some (wrap64 (t154 + (wrap64 ((wrap64 ((Int.tmod (wrap64 ((wrap64 (a1_3 - t156)) + 7)) 7) + (wrap64 (7 * (wrap64 (a1_2 - 1)))))) - 7))), 0)) else (some (wrap64 (t154 + (wrap64 ((Int.tmod (wrap64 ((wrap64 (a1_3 - t156)) + 7)) 7) + (wrap64 (7 * (wrap64 (a1_2 - 1))))))), 0))) = some (r1, r2) := H
            have A29 := Aside0.mk A290
            clear A290
            by_cases c30 : (wrap64 ((Int.tmod (wrap64 ((wrap64 (a1_3 - t156)) + 7)) 7) + (wrap64 (7 * (wrap64 (a1_2 - 1)))))) ≥ t157
            · rw [if_pos c30] at H
              have c30b0 : decide (t157 ≤ (wrap64 ((Int.tmod (wrap64 ((wrap64 (a1_3 - t156)) + 7)) 7) + (wrap64 (7 * (wrap64 (a1_2 - 1))))))) = true := decide_eq_true c30
              clear c30
              simp only [Option.some.injEq, Prod.mk.injEq] at H
              obtain ⟨rfl, rfl⟩ := H
              go_wp2_with (first | (go_at_call 24; (with_reducible refine (civil_Days.calls a0 1 1 t151 t152 _ ?side1 A13.out).mono ?_); (case side1 => exact GL.below HG.out (by repeat (first | (with_reducible first | exact HB.out | apply below_alloc | apply pw_below_drewN | apply below_drew1 | refine below_set ?_ GE131.out) | exact HB.out))); rintro e w31 ⟨rfl, hb⟩; have n0_ := Aside0.mk (blk_below (g := gb131) (o := .cells #[.int .i64 a1_0, .int .i64 a1_1, .int .i64 a1_2, .int .i64 a1_3, .int .i64 a1_4] 25 (0, 0)) (by (with_reducible repeat (first | refine blk_drewN ?_ _ | refine blk_drew ?_ | refine blk_alloc ?_ _)); exact BK131.out) hb); have n1_ := Aside0.mk (below_step (by repeat (first | (with_reducible first | exact HB.out | apply below_alloc | apply pw_below_drewN | apply below_drew1 | refine below_set ?_ GE131.out) | exact HB.out)) hb); clear BK131; clear HB; have BK131 := n0_; have HB := n1_; clear n0_ n1_; (try clear hb); (try clear hb2); (try clear hk); (try clear hi); have hcz32_0 : w31.cell? ⟨gb131, 0, none⟩ = some (.int .i64 a1_0) := (blk_cell BK131.out 0).trans rfl; have hcz32_1 : w31.cell? ⟨gb131, 1, none⟩ = some (.int .i64 a1_1) := (blk_cell BK131.out 1).trans rfl; have hcz32_2 : w31.cell? ⟨gb131, 2, none⟩ = some (.int .i64 a1_2) := (blk_cell BK131.out 2).trans rfl; have hcz32_3 : w31.cell? ⟨gb131, 3, none⟩ = some (.int .i64 a1_3) := (blk_cell BK131.out 3).trans rfl; have hcz32_4 : w31.cell? ⟨gb131, 4, none⟩ = some (.int .i64 a1_4) := (blk_cell BK131.out 4).trans rfl; have hfz32_0 := blk_frozen BK131.out 0; have hfz32_1 := blk_frozen BK131.out 1; have hfz32_2 := blk_frozen BK131.out 2; have hfz32_3 := blk_frozen BK131.out 3; have hfz32_4 := blk_frozen BK131.out 4) | (go_at_call 24; (with_reducible refine (civil_Days.calls a0 a1_1 1 t154 t155 _ ?side1 A27.out).mono ?_); (case side1 => exact GL.below HG.out (by repeat (first | (with_reducible first | exact HB.out | apply below_alloc | apply pw_below_drewN | apply below_drew1 | refine below_set ?_ GE131.out) | exact HB.out))); rintro e w33 ⟨rfl, hb⟩; have n0_ := Aside0.mk (blk_below (g := gb131) (o := .cells #[.int .i64 a1_0, .int .i64 a1_1, .int .i64 a1_2, .int .i64 a1_3, .int .i64 a1_4] 25 (0, 0)) (by (with_reducible repeat (first | refine blk_drewN ?_ _ | refine blk_drew ?_ | refine blk_alloc ?_ _)); exact BK131.out) hb); have n1_ := Aside0.mk (below_step (by repeat (first | (with_reducible first | exact HB.out | apply below_alloc | apply pw_below_drewN | apply below_drew1 | refine below_set ?_ GE131.out) | exact HB.out)) hb); clear BK131; clear HB; have BK131 := n0_; have HB := n1_; clear n0_ n1_; (try clear hb); (try clear hb2); (try clear hk); (try clear hi); have hcz34_0 : w33.cell? ⟨gb131, 0, none⟩ = some (.int .i64 a1_0) := (blk_cell BK131.out 0).trans rfl; have hcz34_1 : w33.cell? ⟨gb131, 1, none⟩ = some (.int .i64 a1_1) := (blk_cell BK131.out 1).trans rfl; have hcz34_2 : w33.cell? ⟨gb131, 2, none⟩ = some (.int .i64 a1_2) := (blk_cell BK131.out 2).trans rfl; have hcz34_3 : w33.cell? ⟨gb131, 3, none⟩ = some (.int .i64 a1_3) := (blk_cell BK131.out 3).trans rfl; have hcz34_4 : w33.cell? ⟨gb131, 4, none⟩ = some (.int .i64 a1_4) := (blk_cell BK131.out 4).trans rfl; have hfz34_0 := blk_frozen BK131.out 0; have hfz34_1 := blk_frozen BK131.out 1; have hfz34_2 := blk_frozen BK131.out 2; have hfz34_3 := blk_frozen BK131.out 3; have hfz34_4 := blk_frozen BK131.out 4) | (go_at_call 23; (with_reducible refine (civil_Weekday.calls t154 t156 _ A28.out).mono ?_); rintro e w' ⟨rfl, ⟨nd, rfl⟩⟩; (try first | exact ⟨rfl, _, World.drewN_drewN _ _ _⟩ | exact ⟨rfl, _, Eq.trans (World.drewN_drewN _ _ _) (congrArg (World.drewN _) (Nat.add_assoc _ _ _))⟩)) | (go_at_call 22; (with_reducible refine (civil_Length.calls a0 a1_1 t157 _ ?side1 A29.out).mono ?_); (case side1 => exact GL.below HG.out (by repeat (first | (with_reducible first | exact HB.out | apply below_alloc | apply pw_below_drewN | apply below_drew1 | refine below_set ?_ GE131.out) | exact HB.out))); rintro e w35 ⟨rfl, hb⟩; have n0_ := Aside0.mk (blk_below (g := gb131) (o := .cells #[.int .i64 a1_0, .int .i64 a1_1, .int .i64 a1_2, .int .i64 a1_3, .int .i64 a1_4] 25 (0, 0)) (by (with_reducible repeat (first | refine blk_drewN ?_ _ | refine blk_drew ?_ | refine blk_alloc ?_ _)); exact BK131.out) hb); have n1_ := Aside0.mk (below_step (by repeat (first | (with_reducible first | exact HB.out | apply below_alloc | apply pw_below_drewN | apply below_drew1 | refine below_set ?_ GE131.out) | exact HB.out)) hb); clear BK131; clear HB; have BK131 := n0_; have HB := n1_; clear n0_ n1_; (try clear hb); (try clear hb2); (try clear hk); (try clear hi)))
              repeat (go_quiet (first | (go_at_call 24; (with_reducible refine (civil_Days.calls a0 1 1 t151 t152 _ ?side1 A13.out).mono ?_); (case side1 => exact GL.below HG.out (by repeat (first | (with_reducible first | exact HB.out | apply below_alloc | apply pw_below_drewN | apply below_drew1 | refine below_set ?_ GE131.out) | exact HB.out))); rintro e w31 ⟨rfl, hb⟩; have n0_ := Aside0.mk (blk_below (g := gb131) (o := .cells #[.int .i64 a1_0, .int .i64 a1_1, .int .i64 a1_2, .int .i64 a1_3, .int .i64 a1_4] 25 (0, 0)) (by (with_reducible repeat (first | refine blk_drewN ?_ _ | refine blk_drew ?_ | refine blk_alloc ?_ _)); exact BK131.out) hb); have n1_ := Aside0.mk (below_step (by repeat (first | (with_reducible first | exact HB.out | apply below_alloc | apply pw_below_drewN | apply below_drew1 | refine below_set ?_ GE131.out) | exact HB.out)) hb); clear BK131; clear HB; have BK131 := n0_; have HB := n1_; clear n0_ n1_; (try clear hb); (try clear hb2); (try clear hk); (try clear hi); have hcz32_0 : w31.cell? ⟨gb131, 0, none⟩ = some (.int .i64 a1_0) := (blk_cell BK131.out 0).trans rfl; have hcz32_1 : w31.cell? ⟨gb131, 1, none⟩ = some (.int .i64 a1_1) := (blk_cell BK131.out 1).trans rfl; have hcz32_2 : w31.cell? ⟨gb131, 2, none⟩ = some (.int .i64 a1_2) := (blk_cell BK131.out 2).trans rfl; have hcz32_3 : w31.cell? ⟨gb131, 3, none⟩ = some (.int .i64 a1_3) := (blk_cell BK131.out 3).trans rfl; have hcz32_4 : w31.cell? ⟨gb131, 4, none⟩ = some (.int .i64 a1_4) := (blk_cell BK131.out 4).trans rfl; have hfz32_0 := blk_frozen BK131.out 0; have hfz32_1 := blk_frozen BK131.out 1; have hfz32_2 := blk_frozen BK131.out 2; have hfz32_3 := blk_frozen BK131.out 3; have hfz32_4 := blk_frozen BK131.out 4) | (go_at_call 24; (with_reducible refine (civil_Days.calls a0 a1_1 1 t154 t155 _ ?side1 A27.out).mono ?_); (case side1 => exact GL.below HG.out (by repeat (first | (with_reducible first | exact HB.out | apply below_alloc | apply pw_below_drewN | apply below_drew1 | refine below_set ?_ GE131.out) | exact HB.out))); rintro e w33 ⟨rfl, hb⟩; have n0_ := Aside0.mk (blk_below (g := gb131) (o := .cells #[.int .i64 a1_0, .int .i64 a1_1, .int .i64 a1_2, .int .i64 a1_3, .int .i64 a1_4] 25 (0, 0)) (by (with_reducible repeat (first | refine blk_drewN ?_ _ | refine blk_drew ?_ | refine blk_alloc ?_ _)); exact BK131.out) hb); have n1_ := Aside0.mk (below_step (by repeat (first | (with_reducible first | exact HB.out | apply below_alloc | apply pw_below_drewN | apply below_drew1 | refine below_set ?_ GE131.out) | exact HB.out)) hb); clear BK131; clear HB; have BK131 := n0_; have HB := n1_; clear n0_ n1_; (try clear hb); (try clear hb2); (try clear hk); (try clear hi); have hcz34_0 : w33.cell? ⟨gb131, 0, none⟩ = some (.int .i64 a1_0) := (blk_cell BK131.out 0).trans rfl; have hcz34_1 : w33.cell? ⟨gb131, 1, none⟩ = some (.int .i64 a1_1) := (blk_cell BK131.out 1).trans rfl; have hcz34_2 : w33.cell? ⟨gb131, 2, none⟩ = some (.int .i64 a1_2) := (blk_cell BK131.out 2).trans rfl; have hcz34_3 : w33.cell? ⟨gb131, 3, none⟩ = some (.int .i64 a1_3) := (blk_cell BK131.out 3).trans rfl; have hcz34_4 : w33.cell? ⟨gb131, 4, none⟩ = some (.int .i64 a1_4) := (blk_cell BK131.out 4).trans rfl; have hfz34_0 := blk_frozen BK131.out 0; have hfz34_1 := blk_frozen BK131.out 1; have hfz34_2 := blk_frozen BK131.out 2; have hfz34_3 := blk_frozen BK131.out 3; have hfz34_4 := blk_frozen BK131.out 4) | (go_at_call 23; (with_reducible refine (civil_Weekday.calls t154 t156 _ A28.out).mono ?_); rintro e w' ⟨rfl, ⟨nd, rfl⟩⟩; (try first | exact ⟨rfl, _, World.drewN_drewN _ _ _⟩ | exact ⟨rfl, _, Eq.trans (World.drewN_drewN _ _ _) (congrArg (World.drewN _) (Nat.add_assoc _ _ _))⟩)) | (go_at_call 22; (with_reducible refine (civil_Length.calls a0 a1_1 t157 _ ?side1 A29.out).mono ?_); (case side1 => exact GL.below HG.out (by repeat (first | (with_reducible first | exact HB.out | apply below_alloc | apply pw_below_drewN | apply below_drew1 | refine below_set ?_ GE131.out) | exact HB.out))); rintro e w35 ⟨rfl, hb⟩; have n0_ := Aside0.mk (blk_below (g := gb131) (o := .cells #[.int .i64 a1_0, .int .i64 a1_1, .int .i64 a1_2, .int .i64 a1_3, .int .i64 a1_4] 25 (0, 0)) (by (with_reducible repeat (first | refine blk_drewN ?_ _ | refine blk_drew ?_ | refine blk_alloc ?_ _)); exact BK131.out) hb); have n1_ := Aside0.mk (below_step (by repeat (first | (with_reducible first | exact HB.out | apply below_alloc | apply pw_below_drewN | apply below_drew1 | refine below_set ?_ GE131.out) | exact HB.out)) hb); clear BK131; clear HB; have BK131 := n0_; have HB := n1_; clear n0_ n1_; (try clear hb); (try clear hb2); (try clear hk); (try clear hi))); try go_wp2_with (first | (go_at_call 24; (with_reducible refine (civil_Days.calls a0 1 1 t151 t152 _ ?side1 A13.out).mono ?_); (case side1 => exact GL.below HG.out (by repeat (first | (with_reducible first | exact HB.out | apply below_alloc | apply pw_below_drewN | apply below_drew1 | refine below_set ?_ GE131.out) | exact HB.out))); rintro e w31 ⟨rfl, hb⟩; have n0_ := Aside0.mk (blk_below (g := gb131) (o := .cells #[.int .i64 a1_0, .int .i64 a1_1, .int .i64 a1_2, .int .i64 a1_3, .int .i64 a1_4] 25 (0, 0)) (by (with_reducible repeat (first | refine blk_drewN ?_ _ | refine blk_drew ?_ | refine blk_alloc ?_ _)); exact BK131.out) hb); have n1_ := Aside0.mk (below_step (by repeat (first | (with_reducible first | exact HB.out | apply below_alloc | apply pw_below_drewN | apply below_drew1 | refine below_set ?_ GE131.out) | exact HB.out)) hb); clear BK131; clear HB; have BK131 := n0_; have HB := n1_; clear n0_ n1_; (try clear hb); (try clear hb2); (try clear hk); (try clear hi); have hcz32_0 : w31.cell? ⟨gb131, 0, none⟩ = some (.int .i64 a1_0) := (blk_cell BK131.out 0).trans rfl; have hcz32_1 : w31.cell? ⟨gb131, 1, none⟩ = some (.int .i64 a1_1) := (blk_cell BK131.out 1).trans rfl; have hcz32_2 : w31.cell? ⟨gb131, 2, none⟩ = some (.int .i64 a1_2) := (blk_cell BK131.out 2).trans rfl; have hcz32_3 : w31.cell? ⟨gb131, 3, none⟩ = some (.int .i64 a1_3) := (blk_cell BK131.out 3).trans rfl; have hcz32_4 : w31.cell? ⟨gb131, 4, none⟩ = some (.int .i64 a1_4) := (blk_cell BK131.out 4).trans rfl; have hfz32_0 := blk_frozen BK131.out 0; have hfz32_1 := blk_frozen BK131.out 1; have hfz32_2 := blk_frozen BK131.out 2; have hfz32_3 := blk_frozen BK131.out 3; have hfz32_4 := blk_frozen BK131.out 4) | (go_at_call 24; (with_reducible refine (civil_Days.calls a0 a1_1 1 t154 t155 _ ?side1 A27.out).mono ?_); (case side1 => exact GL.below HG.out (by repeat (first | (with_reducible first | exact HB.out | apply below_alloc | apply pw_below_drewN | apply below_drew1 | refine below_set ?_ GE131.out) | exact HB.out))); rintro e w33 ⟨rfl, hb⟩; have n0_ := Aside0.mk (blk_below (g := gb131) (o := .cells #[.int .i64 a1_0, .int .i64 a1_1, .int .i64 a1_2, .int .i64 a1_3, .int .i64 a1_4] 25 (0, 0)) (by (with_reducible repeat (first | refine blk_drewN ?_ _ | refine blk_drew ?_ | refine blk_alloc ?_ _)); exact BK131.out) hb); have n1_ := Aside0.mk (below_step (by repeat (first | (with_reducible first | exact HB.out | apply below_alloc | apply pw_below_drewN | apply below_drew1 | refine below_set ?_ GE131.out) | exact HB.out)) hb); clear BK131; clear HB; have BK131 := n0_; have HB := n1_; clear n0_ n1_; (try clear hb); (try clear hb2); (try clear hk); (try clear hi); have hcz34_0 : w33.cell? ⟨gb131, 0, none⟩ = some (.int .i64 a1_0) := (blk_cell BK131.out 0).trans rfl; have hcz34_1 : w33.cell? ⟨gb131, 1, none⟩ = some (.int .i64 a1_1) := (blk_cell BK131.out 1).trans rfl; have hcz34_2 : w33.cell? ⟨gb131, 2, none⟩ = some (.int .i64 a1_2) := (blk_cell BK131.out 2).trans rfl; have hcz34_3 : w33.cell? ⟨gb131, 3, none⟩ = some (.int .i64 a1_3) := (blk_cell BK131.out 3).trans rfl; have hcz34_4 : w33.cell? ⟨gb131, 4, none⟩ = some (.int .i64 a1_4) := (blk_cell BK131.out 4).trans rfl; have hfz34_0 := blk_frozen BK131.out 0; have hfz34_1 := blk_frozen BK131.out 1; have hfz34_2 := blk_frozen BK131.out 2; have hfz34_3 := blk_frozen BK131.out 3; have hfz34_4 := blk_frozen BK131.out 4) | (go_at_call 23; (with_reducible refine (civil_Weekday.calls t154 t156 _ A28.out).mono ?_); rintro e w' ⟨rfl, ⟨nd, rfl⟩⟩; (try first | exact ⟨rfl, _, World.drewN_drewN _ _ _⟩ | exact ⟨rfl, _, Eq.trans (World.drewN_drewN _ _ _) (congrArg (World.drewN _) (Nat.add_assoc _ _ _))⟩)) | (go_at_call 22; (with_reducible refine (civil_Length.calls a0 a1_1 t157 _ ?side1 A29.out).mono ?_); (case side1 => exact GL.below HG.out (by repeat (first | (with_reducible first | exact HB.out | apply below_alloc | apply pw_below_drewN | apply below_drew1 | refine below_set ?_ GE131.out) | exact HB.out))); rintro e w35 ⟨rfl, hb⟩; have n0_ := Aside0.mk (blk_below (g := gb131) (o := .cells #[.int .i64 a1_0, .int .i64 a1_1, .int .i64 a1_2, .int .i64 a1_3, .int .i64 a1_4] 25 (0, 0)) (by (with_reducible repeat (first | refine blk_drewN ?_ _ | refine blk_drew ?_ | refine blk_alloc ?_ _)); exact BK131.out) hb); have n1_ := Aside0.mk (below_step (by repeat (first | (with_reducible first | exact HB.out | apply below_alloc | apply pw_below_drewN | apply below_drew1 | refine below_set ?_ GE131.out) | exact HB.out)) hb); clear BK131; clear HB; have BK131 := n0_; have HB := n1_; clear n0_ n1_; (try clear hb); (try clear hb2); (try clear hk); (try clear hi))))
              go_ret2
              exact ⟨by first | rfl | (simp [errW_none, errW_some] <;> rfl) | (simp [*, errW_none, errW_some] <;> rfl), by repeat (first | (with_reducible first | exact HB.out | apply below_alloc | apply pw_below_drewN | apply below_drew1 | refine below_set ?_ GE131.out) | exact HB.out)⟩
            · rw [if_neg c30] at H
              have c30b0 : decide (t157 ≤ (wrap64 ((Int.tmod (wrap64 ((wrap64 (a1_3 - t156)) + 7)) 7) + (wrap64 (7 * (wrap64 (a1_2 - 1))))))) = false := decide_eq_false c30
              clear c30
              simp only [Option.some.injEq, Prod.mk.injEq] at H
              obtain ⟨rfl, rfl⟩ := H
              go_wp2_with (first | (go_at_call 24; (with_reducible refine (civil_Days.calls a0 1 1 t151 t152 _ ?side1 A13.out).mono ?_); (case side1 => exact GL.below HG.out (by repeat (first | (with_reducible first | exact HB.out | apply below_alloc | apply pw_below_drewN | apply below_drew1 | refine below_set ?_ GE131.out) | exact HB.out))); rintro e w36 ⟨rfl, hb⟩; have n0_ := Aside0.mk (blk_below (g := gb131) (o := .cells #[.int .i64 a1_0, .int .i64 a1_1, .int .i64 a1_2, .int .i64 a1_3, .int .i64 a1_4] 25 (0, 0)) (by (with_reducible repeat (first | refine blk_drewN ?_ _ | refine blk_drew ?_ | refine blk_alloc ?_ _)); exact BK131.out) hb); have n1_ := Aside0.mk (below_step (by repeat (first | (with_reducible first | exact HB.out | apply below_alloc | apply pw_below_drewN | apply below_drew1 | refine below_set ?_ GE131.out) | exact HB.out)) hb); clear BK131; clear HB; have BK131 := n0_; have HB := n1_; clear n0_ n1_; (try clear hb); (try clear hb2); (try clear hk); (try clear hi); have hcz37_0 : w36.cell? ⟨gb131, 0, none⟩ = some (.int .i64 a1_0) := (blk_cell BK131.out 0).trans rfl; have hcz37_1 : w36.cell? ⟨gb131, 1, none⟩ = some (.int .i64 a1_1) := (blk_cell BK131.out 1).trans rfl; have hcz37_2 : w36.cell? ⟨gb131, 2, none⟩ = some (.int .i64 a1_2) := (blk_cell BK131.out 2).trans rfl; have hcz37_3 : w36.cell? ⟨gb131, 3, none⟩ = some (.int .i64 a1_3) := (blk_cell BK131.out 3).trans rfl; have hcz37_4 : w36.cell? ⟨gb131, 4, none⟩ = some (.int .i64 a1_4) := (blk_cell BK131.out 4).trans rfl; have hfz37_0 := blk_frozen BK131.out 0; have hfz37_1 := blk_frozen BK131.out 1; have hfz37_2 := blk_frozen BK131.out 2; have hfz37_3 := blk_frozen BK131.out 3; have hfz37_4 := blk_frozen BK131.out 4) | (go_at_call 24; (with_reducible refine (civil_Days.calls a0 a1_1 1 t154 t155 _ ?side1 A27.out).mono ?_); (case side1 => exact GL.below HG.out (by repeat (first | (with_reducible first | exact HB.out | apply below_alloc | apply pw_below_drewN | apply below_drew1 | refine below_set ?_ GE131.out) | exact HB.out))); rintro e w38 ⟨rfl, hb⟩; have n0_ := Aside0.mk (blk_below (g := gb131) (o := .cells #[.int .i64 a1_0, .int .i64 a1_1, .int .i64 a1_2, .int .i64 a1_3, .int .i64 a1_4] 25 (0, 0)) (by (with_reducible repeat (first | refine blk_drewN ?_ _ | refine blk_drew ?_ | refine blk_alloc ?_ _)); exact BK131.out) hb); have n1_ := Aside0.mk (below_step (by repeat (first | (with_reducible first | exact HB.out | apply below_alloc | apply pw_below_drewN | apply below_drew1 | refine below_set ?_ GE131.out) | exact HB.out)) hb); clear BK131; clear HB; have BK131 := n0_; have HB := n1_; clear n0_ n1_; (try clear hb); (try clear hb2); (try clear hk); (try clear hi); have hcz39_0 : w38.cell? ⟨gb131, 0, none⟩ = some (.int .i64 a1_0) := (blk_cell BK131.out 0).trans rfl; have hcz39_1 : w38.cell? ⟨gb131, 1, none⟩ = some (.int .i64 a1_1) := (blk_cell BK131.out 1).trans rfl; have hcz39_2 : w38.cell? ⟨gb131, 2, none⟩ = some (.int .i64 a1_2) := (blk_cell BK131.out 2).trans rfl; have hcz39_3 : w38.cell? ⟨gb131, 3, none⟩ = some (.int .i64 a1_3) := (blk_cell BK131.out 3).trans rfl; have hcz39_4 : w38.cell? ⟨gb131, 4, none⟩ = some (.int .i64 a1_4) := (blk_cell BK131.out 4).trans rfl; have hfz39_0 := blk_frozen BK131.out 0; have hfz39_1 := blk_frozen BK131.out 1; have hfz39_2 := blk_frozen BK131.out 2; have hfz39_3 := blk_frozen BK131.out 3; have hfz39_4 := blk_frozen BK131.out 4) | (go_at_call 23; (with_reducible refine (civil_Weekday.calls t154 t156 _ A28.out).mono ?_); rintro e w' ⟨rfl, ⟨nd, rfl⟩⟩; (try first | exact ⟨rfl, _, World.drewN_drewN _ _ _⟩ | exact ⟨rfl, _, Eq.trans (World.drewN_drewN _ _ _) (congrArg (World.drewN _) (Nat.add_assoc _ _ _))⟩)) | (go_at_call 22; (with_reducible refine (civil_Length.calls a0 a1_1 t157 _ ?side1 A29.out).mono ?_); (case side1 => exact GL.below HG.out (by repeat (first | (with_reducible first | exact HB.out | apply below_alloc | apply pw_below_drewN | apply below_drew1 | refine below_set ?_ GE131.out) | exact HB.out))); rintro e w40 ⟨rfl, hb⟩; have n0_ := Aside0.mk (blk_below (g := gb131) (o := .cells #[.int .i64 a1_0, .int .i64 a1_1, .int .i64 a1_2, .int .i64 a1_3, .int .i64 a1_4] 25 (0, 0)) (by (with_reducible repeat (first | refine blk_drewN ?_ _ | refine blk_drew ?_ | refine blk_alloc ?_ _)); exact BK131.out) hb); have n1_ := Aside0.mk (below_step (by repeat (first | (with_reducible first | exact HB.out | apply below_alloc | apply pw_below_drewN | apply below_drew1 | refine below_set ?_ GE131.out) | exact HB.out)) hb); clear BK131; clear HB; have BK131 := n0_; have HB := n1_; clear n0_ n1_; (try clear hb); (try clear hb2); (try clear hk); (try clear hi)))
              repeat (go_quiet (first | (go_at_call 24; (with_reducible refine (civil_Days.calls a0 1 1 t151 t152 _ ?side1 A13.out).mono ?_); (case side1 => exact GL.below HG.out (by repeat (first | (with_reducible first | exact HB.out | apply below_alloc | apply pw_below_drewN | apply below_drew1 | refine below_set ?_ GE131.out) | exact HB.out))); rintro e w36 ⟨rfl, hb⟩; have n0_ := Aside0.mk (blk_below (g := gb131) (o := .cells #[.int .i64 a1_0, .int .i64 a1_1, .int .i64 a1_2, .int .i64 a1_3, .int .i64 a1_4] 25 (0, 0)) (by (with_reducible repeat (first | refine blk_drewN ?_ _ | refine blk_drew ?_ | refine blk_alloc ?_ _)); exact BK131.out) hb); have n1_ := Aside0.mk (below_step (by repeat (first | (with_reducible first | exact HB.out | apply below_alloc | apply pw_below_drewN | apply below_drew1 | refine below_set ?_ GE131.out) | exact HB.out)) hb); clear BK131; clear HB; have BK131 := n0_; have HB := n1_; clear n0_ n1_; (try clear hb); (try clear hb2); (try clear hk); (try clear hi); have hcz37_0 : w36.cell? ⟨gb131, 0, none⟩ = some (.int .i64 a1_0) := (blk_cell BK131.out 0).trans rfl; have hcz37_1 : w36.cell? ⟨gb131, 1, none⟩ = some (.int .i64 a1_1) := (blk_cell BK131.out 1).trans rfl; have hcz37_2 : w36.cell? ⟨gb131, 2, none⟩ = some (.int .i64 a1_2) := (blk_cell BK131.out 2).trans rfl; have hcz37_3 : w36.cell? ⟨gb131, 3, none⟩ = some (.int .i64 a1_3) := (blk_cell BK131.out 3).trans rfl; have hcz37_4 : w36.cell? ⟨gb131, 4, none⟩ = some (.int .i64 a1_4) := (blk_cell BK131.out 4).trans rfl; have hfz37_0 := blk_frozen BK131.out 0; have hfz37_1 := blk_frozen BK131.out 1; have hfz37_2 := blk_frozen BK131.out 2; have hfz37_3 := blk_frozen BK131.out 3; have hfz37_4 := blk_frozen BK131.out 4) | (go_at_call 24; (with_reducible refine (civil_Days.calls a0 a1_1 1 t154 t155 _ ?side1 A27.out).mono ?_); (case side1 => exact GL.below HG.out (by repeat (first | (with_reducible first | exact HB.out | apply below_alloc | apply pw_below_drewN | apply below_drew1 | refine below_set ?_ GE131.out) | exact HB.out))); rintro e w38 ⟨rfl, hb⟩; have n0_ := Aside0.mk (blk_below (g := gb131) (o := .cells #[.int .i64 a1_0, .int .i64 a1_1, .int .i64 a1_2, .int .i64 a1_3, .int .i64 a1_4] 25 (0, 0)) (by (with_reducible repeat (first | refine blk_drewN ?_ _ | refine blk_drew ?_ | refine blk_alloc ?_ _)); exact BK131.out) hb); have n1_ := Aside0.mk (below_step (by repeat (first | (with_reducible first | exact HB.out | apply below_alloc | apply pw_below_drewN | apply below_drew1 | refine below_set ?_ GE131.out) | exact HB.out)) hb); clear BK131; clear HB; have BK131 := n0_; have HB := n1_; clear n0_ n1_; (try clear hb); (try clear hb2); (try clear hk); (try clear hi); have hcz39_0 : w38.cell? ⟨gb131, 0, none⟩ = some (.int .i64 a1_0) := (blk_cell BK131.out 0).trans rfl; have hcz39_1 : w38.cell? ⟨gb131, 1, none⟩ = some (.int .i64 a1_1) := (blk_cell BK131.out 1).trans rfl; have hcz39_2 : w38.cell? ⟨gb131, 2, none⟩ = some (.int .i64 a1_2) := (blk_cell BK131.out 2).trans rfl; have hcz39_3 : w38.cell? ⟨gb131, 3, none⟩ = some (.int .i64 a1_3) := (blk_cell BK131.out 3).trans rfl; have hcz39_4 : w38.cell? ⟨gb131, 4, none⟩ = some (.int .i64 a1_4) := (blk_cell BK131.out 4).trans rfl; have hfz39_0 := blk_frozen BK131.out 0; have hfz39_1 := blk_frozen BK131.out 1; have hfz39_2 := blk_frozen BK131.out 2; have hfz39_3 := blk_frozen BK131.out 3; have hfz39_4 := blk_frozen BK131.out 4) | (go_at_call 23; (with_reducible refine (civil_Weekday.calls t154 t156 _ A28.out).mono ?_); rintro e w' ⟨rfl, ⟨nd, rfl⟩⟩; (try first | exact ⟨rfl, _, World.drewN_drewN _ _ _⟩ | exact ⟨rfl, _, Eq.trans (World.drewN_drewN _ _ _) (congrArg (World.drewN _) (Nat.add_assoc _ _ _))⟩)) | (go_at_call 22; (with_reducible refine (civil_Length.calls a0 a1_1 t157 _ ?side1 A29.out).mono ?_); (case side1 => exact GL.below HG.out (by repeat (first | (with_reducible first | exact HB.out | apply below_alloc | apply pw_below_drewN | apply below_drew1 | refine below_set ?_ GE131.out) | exact HB.out))); rintro e w40 ⟨rfl, hb⟩; have n0_ := Aside0.mk (blk_below (g := gb131) (o := .cells #[.int .i64 a1_0, .int .i64 a1_1, .int .i64 a1_2, .int .i64 a1_3, .int .i64 a1_4] 25 (0, 0)) (by (with_reducible repeat (first | refine blk_drewN ?_ _ | refine blk_drew ?_ | refine blk_alloc ?_ _)); exact BK131.out) hb); have n1_ := Aside0.mk (below_step (by repeat (first | (with_reducible first | exact HB.out | apply below_alloc | apply pw_below_drewN | apply below_drew1 | refine below_set ?_ GE131.out) | exact HB.out)) hb); clear BK131; clear HB; have BK131 := n0_; have HB := n1_; clear n0_ n1_; (try clear hb); (try clear hb2); (try clear hk); (try clear hi))); try go_wp2_with (first | (go_at_call 24; (with_reducible refine (civil_Days.calls a0 1 1 t151 t152 _ ?side1 A13.out).mono ?_); (case side1 => exact GL.below HG.out (by repeat (first | (with_reducible first | exact HB.out | apply below_alloc | apply pw_below_drewN | apply below_drew1 | refine below_set ?_ GE131.out) | exact HB.out))); rintro e w36 ⟨rfl, hb⟩; have n0_ := Aside0.mk (blk_below (g := gb131) (o := .cells #[.int .i64 a1_0, .int .i64 a1_1, .int .i64 a1_2, .int .i64 a1_3, .int .i64 a1_4] 25 (0, 0)) (by (with_reducible repeat (first | refine blk_drewN ?_ _ | refine blk_drew ?_ | refine blk_alloc ?_ _)); exact BK131.out) hb); have n1_ := Aside0.mk (below_step (by repeat (first | (with_reducible first | exact HB.out | apply below_alloc | apply pw_below_drewN | apply below_drew1 | refine below_set ?_ GE131.out) | exact HB.out)) hb); clear BK131; clear HB; have BK131 := n0_; have HB := n1_; clear n0_ n1_; (try clear hb); (try clear hb2); (try clear hk); (try clear hi); have hcz37_0 : w36.cell? ⟨gb131, 0, none⟩ = some (.int .i64 a1_0) := (blk_cell BK131.out 0).trans rfl; have hcz37_1 : w36.cell? ⟨gb131, 1, none⟩ = some (.int .i64 a1_1) := (blk_cell BK131.out 1).trans rfl; have hcz37_2 : w36.cell? ⟨gb131, 2, none⟩ = some (.int .i64 a1_2) := (blk_cell BK131.out 2).trans rfl; have hcz37_3 : w36.cell? ⟨gb131, 3, none⟩ = some (.int .i64 a1_3) := (blk_cell BK131.out 3).trans rfl; have hcz37_4 : w36.cell? ⟨gb131, 4, none⟩ = some (.int .i64 a1_4) := (blk_cell BK131.out 4).trans rfl; have hfz37_0 := blk_frozen BK131.out 0; have hfz37_1 := blk_frozen BK131.out 1; have hfz37_2 := blk_frozen BK131.out 2; have hfz37_3 := blk_frozen BK131.out 3; have hfz37_4 := blk_frozen BK131.out 4) | (go_at_call 24; (with_reducible refine (civil_Days.calls a0 a1_1 1 t154 t155 _ ?side1 A27.out).mono ?_); (case side1 => exact GL.below HG.out (by repeat (first | (with_reducible first | exact HB.out | apply below_alloc | apply pw_below_drewN | apply below_drew1 | refine below_set ?_ GE131.out) | exact HB.out))); rintro e w38 ⟨rfl, hb⟩; have n0_ := Aside0.mk (blk_below (g := gb131) (o := .cells #[.int .i64 a1_0, .int .i64 a1_1, .int .i64 a1_2, .int .i64 a1_3, .int .i64 a1_4] 25 (0, 0)) (by (with_reducible repeat (first | refine blk_drewN ?_ _ | refine blk_drew ?_ | refine blk_alloc ?_ _)); exact BK131.out) hb); have n1_ := Aside0.mk (below_step (by repeat (first | (with_reducible first | exact HB.out | apply below_alloc | apply pw_below_drewN | apply below_drew1 | refine below_set ?_ GE131.out) | exact HB.out)) hb); clear BK131; clear HB; have BK131 := n0_; have HB := n1_; clear n0_ n1_; (try clear hb); (try clear hb2); (try clear hk); (try clear hi); have hcz39_0 : w38.cell? ⟨gb131, 0, none⟩ = some (.int .i64 a1_0) := (blk_cell BK131.out 0).trans rfl; have hcz39_1 : w38.cell? ⟨gb131, 1, none⟩ = some (.int .i64 a1_1) := (blk_cell BK131.out 1).trans rfl; have hcz39_2 : w38.cell? ⟨gb131, 2, none⟩ = some (.int .i64 a1_2) := (blk_cell BK131.out 2).trans rfl; have hcz39_3 : w38.cell? ⟨gb131, 3, none⟩ = some (.int .i64 a1_3) := (blk_cell BK131.out 3).trans rfl; have hcz39_4 : w38.cell? ⟨gb131, 4, none⟩ = some (.int .i64 a1_4) := (blk_cell BK131.out 4).trans rfl; have hfz39_0 := blk_frozen BK131.out 0; have hfz39_1 := blk_frozen BK131.out 1; have hfz39_2 := blk_frozen BK131.out 2; have hfz39_3 := blk_frozen BK131.out 3; have hfz39_4 := blk_frozen BK131.out 4) | (go_at_call 23; (with_reducible refine (civil_Weekday.calls t154 t156 _ A28.out).mono ?_); rintro e w' ⟨rfl, ⟨nd, rfl⟩⟩; (try first | exact ⟨rfl, _, World.drewN_drewN _ _ _⟩ | exact ⟨rfl, _, Eq.trans (World.drewN_drewN _ _ _) (congrArg (World.drewN _) (Nat.add_assoc _ _ _))⟩)) | (go_at_call 22; (with_reducible refine (civil_Length.calls a0 a1_1 t157 _ ?side1 A29.out).mono ?_); (case side1 => exact GL.below HG.out (by repeat (first | (with_reducible first | exact HB.out | apply below_alloc | apply pw_below_drewN | apply below_drew1 | refine below_set ?_ GE131.out) | exact HB.out))); rintro e w40 ⟨rfl, hb⟩; have n0_ := Aside0.mk (blk_below (g := gb131) (o := .cells #[.int .i64 a1_0, .int .i64 a1_1, .int .i64 a1_2, .int .i64 a1_3, .int .i64 a1_4] 25 (0, 0)) (by (with_reducible repeat (first | refine blk_drewN ?_ _ | refine blk_drew ?_ | refine blk_alloc ?_ _)); exact BK131.out) hb); have n1_ := Aside0.mk (below_step (by repeat (first | (with_reducible first | exact HB.out | apply below_alloc | apply pw_below_drewN | apply below_drew1 | refine below_set ?_ GE131.out) | exact HB.out)) hb); clear BK131; clear HB; have BK131 := n0_; have HB := n1_; clear n0_ n1_; (try clear hb); (try clear hb2); (try clear hk); (try clear hi))))
              go_ret2
              exact ⟨by first | rfl | (simp [errW_none, errW_some] <;> rfl) | (simp [*, errW_none, errW_some] <;> rfl), by repeat (first | (with_reducible first | exact HB.out | apply below_alloc | apply pw_below_drewN | apply below_drew1 | refine below_set ?_ GE131.out) | exact HB.out)⟩

end Go.Proofs.YtgbehcahdgamoaaDoor.Fn

namespace Go.Proofs.YtgbehcahdgamoaaDoor.Fn
open Go.RowKit Go.Proofs.YtgbehcahdgamoaaDoorW.PrintWords Go.Proofs.YtgbehcahdgamoaaDoorW.PrintLast Go.Proofs.YtgbehcahdgamoaaDoorW.PrintMore
attribute [local go_sem] max2_int min2_int max_two min_two max_three min_three max_four min_four   -- for this text's walks alone
set_option linter.unusedVariables false
set_option linter.unusedSimpArgs false

/-! ### rule_Turns: function 14 -/
def rule_Turns.j0 : Nat → Int → Bool → Int → Bool → ByteArray → Int → Bool → ByteArray → Bool → Int → Int → Int → Int → Int → Int → Int → Int → Int → Int → Option (Int × Int × Int)
  | 0, _, _, _, _, _, _, _, _, _, _, _, _, _, _, _, _, _, _, _ => none
  | k + 1, x1, x19, x178000, x178001, x178002, x178003, x178004, x178005, x178006, x178007, x178008, x178009, x178010, x178011, x178012, x178013, x178014, x178015, x178016 => if x19 = true then (some (0, 0, 1)) else ((rule_Day.f k x1 x178007 x178008 x178009 x178010 x178011).bind fun bt180 => ((rule_Day.f k x1 x178012 x178013 x178014 x178015 x178016).bind fun bt182 => (some (wrap64 ((wrap64 (bt180.1 * 86400)) + (wrap64 (x178011 - x178000))), wrap64 ((wrap64 (bt182.1 * 86400)) + (wrap64 (x178016 - x178003))), 0))))
def rule_Turns.f (k : Nat) (a0_0 : Int) (a0_1 : Bool) (a0_2 : ByteArray) (a0_3 : Int) (a0_4 : Bool) (a0_5 : ByteArray) (a0_6 : Bool) (a0_7 : Int) (a0_8 : Int) (a0_9 : Int) (a0_10 : Int) (a0_11 : Int) (a0_12 : Int) (a0_13 : Int) (a0_14 : Int) (a0_15 : Int) (a0_16 : Int) (a1 : Int) : Option (Int × Int × Int) := (posix_Right.f k a0_0 a0_1 a0_2 a0_3 a0_4 a0_5 a0_6 a0_7 a0_8 a0_9 a0_10 a0_11 a0_12 a0_13 a0_14 a0_15 a0_16 true).bind fun t178 => (if t178 = true then (if a0_6 = true then ((rule_may.f a1).bind fun t179 => (rule_Turns.j0 k a1 (!t179) a0_0 a0_1 a0_2 a0_3 a0_4 a0_5 a0_6 a0_7 a0_8 a0_9 a0_10 a0_11 a0_12 a0_13 a0_14 a0_15 a0_16)) else (rule_Turns.j0 k a1 true a0_0 a0_1 a0_2 a0_3 a0_4 a0_5 a0_6 a0_7 a0_8 a0_9 a0_10 a0_11 a0_12 a0_13 a0_14 a0_15 a0_16)) else (rule_Turns.j0 k a1 true a0_0 a0_1 a0_2 a0_3 a0_4 a0_5 a0_6 a0_7 a0_8 a0_9 a0_10 a0_11 a0_12 a0_13 a0_14 a0_15 a0_16))
theorem rule_Turns.mono_l : ∀ k, (∀ y0 y1 y2 y3 y4 y5 y6 y7 y8 y9 y10 y11 y12 y13 y14 y15 y16 y17 y18, LeO (rule_Turns.j0 k y0 y1 y2 y3 y4 y5 y6 y7 y8 y9 y10 y11 y12 y13 y14 y15 y16 y17 y18) (rule_Turns.j0 (k + 1) y0 y1 y2 y3 y4 y5 y6 y7 y8 y9 y10 y11 y12 y13 y14 y15 y16 y17 y18))
  | 0 => fun _ _ _ _ _ _ _ _ _ _ _ _ _ _ _ _ _ _ _ r h => by simp [rule_Turns.j0] at h
  | k + 1 => by
    have ih0 := rule_Turns.mono_l k
    · intro y0 y1 y2 y3 y4 y5 y6 y7 y8 y9 y10 y11 y12 y13 y14 y15 y16 y17 y18
      unfold rule_Turns.j0
      repeat' first
      | (with_reducible exact ih0 _ _ _ _ _ _ _ _ _ _ _ _ _ _ _ _ _ _ _)
      | (with_reducible exact posix_Right.mono _ _ _ _ _ _ _ _ _ _ _ _ _ _ _ _ _ _ _)
      | (with_reducible exact rule_Day.mono _ _ _ _ _ _ _)
      | (with_reducible exact LeO.refl _)
      | (with_reducible exact LeO.none _)
      | (with_reducible refine LeO.ite ?_ ?_)
      | (with_reducible refine LeO.bind ?_ (fun _ => ?_))
      | exact ih0 _ _ _ _ _ _ _ _ _ _ _ _ _ _ _ _ _ _ _
      | exact posix_Right.mono _ _ _ _ _ _ _ _ _ _ _ _ _ _ _ _ _ _ _
      | exact rule_Day.mono _ _ _ _ _ _ _
      | exact LeO.none _
      | refine LeO.ite ?_ ?_
      | refine LeO.bind ?_ (fun _ => ?_)
theorem rule_Turns.mono : ∀ a0 a1 a2 a3 a4 a5 a6 a7 a8 a9 a10 a11 a12 a13 a14 a15 a16 a17 k, LeO (rule_Turns.f k a0 a1 a2 a3 a4 a5 a6 a7 a8 a9 a10 a11 a12 a13 a14 a15 a16 a17) (rule_Turns.f (k + 1) a0 a1 a2 a3 a4 a5 a6 a7 a8 a9 a10 a11 a12 a13 a14 a15 a16 a17) := by
  intro a0 a1 a2 a3 a4 a5 a6 a7 a8 a9 a10 a11 a12 a13 a14 a15 a16 a17 k
  have ih0 := rule_Turns.mono_l k
  unfold rule_Turns.f
  repeat' first
      | (with_reducible exact ih0 _ _ _ _ _ _ _ _ _ _ _ _ _ _ _ _ _ _ _)
      | (with_reducible exact posix_Right.mono _ _ _ _ _ _ _ _ _ _ _ _ _ _ _ _ _ _ _)
      | (with_reducible exact rule_Day.mono _ _ _ _ _ _ _)
      | (with_reducible exact LeO.refl _)
      | (with_reducible exact LeO.none _)
      | (with_reducible refine LeO.ite ?_ ?_)
      | (with_reducible refine LeO.bind ?_ (fun _ => ?_))
      | exact ih0 _ _ _ _ _ _ _ _ _ _ _ _ _ _ _ _ _ _ _
      | exact posix_Right.mono _ _ _ _ _ _ _ _ _ _ _ _ _ _ _ _ _ _ _
      | exact rule_Day.mono _ _ _ _ _ _ _
      | exact LeO.none _
      | refine LeO.ite ?_ ?_
      | refine LeO.bind ?_ (fun _ => ?_)
set_option maxHeartbeats 8000000 in
set_option maxRecDepth 100000 in
theorem rule_Turns.calls (k : Nat) (a0_0 : Int) (a0_1 : Bool) (a0_2 : ByteArray) (a0_3 : Int) (a0_4 : Bool) (a0_5 : ByteArray) (a0_6 : Bool) (a0_7 : Int) (a0_8 : Int) (a0_9 : Int) (a0_10 : Int) (a0_11 : Int) (a0_12 : Int) (a0_13 : Int) (a0_14 : Int) (a0_15 : Int) (a0_16 : Int) (a1 : Int) (r1 : Int) (r2 : Int) (r3 : Int) (w : World) (hG : GL w) (h : rule_Turns.f k a0_0 a0_1 a0_2 a0_3 a0_4 a0_5 a0_6 a0_7 a0_8 a0_9 a0_10 a0_11 a0_12 a0_13 a0_14 a0_15 a0_16 a1 = some (r1, r2, r3)) :
    Calls Tryd.prog 14 #[.agg #[.int .i64 a0_0, .bool a0_1, .string a0_2, .int .i64 a0_3, .bool a0_4, .string a0_5, .bool a0_6, .int .i64 a0_7, .int .i64 a0_8, .int .i64 a0_9, .int .i64 a0_10, .int .i64 a0_11, .int .i64 a0_12, .int .i64 a0_13, .int .i64 a0_14, .int .i64 a0_15, .int .i64 a0_16], .int .i64 a1] w fun e w' => e = .returned (.tuple #[.int .i64 r1, .int .i64 r2, .int .i64 r3]) ∧ Below w.heap.size w w' := by
  have hu27 := Tryd.underlying27
  have hu25 := Tryd.underlying25
  have HG := Aside0.mk hG
  clear hG
  have HB := Aside0.mk (Below.refl w.heap.size w)
  have H : ((posix_Right.f k a0_0 a0_1 a0_2 a0_3 a0_4 a0_5 a0_6 a0_7 a0_8 a0_9 a0_10 a0_11 a0_12 a0_13 a0_14 a0_15 a0_16 true).bind fun t178 => (if t178 = true then (if a0_6 = true then ((rule_may.f a1).bind fun t179 => (rule_Turns.j0 k a1 (!t179) a0_0 a0_1 a0_2 a0_3 a0_4 a0_5 a0_6 a0_7 a0_8 a0_9 a0_10 a0_11 a0_12 a0_13 a0_14 a0_15 a0_16)) else (rule_Turns.j0 k a1 true a0_0 a0_1 a0_2 a0_3 a0_4 a0_5 a0_6 a0_7 a0_8 a0_9 a0_10 a0_11 a0_12 a0_13 a0_14 a0_15 a0_16)) else (rule_Turns.j0 k a1 true a0_0 a0_1 a0_2 a0_3 a0_4 a0_5 a0_6 a0_7 a0_8 a0_9 a0_10 a0_11 a0_12 a0_13 a0_14 a0_15 a0_16))) = some (r1, r2, r3) := h
  clear h
  have HC3 := Aside0.mk H
  clear H
  go_enter Tryd.func14, Tryd.ntmps14
  go_upto_region 1 with (first | ((with_reducible refine gate_dst (N := 2) rfl ?_); refine box_event ?hg (N := 2) ?hd (cs := #[.int .i64 a0_0, .bool a0_1, .string a0_2, .int .i64 a0_3, .bool a0_4, .string a0_5, .bool a0_6, .int .i64 a0_7, .int .i64 a0_8, .int .i64 a0_9, .int .i64 a0_10, .int .i64 a0_11, .int .i64 a0_12, .int .i64 a0_13, .int .i64 a0_14, .int .i64 a0_15, .int .i64 a0_16]) (t := 27) ?hr ?_; (case hd => rfl); (case hg => rfl); (case hr => first | (go_simp; done) | (go_simp; rfl)); intro gb177 hg w4 hbox hb; have n0_ := Aside0.mk (below_step (by repeat (first | (with_reducible first | exact HB.out | apply below_alloc | apply pw_below_drewN | apply below_drew1) | exact HB.out)) hb); have n1_ := Aside0.mk (hbox); have n2_ := Aside0.mk ((by rw [hg]; exact (below_size (by repeat (first | (with_reducible first | exact HB.out | apply below_alloc | apply pw_below_drewN | apply below_drew1) | exact HB.out))) : w.heap.size ≤ gb177)); have n3_ := Aside0.mk ((by rw [hg]; exact (below_size (by repeat (first | (with_reducible first | exact HB.out | apply below_alloc | apply pw_below_drewN | apply below_drew1) | exact HB.out))) : w.heap.size ≤ gb177)); clear HB; have HB := n0_; have BK177 := n1_; have GW177 := n2_; have GE177 := n3_; clear n0_ n1_ n2_ n3_; clear hb hbox hg))
  repeat (go_quiet (first | ((with_reducible refine gate_dst (N := 2) rfl ?_); refine box_event ?hg (N := 2) ?hd (cs := #[.int .i64 a0_0, .bool a0_1, .string a0_2, .int .i64 a0_3, .bool a0_4, .string a0_5, .bool a0_6, .int .i64 a0_7, .int .i64 a0_8, .int .i64 a0_9, .int .i64 a0_10, .int .i64 a0_11, .int .i64 a0_12, .int .i64 a0_13, .int .i64 a0_14, .int .i64 a0_15, .int .i64 a0_16]) (t := 27) ?hr ?_; (case hd => rfl); (case hg => rfl); (case hr => first | (go_simp; done) | (go_simp; rfl)); intro gb177 hg w4 hbox hb; have n0_ := Aside0.mk (below_step (by repeat (first | (with_reducible first | exact HB.out | apply below_alloc | apply pw_below_drewN | apply below_drew1) | exact HB.out)) hb); have n1_ := Aside0.mk (hbox); have n2_ := Aside0.mk ((by rw [hg]; exact (below_size (by repeat (first | (with_reducible first | exact HB.out | apply below_alloc | apply pw_below_drewN | apply below_drew1) | exact HB.out))) : w.heap.size ≤ gb177)); have n3_ := Aside0.mk ((by rw [hg]; exact (below_size (by repeat (first | (with_reducible first | exact HB.out | apply below_alloc | apply pw_below_drewN | apply below_drew1) | exact HB.out))) : w.heap.size ≤ gb177)); clear HB; have HB := n0_; have BK177 := n1_; have GW177 := n2_; have GE177 := n3_; clear n0_ n1_ n2_ n3_; clear hb hbox hg)); go_upto_region 1 with (first | ((with_reducible refine gate_dst (N := 2) rfl ?_); refine box_event ?hg (N := 2) ?hd (cs := #[.int .i64 a0_0, .bool a0_1, .string a0_2, .int .i64 a0_3, .bool a0_4, .string a0_5, .bool a0_6, .int .i64 a0_7, .int .i64 a0_8, .int .i64 a0_9, .int .i64 a0_10, .int .i64 a0_11, .int .i64 a0_12, .int .i64 a0_13, .int .i64 a0_14, .int .i64 a0_15, .int .i64 a0_16]) (t := 27) ?hr ?_; (case hd => rfl); (case hg => rfl); (case hr => first | (go_simp; done) | (go_simp; rfl)); intro gb177 hg w4 hbox hb; have n0_ := Aside0.mk (below_step (by repeat (first | (with_reducible first | exact HB.out | apply below_alloc | apply pw_below_drewN | apply below_drew1) | exact HB.out)) hb); have n1_ := Aside0.mk (hbox); have n2_ := Aside0.mk ((by rw [hg]; exact (below_size (by repeat (first | (with_reducible first | exact HB.out | apply below_alloc | apply pw_below_drewN | apply below_drew1) | exact HB.out))) : w.heap.size ≤ gb177)); have n3_ := Aside0.mk ((by rw [hg]; exact (below_size (by repeat (first | (with_reducible first | exact HB.out | apply below_alloc | apply pw_below_drewN | apply below_drew1) | exact HB.out))) : w.heap.size ≤ gb177)); clear HB; have HB := n0_; have BK177 := n1_; have GW177 := n2_; have GE177 := n3_; clear n0_ n1_ n2_ n3_; clear hb hbox hg)))
  (try simp only [Act.put, List.setIfInBounds_toArray, List.set_cons_zero, List.set_cons_succ])
  go_cut [19] (fun v19 wc => ∃ (kq : Nat) (x19_2 : Bool), v19 = .bool x19_2 ∧ Aside0 (rule_Turns.j0 kq a1 x19_2 a0_0 a0_1 a0_2 a0_3 a0_4 a0_5 a0_6 a0_7 a0_8 a0_9 a0_10 a0_11 a0_12 a0_13 a0_14 a0_15 a0_16 = some (r1, r2, r3)) ∧ Aside0 (kq ≤ k) ∧ Aside0 (wc.heap[gb177]? = some (.cells #[.int .i64 a0_0, .bool a0_1, .string a0_2, .int .i64 a0_3, .bool a0_4, .string a0_5, .bool a0_6, .int .i64 a0_7, .int .i64 a0_8, .int .i64 a0_9, .int .i64 a0_10, .int .i64 a0_11, .int .i64 a0_12, .int .i64 a0_13, .int .i64 a0_14, .int .i64 a0_15, .int .i64 a0_16] 27 (0, 0))) ∧ Aside0 (Below w.heap.size w wc))
  case first =>
    have H := HC3.out
    clear HC3
    replace H := Option.bind_eq_some_iff.mp H
    obtain ⟨t178, A50, H⟩ := H
    replace H : (if t178 = true then (if a0_6 = true then ((rule_may.f a1).bind fun t179 => (rule_Turns.j0 k a1 (!t179) a0_0 a0_1 a0_2 a0_3 a0_4 a0_5 a0_6 a0_7 a0_8 a0_9 a0_10 a0_11 a0_12 a0_13 a0_14 a0_15 a0_16)) else (rule_Turns.j0 k a1 true a0_0 a0_1 a0_2 a0_3 a0_4 a0_5 a0_6 a0_7 a0_8 a0_9 a0_10 a0_11 a0_12 a0_13 a0_14 a0_15 a0_16)) else (rule_Turns.j0 k a1 true a0_0 a0_1 a0_2 a0_3 a0_4 a0_5 a0_6 a0_7 a0_8 a0_9 a0_10 a0_11 a0_12 a0_13 a0_14 a0_15 a0_16)) = some (r1, r2, r3) := H
    have A5 := Aside0.mk A50
    clear A50
    by_cases c6 : t178 = true
    · subst c6
      have H1 : (if a0_6 = true then ((rule_may.f a1).bind fun t179 => (rule_Turns.j0 k a1 (!t179) a0_0 a0_1 a0_2 a0_3 a0_4 a0_5 a0_6 a0_7 a0_8 a0_9 a0_10 a0_11 a0_12 a0_13 a0_14 a0_15 a0_16)) else (rule_Turns.j0 k a1 true a0_0 a0_1 a0_2 a0_3 a0_4 a0_5 a0_6 a0_7 a0_8 a0_9 a0_10 a0_11 a0_12 a0_13 a0_14 a0_15 a0_16)) = some (r1, r2, r3) := by rw [if_pos rfl] at H; exact H
      clear H
      have H := H1
      clear H1
      by_cases c7 : a0_6 = true
      · subst c7
        have H1 : ((rule_may.f a1).bind fun t179 => (rule_Turns.j0 k a1 (!t179) a0_0 a0_1 a0_2 a0_3 a0_4 a0_5 true a0_7 a0_8 a0_9 a0_10 a0_11 a0_12 a0_13 a0_14 a0_15 a0_16)) = some (r1, r2, r3) := by rw [if_pos rfl] at H; exact H
        clear H
        have H := H1
        clear H1
        replace H := Option.bind_eq_some_iff.mp H
        obtain ⟨t179, A80, H⟩ := H
        replace H : (rule_Turns.j0 k a1 (!t179) a0_0 a0_1 a0_2 a0_3 a0_4 a0_5 true a0_7 a0_8 a0_9 a0_10 a0_11 a0_12 a0_13 a0_14 a0_15 a0_16) = some (r1, r2, r3) := H
        have A8 := Aside0.mk A80
        clear A80
        have H' := Aside0.mk H
        clear H
        go_wp2_with (first | ((with_reducible refine gate_dst (N := 7) rfl ?_); refine wpList_load_row rfl 27 _ rfl (gb177) rfl 27 #[.int .i64 a0_0, .bool a0_1, .string a0_2, .int .i64 a0_3, .bool a0_4, .string a0_5, .bool true, .int .i64 a0_7, .int .i64 a0_8, .int .i64 a0_9, .int .i64 a0_10, .int .i64 a0_11, .int .i64 a0_12, .int .i64 a0_13, .int .i64 a0_14, .int .i64 a0_15, .int .i64 a0_16] (0, 0) _ (by (with_reducible repeat (first | refine blk_drewN ?_ _ | refine blk_drew ?_ | refine blk_alloc ?_ _)); exact BK177.out) Tryd.underlying27 rfl (by kernel_rfl) ?_) | (go_at_call 26; (with_reducible refine (posix_Right.calls k a0_0 a0_1 a0_2 a0_3 a0_4 a0_5 true a0_7 a0_8 a0_9 a0_10 a0_11 a0_12 a0_13 a0_14 a0_15 a0_16 true true _ A5.out).mono ?_); rintro e w9 ⟨rfl, hb⟩; have n0_ := Aside0.mk (blk_below (g := gb177) (o := .cells #[.int .i64 a0_0, .bool a0_1, .string a0_2, .int .i64 a0_3, .bool a0_4, .string a0_5, .bool true, .int .i64 a0_7, .int .i64 a0_8, .int .i64 a0_9, .int .i64 a0_10, .int .i64 a0_11, .int .i64 a0_12, .int .i64 a0_13, .int .i64 a0_14, .int .i64 a0_15, .int .i64 a0_16] 27 (0, 0)) (by (with_reducible repeat (first | refine blk_drewN ?_ _ | refine blk_drew ?_ | refine blk_alloc ?_ _)); exact BK177.out) hb); have n1_ := Aside0.mk (below_step (by repeat (first | (with_reducible first | exact HB.out | apply below_alloc | apply pw_below_drewN | apply below_drew1 | refine below_set ?_ GE177.out) | exact HB.out)) hb); clear BK177; clear HB; have BK177 := n0_; have HB := n1_; clear n0_ n1_; (try clear hb); (try clear hb2); (try clear hk); (try clear hi); have hcz10_0 : w9.cell? ⟨gb177, 0, none⟩ = some (.int .i64 a0_0) := (blk_cell BK177.out 0).trans rfl; have hcz10_1 : w9.cell? ⟨gb177, 1, none⟩ = some (.bool a0_1) := (blk_cell BK177.out 1).trans rfl; have hcz10_2 : w9.cell? ⟨gb177, 2, none⟩ = some (.string a0_2) := (blk_cell BK177.out 2).trans rfl; have hcz10_3 : w9.cell? ⟨gb177, 3, none⟩ = some (.int .i64 a0_3) := (blk_cell BK177.out 3).trans rfl; have hcz10_4 : w9.cell? ⟨gb177, 4, none⟩ = some (.bool a0_4) := (blk_cell BK177.out 4).trans rfl; have hcz10_5 : w9.cell? ⟨gb177, 5, none⟩ = some (.string a0_5) := (blk_cell BK177.out 5).trans rfl; have hcz10_6 : w9.cell? ⟨gb177, 6, none⟩ = some (.bool true) := (blk_cell BK177.out 6).trans rfl; have hcz10_7 : w9.cell? ⟨gb177, 7, none⟩ = some (.int .i64 a0_7) := (blk_cell BK177.out 7).trans rfl; have hcz10_8 : w9.cell? ⟨gb177, 8, none⟩ = some (.int .i64 a0_8) := (blk_cell BK177.out 8).trans rfl; have hcz10_9 : w9.cell? ⟨gb177, 9, none⟩ = some (.int .i64 a0_9) := (blk_cell BK177.out 9).trans rfl; have hcz10_10 : w9.cell? ⟨gb177, 10, none⟩ = some (.int .i64 a0_10) := (blk_cell BK177.out 10).trans rfl; have hcz10_11 : w9.cell? ⟨gb177, 11, none⟩ = some (.int .i64 a0_11) := (blk_cell BK177.out 11).trans rfl; have hcz10_12 : w9.cell? ⟨gb177, 12, none⟩ = some (.int .i64 a0_12) := (blk_cell BK177.out 12).trans rfl; have hcz10_13 : w9.cell? ⟨gb177, 13, none⟩ = some (.int .i64 a0_13) := (blk_cell BK177.out 13).trans rfl; have hcz10_14 : w9.cell? ⟨gb177, 14, none⟩ = some (.int .i64 a0_14) := (blk_cell BK177.out 14).trans rfl; have hcz10_15 : w9.cell? ⟨gb177, 15, none⟩ = some (.int .i64 a0_15) := (blk_cell BK177.out 15).trans rfl; have hcz10_16 : w9.cell? ⟨gb177, 16, none⟩ = some (.int .i64 a0_16) := (blk_cell BK177.out 16).trans rfl; have hfz10_0 := blk_frozen BK177.out 0; have hfz10_1 := blk_frozen BK177.out 1; have hfz10_2 := blk_frozen BK177.out 2; have hfz10_3 := blk_frozen BK177.out 3; have hfz10_4 := blk_frozen BK177.out 4; have hfz10_5 := blk_frozen BK177.out 5; have hfz10_6 := blk_frozen BK177.out 6; have hfz10_7 := blk_frozen BK177.out 7; have hfz10_8 := blk_frozen BK177.out 8; have hfz10_9 := blk_frozen BK177.out 9; have hfz10_10 := blk_frozen BK177.out 10; have hfz10_11 := blk_frozen BK177.out 11; have hfz10_12 := blk_frozen BK177.out 12; have hfz10_13 := blk_frozen BK177.out 13; have hfz10_14 := blk_frozen BK177.out 14; have hfz10_15 := blk_frozen BK177.out 15; have hfz10_16 := blk_frozen BK177.out 16) | (go_at_call 25; (with_reducible refine (rule_may.calls a1 t179 _ A8.out).mono ?_); rintro e w' ⟨rfl, ⟨nd, rfl⟩⟩; (try first | exact ⟨rfl, _, World.drewN_drewN _ _ _⟩ | exact ⟨rfl, _, Eq.trans (World.drewN_drewN _ _ _) (congrArg (World.drewN _) (Nat.add_assoc _ _ _))⟩)))
        repeat (go_quiet (first | ((with_reducible refine gate_dst (N := 7) rfl ?_); refine wpList_load_row rfl 27 _ rfl (gb177) rfl 27 #[.int .i64 a0_0, .bool a0_1, .string a0_2, .int .i64 a0_3, .bool a0_4, .string a0_5, .bool true, .int .i64 a0_7, .int .i64 a0_8, .int .i64 a0_9, .int .i64 a0_10, .int .i64 a0_11, .int .i64 a0_12, .int .i64 a0_13, .int .i64 a0_14, .int .i64 a0_15, .int .i64 a0_16] (0, 0) _ (by (with_reducible repeat (first | refine blk_drewN ?_ _ | refine blk_drew ?_ | refine blk_alloc ?_ _)); exact BK177.out) Tryd.underlying27 rfl (by kernel_rfl) ?_) | (go_at_call 26; (with_reducible refine (posix_Right.calls k a0_0 a0_1 a0_2 a0_3 a0_4 a0_5 true a0_7 a0_8 a0_9 a0_10 a0_11 a0_12 a0_13 a0_14 a0_15 a0_16 true true _ A5.out).mono ?_); rintro e w9 ⟨rfl, hb⟩; have n0_ := Aside0.mk (blk_below (g := gb177) (o := .cells #[.int .i64 a0_0, .bool a0_1, .string a0_2, .int .i64 a0_3, .bool a0_4, .string a0_5, .bool true, .int .i64 a0_7, .int .i64 a0_8, .int .i64 a0_9, .int .i64 a0_10, .int .i64 a0_11, .int .i64 a0_12, .int .i64 a0_13, .int .i64 a0_14, .int .i64 a0_15, .int .i64 a0_16] 27 (0, 0)) (by (with_reducible repeat (first | refine blk_drewN ?_ _ | refine blk_drew ?_ | refine blk_alloc ?_ _)); exact BK177.out) hb); have n1_ := Aside0.mk (below_step (by repeat (first | (with_reducible first | exact HB.out | apply below_alloc | apply pw_below_drewN | apply below_drew1 | refine below_set ?_ GE177.out) | exact HB.out)) hb); clear BK177; clear HB; have BK177 := n0_; have HB := n1_; clear n0_ n1_; (try clear hb); (try clear hb2); (try clear hk); (try clear hi); have hcz10_0 : w9.cell? ⟨gb177, 0, none⟩ = some (.int .i64 a0_0) := (blk_cell BK177.out 0).trans rfl; have hcz10_1 : w9.cell? ⟨gb177, 1, none⟩ = some (.bool a0_1) := (blk_cell BK177.out 1).trans rfl; have hcz10_2 : w9.cell? ⟨gb177, 2, none⟩ = some (.string a0_2) := (blk_cell BK177.out 2).trans rfl; have hcz10_3 : w9.cell? ⟨gb177, 3, none⟩ = some (.int .i64 a0_3) := (blk_cell BK177.out 3).trans rfl; have hcz10_4 : w9.cell? ⟨gb177, 4, none⟩ = some (.bool a0_4) := (blk_cell BK177.out 4).trans rfl; have hcz10_5 : w9.cell? ⟨gb177, 5, none⟩ = some (.string a0_5) := (blk_cell BK177.out 5).trans rfl; have hcz10_6 : w9.cell? ⟨gb177, 6, none⟩ = some (.bool true) := (blk_cell BK177.out 6).trans rfl; have hcz10_7 : w9.cell? ⟨gb177, 7, none⟩ = some (.int .i64 a0_7) := (blk_cell BK177.out 7).trans rfl; have hcz10_8 : w9.cell? ⟨gb177, 8, none⟩ = some (.int .i64 a0_8) := (blk_cell BK177.out 8).trans rfl; have hcz10_9 : w9.cell? ⟨gb177, 9, none⟩ = some (.int .i64 a0_9) := (blk_cell BK177.out 9).trans rfl; have hcz10_10 : w9.cell? ⟨gb177, 10, none⟩ = some (.int .i64 a0_10) := (blk_cell BK177.out 10).trans rfl; have hcz10_11 : w9.cell? ⟨gb177, 11, none⟩ = some (.int .i64 a0_11) := (blk_cell BK177.out 11).trans rfl; have hcz10_12 : w9.cell? ⟨gb177, 12, none⟩ = some (.int .i64 a0_12) := (blk_cell BK177.out 12).trans rfl; have hcz10_13 : w9.cell? ⟨gb177, 13, none⟩ = some (.int .i64 a0_13) := (blk_cell BK177.out 13).trans rfl; have hcz10_14 : w9.cell? ⟨gb177, 14, none⟩ = some (.int .i64 a0_14) := (blk_cell BK177.out 14).trans rfl; have hcz10_15 : w9.cell? ⟨gb177, 15, none⟩ = some (.int .i64 a0_15) := (blk_cell BK177.out 15).trans rfl; have hcz10_16 : w9.cell? ⟨gb177, 16, none⟩ = some (.int .i64 a0_16) := (blk_cell BK177.out 16).trans rfl; have hfz10_0 := blk_frozen BK177.out 0; have hfz10_1 := blk_frozen BK177.out 1; have hfz10_2 := blk_frozen BK177.out 2; have hfz10_3 := blk_frozen BK177.out 3; have hfz10_4 := blk_frozen BK177.out 4; have hfz10_5 := blk_frozen BK177.out 5; have hfz10_6 := blk_frozen BK177.out 6; have hfz10_7 := blk_frozen BK177.out 7; have hfz10_8 := blk_frozen BK177.out 8; have hfz10_9 := blk_frozen BK177.out 9; have hfz10_10 := blk_frozen BK177.out 10; have hfz10_11 := blk_frozen BK177.out 11; have hfz10_12 := blk_frozen BK177.out 12; have hfz10_13 := blk_frozen BK177.out 13; have hfz10_14 := blk_frozen BK177.out 14; have hfz10_15 := blk_frozen BK177.out 15; have hfz10_16 := blk_frozen BK177.out 16) | (go_at_call 25; (with_reducible refine (rule_may.calls a1 t179 _ A8.out).mono ?_); rintro e w' ⟨rfl, ⟨nd, rfl⟩⟩; (try first | exact ⟨rfl, _, World.drewN_drewN _ _ _⟩ | exact ⟨rfl, _, Eq.trans (World.drewN_drewN _ _ _) (congrArg (World.drewN _) (Nat.add_assoc _ _ _))⟩))); try go_wp2_with (first | ((with_reducible refine gate_dst (N := 7) rfl ?_); refine wpList_load_row rfl 27 _ rfl (gb177) rfl 27 #[.int .i64 a0_0, .bool a0_1, .string a0_2, .int .i64 a0_3, .bool a0_4, .string a0_5, .bool true, .int .i64 a0_7, .int .i64 a0_8, .int .i64 a0_9, .int .i64 a0_10, .int .i64 a0_11, .int .i64 a0_12, .int .i64 a0_13, .int .i64 a0_14, .int .i64 a0_15, .int .i64 a0_16] (0, 0) _ (by (with_reducible repeat (first | refine blk_drewN ?_ _ | refine blk_drew ?_ | refine blk_alloc ?_ _)); exact BK177.out) Tryd.underlying27 rfl (by kernel_rfl) ?_) | (go_at_call 26; (with_reducible refine (posix_Right.calls k a0_0 a0_1 a0_2 a0_3 a0_4 a0_5 true a0_7 a0_8 a0_9 a0_10 a0_11 a0_12 a0_13 a0_14 a0_15 a0_16 true true _ A5.out).mono ?_); rintro e w9 ⟨rfl, hb⟩; have n0_ := Aside0.mk (blk_below (g := gb177) (o := .cells #[.int .i64 a0_0, .bool a0_1, .string a0_2, .int .i64 a0_3, .bool a0_4, .string a0_5, .bool true, .int .i64 a0_7, .int .i64 a0_8, .int .i64 a0_9, .int .i64 a0_10, .int .i64 a0_11, .int .i64 a0_12, .int .i64 a0_13, .int .i64 a0_14, .int .i64 a0_15, .int .i64 a0_16] 27 (0, 0)) (by (with_reducible repeat (first | refine blk_drewN ?_ _ | refine blk_drew ?_ | refine blk_alloc ?_ _)); exact BK177.out) hb); have n1_ := Aside0.mk (below_step (by repeat (first | (with_reducible first | exact HB.out | apply below_alloc | apply pw_below_drewN | apply below_drew1 | refine below_set ?_ GE177.out) | exact HB.out)) hb); clear BK177; clear HB; have BK177 := n0_; have HB := n1_; clear n0_ n1_; (try clear hb); (try clear hb2); (try clear hk); (try clear hi); have hcz10_0 : w9.cell? ⟨gb177, 0, none⟩ = some (.int .i64 a0_0) := (blk_cell BK177.out 0).trans rfl; have hcz10_1 : w9.cell? ⟨gb177, 1, none⟩ = some (.bool a0_1) := (blk_cell BK177.out 1).trans rfl; have hcz10_2 : w9.cell? ⟨gb177, 2, none⟩ = some (.string a0_2) := (blk_cell BK177.out 2).trans rfl; have hcz10_3 : w9.cell? ⟨gb177, 3, none⟩ = some (.int .i64 a0_3) := (blk_cell BK177.out 3).trans rfl; have hcz10_4 : w9.cell? ⟨gb177, 4, none⟩ = some (.bool a0_4) := (blk_cell BK177.out 4).trans rfl; have hcz10_5 : w9.cell? ⟨gb177, 5, none⟩ = some (.string a0_5) := (blk_cell BK177.out 5).trans rfl; have hcz10_6 : w9.cell? ⟨gb177, 6, none⟩ = some (.bool true) := (blk_cell BK177.out 6).trans rfl; have hcz10_7 : w9.cell? ⟨gb177, 7, none⟩ = some (.int .i64 a0_7) := (blk_cell BK177.out 7).trans rfl; have hcz10_8 : w9.cell? ⟨gb177, 8, none⟩ = some (.int .i64 a0_8) := (blk_cell BK177.out 8).trans rfl; have hcz10_9 : w9.cell? ⟨gb177, 9, none⟩ = some (.int .i64 a0_9) := (blk_cell BK177.out 9).trans rfl; have hcz10_10 : w9.cell? ⟨gb177, 10, none⟩ = some (.int .i64 a0_10) := (blk_cell BK177.out 10).trans rfl; have hcz10_11 : w9.cell? ⟨gb177, 11, none⟩ = some (.int .i64 a0_11) := (blk_cell BK177.out 11).trans rfl; have hcz10_12 : w9.cell? ⟨gb177, 12, none⟩ = some (.int .i64 a0_12) := (blk_cell BK177.out 12).trans rfl; have hcz10_13 : w9.cell? ⟨gb177, 13, none⟩ = some (.int .i64 a0_13) := (blk_cell BK177.out 13).trans rfl; have hcz10_14 : w9.cell? ⟨gb177, 14, none⟩ = some (.int .i64 a0_14) := (blk_cell BK177.out 14).trans rfl; have hcz10_15 : w9.cell? ⟨gb177, 15, none⟩ = some (.int .i64 a0_15) := (blk_cell BK177.out 15).trans rfl; have hcz10_16 : w9.cell? ⟨gb177, 16, none⟩ = some (.int .i64 a0_16) := (blk_cell BK177.out 16).trans rfl; have hfz10_0 := blk_frozen BK177.out 0; have hfz10_1 := blk_frozen BK177.out 1; have hfz10_2 := blk_frozen BK177.out 2; have hfz10_3 := blk_frozen BK177.out 3; have hfz10_4 := blk_frozen BK177.out 4; have hfz10_5 := blk_frozen BK177.out 5; have hfz10_6 := blk_frozen BK177.out 6; have hfz10_7 := blk_frozen BK177.out 7; have hfz10_8 := blk_frozen BK177.out 8; have hfz10_9 := blk_frozen BK177.out 9; have hfz10_10 := blk_frozen BK177.out 10; have hfz10_11 := blk_frozen BK177.out 11; have hfz10_12 := blk_frozen BK177.out 12; have hfz10_13 := blk_frozen BK177.out 13; have hfz10_14 := blk_frozen BK177.out 14; have hfz10_15 := blk_frozen BK177.out 15; have hfz10_16 := blk_frozen BK177.out 16) | (go_at_call 25; (with_reducible refine (rule_may.calls a1 t179 _ A8.out).mono ?_); rintro e w' ⟨rfl, ⟨nd, rfl⟩⟩; (try first | exact ⟨rfl, _, World.drewN_drewN _ _ _⟩ | exact ⟨rfl, _, Eq.trans (World.drewN_drewN _ _ _) (congrArg (World.drewN _) (Nat.add_assoc _ _ _))⟩))))
        go_meet
        case rel => exact ⟨_, (!t179), (by first | rfl | (simp; done) | (simp [*]; done)), H', ⟨by first | omega | exact Nat.le_refl _⟩, ⟨by (with_reducible repeat (first | refine blk_drewN ?_ _ | refine blk_drew ?_ | refine blk_alloc ?_ _)); exact BK177.out⟩, ⟨by repeat (first | (with_reducible first | exact HB.out | apply below_alloc | apply pw_below_drewN | apply below_drew1 | refine below_set ?_ GE177.out) | exact HB.out)⟩⟩
      · replace c7 := Bool.eq_false_iff.mpr c7
        subst c7
        have H1 : (rule_Turns.j0 k a1 true a0_0 a0_1 a0_2 a0_3 a0_4 a0_5 false a0_7 a0_8 a0_9 a0_10 a0_11 a0_12 a0_13 a0_14 a0_15 a0_16) = some (r1, r2, r3) := by rw [if_neg (show ¬ (false = true) by decide)] at H; exact H
        clear H
        have H := H1
        clear H1
        have H' := Aside0.mk H
        clear H
        go_wp2_with (first | ((with_reducible refine gate_dst (N := 7) rfl ?_); refine wpList_load_row rfl 27 _ rfl (gb177) rfl 27 #[.int .i64 a0_0, .bool a0_1, .string a0_2, .int .i64 a0_3, .bool a0_4, .string a0_5, .bool false, .int .i64 a0_7, .int .i64 a0_8, .int .i64 a0_9, .int .i64 a0_10, .int .i64 a0_11, .int .i64 a0_12, .int .i64 a0_13, .int .i64 a0_14, .int .i64 a0_15, .int .i64 a0_16] (0, 0) _ (by (with_reducible repeat (first | refine blk_drewN ?_ _ | refine blk_drew ?_ | refine blk_alloc ?_ _)); exact BK177.out) Tryd.underlying27 rfl (by kernel_rfl) ?_) | (go_at_call 26; (with_reducible refine (posix_Right.calls k a0_0 a0_1 a0_2 a0_3 a0_4 a0_5 false a0_7 a0_8 a0_9 a0_10 a0_11 a0_12 a0_13 a0_14 a0_15 a0_16 true true _ A5.out).mono ?_); rintro e w11 ⟨rfl, hb⟩; have n0_ := Aside0.mk (blk_below (g := gb177) (o := .cells #[.int .i64 a0_0, .bool a0_1, .string a0_2, .int .i64 a0_3, .bool a0_4, .string a0_5, .bool false, .int .i64 a0_7, .int .i64 a0_8, .int .i64 a0_9, .int .i64 a0_10, .int .i64 a0_11, .int .i64 a0_12, .int .i64 a0_13, .int .i64 a0_14, .int .i64 a0_15, .int .i64 a0_16] 27 (0, 0)) (by (with_reducible repeat (first | refine blk_drewN ?_ _ | refine blk_drew ?_ | refine blk_alloc ?_ _)); exact BK177.out) hb); have n1_ := Aside0.mk (below_step (by repeat (first | (with_reducible first | exact HB.out | apply below_alloc | apply pw_below_drewN | apply below_drew1 | refine below_set ?_ GE177.out) | exact HB.out)) hb); clear BK177; clear HB; have BK177 := n0_; have HB := n1_; clear n0_ n1_; (try clear hb); (try clear hb2); (try clear hk); (try clear hi); have hcz12_0 : w11.cell? ⟨gb177, 0, none⟩ = some (.int .i64 a0_0) := (blk_cell BK177.out 0).trans rfl; have hcz12_1 : w11.cell? ⟨gb177, 1, none⟩ = some (.bool a0_1) := (blk_cell BK177.out 1).trans rfl; have hcz12_2 : w11.cell? ⟨gb177, 2, none⟩ = some (.string a0_2) := (blk_cell BK177.out 2).trans rfl; have hcz12_3 : w11.cell? ⟨gb177, 3, none⟩ = some (.int .i64 a0_3) := (blk_cell BK177.out 3).trans rfl; have hcz12_4 : w11.cell? ⟨gb177, 4, none⟩ = some (.bool a0_4) := (blk_cell BK177.out 4).trans rfl; have hcz12_5 : w11.cell? ⟨gb177, 5, none⟩ = some (.string a0_5) := (blk_cell BK177.out 5).trans rfl; have hcz12_6 : w11.cell? ⟨gb177, 6, none⟩ = some (.bool false) := (blk_cell BK177.out 6).trans rfl; have hcz12_7 : w11.cell? ⟨gb177, 7, none⟩ = some (.int .i64 a0_7) := (blk_cell BK177.out 7).trans rfl; have hcz12_8 : w11.cell? ⟨gb177, 8, none⟩ = some (.int .i64 a0_8) := (blk_cell BK177.out 8).trans rfl; have hcz12_9 : w11.cell? ⟨gb177, 9, none⟩ = some (.int .i64 a0_9) := (blk_cell BK177.out 9).trans rfl; have hcz12_10 : w11.cell? ⟨gb177, 10, none⟩ = some (.int .i64 a0_10) := (blk_cell BK177.out 10).trans rfl; have hcz12_11 : w11.cell? ⟨gb177, 11, none⟩ = some (.int .i64 a0_11) := (blk_cell BK177.out 11).trans rfl; have hcz12_12 : w11.cell? ⟨gb177, 12, none⟩ = some (.int .i64 a0_12) := (blk_cell BK177.out 12).trans rfl; have hcz12_13 : w11.cell? ⟨gb177, 13, none⟩ = some (.int .i64 a0_13) := (blk_cell BK177.out 13).trans rfl; have hcz12_14 : w11.cell? ⟨gb177, 14, none⟩ = some (.int .i64 a0_14) := (blk_cell BK177.out 14).trans rfl; have hcz12_15 : w11.cell? ⟨gb177, 15, none⟩ = some (.int .i64 a0_15) := (blk_cell BK177.out 15).trans rfl; have hcz12_16 : w11.cell? ⟨gb177, 16, none⟩ = some (.int .i64 a0_16) := (blk_cell BK177.out 16).trans rfl; have hfz12_0 := blk_frozen BK177.out 0; have hfz12_1 := blk_frozen BK177.out 1; have hfz12_2 := blk_frozen BK177.out 2; have hfz12_3 := blk_frozen BK177.out 3; have hfz12_4 := blk_frozen BK177.out 4; have hfz12_5 := blk_frozen BK177.out 5; have hfz12_6 := blk_frozen BK177.out 6; have hfz12_7 := blk_frozen BK177.out 7; have hfz12_8 := blk_frozen BK177.out 8; have hfz12_9 := blk_frozen BK177.out 9; have hfz12_10 := blk_frozen BK177.out 10; have hfz12_11 := blk_frozen BK177.out 11; have hfz12_12 := blk_frozen BK177.out 12; have hfz12_13 := blk_frozen BK177.out 13; have hfz12_14 := blk_frozen BK177.out 14; have hfz12_15 := blk_frozen BK177.out 15; have hfz12_16 := blk_frozen BK177.out 16))
        repeat (go_quiet (first | ((with_reducible refine gate_dst (N := 7) rfl ?_); refine wpList_load_row rfl 27 _ rfl (gb177) rfl 27 #[.int .i64 a0_0, .bool a0_1, .string a0_2, .int .i64 a0_3, .bool a0_4, .string a0_5, .bool false, .int .i64 a0_7, .int .i64 a0_8, .int .i64 a0_9, .int .i64 a0_10, .int .i64 a0_11, .int .i64 a0_12, .int .i64 a0_13, .int .i64 a0_14, .int .i64 a0_15, .int .i64 a0_16] (0, 0) _ (by (with_reducible repeat (first | refine blk_drewN ?_ _ | refine blk_drew ?_ | refine blk_alloc ?_ _)); exact BK177.out) Tryd.underlying27 rfl (by kernel_rfl) ?_) | (go_at_call 26; (with_reducible refine (posix_Right.calls k a0_0 a0_1 a0_2 a0_3 a0_4 a0_5 false a0_7 a0_8 a0_9 a0_10 a0_11 a0_12 a0_13 a0_14 a0_15 a0_16 true true _ A5.out).mono ?_); rintro e w11 ⟨rfl, hb⟩; have n0_ := Aside0.mk (blk_below (g := gb177) (o := .cells #[.int .i64 a0_0, .bool a0_1, .string a0_2, .int .i64 a0_3, .bool a0_4, .string a0_5, .bool false, .int .i64 a0_7, .int .i64 a0_8, .int .i64 a0_9, .int .i64 a0_10, .int .i64 a0_11, .int .i64 a0_12, .int .i64 a0_13, .int .i64 a0_14, .int .i64 a0_15, .int .i64 a0_16] 27 (0, 0)) (by (with_reducible repeat (first | refine blk_drewN ?_ _ | refine blk_drew ?_ | refine blk_alloc ?_ _)); exact BK177.out) hb); have n1_ := Aside0.mk (below_step (by repeat (first | (with_reducible first | exact HB.out | apply below_alloc | apply pw_below_drewN | apply below_drew1 | refine below_set ?_ GE177.out) | exact HB.out)) hb); clear BK177; clear HB; have BK177 := n0_; have HB := n1_; clear n0_ n1_; (try clear hb); (try clear hb2); (try clear hk); (try clear hi); have hcz12_0 : w11.cell? ⟨gb177, 0, none⟩ = some (.int .i64 a0_0) := (blk_cell BK177.out 0).trans rfl; have hcz12_1 : w11.cell? ⟨gb177, 1, none⟩ = some (.bool a0_1) := (blk_cell BK177.out 1).trans rfl; have hcz12_2 : w11.cell? ⟨gb177, 2, none⟩ = some (.string a0_2) := (blk_cell BK177.out 2).trans rfl; have hcz12_3 : w11.cell? ⟨gb177, 3, none⟩ = some (.int .i64 a0_3) := (blk_cell BK177.out 3).trans rfl; have hcz12_4 : w11.cell? ⟨gb177, 4, none⟩ = some (.bool a0_4) := (blk_cell BK177.out 4).trans rfl; have hcz12_5 : w11.cell? ⟨gb177, 5, none⟩ = some (.string a0_5) := (blk_cell BK177.out 5).trans rfl; have hcz12_6 : w11.cell? ⟨gb177, 6, none⟩ = some (.bool false) := (blk_cell BK177.out 6).trans rfl; have hcz12_7 : w11.cell? ⟨gb177, 7, none⟩ = some (.int .i64 a0_7) := (blk_cell BK177.out 7).trans rfl; have hcz12_8 : w11.cell? ⟨gb177, 8, none⟩ = some (.int .i64 a0_8) := (blk_cell BK177.out 8).trans rfl; have hcz12_9 : w11.cell? ⟨gb177, 9, none⟩ = some (.int .i64 a0_9) := (blk_cell BK177.out 9).trans rfl; have hcz12_10 : w11.cell? ⟨gb177, 10, none⟩ = some (.int .i64 a0_10) := (blk_cell BK177.out 10).trans rfl; have hcz12_11 : w11.cell? ⟨gb177, 11, none⟩ = some (.int .i64 a0_11) := (blk_cell BK177.out 11).trans rfl; have hcz12_12 : w11.cell? ⟨gb177, 12, none⟩ = some (.int .i64 a0_12) := (blk_cell BK177.out 12).trans rfl; have hcz12_13 : w11.cell? ⟨gb177, 13, none⟩ = some (.int .i64 a0_13) := (blk_cell BK177.out 13).trans rfl; have hcz12_14 : w11.cell? ⟨gb177, 14, none⟩ = some (.int .i64 a0_14) := (blk_cell BK177.out 14).trans rfl; have hcz12_15 : w11.cell? ⟨gb177, 15, none⟩ = some (.int .i64 a0_15) := (blk_cell BK177.out 15).trans rfl; have hcz12_16 : w11.cell? ⟨gb177, 16, none⟩ = some (.int .i64 a0_16) := (blk_cell BK177.out 16).trans rfl; have hfz12_0 := blk_frozen BK177.out 0; have hfz12_1 := blk_frozen BK177.out 1; have hfz12_2 := blk_frozen BK177.out 2; have hfz12_3 := blk_frozen BK177.out 3; have hfz12_4 := blk_frozen BK177.out 4; have hfz12_5 := blk_frozen BK177.out 5; have hfz12_6 := blk_frozen BK177.out 6; have hfz12_7 := blk_frozen BK177.out 7; have hfz12_8 := blk_frozen BK177.out 8; have hfz12_9 := blk_frozen BK177.out 9; have hfz12_10 := blk_frozen BK177.out 10; have hfz12_11 := blk_frozen BK177.out 11; have hfz12_12 := blk_frozen BK177.out 12; have hfz12_13 := blk_frozen BK177.out 13; have hfz12_14 := blk_frozen BK177.out 14; have hfz12_15 := blk_frozen BK177.out 15; have hfz12_16 := blk_frozen BK177.out 16)); try go_wp2_with (first | ((with_reducible refine gate_dst (N := 7) rfl ?_); refine wpList_load_row rfl 27 _ rfl (gb177) rfl 27 #[.int .i64 a0_0, .bool a0_1, .string a0_2, .int .i64 a0_3, .bool a0_4, .string a0_5, .bool false, .int .i64 a0_7, .int .i64 a0_8, .int .i64 a0_9, .int .i64 a0_10, .int .i64 a0_11, .int .i64 a0_12, .int .i64 a0_13, .int .i64 a0_14, .int .i64 a0_15, .int .i64 a0_16] (0, 0) _ (by (with_reducible repeat (first | refine blk_drewN ?_ _ | refine blk_drew ?_ | refine blk_alloc ?_ _)); exact BK177.out) Tryd.underlying27 rfl (by kernel_rfl) ?_) | (go_at_call 26; (with_reducible refine (posix_Right.calls k a0_0 a0_1 a0_2 a0_3 a0_4 a0_5 false a0_7 a0_8 a0_9 a0_10 a0_11 a0_12 a0_13 a0_14 a0_15 a0_16 true true _ A5.out).mono ?_); rintro e w11 ⟨rfl, hb⟩; have n0_ := Aside0.mk (blk_below (g := gb177) (o := .cells #[.int .i64 a0_0, .bool a0_1, .string a0_2, .int .i64 a0_3, .bool a0_4, .string a0_5, .bool false, .int .i64 a0_7, .int .i64 a0_8, .int .i64 a0_9, .int .i64 a0_10, .int .i64 a0_11, .int .i64 a0_12, .int .i64 a0_13, .int .i64 a0_14, .int .i64 a0_15, .int .i64 a0_16] 27 (0, 0)) (by (with_reducible repeat (first | refine blk_drewN ?_ _ | refine blk_drew ?_ | refine blk_alloc ?_ _)); exact BK177.out) hb); have n1_ := Aside0.mk (below_step (by repeat (first | (with_reducible first | exact HB.out | apply below_alloc | apply pw_below_drewN | apply below_drew1 | refine below_set ?_ GE177.out) | exact HB.out)) hb); clear BK177; clear HB; have BK177 := n0_; have HB := n1_; clear n0_ n1_; (try clear hb); (try clear hb2); (try clear hk); (try clear hi); have hcz12_0 : w11.cell? ⟨gb177, 0, none⟩ = some (.int .i64 a0_0) := (blk_cell BK177.out 0).trans rfl; have hcz12_1 : w11.cell? ⟨gb177, 1, none⟩ = some (.bool a0_1) := (blk_cell BK177.out 1).trans rfl; have hcz12_2 : w11.cell? ⟨gb177, 2, none⟩ = some (.string a0_2) := (blk_cell BK177.out 2).trans rfl; have hcz12_3 : w11.cell? ⟨gb177, 3, none⟩ = some (.int .i64 a0_3) := (blk_cell BK177.out 3).trans rfl; have hcz12_4 : w11.cell? ⟨gb177, 4, none⟩ = some (.bool a0_4) := (blk_cell BK177.out 4).trans rfl; have hcz12_5 : w11.cell? ⟨gb177, 5, none⟩ = some (.string a0_5) := (blk_cell BK177.out 5).trans rfl; have hcz12_6 : w11.cell? ⟨gb177, 6, none⟩ = some (.bool false) := (blk_cell BK177.out 6).trans rfl; have hcz12_7 : w11.cell? ⟨gb177, 7, none⟩ = some (.int .i64 a0_7) := (blk_cell BK177.out 7).trans rfl; have hcz12_8 : w11.cell? ⟨gb177, 8, none⟩ = some (.int .i64 a0_8) := (blk_cell BK177.out 8).trans rfl; have hcz12_9 : w11.cell? ⟨gb177, 9, none⟩ = some (.int .i64 a0_9) := (blk_cell BK177.out 9).trans rfl; have hcz12_10 : w11.cell? ⟨gb177, 10, none⟩ = some (.int .i64 a0_10) := (blk_cell BK177.out 10).trans rfl; have hcz12_11 : w11.cell? ⟨gb177, 11, none⟩ = some (.int .i64 a0_11) := (blk_cell BK177.out 11).trans rfl; have hcz12_12 : w11.cell? ⟨gb177, 12, none⟩ = some (.int .i64 a0_12) := (blk_cell BK177.out 12).trans rfl; have hcz12_13 : w11.cell? ⟨gb177, 13, none⟩ = some (.int .i64 a0_13) := (blk_cell BK177.out 13).trans rfl; have hcz12_14 : w11.cell? ⟨gb177, 14, none⟩ = some (.int .i64 a0_14) := (blk_cell BK177.out 14).trans rfl; have hcz12_15 : w11.cell? ⟨gb177, 15, none⟩ = some (.int .i64 a0_15) := (blk_cell BK177.out 15).trans rfl; have hcz12_16 : w11.cell? ⟨gb177, 16, none⟩ = some (.int .i64 a0_16) := (blk_cell BK177.out 16).trans rfl; have hfz12_0 := blk_frozen BK177.out 0; have hfz12_1 := blk_frozen BK177.out 1; have hfz12_2 := blk_frozen BK177.out 2; have hfz12_3 := blk_frozen BK177.out 3; have hfz12_4 := blk_frozen BK177.out 4; have hfz12_5 := blk_frozen BK177.out 5; have hfz12_6 := blk_frozen BK177.out 6; have hfz12_7 := blk_frozen BK177.out 7; have hfz12_8 := blk_frozen BK177.out 8; have hfz12_9 := blk_frozen BK177.out 9; have hfz12_10 := blk_frozen BK177.out 10; have hfz12_11 := blk_frozen BK177.out 11; have hfz12_12 := blk_frozen BK177.out 12; have hfz12_13 := blk_frozen BK177.out 13; have hfz12_14 := blk_frozen BK177.out 14; have hfz12_15 := blk_frozen BK177.out 15; have hfz12_16 := blk_frozen BK177.out 16)))
        go_meet
        case rel => exact ⟨_, (true), (by first | rfl | (simp; done) | (simp [*]; done)), H', ⟨by first | omega | exact Nat.le_refl _⟩, ⟨by (with_reducible repeat (first | refine blk_drewN ?_ _ | refine blk_drew ?_ | refine blk_alloc ?_ _)); exact BK177.out⟩, ⟨by repeat (first | (with_reducible first | exact HB.out | apply below_alloc | apply pw_below_drewN | apply below_drew1 | refine below_set ?_ GE177.out) | exact HB.out)⟩⟩
    · replace c6 := Bool.eq_false_iff.mpr c6
      subst c6
      have H1 : (rule_Turns.j0 k a1 true a0_0 a0_1 a0_2 a0_3 a0_4 a0_5 a0_6 a0_7 a0_8 a0_9 a0_10 a0_11 a0_12 a0_13 a0_14 a0_15 a0_16) = some (r1, r2, r3) := by rw [if_neg (show ¬ (false = true) by decide)] at H; exact H
      clear H
      have H := H1
      clear H1
      have H' := Aside0.mk H
      clear H
      go_wp2_with (first | ((with_reducible refine gate_dst (N := 7) rfl ?_); refine wpList_load_row rfl 27 _ rfl (gb177) rfl 27 #[.int .i64 a0_0, .bool a0_1, .string a0_2, .int .i64 a0_3, .bool a0_4, .string a0_5, .bool a0_6, .int .i64 a0_7, .int .i64 a0_8, .int .i64 a0_9, .int .i64 a0_10, .int .i64 a0_11, .int .i64 a0_12, .int .i64 a0_13, .int .i64 a0_14, .int .i64 a0_15, .int .i64 a0_16] (0, 0) _ (by (with_reducible repeat (first | refine blk_drewN ?_ _ | refine blk_drew ?_ | refine blk_alloc ?_ _)); exact BK177.out) Tryd.underlying27 rfl (by kernel_rfl) ?_) | (go_at_call 26; (with_reducible refine (posix_Right.calls k a0_0 a0_1 a0_2 a0_3 a0_4 a0_5 a0_6 a0_7 a0_8 a0_9 a0_10 a0_11 a0_12 a0_13 a0_14 a0_15 a0_16 true false _ A5.out).mono ?_); rintro e w13 ⟨rfl, hb⟩; have n0_ := Aside0.mk (blk_below (g := gb177) (o := .cells #[.int .i64 a0_0, .bool a0_1, .string a0_2, .int .i64 a0_3, .bool a0_4, .string a0_5, .bool a0_6, .int .i64 a0_7, .int .i64 a0_8, .int .i64 a0_9, .int .i64 a0_10, .int .i64 a0_11, .int .i64 a0_12, .int .i64 a0_13, .int .i64 a0_14, .int .i64 a0_15, .int .i64 a0_16] 27 (0, 0)) (by (with_reducible repeat (first | refine blk_drewN ?_ _ | refine blk_drew ?_ | refine blk_alloc ?_ _)); exact BK177.out) hb); have n1_ := Aside0.mk (below_step (by repeat (first | (with_reducible first | exact HB.out | apply below_alloc | apply pw_below_drewN | apply below_drew1 | refine below_set ?_ GE177.out) | exact HB.out)) hb); clear BK177; clear HB; have BK177 := n0_; have HB := n1_; clear n0_ n1_; (try clear hb); (try clear hb2); (try clear hk); (try clear hi)))
      repeat (go_quiet (first | ((with_reducible refine gate_dst (N := 7) rfl ?_); refine wpList_load_row rfl 27 _ rfl (gb177) rfl 27 #[.int .i64 a0_0, .bool a0_1, .string a0_2, .int .i64 a0_3, .bool a0_4, .string a0_5, .bool a0_6, .int .i64 a0_7, .int .i64 a0_8, .int .i64 a0_9, .int .i64 a0_10, .int .i64 a0_11, .int .i64 a0_12, .int .i64 a0_13, .int .i64 a0_14, .int .i64 a0_15, .int .i64 a0_16] (0, 0) _ (by (with_reducible repeat (first | refine blk_drewN ?_ _ | refine blk_drew ?_ | refine blk_alloc ?_ _)); exact BK177.out) Tryd.underlying27 rfl (by kernel_rfl) ?_) | (go_at_call 26; (with_reducible refine (posix_Right.calls k a0_0 a0_1 a0_2 a0_3 a0_4 a0_5 a0_6 a0_7 a0_8 a0_9 a0_10 a0_11 a0_12 a0_13 a0_14 a0_15 a0_16 true false _ A5.out).mono ?_); rintro e w13 ⟨rfl, hb⟩; have n0_ := Aside0.mk (blk_below (g := gb177) (o := .cells #[.int .i64 a0_0, .bool a0_1, .string a0_2, .int .i64 a0_3, .bool a0_4, .string a0_5, .bool a0_6, .int .i64 a0_7, .int .i64 a0_8, .int .i64 a0_9, .int .i64 a0_10, .int .i64 a0_11, .int .i64 a0_12, .int .i64 a0_13, .int .i64 a0_14, .int .i64 a0_15, .int .i64 a0_16] 27 (0, 0)) (by (with_reducible repeat (first | refine blk_drewN ?_ _ | refine blk_drew ?_ | refine blk_alloc ?_ _)); exact BK177.out) hb); have n1_ := Aside0.mk (below_step (by repeat (first | (with_reducible first | exact HB.out | apply below_alloc | apply pw_below_drewN | apply below_drew1 | refine below_set ?_ GE177.out) | exact HB.out)) hb); clear BK177; clear HB; have BK177 := n0_; have HB := n1_; clear n0_ n1_; (try clear hb); (try clear hb2); (try clear hk); (try clear hi))); try go_wp2_with (first | ((with_reducible refine gate_dst (N := 7) rfl ?_); refine wpList_load_row rfl 27 _ rfl (gb177) rfl 27 #[.int .i64 a0_0, .bool a0_1, .string a0_2, .int .i64 a0_3, .bool a0_4, .string a0_5, .bool a0_6, .int .i64 a0_7, .int .i64 a0_8, .int .i64 a0_9, .int .i64 a0_10, .int .i64 a0_11, .int .i64 a0_12, .int .i64 a0_13, .int .i64 a0_14, .int .i64 a0_15, .int .i64 a0_16] (0, 0) _ (by (with_reducible repeat (first | refine blk_drewN ?_ _ | refine blk_drew ?_ | refine blk_alloc ?_ _)); exact BK177.out) Tryd.underlying27 rfl (by kernel_rfl) ?_) | (go_at_call 26; (with_reducible refine (posix_Right.calls k a0_0 a0_1 a0_2 a0_3 a0_4 a0_5 a0_6 a0_7 a0_8 a0_9 a0_10 a0_11 a0_12 a0_13 a0_14 a0_15 a0_16 true false _ A5.out).mono ?_); rintro e w13 ⟨rfl, hb⟩; have n0_ := Aside0.mk (blk_below (g := gb177) (o := .cells #[.int .i64 a0_0, .bool a0_1, .string a0_2, .int .i64 a0_3, .bool a0_4, .string a0_5, .bool a0_6, .int .i64 a0_7, .int .i64 a0_8, .int .i64 a0_9, .int .i64 a0_10, .int .i64 a0_11, .int .i64 a0_12, .int .i64 a0_13, .int .i64 a0_14, .int .i64 a0_15, .int .i64 a0_16] 27 (0, 0)) (by (with_reducible repeat (first | refine blk_drewN ?_ _ | refine blk_drew ?_ | refine blk_alloc ?_ _)); exact BK177.out) hb); have n1_ := Aside0.mk (below_step (by repeat (first | (with_reducible first | exact HB.out | apply below_alloc | apply pw_below_drewN | apply below_drew1 | refine below_set ?_ GE177.out) | exact HB.out)) hb); clear BK177; clear HB; have BK177 := n0_; have HB := n1_; clear n0_ n1_; (try clear hb); (try clear hb2); (try clear hk); (try clear hi))))
      go_meet
      case rel => exact ⟨_, (true), (by first | rfl | (simp; done) | (simp [*]; done)), H', ⟨by first | omega | exact Nat.le_refl _⟩, ⟨by (with_reducible repeat (first | refine blk_drewN ?_ _ | refine blk_drew ?_ | refine blk_alloc ?_ _)); exact BK177.out⟩, ⟨by repeat (first | (with_reducible first | exact HB.out | apply below_alloc | apply pw_below_drewN | apply below_drew1 | refine below_set ?_ GE177.out) | exact HB.out)⟩⟩
  case rest =>
    clear HC3
    try clear c1
    try clear p2
    try clear c6
    try clear c7
    try clear hcz10_0
    try clear hcz10_1
    try clear hcz10_10
    try clear hcz10_11
    try clear hcz10_12
    try clear hcz10_13
    try clear hcz10_14
    try clear hcz10_15
    try clear hcz10_16
    try clear hcz10_2
    try clear hcz10_3
    try clear hcz10_4
    try clear hcz10_5
    try clear hcz10_6
    try clear hcz10_7
    try clear hcz10_8
    try clear hcz10_9
    try clear hcz12_0
    try clear hcz12_1
    try clear hcz12_10
    try clear hcz12_11
    try clear hcz12_12
    try clear hcz12_13
    try clear hcz12_14
    try clear hcz12_15
    try clear hcz12_16
    try clear hcz12_2
    try clear hcz12_3
    try clear hcz12_4
    try clear hcz12_5
    try clear hcz12_6
    try clear hcz12_7
    try clear hcz12_8
    try clear hcz12_9
    try clear hfz10_0
    try clear hfz10_1
    try clear hfz10_10
    try clear hfz10_11
    try clear hfz10_12
    try clear hfz10_13
    try clear hfz10_14
    try clear hfz10_15
    try clear hfz10_16
    try clear hfz10_2
    try clear hfz10_3
    try clear hfz10_4
    try clear hfz10_5
    try clear hfz10_6
    try clear hfz10_7
    try clear hfz10_8
    try clear hfz10_9
    try clear hfz12_0
    try clear hfz12_1
    try clear hfz12_10
    try clear hfz12_11
    try clear hfz12_12
    try clear hfz12_13
    try clear hfz12_14
    try clear hfz12_15
    try clear hfz12_16
    try clear hfz12_2
    try clear hfz12_3
    try clear hfz12_4
    try clear hfz12_5
    try clear hfz12_6
    try clear hfz12_7
    try clear hfz12_8
    try clear hfz12_9
    obtain ⟨kq, x19_2, rfl, HA, HJ2, BK177, HB⟩ := hcut
    cases kq with
    | zero => exact absurd HA.out (by simp [rule_Turns.j0])
    | succ kj2 =>
      have H := HA.out
      clear HA
      simp only [rule_Turns.j0] at H
      by_cases c14 : x19_2 = true
      · subst c14
        have H1 : (some (0, 0, 1)) = some (r1, r2, r3) := by rw [if_pos rfl] at H; exact H
        clear H
        have H := H1
        clear H1
        simp only [Option.some.injEq, Prod.mk.injEq] at H
        obtain ⟨rfl, rfl, rfl⟩ := H
        go_wp2
        repeat (go_quiet (fail); try go_wp2)
        go_ret3
        exact ⟨by first | rfl | (simp [errW_none, errW_some] <;> rfl) | (simp [*, errW_none, errW_some] <;> rfl), by repeat (first | (with_reducible first | exact HB.out | apply below_alloc | apply pw_below_drewN | apply below_drew1 | refine below_set ?_ GE177.out) | exact HB.out)⟩
      · replace c14 := Bool.eq_false_iff.mpr c14
        subst c14
        have H1 : ((rule_Day.f kj2 a1 a0_7 a0_8 a0_9 a0_10 a0_11).bind fun bt180 => ((rule_Day.f kj2 a1 a0_12 a0_13 a0_14 a0_15 a0_16).bind fun bt182 => (some (wrap64 ((wrap64 (bt180.1 * 86400)) + (wrap64 (a0_11 - a0_0))), wrap64 ((wrap64 (bt182.1 * 86400)) + (wrap64 (a0_16 - a0_3))), 0)))) = some (r1, r2, r3) := by rw [if_neg (show ¬ (false = true) by decide)] at H; exact H
        clear H
        have H := H1
        clear H1
        replace H := Option.bind_eq_some_iff.mp H
        obtain ⟨⟨t180, t181⟩, A150, H⟩ := H
        replace H : ((rule_Day.f kj2 a1 a0_12 a0_13 a0_14 a0_15 a0_16).bind fun bt182 => (some (wrap64 ((wrap64 (t180 * 86400)) + (wrap64 (a0_11 - a0_0))), wrap64 ((wrap64 (bt182.1 * 86400)) + (wrap64 (a0_16 - a0_3))), 0))) = some (r1, r2, r3) := H
        have A15 := Aside0.mk A150
        clear A150
        replace H := Option.bind_eq_some_iff.mp H
        obtain ⟨⟨t182, t183⟩, A160, H⟩ := H
        replace H : (some (wrap64 ((wrap64 (t180 * 86400)) + (wrap64 (a0_11 - a0_0))), wrap64 ((wrap64 (t182 * 86400)) + (wrap64 (a0_16 - a0_3))), 0)) = some (r1, r2, r3) := H
        have A16 := Aside0.mk A160
        clear A160
        simp only [Option.some.injEq, Prod.mk.injEq] at H
        obtain ⟨rfl, rfl, rfl⟩ := H
        have hcz17_0 : wc.cell? ⟨gb177, 0, none⟩ = some (.int .i64 a0_0) := (blk_cell BK177.out 0).trans rfl
        have hcz17_1 : wc.cell? ⟨gb177, 1, none⟩ = some (.bool a0_1) := (blk_cell BK177.out 1).trans rfl
        have hcz17_2 : wc.cell? ⟨gb177, 2, none⟩ = some (.string a0_2) := (blk_cell BK177.out 2).trans rfl
        have hcz17_3 : wc.cell? ⟨gb177, 3, none⟩ = some (.int .i64 a0_3) := (blk_cell BK177.out 3).trans rfl
        have hcz17_4 : wc.cell? ⟨gb177, 4, none⟩ = some (.bool a0_4) := (blk_cell BK177.out 4).trans rfl
        have hcz17_5 : wc.cell? ⟨gb177, 5, none⟩ = some (.string a0_5) := (blk_cell BK177.out 5).trans rfl
        have hcz17_6 : wc.cell? ⟨gb177, 6, none⟩ = some (.bool a0_6) := (blk_cell BK177.out 6).trans rfl
        have hcz17_7 : wc.cell? ⟨gb177, 7, none⟩ = some (.int .i64 a0_7) := (blk_cell BK177.out 7).trans rfl
        have hcz17_8 : wc.cell? ⟨gb177, 8, none⟩ = some (.int .i64 a0_8) := (blk_cell BK177.out 8).trans rfl
        have hcz17_9 : wc.cell? ⟨gb177, 9, none⟩ = some (.int .i64 a0_9) := (blk_cell BK177.out 9).trans rfl
        have hcz17_10 : wc.cell? ⟨gb177, 10, none⟩ = some (.int .i64 a0_10) := (blk_cell BK177.out 10).trans rfl
        have hcz17_11 : wc.cell? ⟨gb177, 11, none⟩ = some (.int .i64 a0_11) := (blk_cell BK177.out 11).trans rfl
        have hcz17_12 : wc.cell? ⟨gb177, 12, none⟩ = some (.int .i64 a0_12) := (blk_cell BK177.out 12).trans rfl
        have hcz17_13 : wc.cell? ⟨gb177, 13, none⟩ = some (.int .i64 a0_13) := (blk_cell BK177.out 13).trans rfl
        have hcz17_14 : wc.cell? ⟨gb177, 14, none⟩ = some (.int .i64 a0_14) := (blk_cell BK177.out 14).trans rfl
        have hcz17_15 : wc.cell? ⟨gb177, 15, none⟩ = some (.int .i64 a0_15) := (blk_cell BK177.out 15).trans rfl
        have hcz17_16 : wc.cell? ⟨gb177, 16, none⟩ = some (.int .i64 a0_16) := (blk_cell BK177.out 16).trans rfl
        have hfz17_0 := blk_frozen BK177.out 0
        have hfz17_1 := blk_frozen BK177.out 1
        have hfz17_2 := blk_frozen BK177.out 2
        have hfz17_3 := blk_frozen BK177.out 3
        have hfz17_4 := blk_frozen BK177.out 4
        have hfz17_5 := blk_frozen BK177.out 5
        have hfz17_6 := blk_frozen BK177.out 6
        have hfz17_7 := blk_frozen BK177.out 7
        have hfz17_8 := blk_frozen BK177.out 8
        have hfz17_9 := blk_frozen BK177.out 9
        have hfz17_10 := blk_frozen BK177.out 10
        have hfz17_11 := blk_frozen BK177.out 11
        have hfz17_12 := blk_frozen BK177.out 12
        have hfz17_13 := blk_frozen BK177.out 13
        have hfz17_14 := blk_frozen BK177.out 14
        have hfz17_15 := blk_frozen BK177.out 15
        have hfz17_16 := blk_frozen BK177.out 16
        go_wp2_with (first | (go_at_call 12; (with_reducible refine (rule_Day.calls kj2 a1 a0_7 a0_8 a0_9 a0_10 a0_11 t180 t181 _ ?side1 A15.out).mono ?_); (case side1 => exact GL.below HG.out (by repeat (first | (with_reducible first | exact HB.out | apply below_alloc | apply pw_below_drewN | apply below_drew1 | refine below_set ?_ GE177.out) | exact HB.out))); rintro e w18 ⟨rfl, hb⟩; have n0_ := Aside0.mk (blk_below (g := gb177) (o := .cells #[.int .i64 a0_0, .bool a0_1, .string a0_2, .int .i64 a0_3, .bool a0_4, .string a0_5, .bool a0_6, .int .i64 a0_7, .int .i64 a0_8, .int .i64 a0_9, .int .i64 a0_10, .int .i64 a0_11, .int .i64 a0_12, .int .i64 a0_13, .int .i64 a0_14, .int .i64 a0_15, .int .i64 a0_16] 27 (0, 0)) (by (with_reducible repeat (first | refine blk_drewN ?_ _ | refine blk_drew ?_ | refine blk_alloc ?_ _)); exact BK177.out) hb); have n1_ := Aside0.mk (below_step (by repeat (first | (with_reducible first | exact HB.out | apply below_alloc | apply pw_below_drewN | apply below_drew1 | refine below_set ?_ GE177.out) | exact HB.out)) hb); clear BK177; clear HB; have BK177 := n0_; have HB := n1_; clear n0_ n1_; (try clear hb); (try clear hb2); (try clear hk); (try clear hi); have hcz19_0 : w18.cell? ⟨gb177, 0, none⟩ = some (.int .i64 a0_0) := (blk_cell BK177.out 0).trans rfl; have hcz19_1 : w18.cell? ⟨gb177, 1, none⟩ = some (.bool a0_1) := (blk_cell BK177.out 1).trans rfl; have hcz19_2 : w18.cell? ⟨gb177, 2, none⟩ = some (.string a0_2) := (blk_cell BK177.out 2).trans rfl; have hcz19_3 : w18.cell? ⟨gb177, 3, none⟩ = some (.int .i64 a0_3) := (blk_cell BK177.out 3).trans rfl; have hcz19_4 : w18.cell? ⟨gb177, 4, none⟩ = some (.bool a0_4) := (blk_cell BK177.out 4).trans rfl; have hcz19_5 : w18.cell? ⟨gb177, 5, none⟩ = some (.string a0_5) := (blk_cell BK177.out 5).trans rfl; have hcz19_6 : w18.cell? ⟨gb177, 6, none⟩ = some (.bool a0_6) := (blk_cell BK177.out 6).trans rfl; have hcz19_7 : w18.cell? ⟨gb177, 7, none⟩ = some (.int .i64 a0_7) := (blk_cell BK177.out 7).trans rfl; have hcz19_8 : w18.cell? ⟨gb177, 8, none⟩ = some (.int .i64 a0_8) := (blk_cell BK177.out 8).trans rfl; have hcz19_9 : w18.cell? ⟨gb177, 9, none⟩ = some (.int .i64 a0_9) := (blk_cell BK177.out 9).trans rfl; have hcz19_10 : w18.cell? ⟨gb177, 10, none⟩ = some (.int .i64 a0_10) := (blk_cell BK177.out 10).trans rfl; have hcz19_11 : w18.cell? ⟨gb177, 11, none⟩ = some (.int .i64 a0_11) := (blk_cell BK177.out 11).trans rfl; have hcz19_12 : w18.cell? ⟨gb177, 12, none⟩ = some (.int .i64 a0_12) := (blk_cell BK177.out 12).trans rfl; have hcz19_13 : w18.cell? ⟨gb177, 13, none⟩ = some (.int .i64 a0_13) := (blk_cell BK177.out 13).trans rfl; have hcz19_14 : w18.cell? ⟨gb177, 14, none⟩ = some (.int .i64 a0_14) := (blk_cell BK177.out 14).trans rfl; have hcz19_15 : w18.cell? ⟨gb177, 15, none⟩ = some (.int .i64 a0_15) := (blk_cell BK177.out 15).trans rfl; have hcz19_16 : w18.cell? ⟨gb177, 16, none⟩ = some (.int .i64 a0_16) := (blk_cell BK177.out 16).trans rfl; have hfz19_0 := blk_frozen BK177.out 0; have hfz19_1 := blk_frozen BK177.out 1; have hfz19_2 := blk_frozen BK177.out 2; have hfz19_3 := blk_frozen BK177.out 3; have hfz19_4 := blk_frozen BK177.out 4; have hfz19_5 := blk_frozen BK177.out 5; have hfz19_6 := blk_frozen BK177.out 6; have hfz19_7 := blk_frozen BK177.out 7; have hfz19_8 := blk_frozen BK177.out 8; have hfz19_9 := blk_frozen BK177.out 9; have hfz19_10 := blk_frozen BK177.out 10; have hfz19_11 := blk_frozen BK177.out 11; have hfz19_12 := blk_frozen BK177.out 12; have hfz19_13 := blk_frozen BK177.out 13; have hfz19_14 := blk_frozen BK177.out 14; have hfz19_15 := blk_frozen BK177.out 15; have hfz19_16 := blk_frozen BK177.out 16) | (go_at_call 12; (with_reducible refine (rule_Day.calls kj2 a1 a0_12 a0_13 a0_14 a0_15 a0_16 t182 t183 _ ?side1 A16.out).mono ?_); (case side1 => exact GL.below HG.out (by repeat (first | (with_reducible first | exact HB.out | apply below_alloc | apply pw_below_drewN | apply below_drew1 | refine below_set ?_ GE177.out) | exact HB.out))); rintro e w20 ⟨rfl, hb⟩; have n0_ := Aside0.mk (blk_below (g := gb177) (o := .cells #[.int .i64 a0_0, .bool a0_1, .string a0_2, .int .i64 a0_3, .bool a0_4, .string a0_5, .bool a0_6, .int .i64 a0_7, .int .i64 a0_8, .int .i64 a0_9, .int .i64 a0_10, .int .i64 a0_11, .int .i64 a0_12, .int .i64 a0_13, .int .i64 a0_14, .int .i64 a0_15, .int .i64 a0_16] 27 (0, 0)) (by (with_reducible repeat (first | refine blk_drewN ?_ _ | refine blk_drew ?_ | refine blk_alloc ?_ _)); exact BK177.out) hb); have n1_ := Aside0.mk (below_step (by repeat (first | (with_reducible first | exact HB.out | apply below_alloc | apply pw_below_drewN | apply below_drew1 | refine below_set ?_ GE177.out) | exact HB.out)) hb); clear BK177; clear HB; have BK177 := n0_; have HB := n1_; clear n0_ n1_; (try clear hb); (try clear hb2); (try clear hk); (try clear hi); have hcz21_0 : w20.cell? ⟨gb177, 0, none⟩ = some (.int .i64 a0_0) := (blk_cell BK177.out 0).trans rfl; have hcz21_1 : w20.cell? ⟨gb177, 1, none⟩ = some (.bool a0_1) := (blk_cell BK177.out 1).trans rfl; have hcz21_2 : w20.cell? ⟨gb177, 2, none⟩ = some (.string a0_2) := (blk_cell BK177.out 2).trans rfl; have hcz21_3 : w20.cell? ⟨gb177, 3, none⟩ = some (.int .i64 a0_3) := (blk_cell BK177.out 3).trans rfl; have hcz21_4 : w20.cell? ⟨gb177, 4, none⟩ = some (.bool a0_4) := (blk_cell BK177.out 4).trans rfl; have hcz21_5 : w20.cell? ⟨gb177, 5, none⟩ = some (.string a0_5) := (blk_cell BK177.out 5).trans rfl; have hcz21_6 : w20.cell? ⟨gb177, 6, none⟩ = some (.bool a0_6) := (blk_cell BK177.out 6).trans rfl; have hcz21_7 : w20.cell? ⟨gb177, 7, none⟩ = some (.int .i64 a0_7) := (blk_cell BK177.out 7).trans rfl; have hcz21_8 : w20.cell? ⟨gb177, 8, none⟩ = some (.int .i64 a0_8) := (blk_cell BK177.out 8).trans rfl; have hcz21_9 : w20.cell? ⟨gb177, 9, none⟩ = some (.int .i64 a0_9) := (blk_cell BK177.out 9).trans rfl; have hcz21_10 : w20.cell? ⟨gb177, 10, none⟩ = some (.int .i64 a0_10) := (blk_cell BK177.out 10).trans rfl; have hcz21_11 : w20.cell? ⟨gb177, 11, none⟩ = some (.int .i64 a0_11) := (blk_cell BK177.out 11).trans rfl; have hcz21_12 : w20.cell? ⟨gb177, 12, none⟩ = some (.int .i64 a0_12) := (blk_cell BK177.out 12).trans rfl; have hcz21_13 : w20.cell? ⟨gb177, 13, none⟩ = some (.int .i64 a0_13) := (blk_cell BK177.out 13).trans rfl; have hcz21_14 : w20.cell? ⟨gb177, 14, none⟩ = some (.int .i64 a0_14) := (blk_cell BK177.out 14).trans rfl; have hcz21_15 : w20.cell? ⟨gb177, 15, none⟩ = some (.int .i64 a0_15) := (blk_cell BK177.out 15).trans rfl; have hcz21_16 : w20.cell? ⟨gb177, 16, none⟩ = some (.int .i64 a0_16) := (blk_cell BK177.out 16).trans rfl; have hfz21_0 := blk_frozen BK177.out 0; have hfz21_1 := blk_frozen BK177.out 1; have hfz21_2 := blk_frozen BK177.out 2; have hfz21_3 := blk_frozen BK177.out 3; have hfz21_4 := blk_frozen BK177.out 4; have hfz21_5 := blk_frozen BK177.out 5; have hfz21_6 := blk_frozen BK177.out 6; have hfz21_7 := blk_frozen BK177.out 7; have hfz21_8 := blk_frozen BK177.out 8; have hfz21_9 := blk_frozen BK177.out 9; have hfz21_10 := blk_frozen BK177.out 10; have hfz21_11 := blk_frozen BK177.out 11; have hfz21_12 := blk_frozen BK177.out 12; have hfz21_13 := blk_frozen BK177.out 13; have hfz21_14 := blk_frozen BK177.out 14; have hfz21_15 := blk_frozen BK177.out 15; have hfz21_16 := blk_frozen BK177.out 16))
        repeat (go_quiet (first | (go_at_call 12; (with_reducible refine (rule_Day.calls kj2 a1 a0_7 a0_8 a0_9 a0_10 a0_11 t180 t181 _ ?side1 A15.out).mono ?_); (case side1 => exact GL.below HG.out (by repeat (first | (with_reducible first | exact HB.out | apply below_alloc | apply pw_below_drewN | apply below_drew1 | refine below_set ?_ GE177.out) | exact HB.out))); rintro e w18 ⟨rfl, hb⟩; have n0_ := Aside0.mk (blk_below (g := gb177) (o := .cells #[.int .i64 a0_0, .bool a0_1, .string a0_2, .int .i64 a0_3, .bool a0_4, .string a0_5, .bool a0_6, .int .i64 a0_7, .int .i64 a0_8, .int .i64 a0_9, .int .i64 a0_10, .int .i64 a0_11, .int .i64 a0_12, .int .i64 a0_13, .int .i64 a0_14, .int .i64 a0_15, .int .i64 a0_16] 27 (0, 0)) (by (with_reducible repeat (first | refine blk_drewN ?_ _ | refine blk_drew ?_ | refine blk_alloc ?_ _)); exact BK177.out) hb); have n1_ := Aside0.mk (below_step (by repeat (first | (with_reducible first | exact HB.out | apply below_alloc | apply pw_below_drewN | apply below_drew1 | refine below_set ?_ GE177.out) | exact HB.out)) hb); clear BK177; clear HB; have BK177 := n0_; have HB := n1_; clear n0_ n1_; (try clear hb); (try clear hb2); (try clear hk); (try clear hi); have hcz19_0 : w18.cell? ⟨gb177, 0, none⟩ = some (.int .i64 a0_0) := (blk_cell BK177.out 0).trans rfl; have hcz19_1 : w18.cell? ⟨gb177, 1, none⟩ = some (.bool a0_1) := (blk_cell BK177.out 1).trans rfl; have hcz19_2 : w18.cell? ⟨gb177, 2, none⟩ = some (.string a0_2) := (blk_cell BK177.out 2).trans rfl; have hcz19_3 : w18.cell? ⟨gb177, 3, none⟩ = some (.int .i64 a0_3) := (blk_cell BK177.out 3).trans rfl; have hcz19_4 : w18.cell? ⟨gb177, 4, none⟩ = some (.bool a0_4) := (blk_cell BK177.out 4).trans rfl; have hcz19_5 : w18.cell? ⟨gb177, 5, none⟩ = some (.string a0_5) := (blk_cell BK177.out 5).trans rfl; have hcz19_6 : w18.cell? ⟨gb177, 6, none⟩ = some (.bool a0_6) := (blk_cell BK177.out 6).trans rfl; have hcz19_7 : w18.cell? ⟨gb177, 7, none⟩ = some (.int .i64 a0_7) := (blk_cell BK177.out 7).trans rfl; have hcz19_8 : w18.cell? ⟨gb177, 8, none⟩ = some (.int .i64 a0_8) := (blk_cell BK177.out 8).trans rfl; have hcz19_9 : w18.cell? ⟨gb177, 9, none⟩ = some (.int .i64 a0_9) := (blk_cell BK177.out 9).trans rfl; have hcz19_10 : w18.cell? ⟨gb177, 10, none⟩ = some (.int .i64 a0_10) := (blk_cell BK177.out 10).trans rfl; have hcz19_11 : w18.cell? ⟨gb177, 11, none⟩ = some (.int .i64 a0_11) := (blk_cell BK177.out 11).trans rfl; have hcz19_12 : w18.cell? ⟨gb177, 12, none⟩ = some (.int .i64 a0_12) := (blk_cell BK177.out 12).trans rfl; have hcz19_13 : w18.cell? ⟨gb177, 13, none⟩ = some (.int .i64 a0_13) := (blk_cell BK177.out 13).trans rfl; have hcz19_14 : w18.cell? ⟨gb177, 14, none⟩ = some (.int .i64 a0_14) := (blk_cell BK177.out 14).trans rfl; have hcz19_15 : w18.cell? ⟨gb177, 15, none⟩ = some (.int .i64 a0_15) := (blk_cell BK177.out 15).trans rfl; have hcz19_16 : w18.cell? ⟨gb177, 16, none⟩ = some (.int .i64 a0_16) := (blk_cell BK177.out 16).trans rfl; have hfz19_0 := blk_frozen BK177.out 0; have hfz19_1 := blk_frozen BK177.out 1; have hfz19_2 := blk_frozen BK177.out 2; have hfz19_3 := blk_frozen BK177.out 3; have hfz19_4 := blk_frozen BK177.out 4; have hfz19_5 := blk_frozen BK177.out 5; have hfz19_6 := blk_frozen BK177.out 6; have hfz19_7 := blk_frozen BK177.out 7; have hfz19_8 := blk_frozen BK177.out 8; have hfz19_9 := blk_frozen BK177.out 9; have hfz19_10 := blk_frozen BK177.out 10; have hfz19_11 := blk_frozen BK177.out 11; have hfz19_12 := blk_frozen BK177.out 12; have hfz19_13 := blk_frozen BK177.out 13; have hfz19_14 := blk_frozen BK177.out 14; have hfz19_15 := blk_frozen BK177.out 15; have hfz19_16 := blk_frozen BK177.out 16) | (go_at_call 12; (with_reducible refine (rule_Day.calls kj2 a1 a0_12 a0_13 a0_14 a0_15 a0_16 t182 t183 _ ?side1 A16.out).mono ?_); (case side1 => exact GL.below HG.out (by repeat (first | (with_reducible first | exact HB.out | apply below_alloc | apply pw_below_drewN | apply below_drew1 | refine below_set ?_ GE177.out) | exact HB.out))); rintro e w20 ⟨rfl, hb⟩; have n0_ := Aside0.mk (blk_below (g := gb177) (o := .cells #[.int .i64 a0_0, .bool a0_1, .string a0_2, .int .i64 a0_3, .bool a0_4, .string a0_5, .bool a0_6, .int .i64 a0_7, .int .i64 a0_8, .int .i64 a0_9, .int .i64 a0_10, .int .i64 a0_11, .int .i64 a0_12, .int .i64 a0_13, .int .i64 a0_14, .int .i64 a0_15, .int .i64 a0_16] 27 (0, 0)) (by (with_reducible repeat (first | refine blk_drewN ?_ _ | refine blk_drew ?_ | refine blk_alloc ?_ _)); exact BK177.out) hb); have n1_ := Aside0.mk (below_step (by repeat (first | (with_reducible first | exact HB.out | apply below_alloc | apply pw_below_drewN | apply below_drew1 | refine below_set ?_ GE177.out) | exact HB.out)) hb); clear BK177; clear HB; have BK177 := n0_; have HB := n1_; clear n0_ n1_; (try clear hb); (try clear hb2); (try clear hk); (try clear hi); have hcz21_0 : w20.cell? ⟨gb177, 0, none⟩ = some (.int .i64 a0_0) := (blk_cell BK177.out 0).trans rfl; have hcz21_1 : w20.cell? ⟨gb177, 1, none⟩ = some (.bool a0_1) := (blk_cell BK177.out 1).trans rfl; have hcz21_2 : w20.cell? ⟨gb177, 2, none⟩ = some (.string a0_2) := (blk_cell BK177.out 2).trans rfl; have hcz21_3 : w20.cell? ⟨gb177, 3, none⟩ = some (.int .i64 a0_3) := (blk_cell BK177.out 3).trans rfl; have hcz21_4 : w20.cell? ⟨gb177, 4, none⟩ = some (.bool a0_4) := (blk_cell BK177.out 4).trans rfl; have hcz21_5 : w20.cell? ⟨gb177, 5, none⟩ = some (.string a0_5) := (blk_cell BK177.out 5).trans rfl; have hcz21_6 : w20.cell? ⟨gb177, 6, none⟩ = some (.bool a0_6) := (blk_cell BK177.out 6).trans rfl; have hcz21_7 : w20.cell? ⟨gb177, 7, none⟩ = some (.int .i64 a0_7) := (blk_cell BK177.out 7).trans rfl; have hcz21_8 : w20.cell? ⟨gb177, 8, none⟩ = some (.int .i64 a0_8) := (blk_cell BK177.out 8).trans rfl; have hcz21_9 : w20.cell? ⟨gb177, 9, none⟩ = some (.int .i64 a0_9) := (blk_cell BK177.out 9).trans rfl; have hcz21_10 : w20.cell? ⟨gb177, 10, none⟩ = some (.int .i64 a0_10) := (blk_cell BK177.out 10).trans rfl; have hcz21_11 : w20.cell? ⟨gb177, 11, none⟩ = some (.int .i64 a0_11) := (blk_cell BK177.out 11).trans rfl; have hcz21_12 : w20.cell? ⟨gb177, 12, none⟩ = some (.int .i64 a0_12) := (blk_cell BK177.out 12).trans rfl; have hcz21_13 : w20.cell? ⟨gb177, 13, none⟩ = some (.int .i64 a0_13) := (blk_cell BK177.out 13).trans rfl; have hcz21_14 : w20.cell? ⟨gb177, 14, none⟩ = some (.int .i64 a0_14) := (blk_cell BK177.out 14).trans rfl; have hcz21_15 : w20.cell? ⟨gb177, 15, none⟩ = some (.int .i64 a0_15) := (blk_cell BK177.out 15).trans rfl; have hcz21_16 : w20.cell? ⟨gb177, 16, none⟩ = some (.int .i64 a0_16) := (blk_cell BK177.out 16).trans rfl; have hfz21_0 := blk_frozen BK177.out 0; have hfz21_1 := blk_frozen BK177.out 1; have hfz21_2 := blk_frozen BK177.out 2; have hfz21_3 := blk_frozen BK177.out 3; have hfz21_4 := blk_frozen BK177.out 4; have hfz21_5 := blk_frozen BK177.out 5; have hfz21_6 := blk_frozen BK177.out 6; have hfz21_7 := blk_frozen BK177.out 7; have hfz21_8 := blk_frozen BK177.out 8; have hfz21_9 := blk_frozen BK177.out 9; have hfz21_10 := blk_frozen BK177.out 10; have hfz21_11 := blk_frozen BK177.out 11; have hfz21_12 := blk_frozen BK177.out 12; have hfz21_13 := blk_frozen BK177.out 13; have hfz21_14 := blk_frozen BK177.out 14; have hfz21_15 := blk_frozen BK177.out 15; have hfz21_16 := blk_frozen BK177.out 16)); try go_wp2_with (first | (go_at_call 12; (with_reducible refine (rule_Day.calls kj2 a1 a0_7 a0_8 a0_9 a0_10 a0_11 t180 t181 _ ?side1 A15.out).mono ?_); (case side1 => exact GL.below HG.out (by repeat (first | (with_reducible first | exact HB.out | apply below_alloc | apply pw_below_drewN | apply below_drew1 | refine below_set ?_ GE177.out) | exact HB.out))); rintro e w18 ⟨rfl, hb⟩; have n0_ := Aside0.mk (blk_below (g := gb177) (o := .cells #[.int .i64 a0_0, .bool a0_1, .string a0_2, .int .i64 a0_3, .bool a0_4, .string a0_5, .bool a0_6, .int .i64 a0_7, .int .i64 a0_8, .int .i64 a0_9, .int .i64 a0_10, .int .i64 a0_11, .int .i64 a0_12, .int .i64 a0_13, .int .i64 a0_14, .int .i64 a0_15, .int .i64 a0_16] 27 (0, 0)) (by (with_reducible repeat (first | refine blk_drewN ?_ _ | refine blk_drew ?_ | refine blk_alloc ?_ _)); exact BK177.out) hb); have n1_ := Aside0.mk (below_step (by repeat (first | (with_reducible first | exact HB.out | apply below_alloc | apply pw_below_drewN | apply below_drew1 | refine below_set ?_ GE177.out) | exact HB.out)) hb); clear BK177; clear HB; have BK177 := n0_; have HB := n1_; clear n0_ n1_; (try clear hb); (try clear hb2); (try clear hk); (try clear hi); have hcz19_0 : w18.cell? ⟨gb177, 0, none⟩ = some (.int .i64 a0_0) := (blk_cell BK177.out 0).trans rfl; have hcz19_1 : w18.cell? ⟨gb177, 1, none⟩ = some (.bool a0_1) := (blk_cell BK177.out 1).trans rfl; have hcz19_2 : w18.cell? ⟨gb177, 2, none⟩ = some (.string a0_2) := (blk_cell BK177.out 2).trans rfl; have hcz19_3 : w18.cell? ⟨gb177, 3, none⟩ = some (.int .i64 a0_3) := (blk_cell BK177.out 3).trans rfl; have hcz19_4 : w18.cell? ⟨gb177, 4, none⟩ = some (.bool a0_4) := (blk_cell BK177.out 4).trans rfl; have hcz19_5 : w18.cell? ⟨gb177, 5, none⟩ = some (.string a0_5) := (blk_cell BK177.out 5).trans rfl; have hcz19_6 : w18.cell? ⟨gb177, 6, none⟩ = some (.bool a0_6) := (blk_cell BK177.out 6).trans rfl; have hcz19_7 : w18.cell? ⟨gb177, 7, none⟩ = some (.int .i64 a0_7) := (blk_cell BK177.out 7).trans rfl; have hcz19_8 : w18.cell? ⟨gb177, 8, none⟩ = some (.int .i64 a0_8) := (blk_cell BK177.out 8).trans rfl; have hcz19_9 : w18.cell? ⟨gb177, 9, none⟩ = some (.int .i64 a0_9) := (blk_cell BK177.out 9).trans rfl; have hcz19_10 : w18.cell? ⟨gb177, 10, none⟩ = some (.int .i64 a0_10) := (blk_cell BK177.out 10).trans rfl; have hcz19_11 : w18.cell? ⟨gb177, 11, none⟩ = some (.int .i64 a0_11) := (blk_cell BK177.out 11).trans rfl; have hcz19_12 : w18.cell? ⟨gb177, 12, none⟩ = some (.int .i64 a0_12) := (blk_cell BK177.out 12).trans rfl; have hcz19_13 : w18.cell? ⟨gb177, 13, none⟩ = some (.int .i64 a0_13) := (blk_cell BK177.out 13).trans rfl; have hcz19_14 : w18.cell? ⟨gb177, 14, none⟩ = some (.int .i64 a0_14) := (blk_cell BK177.out 14).trans rfl; have hcz19_15 : w18.cell? ⟨gb177, 15, none⟩ = some (.int .i64 a0_15) := (blk_cell BK177.out 15).trans rfl; have hcz19_16 : w18.cell? ⟨gb177, 16, none⟩ = some (.int .i64 a0_16) := (blk_cell BK177.out 16).trans rfl; have hfz19_0 := blk_frozen BK177.out 0; have hfz19_1 := blk_frozen BK177.out 1; have hfz19_2 := blk_frozen BK177.out 2; have hfz19_3 := blk_frozen BK177.out 3; have hfz19_4 := blk_frozen BK177.out 4; have hfz19_5 := blk_frozen BK177.out 5; have hfz19_6 := blk_frozen BK177.out 6; have hfz19_7 := blk_frozen BK177.out 7; have hfz19_8 := blk_frozen BK177.out 8; have hfz19_9 := blk_frozen BK177.out 9; have hfz19_10 := blk_frozen BK177.out 10; have hfz19_11 := blk_frozen BK177.out 11; have hfz19_12 := blk_frozen BK177.out 12; have hfz19_13 := blk_frozen BK177.out 13; have hfz19_14 := blk_frozen BK177.out 14; have hfz19_15 := blk_frozen BK177.out 15; have hfz19_16 := blk_frozen BK177.out 16) | (go_at_call 12; (with_reducible refine (rule_Day.calls kj2 a1 a0_12 a0_13 a0_14 a0_15 a0_16 t182 t183 _ ?side1 A16.out).mono ?_); (case side1 => exact GL.below HG.out (by repeat (first | (with_reducible first | exact HB.out | apply below_alloc | apply pw_below_drewN | apply below_drew1 | refine below_set ?_ GE177.out) | exact HB.out))); rintro e w20 ⟨rfl, hb⟩; have n0_ := Aside0.mk (blk_below (g := gb177) (o := .cells #[.int .i64 a0_0, .bool a0_1, .string a0_2, .int .i64 a0_3, .bool a0_4, .string a0_5, .bool a0_6, .int .i64 a0_7, .int .i64 a0_8, .int .i64 a0_9, .int .i64 a0_10, .int .i64 a0_11, .int .i64 a0_12, .int .i64 a0_13, .int .i64 a0_14, .int .i64 a0_15, .int .i64 a0_16] 27 (0, 0)) (by (with_reducible repeat (first | refine blk_drewN ?_ _ | refine blk_drew ?_ | refine blk_alloc ?_ _)); exact BK177.out) hb); have n1_ := Aside0.mk (below_step (by repeat (first | (with_reducible first | exact HB.out | apply below_alloc | apply pw_below_drewN | apply below_drew1 | refine below_set ?_ GE177.out) | exact HB.out)) hb); clear BK177; clear HB; have BK177 := n0_; have HB := n1_; clear n0_ n1_; (try clear hb); (try clear hb2); (try clear hk); (try clear hi); have hcz21_0 : w20.cell? ⟨gb177, 0, none⟩ = some (.int .i64 a0_0) := (blk_cell BK177.out 0).trans rfl; have hcz21_1 : w20.cell? ⟨gb177, 1, none⟩ = some (.bool a0_1) := (blk_cell BK177.out 1).trans rfl; have hcz21_2 : w20.cell? ⟨gb177, 2, none⟩ = some (.string a0_2) := (blk_cell BK177.out 2).trans rfl; have hcz21_3 : w20.cell? ⟨gb177, 3, none⟩ = some (.int .i64 a0_3) := (blk_cell BK177.out 3).trans rfl; have hcz21_4 : w20.cell? ⟨gb177, 4, none⟩ = some (.bool a0_4) := (blk_cell BK177.out 4).trans rfl; have hcz21_5 : w20.cell? ⟨gb177, 5, none⟩ = some (.string a0_5) := (blk_cell BK177.out 5).trans rfl; have hcz21_6 : w20.cell? ⟨gb177, 6, none⟩ = some (.bool a0_6) := (blk_cell BK177.out 6).trans rfl; have hcz21_7 : w20.cell? ⟨gb177, 7, none⟩ = some (.int .i64 a0_7) := (blk_cell BK177.out 7).trans rfl; have hcz21_8 : w20.cell? ⟨gb177, 8, none⟩ = some (.int .i64 a0_8) := (blk_cell BK177.out 8).trans rfl; have hcz21_9 : w20.cell? ⟨gb177, 9, none⟩ = some (.int .i64 a0_9) := (blk_cell BK177.out 9).trans rfl; have hcz21_10 : w20.cell? ⟨gb177, 10, none⟩ = some (.int .i64 a0_10) := (blk_cell BK177.out 10).trans rfl; have hcz21_11 : w20.cell? ⟨gb177, 11, none⟩ = some (.int .i64 a0_11) := (blk_cell BK177.out 11).trans rfl; have hcz21_12 : w20.cell? ⟨gb177, 12, none⟩ = some (.int .i64 a0_12) := (blk_cell BK177.out 12).trans rfl; have hcz21_13 : w20.cell? ⟨gb177, 13, none⟩ = some (.int .i64 a0_13) := (blk_cell BK177.out 13).trans rfl; have hcz21_14 : w20.cell? ⟨gb177, 14, none⟩ = some (.int .i64 a0_14) := (blk_cell BK177.out 14).trans rfl; have hcz21_15 : w20.cell? ⟨gb177, 15, none⟩ = some (.int .i64 a0_15) := (blk_cell BK177.out 15).trans rfl; have hcz21_16 : w20.cell? ⟨gb177, 16, none⟩ = some (.int .i64 a0_16) := (blk_cell BK177.out 16).trans rfl; have hfz21_0 := blk_frozen BK177.out 0; have hfz21_1 := blk_frozen BK177.out 1; have hfz21_2 := blk_frozen BK177.out 2; have hfz21_3 := blk_frozen BK177.out 3; have hfz21_4 := blk_frozen BK177.out 4; have hfz21_5 := blk_frozen BK177.out 5; have hfz21_6 := blk_frozen BK177.out 6; have hfz21_7 := blk_frozen BK177.out 7; have hfz21_8 := blk_frozen BK177.out 8; have hfz21_9 := blk_frozen BK177.out 9; have hfz21_10 := blk_frozen BK177.out 10; have hfz21_11 := blk_frozen BK177.out 11; have hfz21_12 := blk_frozen BK177.out 12; have hfz21_13 := blk_frozen BK177.out 13; have hfz21_14 := blk_frozen BK177.out 14; have hfz21_15 := blk_frozen BK177.out 15; have hfz21_16 := blk_frozen BK177.out 16)))
        go_ret3
        exact ⟨by first | rfl | (simp [errW_none, errW_some] <;> rfl) | (simp [*, errW_none, errW_some] <;> rfl), by repeat (first | (with_reducible first | exact HB.out | apply below_alloc | apply pw_below_drewN | apply below_drew1 | refine below_set ?_ GE177.out) | exact HB.out)⟩

end Go.Proofs.YtgbehcahdgamoaaDoor.Fn

namespace Go.Proofs.YtgbehcahdgamoaaDoor.Fn
open Go.RowKit Go.Proofs.YtgbehcahdgamoaaDoorW.PrintWords Go.Proofs.YtgbehcahdgamoaaDoorW.PrintLast Go.Proofs.YtgbehcahdgamoaaDoorW.PrintMore

def inB (n lo hi : Int) : Bool := decide (lo ≤ n) && decide (n ≤ hi)
theorem within_eq (n lo hi : Int) : posix_within.f n lo hi = some (inB n lo hi) := by
  unfold posix_within.f inB
  by_cases h : n ≥ lo
  · rw [if_pos h]; simp; omega
  · rw [if_neg h]; simp; omega
/-- A change's day may be. -/
def dateB (c0 : Int) (c1 : Int) (c2 : Int) (c3 : Int) (_c4 : Int) : Bool :=
  if c0 = 1 then (c2 == 0 && c3 == 0) && inB c1 1 365 else if c0 = 2 then (c2 == 0 && c3 == 0) && inB c1 0 365 else if c0 = 3 then inB c1 1 12 && (inB c2 1 5 && inB c3 0 6) else false
/-- A change may be. -/
def chgB (c0 : Int) (c1 : Int) (c2 : Int) (c3 : Int) (c4 : Int) (wide : Bool) : Bool := (inB c4 0 89999 || (wide && inB c4 (-604799) 604799)) && dateB c0 c1 c2 c3 c4

theorem changes_j1 (k : Nat) (c0 : Int) (c1 : Int) (c2 : Int) (c3 : Int) (c4 : Int) : posix_changes.j1 (k + 1) (c2 == 0 && c3 == 0) c0 c1 c2 c3 c4 = some (dateB c0 c1 c2 c3 c4) := by
  simp only [posix_changes.j1, within_eq, Option.bind_some]
  unfold dateB
  split
  · cases (c2 == 0 && c3 == 0) <;> simp
  · split
    · cases (c2 == 0 && c3 == 0) <;> simp
    · split
      · cases inB c1 1 12 <;> cases inB c2 1 5 <;> simp
      · rfl
theorem changes_j0 (k : Nat) (c0 : Int) (c1 : Int) (c2 : Int) (c3 : Int) (c4 : Int) (b : Bool) : posix_changes.j0 (k + 2) b c0 c1 c2 c3 c4 = some (!b && dateB c0 c1 c2 c3 c4) := by
  have h := changes_j1 k c0 c1 c2 c3 c4
  rw [posix_changes.j0]
  cases b
  · rw [if_neg (by decide)]
    by_cases h2 : c2 = 0
    · rw [if_pos h2]
      simp only [h2, beq_self_eq_true, Bool.true_and] at h ⊢
      rw [h]
      rfl
    · rw [if_neg h2]
      have e : (c2 == 0 && c3 == 0) = false := by simp [h2]
      rw [e] at h
      rw [h]
      rfl
  · rfl
theorem changes_eq (k : Nat) (c0 : Int) (c1 : Int) (c2 : Int) (c3 : Int) (c4 : Int) (wide : Bool) : posix_changes.f (k + 2) c0 c1 c2 c3 c4 wide = some (chgB c0 c1 c2 c3 c4 wide) := by
  unfold posix_changes.f chgB
  rw [within_eq, within_eq]
  simp only [Option.bind_some, changes_j0]
  cases inB c4 0 89999 <;> cases wide <;> simp

/-- A rule is right. -/
def rightB (s0 : Int) (s1 : Bool) (s2 : ByteArray) (d0 : Int) (d1 : Bool) (d2 : ByteArray) (bo : Bool) (a0 : Int) (a1 : Int) (a2 : Int) (a3 : Int) (a4 : Int) (e0 : Int) (e1 : Int) (e2 : Int) (e3 : Int) (e4 : Int) (wide : Bool) : Bool :=
  !s1 && (namedB s2 && (inB s0 (-89999) 89999 && (if bo = true then d1 && (namedB d2 && (inB d0 (-89999) 89999 && (chgB a0 a1 a2 a3 a4 wide && chgB e0 e1 e2 e3 e4 wide)))
    else ((d0 == 0 && (!d1 && (d2.toList.isEmpty))) && ((a0 == 0 && (a1 == 0 && (a2 == 0 && (a3 == 0 && (a4 == 0))))) && ((e0 == 0 && (e1 == 0 && (e2 == 0 && (e3 == 0 && (e4 == 0)))))))))))
theorem right_j0 (k : Nat) (s0 : Int) (s1 : Bool) (s2 : ByteArray) (d0 : Int) (d1 : Bool) (d2 : ByteArray) (bo : Bool) (a0 : Int) (a1 : Int) (a2 : Int) (a3 : Int) (a4 : Int) (e0 : Int) (e1 : Int) (e2 : Int) (e3 : Int) (e4 : Int) (wide b : Bool) : posix_Right.j0 (k + 3) wide b s0 s1 s2 d0 d1 d2 bo a0 a1 a2 a3 a4 e0 e1 e2 e3 e4 = some (!b && (if bo = true then d1 && (namedB d2 && (inB d0 (-89999) 89999 && (chgB a0 a1 a2 a3 a4 wide && chgB e0 e1 e2 e3 e4 wide)))
    else ((d0 == 0 && (!d1 && (d2.toList.isEmpty))) && ((a0 == 0 && (a1 == 0 && (a2 == 0 && (a3 == 0 && (a4 == 0))))) && ((e0 == 0 && (e1 == 0 && (e2 == 0 && (e3 == 0 && (e4 == 0))))))))) ) := by
  rw [posix_Right.j0]
  simp only [posix_named.f, within_eq, changes_eq, Option.bind_some]
  cases b
  · cases bo
    · simp
    · cases d1 <;> cases namedB d2 <;> cases inB d0 (-89999) 89999 <;> cases chgB a0 a1 a2 a3 a4 wide <;> simp
  · rfl
theorem rightR_eq (k : Nat) (s0 : Int) (s1 : Bool) (s2 : ByteArray) (d0 : Int) (d1 : Bool) (d2 : ByteArray) (bo : Bool) (a0 : Int) (a1 : Int) (a2 : Int) (a3 : Int) (a4 : Int) (e0 : Int) (e1 : Int) (e2 : Int) (e3 : Int) (e4 : Int) (wide : Bool) : posix_Right.f (k + 3) s0 s1 s2 d0 d1 d2 bo a0 a1 a2 a3 a4 e0 e1 e2 e3 e4 wide = some (rightB s0 s1 s2 d0 d1 d2 bo a0 a1 a2 a3 a4 e0 e1 e2 e3 e4 wide) := by
  unfold posix_Right.f rightB
  simp only [posix_named.f, within_eq, right_j0, Option.bind_some]
  cases s1 <;> cases namedB s2 <;> cases inB s0 (-89999) 89999 <;> simp

theorem rmay_eq (y : Int) : rule_may.f y = some (mayB y) := by
  unfold rule_may.f mayB
  by_cases h : y ≥ -2147483648
  · rw [if_pos h]; simp; omega
  · rw [if_neg h]; simp; omega
theorem probe_right (c0 : Int) (c1 : Int) (c2 : Int) (c3 : Int) (c4 : Int) : rightB 0 false ⟨#[65, 65, 65]⟩ 0 true ⟨#[66, 66, 66]⟩ true c0 c1 c2 c3 c4 c0 c1 c2 c3 c4 true = chgB c0 c1 c2 c3 c4 true := by
  unfold rightB
  rw [show namedB ⟨#[65, 65, 65]⟩ = true by decide +kernel, show namedB ⟨#[66, 66, 66]⟩ = true by decide +kernel]
  simp [inB]

/-- The day that a change tells. -/
def dayN (y c0 c1 c2 c3 : Int) : Int :=
  if c0 = 1 then daysN y 1 1 + (c1 - 1) + (if leapB y = true ∧ 59 ≤ c1 - 1 then 1 else 0)
  else if c0 = 2 then daysN y 1 1 + c1
  else daysN y c1 1 + ((c3 - weekN (daysN y c1 1) + 7) % 7 + 7 * (c2 - 1)) - (if lenN y c1 ≤ (c3 - weekN (daysN y c1 1) + 7) % 7 + 7 * (c2 - 1) then 7 else 0)

theorem daysN_size (y m d : Int) (hy : mayB y = true) (hm : 1 ≤ m ∧ m ≤ 12) (hd : 0 ≤ d ∧ d ≤ 400) : -800000000000 ≤ daysN y m d ∧ daysN y m d ≤ 800000000000 := by
  unfold mayB at hy
  simp only [Bool.and_eq_true, decide_eq_true_eq] at hy
  unfold daysN yM mM
  by_cases h : m < 3
  · rw [if_pos h, if_pos h]; omega
  · rw [if_neg h, if_neg h]; omega
theorem weekN_range (n : Int) : 0 ≤ weekN n ∧ weekN n ≤ 6 := by unfold weekN; omega
theorem right_first (y m : Int) (hy : mayB y = true) (hm : 1 ≤ m ∧ m ≤ 12) : rightN y m 1 = true := by
  have := lenN_pos y m hm.1 hm.2
  unfold rightN
  rw [hy]
  simp
  omega

theorem day_j0 (k : Nat) (y : Int) (b : Bool) (c0 : Int) (c1 : Int) (c2 : Int) (c3 : Int) (c4 : Int) (hb : b = !(mayB y && chgB c0 c1 c2 c3 c4 true)) : rule_Day.j0 (k + 1) y b c0 c1 c2 c3 c4 = some (if b = true then (0, 1) else (dayN y c0 c1 c2 c3, 0)) := by
  rw [rule_Day.j0]
  cases b
  · rw [if_neg (by decide), if_neg (by decide)]
    have hh : mayB y = true ∧ chgB c0 c1 c2 c3 c4 true = true := by simpa using hb.symm
    obtain ⟨hy, hc⟩ := hh
    have hD : dateB c0 c1 c2 c3 c4 = true := by unfold chgB at hc; simp only [Bool.and_eq_true] at hc; exact hc.2
    rw [days_eq, if_pos (right_first y 1 hy (by omega))]
    have hs := daysN_size y 1 1 hy (by omega) (by omega)
    simp only [Option.bind_some, leap_eq]
    unfold dateB at hD
    unfold dayN
    by_cases h1 : c0 = 1
    · rw [if_pos h1] at hD
      rw [if_pos h1, if_pos h1]
      simp only [inB, Bool.and_eq_true, decide_eq_true_eq] at hD
      rw [w64 (a := c1 - 1) ⟨by omega, by omega⟩]
      cases hl : leapB y
      · rw [if_neg (by decide), w64 (a := daysN y 1 1 + (c1 - 1)) ⟨by omega, by omega⟩]
        simp
      · rw [if_pos rfl]
        by_cases h59 : c1 - 1 ≥ 59
        · rw [if_pos h59, w64 (a := c1 - 1 + 1) ⟨by omega, by omega⟩, w64 (a := daysN y 1 1 + (c1 - 1 + 1)) ⟨by omega, by omega⟩, if_pos ⟨rfl, by omega⟩]
          congr 2
          omega
        · rw [if_neg h59, w64 (a := daysN y 1 1 + (c1 - 1)) ⟨by omega, by omega⟩, if_neg (by omega)]
          simp
    · rw [if_neg h1] at hD
      rw [if_neg h1, if_neg h1]
      by_cases h2 : c0 = 2
      · rw [if_pos h2] at hD
        rw [if_pos h2, if_pos h2]
        simp only [inB, Bool.and_eq_true, decide_eq_true_eq] at hD
        rw [w64 (a := daysN y 1 1 + c1) ⟨by omega, by omega⟩]
      · rw [if_neg h2] at hD
        rw [if_neg h2, if_neg h2]
        by_cases h3 : c0 = 3
        · rw [if_pos h3] at hD
          simp only [inB, Bool.and_eq_true, decide_eq_true_eq] at hD
          have hm : 1 ≤ c1 ∧ c1 ≤ 12 := by omega
          have hs2 := daysN_size y c1 1 hy hm (by omega)
          rw [days_eq, if_pos (right_first y c1 hy hm)]
          simp only [Option.bind_some]
          rw [weekday_eq _ ⟨by omega, by omega⟩, length_eq]
          simp only [Option.bind_some]
          have hw := weekN_range (daysN y c1 1)
          generalize weekN (daysN y c1 1) = wk at hw
          rw [w64 (a := c3 - wk) ⟨by omega, by omega⟩, w64 (a := c3 - wk + 7) ⟨by omega, by omega⟩, w64 (a := c2 - 1) ⟨by omega, by omega⟩, w64 (a := 7 * (c2 - 1)) ⟨by omega, by omega⟩, Int.tmod_eq_emod_of_nonneg (by omega)]
          rw [w64 (a := (c3 - wk + 7) % 7 + 7 * (c2 - 1)) ⟨by omega, by omega⟩, w64 (a := (c3 - wk + 7) % 7 + 7 * (c2 - 1) - 7) ⟨by omega, by omega⟩]
          by_cases hl : (c3 - wk + 7) % 7 + 7 * (c2 - 1) ≥ lenN y c1
          · rw [if_pos hl, if_pos hl, w64 ⟨by omega, by omega⟩]
            congr 2
            omega
          · rw [if_neg hl, if_neg hl, w64 ⟨by omega, by omega⟩]
            congr 2
            omega
        · rw [if_neg h3] at hD
          cases hD
  · rfl

theorem day_eq (k : Nat) (y : Int) (c0 : Int) (c1 : Int) (c2 : Int) (c3 : Int) (c4 : Int) : rule_Day.f (k + 3) y c0 c1 c2 c3 c4 = some (if (mayB y && chgB c0 c1 c2 c3 c4 true) = true then (dayN y c0 c1 c2 c3, 0) else (0, 1)) := by
  unfold rule_Day.f rule_probe.f
  rw [rmay_eq]
  simp only [Option.bind_some]
  cases hy : mayB y
  · rw [if_neg (by decide), day_j0 (k + 2) y true c0 c1 c2 c3 c4 (by simp [hy])]
    rfl
  · rw [if_pos rfl, rightR_eq, probe_right]
    simp only [Option.bind_some]
    rw [day_j0 (k + 2) y (!(chgB c0 c1 c2 c3 c4 true)) c0 c1 c2 c3 c4 (by simp [hy])]
    cases chgB c0 c1 c2 c3 c4 true <;> rfl

def startN (y s0 a0 a1 a2 a3 a4 : Int) : Int := dayN y a0 a1 a2 a3 * 86400 + (a4 - s0)

theorem dayN_size (y : Int) (c0 : Int) (c1 : Int) (c2 : Int) (c3 : Int) (c4 : Int) (hy : mayB y = true) (hc : chgB c0 c1 c2 c3 c4 true = true) : -800000000400 ≤ dayN y c0 c1 c2 c3 ∧ dayN y c0 c1 c2 c3 ≤ 800000000400 := by
  have hD : dateB c0 c1 c2 c3 c4 = true := by unfold chgB at hc; simp only [Bool.and_eq_true] at hc; exact hc.2
  have hs := daysN_size y 1 1 hy (by omega) (by omega)
  unfold dateB at hD
  unfold dayN
  by_cases h1 : c0 = 1
  · rw [if_pos h1] at hD ⊢
    simp only [inB, Bool.and_eq_true, decide_eq_true_eq] at hD
    split <;> omega
  · rw [if_neg h1] at hD ⊢
    by_cases h2 : c0 = 2
    · rw [if_pos h2] at hD ⊢
      simp only [inB, Bool.and_eq_true, decide_eq_true_eq] at hD
      omega
    · rw [if_neg h2] at hD ⊢
      by_cases h3 : c0 = 3
      · rw [if_pos h3] at hD
        simp only [inB, Bool.and_eq_true, decide_eq_true_eq] at hD
        have hs2 := daysN_size y c1 1 hy (by omega) (by omega)
        have hw := weekN_range (daysN y c1 1)
        split <;> omega
      · rw [if_neg h3] at hD
        cases hD
theorem chg_time (c0 : Int) (c1 : Int) (c2 : Int) (c3 : Int) (c4 : Int) (hc : chgB c0 c1 c2 c3 c4 true = true) : -604799 ≤ c4 ∧ c4 ≤ 604799 := by
  unfold chgB at hc
  simp only [inB, Bool.and_eq_true, Bool.or_eq_true, Bool.true_and, decide_eq_true_eq] at hc
  omega

theorem turns_j0 (k : Nat) (y : Int) (b : Bool) (s0 : Int) (s1 : Bool) (s2 : ByteArray) (d0 : Int) (d1 : Bool) (d2 : ByteArray) (bo : Bool) (a0 : Int) (a1 : Int) (a2 : Int) (a3 : Int) (a4 : Int) (e0 : Int) (e1 : Int) (e2 : Int) (e3 : Int) (e4 : Int) (hb : b = false → mayB y = true ∧ rightB s0 s1 s2 d0 d1 d2 bo a0 a1 a2 a3 a4 e0 e1 e2 e3 e4 true = true ∧ bo = true) :
    rule_Turns.j0 (k + 4) y b s0 s1 s2 d0 d1 d2 bo a0 a1 a2 a3 a4 e0 e1 e2 e3 e4 = some (if b = true then (0, 0, 1) else (startN y s0 a0 a1 a2 a3 a4, startN y d0 e0 e1 e2 e3 e4, 0)) := by
  rw [rule_Turns.j0]
  cases b
  · rw [if_neg (by decide), if_neg (by decide)]
    obtain ⟨hy, hr, hbo⟩ := hb rfl
    unfold rightB at hr
    rw [if_pos hbo] at hr
    simp only [Bool.and_eq_true, inB, decide_eq_true_eq] at hr
    obtain ⟨_, _, hs, _, _, hd, ha, he⟩ := hr
    rw [day_eq, day_eq, hy, ha, he]
    simp only [Bool.and_self, if_true, Option.bind_some]
    have z1 := dayN_size y a0 a1 a2 a3 a4 hy ha
    have z2 := dayN_size y e0 e1 e2 e3 e4 hy he
    have t1 := chg_time a0 a1 a2 a3 a4 ha
    have t2 := chg_time e0 e1 e2 e3 e4 he
    rw [w64 (a := dayN y a0 a1 a2 a3 * 86400) ⟨by omega, by omega⟩, w64 (a := a4 - s0) ⟨by omega, by omega⟩, w64 (a := dayN y e0 e1 e2 e3 * 86400) ⟨by omega, by omega⟩, w64 (a := e4 - d0) ⟨by omega, by omega⟩,
      w64 (a := dayN y a0 a1 a2 a3 * 86400 + (a4 - s0)) ⟨by omega, by omega⟩, w64 (a := dayN y e0 e1 e2 e3 * 86400 + (e4 - d0)) ⟨by omega, by omega⟩]
    rfl
  · rfl
/-- Are there turns? -/
def turnsB (s0 : Int) (s1 : Bool) (s2 : ByteArray) (d0 : Int) (d1 : Bool) (d2 : ByteArray) (bo : Bool) (a0 : Int) (a1 : Int) (a2 : Int) (a3 : Int) (a4 : Int) (e0 : Int) (e1 : Int) (e2 : Int) (e3 : Int) (e4 : Int) (y : Int) : Bool := rightB s0 s1 s2 d0 d1 d2 bo a0 a1 a2 a3 a4 e0 e1 e2 e3 e4 true && (bo && mayB y)
theorem turns_eq (k : Nat) (s0 : Int) (s1 : Bool) (s2 : ByteArray) (d0 : Int) (d1 : Bool) (d2 : ByteArray) (bo : Bool) (a0 : Int) (a1 : Int) (a2 : Int) (a3 : Int) (a4 : Int) (e0 : Int) (e1 : Int) (e2 : Int) (e3 : Int) (e4 : Int) (y : Int) : rule_Turns.f (k + 4) s0 s1 s2 d0 d1 d2 bo a0 a1 a2 a3 a4 e0 e1 e2 e3 e4 y = some (if turnsB s0 s1 s2 d0 d1 d2 bo a0 a1 a2 a3 a4 e0 e1 e2 e3 e4 y = true then (startN y s0 a0 a1 a2 a3 a4, startN y d0 e0 e1 e2 e3 e4, 0) else (0, 0, 1)) := by
  unfold rule_Turns.f turnsB
  rw [rightR_eq, rmay_eq]
  simp only [Option.bind_some]
  cases hr : rightB s0 s1 s2 d0 d1 d2 bo a0 a1 a2 a3 a4 e0 e1 e2 e3 e4 true
  · rw [if_neg (by decide), turns_j0 k y true s0 s1 s2 d0 d1 d2 bo a0 a1 a2 a3 a4 e0 e1 e2 e3 e4 (by intro h; cases h)]
    rfl
  · rw [if_pos rfl]
    cases hbo : bo
    · rw [if_neg (by decide)]
      rw [turns_j0 k y true s0 s1 s2 d0 d1 d2 false a0 a1 a2 a3 a4 e0 e1 e2 e3 e4 (by intro h; cases h)]
      rfl
    · subst hbo
      rw [if_pos rfl, turns_j0 k y _ s0 s1 s2 d0 d1 d2 true a0 a1 a2 a3 a4 e0 e1 e2 e3 e4 (by intro h; exact ⟨by simpa using h, hr, rfl⟩)]
      cases mayB y <;> rfl
end Go.Proofs.YtgbehcahdgamoaaDoor.Fn

namespace Go.Proofs.YtgbehcahdgamoaaDoor.Fn
open Go.RowKit Go.Proofs.YtgbehcahdgamoaaDoorW.PrintWords Go.Proofs.YtgbehcahdgamoaaDoorW.PrintLast Go.Proofs.YtgbehcahdgamoaaDoorW.PrintMore
attribute [local go_sem] max2_int min2_int max_two min_two max_three min_three max_four min_four   -- for this text's walks alone
set_option linter.unusedVariables false
set_option linter.unusedSimpArgs false

/-! ### number_Add: function 42 -/
def number_Add.f (a0 : Int) (a1 : Int) : Option (Int × Bool) := if ((decide (a0 < 0)) == (decide (a1 < 0))) = true then (if ((decide ((wrap64 (a0 + a1)) < 0)) != (decide (a0 < 0))) = true then (some (0, false)) else (some (wrap64 (a0 + a1), true))) else (some (wrap64 (a0 + a1), true))
set_option maxHeartbeats 8000000 in
set_option maxRecDepth 100000 in
theorem number_Add.calls (a0 : Int) (a1 : Int) (r1 : Int) (r2 : Bool) (w : World) (h : number_Add.f a0 a1 = some (r1, r2)) :
    Calls Tryd.prog 42 #[.int .i64 a0, .int .i64 a1] w fun e w' => e = .returned (.tuple #[.int .i64 r1, .bool r2]) ∧ Drawn0 w w' := by
  have H : (if ((decide (a0 < 0)) == (decide (a1 < 0))) = true then (if ((decide ((wrap64 (a0 + a1)) < 0)) != (decide (a0 < 0))) = true then (some (0, false)) else (some (wrap64 (a0 + a1), true))) else (some (wrap64 (a0 + a1), true))) = some (r1, r2) := h
  clear h
  by_cases c3 : ((decide (a0 < 0)) == (decide (a1 < 0))) = true
  · rw [if_pos c3] at H
    have c3b0 : ((decide (a0 < 0)) == (decide (a1 < 0))) = true := c3
    (try (have c3b1 : decide ((decide (a0 < 0)) = (decide (a1 < 0))) = true := by simpa using c3))
    (try (have c3b2 : ((decide (a0 < 0)) == (decide (a1 < 0))) = true := by simpa using c3))
    clear c3
    by_cases c4 : ((decide ((wrap64 (a0 + a1)) < 0)) != (decide (a0 < 0))) = true
    · rw [if_pos c4] at H
      have c4b0 : ((decide ((wrap64 (a0 + a1)) < 0)) != (decide (a0 < 0))) = true := c4
      (try (have c4b1 : decide ((decide ((wrap64 (a0 + a1)) < 0)) = (decide (a0 < 0))) = false := by simpa using c4))
      (try (have c4b2 : ((decide ((wrap64 (a0 + a1)) < 0)) == (decide (a0 < 0))) = false := by simpa using c4))
      (try (have c4b3 : ¬ ((decide ((wrap64 (a0 + a1)) < 0)) = (decide (a0 < 0))) := by simpa using c4))
      clear c4
      simp only [Option.some.injEq, Prod.mk.injEq] at H
      obtain ⟨rfl, rfl⟩ := H
      go_enter Tryd.func42, Tryd.ntmps42
      go_wp2
      go_ret2
      exact ⟨by first | rfl | (simp; done) | (simp [*]; done), by repeat (first | exact Drawn0.refl _ | apply Drawn0.step)⟩
    · rw [if_neg c4] at H
      have c4b0 : ((decide ((wrap64 (a0 + a1)) < 0)) != (decide (a0 < 0))) = false := by simpa using c4
      (try (have c4b1 : decide ((decide ((wrap64 (a0 + a1)) < 0)) = (decide (a0 < 0))) = true := by simpa using c4))
      (try (have c4b2 : ((decide ((wrap64 (a0 + a1)) < 0)) == (decide (a0 < 0))) = true := by simpa using c4))
      clear c4
      simp only [Option.some.injEq, Prod.mk.injEq] at H
      obtain ⟨rfl, rfl⟩ := H
      go_enter Tryd.func42, Tryd.ntmps42
      go_wp2
      go_ret2
      exact ⟨by first | rfl | (simp; done) | (simp [*]; done), by repeat (first | exact Drawn0.refl _ | apply Drawn0.step)⟩
  · rw [if_neg c3] at H
    have c3b0 : ((decide (a0 < 0)) == (decide (a1 < 0))) = false := by simpa using c3
    (try (have c3b1 : decide ((decide (a0 < 0)) = (decide (a1 < 0))) = false := by simpa using c3))
    (try (have c3b2 : ((decide (a0 < 0)) == (decide (a1 < 0))) = false := by simpa using c3))
    (try (have c3b3 : ¬ ((decide (a0 < 0)) = (decide (a1 < 0))) := by simpa using c3))
    clear c3
    simp only [Option.some.injEq, Prod.mk.injEq] at H
    obtain ⟨rfl, rfl⟩ := H
    go_enter Tryd.func42, Tryd.ntmps42
    go_wp2
    go_ret2
    exact ⟨by first | rfl | (simp; done) | (simp [*]; done), by repeat (first | exact Drawn0.refl _ | apply Drawn0.step)⟩

end Go.Proofs.YtgbehcahdgamoaaDoor.Fn

namespace Go.Proofs.YtgbehcahdgamoaaDoor.Fn
open Go.RowKit Go.Proofs.YtgbehcahdgamoaaDoorW.PrintWords Go.Proofs.YtgbehcahdgamoaaDoorW.PrintLast Go.Proofs.YtgbehcahdgamoaaDoorW.PrintMore
attribute [local go_sem] max2_int min2_int max_two min_two max_three min_three max_four min_four   -- for this text's walks alone
set_option linter.unusedVariables false
set_option linter.unusedSimpArgs false

/-! ### civil_Date: function 21 -/
def civil_Date.f (a0 : Int) : Option (Int × Int × Int × Int) := (number_Add.f a0 719468).bind fun bt277 => (if bt277.2 = true then ((number_Div.f bt277.1 146097).bind fun bt279 => (if (wrap64 ((wrap64 (Int.tdiv (wrap64 ((wrap64 (5 * (wrap64 (bt279.2.1 - (wrap64 ((wrap64 ((wrap64 (365 * (wrap64 (Int.tdiv (wrap64 ((wrap64 ((wrap64 (bt279.2.1 - (wrap64 (Int.tdiv bt279.2.1 1460)))) + (wrap64 (Int.tdiv bt279.2.1 36524)))) - (wrap64 (Int.tdiv bt279.2.1 146096)))) 365)))) + (wrap64 (Int.tdiv (wrap64 (Int.tdiv (wrap64 ((wrap64 ((wrap64 (bt279.2.1 - (wrap64 (Int.tdiv bt279.2.1 1460)))) + (wrap64 (Int.tdiv bt279.2.1 36524)))) - (wrap64 (Int.tdiv bt279.2.1 146096)))) 365)) 4)))) - (wrap64 (Int.tdiv (wrap64 (Int.tdiv (wrap64 ((wrap64 ((wrap64 (bt279.2.1 - (wrap64 (Int.tdiv bt279.2.1 1460)))) + (wrap64 (Int.tdiv bt279.2.1 36524)))) - (wrap64 (Int.tdiv bt279.2.1 146096)))) 365)) 100)))))))) + 2)) 153)) + 3)) > 12 then ((civil_may.f (wrap64 ((wrap64 ((wrap64 (Int.tdiv (wrap64 ((wrap64 ((wrap64 (bt279.2.1 - (wrap64 (Int.tdiv bt279.2.1 1460)))) + (wrap64 (Int.tdiv bt279.2.1 36524)))) - (wrap64 (Int.tdiv bt279.2.1 146096)))) 365)) + (wrap64 (400 * bt279.1)))) + 1))).bind fun t282 => (if t282 = true then (some (wrap64 ((wrap64 ((wrap64 (Int.tdiv (wrap64 ((wrap64 ((wrap64 (bt279.2.1 - (wrap64 (Int.tdiv bt279.2.1 1460)))) + (wrap64 (Int.tdiv bt279.2.1 36524)))) - (wrap64 (Int.tdiv bt279.2.1 146096)))) 365)) + (wrap64 (400 * bt279.1)))) + 1), wrap64 ((wrap64 ((wrap64 (Int.tdiv (wrap64 ((wrap64 (5 * (wrap64 (bt279.2.1 - (wrap64 ((wrap64 ((wrap64 (365 * (wrap64 (Int.tdiv (wrap64 ((wrap64 ((wrap64 (bt279.2.1 - (wrap64 (Int.tdiv bt279.2.1 1460)))) + (wrap64 (Int.tdiv bt279.2.1 36524)))) - (wrap64 (Int.tdiv bt279.2.1 146096)))) 365)))) + (wrap64 (Int.tdiv (wrap64 (Int.tdiv (wrap64 ((wrap64 ((wrap64 (bt279.2.1 - (wrap64 (Int.tdiv bt279.2.1 1460)))) + (wrap64 (Int.tdiv bt279.2.1 36524)))) - (wrap64 (Int.tdiv bt279.2.1 146096)))) 365)) 4)))) - (wrap64 (Int.tdiv (wrap64 (Int.tdiv (wrap64 ((wrap64 ((wrap64 (bt279.2.1 - (wrap64 (Int.tdiv bt279.2.1 1460)))) + (wrap64 (Int.tdiv bt279.2.1 36524)))) - (wrap64 (Int.tdiv bt279.2.1 146096)))) 365)) 100)))))))) + 2)) 153)) + 3)) - 12), wrap64 ((wrap64 ((wrap64 (bt279.2.1 - (wrap64 ((wrap64 ((wrap64 (365 * (wrap64 (Int.tdiv (wrap64 ((wrap64 ((wrap64 (bt279.2.1 - (wrap64 (Int.tdiv bt279.2.1 1460)))) + (wrap64 (Int.tdiv bt279.2.1 36524)))) - (wrap64 (Int.tdiv bt279.2.1 146096)))) 365)))) + (wrap64 (Int.tdiv (wrap64 (Int.tdiv (wrap64 ((wrap64 ((wrap64 (bt279.2.1 - (wrap64 (Int.tdiv bt279.2.1 1460)))) + (wrap64 (Int.tdiv bt279.2.1 36524)))) - (wrap64 (Int.tdiv bt279.2.1 146096)))) 365)) 4)))) - (wrap64 (Int.tdiv (wrap64 (Int.tdiv (wrap64 ((wrap64 ((wrap64 (bt279.2.1 - (wrap64 (Int.tdiv bt279.2.1 1460)))) + (wrap64 (Int.tdiv bt279.2.1 36524)))) - (wrap64 (Int.tdiv bt279.2.1 146096)))) 365)) 100)))))) - (wrap64 (Int.tdiv (wrap64 ((wrap64 (153 * (wrap64 (Int.tdiv (wrap64 ((wrap64 (5 * (wrap64 (bt279.2.1 - (wrap64 ((wrap64 ((wrap64 (365 * (wrap64 (Int.tdiv (wrap64 ((wrap64 ((wrap64 (bt279.2.1 - (wrap64 (Int.tdiv bt279.2.1 1460)))) + (wrap64 (Int.tdiv bt279.2.1 36524)))) - (wrap64 (Int.tdiv bt279.2.1 146096)))) 365)))) + (wrap64 (Int.tdiv (wrap64 (Int.tdiv (wrap64 ((wrap64 ((wrap64 (bt279.2.1 - (wrap64 (Int.tdiv bt279.2.1 1460)))) + (wrap64 (Int.tdiv bt279.2.1 36524)))) - (wrap64 (Int.tdiv bt279.2.1 146096)))) 365)) 4)))) - (wrap64 (Int.tdiv (wrap64 (Int.tdiv (wrap64 ((wrap64 ((wrap64 (bt279.2.1 - (wrap64 (Int.tdiv bt279.2.1 1460)))) + (wrap64 (Int.tdiv bt279.2.1 36524)))) - (wrap64 (Int.tdiv bt279.2.1 146096)))) 365)) 100)))))))) + 2)) 153)))) + 2)) 5)))) + 1), 0)) else (some (0, 0, 0, 2)))) else ((civil_may.f (wrap64 ((wrap64 (Int.tdiv (wrap64 ((wrap64 ((wrap64 (bt279.2.1 - (wrap64 (Int.tdiv bt279.2.1 1460)))) + (wrap64 (Int.tdiv bt279.2.1 36524)))) - (wrap64 (Int.tdiv bt279.2.1 146096)))) 365)) + (wrap64 (400 * bt279.1))))).bind fun t283 => (if t283 = true then (some (wrap64 ((wrap64 (Int.tdiv (wrap64 ((wrap64 ((wrap64 (bt279.2.1 - (wrap64 (Int.tdiv bt279.2.1 1460)))) + (wrap64 (Int.tdiv bt279.2.1 36524)))) - (wrap64 (Int.tdiv bt279.2.1 146096)))) 365)) + (wrap64 (400 * bt279.1))), wrap64 ((wrap64 (Int.tdiv (wrap64 ((wrap64 (5 * (wrap64 (bt279.2.1 - (wrap64 ((wrap64 ((wrap64 (365 * (wrap64 (Int.tdiv (wrap64 ((wrap64 ((wrap64 (bt279.2.1 - (wrap64 (Int.tdiv bt279.2.1 1460)))) + (wrap64 (Int.tdiv bt279.2.1 36524)))) - (wrap64 (Int.tdiv bt279.2.1 146096)))) 365)))) + (wrap64 (Int.tdiv (wrap64 (Int.tdiv (wrap64 ((wrap64 ((wrap64 (bt279.2.1 - (wrap64 (Int.tdiv bt279.2.1 1460)))) + (wrap64 (Int.tdiv bt279.2.1 36524)))) - (wrap64 (Int.tdiv bt279.2.1 146096)))) 365)) 4)))) - (wrap64 (Int.tdiv (wrap64 (Int.tdiv (wrap64 ((wrap64 ((wrap64 (bt279.2.1 - (wrap64 (Int.tdiv bt279.2.1 1460)))) + (wrap64 (Int.tdiv bt279.2.1 36524)))) - (wrap64 (Int.tdiv bt279.2.1 146096)))) 365)) 100)))))))) + 2)) 153)) + 3), wrap64 ((wrap64 ((wrap64 (bt279.2.1 - (wrap64 ((wrap64 ((wrap64 (365 * (wrap64 (Int.tdiv (wrap64 ((wrap64 ((wrap64 (bt279.2.1 - (wrap64 (Int.tdiv bt279.2.1 1460)))) + (wrap64 (Int.tdiv bt279.2.1 36524)))) - (wrap64 (Int.tdiv bt279.2.1 146096)))) 365)))) + (wrap64 (Int.tdiv (wrap64 (Int.tdiv (wrap64 ((wrap64 ((wrap64 (bt279.2.1 - (wrap64 (Int.tdiv bt279.2.1 1460)))) + (wrap64 (Int.tdiv bt279.2.1 36524)))) - (wrap64 (Int.tdiv bt279.2.1 146096)))) 365)) 4)))) - (wrap64 (Int.tdiv (wrap64 (Int.tdiv (wrap64 ((wrap64 ((wrap64 (bt279.2.1 - (wrap64 (Int.tdiv bt279.2.1 1460)))) + (wrap64 (Int.tdiv bt279.2.1 36524)))) - (wrap64 (Int.tdiv bt279.2.1 146096)))) 365)) 100)))))) - (wrap64 (Int.tdiv (wrap64 ((wrap64 (153 * (wrap64 (Int.tdiv (wrap64 ((wrap64 (5 * (wrap64 (bt279.2.1 - (wrap64 ((wrap64 ((wrap64 (365 * (wrap64 (Int.tdiv (wrap64 ((wrap64 ((wrap64 (bt279.2.1 - (wrap64 (Int.tdiv bt279.2.1 1460)))) + (wrap64 (Int.tdiv bt279.2.1 36524)))) - (wrap64 (Int.tdiv bt279.2.1 146096)))) 365)))) + (wrap64 (Int.tdiv (wrap64 (Int.tdiv (wrap64 ((wrap64 ((wrap64 (bt279.2.1 - (wrap64 (Int.tdiv bt279.2.1 1460)))) + (wrap64 (Int.tdiv bt279.2.1 36524)))) - (wrap64 (Int.tdiv bt279.2.1 146096)))) 365)) 4)))) - (wrap64 (Int.tdiv (wrap64 (Int.tdiv (wrap64 ((wrap64 ((wrap64 (bt279.2.1 - (wrap64 (Int.tdiv bt279.2.1 1460)))) + (wrap64 (Int.tdiv bt279.2.1 36524)))) - (wrap64 (Int.tdiv bt279.2.1 146096)))) 365)) 100)))))))) + 2)) 153)))) + 2)) 5)))) + 1), 0)) else (some (0, 0, 0, 2)))))) else (some (0, 0, 0, 2)))
set_option maxHeartbeats 8000000 in
set_option maxRecDepth 100000 in
theorem civil_Date.calls (a0 : Int) (r1 : Int) (r2 : Int) (r3 : Int) (r4 : Int) (w : World) (h : civil_Date.f a0 = some (r1, r2, r3, r4)) :
    Calls Tryd.prog 21 #[.int .i64 a0] w fun e w' => e = .returned (.tuple #[.int .i64 r1, .int .i64 r2, .int .i64 r3, .int .i64 r4]) ∧ Drawn0 w w' := by
  have H : ((number_Add.f a0 719468).bind fun bt277 => (if bt277.2 = true then ((number_Div.f bt277.1 146097).bind fun bt279 => (if (wrap64 ((wrap64 (Int.tdiv (wrap64 ((wrap64 (5 * (wrap64 (bt279.2.1 - (wrap64 ((wrap64 ((wrap64 (365 * (wrap64 (Int.tdiv (wrap64 ((wrap64 ((wrap64 (bt279.2.1 - (wrap64 (Int.tdiv bt279.2.1 1460)))) + (wrap64 (Int.tdiv bt279.2.1 36524)))) - (wrap64 (Int.tdiv bt279.2.1 146096)))) 365)))) + (wrap64 (Int.tdiv (wrap64 (Int.tdiv (wrap64 ((wrap64 ((wrap64 (bt279.2.1 - (wrap64 (Int.tdiv bt279.2.1 1460)))) + (wrap64 (Int.tdiv bt279.2.1 36524)))) - (wrap64 (Int.tdiv bt279.2.1 146096)))) 365)) 4)))) - (wrap64 (Int.tdiv (wrap64 (Int.tdiv (wrap64 ((wrap64 ((wrap64 (bt279.2.1 - (wrap64 (Int.tdiv bt279.2.1 1460)))) + (wrap64 (Int.tdiv bt279.2.1 36524)))) - (wrap64 (Int.tdiv bt279.2.1 146096)))) 365)) 100)))))))) + 2)) 153)) + 3)) > 12 then ((civil_may.f (wrap64 ((wrap64 ((wrap64 (Int.tdiv (wrap64 ((wrap64 ((wrap64 (bt279.2.1 - (wrap64 (Int.tdiv bt279.2.1 1460)))) + (wrap64 (Int.tdiv bt279.2.1 36524)))) - (wrap64 (Int.tdiv bt279.2.1 146096)))) 365)) + (wrap64 (400 * bt279.1)))) + 1))).bind fun t282 => (if t282 = true then (some (wrap64 ((wrap64 ((wrap64 (Int.tdiv (wrap64 ((wrap64 ((wrap64 (bt279.2.1 - (wrap64 (Int.tdiv bt279.2.1 1460)))) + (wrap64 (Int.tdiv bt279.2.1 36524)))) - (wrap64 (Int.tdiv bt279.2.1 146096)))) 365)) + (wrap64 (400 * bt279.1)))) + 1), wrap64 ((wrap64 ((wrap64 (Int.tdiv (wrap64 ((wrap64 (5 * (wrap64 (bt279.2.1 - (wrap64 ((wrap64 ((wrap64 (365 * (wrap64 (Int.tdiv (wrap64 ((wrap64 ((wrap64 (bt279.2.1 - (wrap64 (Int.tdiv bt279.2.1 1460)))) + (wrap64 (Int.tdiv bt279.2.1 36524)))) - (wrap64 (Int.tdiv bt279.2.1 146096)))) 365)))) + (wrap64 (Int.tdiv (wrap64 (Int.tdiv (wrap64 ((wrap64 ((wrap64 (bt279.2.1 - (wrap64 (Int.tdiv bt279.2.1 1460)))) + (wrap64 (Int.tdiv bt279.2.1 36524)))) - (wrap64 (Int.tdiv bt279.2.1 146096)))) 365)) 4)))) - (wrap64 (Int.tdiv (wrap64 (Int.tdiv (wrap64 ((wrap64 ((wrap64 (bt279.2.1 - (wrap64 (Int.tdiv bt279.2.1 1460)))) + (wrap64 (Int.tdiv bt279.2.1 36524)))) - (wrap64 (Int.tdiv bt279.2.1 146096)))) 365)) 100)))))))) + 2)) 153)) + 3)) - 12), wrap64 ((wrap64 ((wrap64 (bt279.2.1 - (wrap64 ((wrap64 ((wrap64 (365 * (wrap64 (Int.tdiv (wrap64 ((wrap64 ((wrap64 (bt279.2.1 - (wrap64 (Int.tdiv bt279.2.1 1460)))) + (wrap64 (Int.tdiv bt279.2.1 36524)))) - (wrap64 (Int.tdiv bt279.2.1 146096)))) 365)))) + (wrap64 (Int.tdiv (wrap64 (Int.tdiv (wrap64 ((wrap64 ((wrap64 (bt279.2.1 - (wrap64 (Int.tdiv bt279.2.1 1460)))) + (wrap64 (Int.tdiv bt279.2.1 36524)))) - (wrap64 (Int.tdiv bt279.2.1 146096)))) 365)) 4)))) - (wrap64 (Int.tdiv (wrap64 (Int.tdiv (wrap64 ((wrap64 ((wrap64 (bt279.2.1 - (wrap64 (Int.tdiv bt279.2.1 1460)))) + (wrap64 (Int.tdiv bt279.2.1 36524)))) - (wrap64 (Int.tdiv bt279.2.1 146096)))) 365)) 100)))))) - (wrap64 (Int.tdiv (wrap64 ((wrap64 (153 * (wrap64 (Int.tdiv (wrap64 ((wrap64 (5 * (wrap64 (bt279.2.1 - (wrap64 ((wrap64 ((wrap64 (365 * (wrap64 (Int.tdiv (wrap64 ((wrap64 ((wrap64 (bt279.2.1 - (wrap64 (Int.tdiv bt279.2.1 1460)))) + (wrap64 (Int.tdiv bt279.2.1 36524)))) - (wrap64 (Int.tdiv bt279.2.1 146096)))) 365)))) + (wrap64 (Int.tdiv (wrap64 (Int.tdiv (wrap64 ((wrap64 ((wrap64 (bt279.2.1 - (wrap64 (Int.tdiv bt279.2.1 1460)))) + (wrap64 (Int.tdiv bt279.2.1 36524)))) - (wrap64 (Int.tdiv bt279.2.1 146096)))) 365)) 4)))) - (wrap64 (Int.tdiv (wrap64 (Int.tdiv (wrap64 ((wrap64 ((wrap64 (bt279.2.1 - (wrap64 (Int.tdiv bt279.2.1 1460)))) + (wrap64 (Int.tdiv bt279.2.1 36524)))) - (wrap64 (Int.tdiv bt279.2.1 146096)))) 365)) 100)))))))) + 2)) 153)))) + 2)) 5)))) + 1), 0)) else (some (0, 0, 0, 2)))) else ((civil_may.f (wrap64 ((wrap64 (Int.tdiv (wrap64 ((wrap64 ((wrap64 (bt279.2.1 - (wrap64 (Int.tdiv bt279.2.1 1460)))) + (wrap64 (Int.tdiv bt279.2.1 36524)))) - (wrap64 (Int.tdiv bt279.2.1 146096)))) 365)) + (wrap64 (400 * bt279.1))))).bind fun t283 => (if t283 = true then (some (wrap64 ((wrap64 (Int.tdiv (wrap64 ((wrap64 ((wrap64 (bt279.2.1 - (wrap64 (Int.tdiv bt279.2.1 1460)))) + (wrap64 (Int.tdiv bt279.2.1 36524)))) - (wrap64 (Int.tdiv bt279.2.1 146096)))) 365)) + (wrap64 (400 * bt279.1))), wrap64 ((wrap64 (Int.tdiv (wrap64 ((wrap64 (5 * (wrap64 (bt279.2.1 - (wrap64 ((wrap64 ((wrap64 (365 * (wrap64 (Int.tdiv (wrap64 ((wrap64 ((wrap64 (bt279.2.1 - (wrap64 (Int.tdiv bt279.2.1 1460)))) + (wrap64 (Int.tdiv bt279.2.1 36524)))) - (wrap64 (Int.tdiv bt279.2.1 146096)))) 365)))) + (wrap64 (Int.tdiv (wrap64 (Int.tdiv (wrap64 ((wrap64 ((wrap64 (bt279.2.1 - (wrap64 (Int.tdiv bt279.2.1 1460)))) + (wrap64 (Int.tdiv bt279.2.1 36524)))) - (wrap64 (Int.tdiv bt279.2.1 146096)))) 365)) 4)))) - (wrap64 (Int.tdiv (wrap64 (Int.tdiv (wrap64 ((wrap64 ((wrap64 (bt279.2.1 - (wrap64 (Int.tdiv bt279.2.1 1460)))) + (wrap64 (Int.tdiv bt279.2.1 36524)))) - (wrap64 (Int.tdiv bt279.2.1 146096)))) 365)) 100)))))))) + 2)) 153)) + 3), wrap64 ((wrap64 ((wrap64 (bt279.2.1 - (wrap64 ((wrap64 ((wrap64 (365 * (wrap64 (Int.tdiv (wrap64 ((wrap64 ((wrap64 (bt279.2.1 - (wrap64 (Int.tdiv bt279.2.1 1460)))) + (wrap64 (Int.tdiv bt279.2.1 36524)))) - (wrap64 (Int.tdiv bt279.2.1 146096)))) 365)))) + (wrap64 (Int.tdiv (wrap64 (Int.tdiv (wrap64 ((wrap64 ((wrap64 (bt279.2.1 - (wrap64 (Int.tdiv bt279.2.1 1460)))) + (wrap64 (Int.tdiv bt279.2.1 36524)))) - (wrap64 (Int.tdiv bt279.2.1 146096)))) 365)) 4)))) - (wrap64 (Int.tdiv (wrap64 (Int.tdiv (wrap64 ((wrap64 ((wrap64 (bt279.2.1 - (wrap64 (Int.tdiv bt279.2.1 1460)))) + (wrap64 (Int.tdiv bt279.2.1 36524)))) - (wrap64 (Int.tdiv bt279.2.1 146096)))) 365)) 100)))))) - (wrap64 (Int.tdiv (wrap64 ((wrap64 (153 * (wrap64 (Int.tdiv (wrap64 ((wrap64 (5 * (wrap64 (bt279.2.1 - (wrap64 ((wrap64 ((wrap64 (365 * (wrap64 (Int.tdiv (wrap64 ((wrap64 ((wrap64 (bt279.2.1 - (wrap64 (Int.tdiv bt279.2.1 1460)))) + (wrap64 (Int.tdiv bt279.2.1 36524)))) - (wrap64 (Int.tdiv bt279.2.1 146096)))) 365)))) + (wrap64 (Int.tdiv (wrap64 (Int.tdiv (wrap64 ((wrap64 ((wrap64 (bt279.2.1 - (wrap64 (Int.tdiv bt279.2.1 1460)))) + (wrap64 (Int.tdiv bt279.2.1 36524)))) - (wrap64 (Int.tdiv bt279.2.1 146096)))) 365)) 4)))) - (wrap64 (Int.tdiv (wrap64 (Int.tdiv (wrap64 ((wrap64 ((wrap64 (bt279.2.1 - (wrap64 (Int.tdiv bt279.2.1 1460)))) + (wrap64 (Int.tdiv bt279.2.1 36524)))) - (wrap64 (Int.tdiv bt279.2.1 146096)))) 365)) 100)))))))) + 2)) 153)))) + 2)) 5)))) + 1), 0)) else (some (0, 0, 0, 2)))))) else (some (0, 0, 0, 2)))) = some (r1, r2, r3, r4) := h
  clear h
  replace H := Option.bind_eq_some_iff.mp H
  obtain ⟨⟨t277, t278⟩, A20, H⟩ := H
  replace H : (if t278 = true then ((number_Div.f t277 146097).bind fun bt279 => (if (wrap64 ((wrap64 (Int.tdiv (wrap64 ((wrap64 (5 * (wrap64 (bt279.2.1 - (wrap64 ((wrap64 ((wrap64 (365 * (wrap64 (Int.tdiv (wrap64 ((wrap64 ((wrap64 (bt279.2.1 - (wrap64 (Int.tdiv bt279.2.1 1460)))) + (wrap64 (Int.tdiv bt279.2.1 36524)))) - (wrap64 (Int.tdiv bt279.2.1 146096)))) 365)))) + (wrap64 (Int.tdiv (wrap64 (Int.tdiv (wrap64 ((wrap64 ((wrap64 (bt279.2.1 - (wrap64 (Int.tdiv bt279.2.1 1460)))) + (wrap64 (Int.tdiv bt279.2.1 36524)))) - (wrap64 (Int.tdiv bt279.2.1 146096)))) 365)) 4)))) - (wrap64 (Int.tdiv (wrap64 (Int.tdiv (wrap64 ((wrap64 ((wrap64 (bt279.2.1 - (wrap64 (Int.tdiv bt279.2.1 1460)))) + (wrap64 (Int.tdiv bt279.2.1 36524)))) - (wrap64 (Int.tdiv bt279.2.1 146096)))) 365)) 100)))))))) + 2)) 153)) + 3)) > 12 then ((civil_may.f (wrap64 ((wrap64 ((wrap64 (Int.tdiv (wrap64 ((wrap64 ((wrap64 (bt279.2.1 - (wrap64 (Int.tdiv bt279.2.1 1460)))) + (wrap64 (Int.tdiv bt279.2.1 36524)))) - (wrap64 (Int.tdiv bt279.2.1 146096)))) 365)) + (wrap64 (400 * bt279.1)))) + 1))).bind fun t282 => (if t282 = true then (some (wrap64 ((wrap64 ((wrap64 (Int.tdiv (wrap64 ((wrap64 ((wrap64 (bt279.2.1 - (wrap64 (Int.tdiv bt279.2.1 1460)))) + (wrap64 (Int.tdiv bt279.2.1 36524)))) - (wrap64 (Int.tdiv bt279.2.1 146096)))) 365)) + (wrap64 (400 * bt279.1)))) + 1), wrap64 ((wrap64 ((wrap64 (Int.tdiv (wrap64 ((wrap64 (5 * (wrap64 (bt279.2.1 - (wrap64 ((wrap64 ((wrap64 (365 * (wrap64 (Int.tdiv (wrap64 ((wrap64 ((wrap64 (bt279.2.1 - (wrap64 (Int.tdiv bt279.2.1 1460)))) + (wrap64 (Int.tdiv bt279.2.1 36524)))) - (wrap64 (Int.tdiv bt279.2.1 146096)))) 365)))) + (wrap64 (Int.tdiv (wrap64 (Int.tdiv (wrap64 ((wrap64 ((wrap64 (bt279.2.1 - (wrap64 (Int.tdiv bt279.2.1 1460)))) + (wrap64 (Int.tdiv bt279.2.1 36524)))) - (wrap64 (Int.tdiv bt279.2.1 146096)))) 365)) 4)))) - (wrap64 (Int.tdiv (wrap64 (Int.tdiv (wrap64 ((wrap64 ((wrap64 (bt279.2.1 - (wrap64 (Int.tdiv bt279.2.1 1460)))) + (wrap64 (Int.tdiv bt279.2.1 36524)))) - (wrap64 (Int.tdiv bt279.2.1 146096)))) 365)) 100)))))))) + 2)) 153)) + 3)) - 12), wrap64 ((wrap64 ((wrap64 (bt279.2.1 - (wrap64 ((wrap64 ((wrap64 (365 * (wrap64 (Int.tdiv (wrap64 ((wrap64 ((wrap64 (bt279.2.1 - (wrap64 (Int.tdiv bt279.2.1 1460)))) + (wrap64 (Int.tdiv bt279.2.1 36524)))) - (wrap64 (Int.tdiv bt279.2.1 146096)))) 365)))) + (wrap64 (Int.tdiv (wrap64 (Int.tdiv (wrap64 ((wrap64 ((wrap64 (bt279.2.1 - (wrap64 (Int.tdiv bt279.2.1 1460)))) + (wrap64 (Int.tdiv bt279.2.1 36524)))) - (wrap64 (Int.tdiv bt279.2.1 146096)))) 365)) 4)))) - (wrap64 (Int.tdiv (wrap64 (Int.tdiv (wrap64 ((wrap64 ((wrap64 (bt279.2.1 - (wrap64 (Int.tdiv bt279.2.1 1460)))) + (wrap64 (Int.tdiv bt279.2.1 36524)))) - (wrap64 (Int.tdiv bt279.2.1 146096)))) 365)) 100)))))) - (wrap64 (Int.tdiv (wrap64 ((wrap64 (153 * (wrap64 (Int.tdiv (wrap64 ((wrap64 (5 * (wrap64 (bt279.2.1 - (wrap64 ((wrap64 ((wrap64 (365 * (wrap64 (Int.tdiv (wrap64 ((wrap64 ((wrap64 (bt279.2.1 - (wrap64 (Int.tdiv bt279.2.1 1460)))) + (wrap64 (Int.tdiv bt279.2.1 36524)))) - (wrap64 (Int.tdiv bt279.2.1 146096)))) 365)))) + (wrap64 (Int.tdiv (wrap64 (Int.tdiv (wrap64 ((wrap64 ((wrap64 (bt279.2.1 - (wrap64 (Int.tdiv bt279.2.1 1460)))) + (wrap64 (Int.tdiv bt279.2.1 36524)))) - (wrap64 (Int.tdiv bt279.2.1 146096)))) 365)) 4)))) - (wrap64 (Int.tdiv (wrap64 (Int.tdiv (wrap64 ((wrap64 ((wrap64 (bt279.2.1 - (wrap64 (Int.tdiv bt279.2.1 1460)))) + (wrap64 (Int.tdiv bt279.2.1 36524)))) - (wrap64 (Int.tdiv bt279.2.1 146096)))) 365)) 100)))))))) + 2)) 153)))) + 2)) 5)))) + 1), 0)) else (some (0, 0, 0, 2)))) else ((civil_may.f (wrap64 ((wrap64 (Int.tdiv (wrap64 ((wrap64 ((wrap64 (bt279.2.1 - (wrap64 (Int.tdiv bt279.2.1 1460)))) + (wrap64 (Int.tdiv bt279.2.1 36524)))) - (wrap64 (Int.tdiv bt279.2.1 146096)))) 365)) + (wrap64 (400 * bt279.1))))).bind fun t283 => (if t283 = true then (some (wrap64 ((wrap64 (Int.tdiv (wrap64 ((wrap64 ((wrap64 (bt279.2.1 - (wrap64 (Int.tdiv bt279.2.1 1460)))) + (wrap64 (Int.tdiv bt279.2.1 36524)))) - (wrap64 (Int.tdiv bt279.2.1 146096)))) 365)) + (wrap64 (400 * bt279.1))), wrap64 ((wrap64 (Int.tdiv (wrap64 ((wrap64 (5 * (wrap64 (bt279.2.1 - (wrap64 ((wrap64 ((wrap64 (365 * (wrap64 (Int.tdiv (wrap64 ((wrap64 ((wrap64 (bt279.2.1 - (wrap64 (Int.tdiv bt279.2.1 1460)))) + (wrap64 (Int.tdiv bt279.2.1 36524)))) - (wrap64 (Int.tdiv bt279.2.1 146096)))) 365)))) + (wrap64 (Int.tdiv (wrap64 (Int.tdiv (wrap64 ((wrap64 ((wrap64 (bt279.2.1 - (wrap64 (Int.tdiv bt279.2.1 1460)))) + (wrap64 (Int.tdiv bt279.2.1 36524)))) - (wrap64 (Int.tdiv bt279.2.1 146096)))) 365)) 4)))) - (wrap64 (Int.tdiv (wrap64 (Int.tdiv (wrap64 ((wrap64 ((wrap64 (bt279.2.1 - (wrap64 (Int.tdiv bt279.2.1 1460)))) + (wrap64 (Int.tdiv bt279.2.1 36524)))) - (wrap64 (Int.tdiv bt279.2.1 146096)))) 365)) 100)))))))) + 2)) 153)) + 3), wrap64 ((wrap64 ((wrap64 (bt279.2.1 - (wrap64 ((wrap64 ((wrap64 (365 * (wrap64 (Int.tdiv (wrap64 ((wrap64 ((wrap64 (bt279.2.1 - (wrap64 (Int.tdiv bt279.2.1 1460)))) + (wrap64 (Int.tdiv bt279.2.1 36524)))) - (wrap64 (Int.tdiv bt279.2.1 146096)))) 365)))) + (wrap64 (Int.tdiv (wrap64 (Int.tdiv (wrap64 ((wrap64 ((wrap64 (bt279.2.1 - (wrap64 (Int.tdiv bt279.2.1 1460)))) + (wrap64 (Int.tdiv bt279.2.1 36524)))) - (wrap64 (Int.tdiv bt279.2.1 146096)))) 365)) 4)))) - (wrap64 (Int.tdiv (wrap64 (Int.tdiv (wrap64 ((wrap64 ((wrap64 (bt279.2.1 - (wrap64 (Int.tdiv bt279.2.1 1460)))) + (wrap64 (Int.tdiv bt279.2.1 36524)))) - (wrap64 (Int.tdiv bt279.2.1 146096)))) 365)) 100)))))) - (wrap64 (Int.tdiv (wrap64 ((wrap64 (153 * (wrap64 (Int.tdiv (wrap64 ((wrap64 (5 * (wrap64 (bt279.2.1 - (wrap64 ((wrap64 ((wrap64 (365 * (wrap64 (Int.tdiv (wrap64 ((wrap64 ((wrap64 (bt279.2.1 - (wrap64 (Int.tdiv bt279.2.1 1460)))) + (wrap64 (Int.tdiv bt279.2.1 36524)))) - (wrap64 (Int.tdiv bt279.2.1 146096)))) 365)))) + (wrap64 (Int.tdiv (wrap64 (Int.tdiv (wrap64 ((wrap64 ((wrap64 (bt279.2.1 - (wrap64 (Int.tdiv bt279.2.1 1460)))) + (wrap64 (Int.tdiv bt279.2.1 36524)))) - (wrap64 (Int.tdiv bt279.2.1 146096)))) 365)) 4)))) - (wrap64 (Int.tdiv (wrap64 (Int.tdiv (wrap64 ((wrap64 ((wrap64 (bt279.2.1 - (wrap64 (Int.tdiv bt279.2.1 1460)))) + (wrap64 (Int.tdiv bt279.2.1 36524)))) - (wrap64 (Int.tdiv bt279.2.1 146096)))) 365)) 100)))))))) + 2)) 153)))) + 2)) 5)))) + 1), 0)) else (some (0, 0, 0, 2)))))) else (some (0, 0, 0, 2))) = some (r1, r2, r3, r4) := H
  have A2 := Aside0.mk A20
  clear A20
  by_cases c3 : t278 = true
  · subst c3
    have H1 : ((number_Div.f t277 146097).bind fun bt279 => (if (wrap64 ((wrap64 (Int.tdiv (wrap64 ((wrap64 (5 * (wrap64 (bt279.2.1 - (wrap64 ((wrap64 ((wrap64 (365 * (wrap64 (Int.tdiv (wrap64 ((wrap64 ((wrap64 (bt279.2.1 - (wrap64 (Int.tdiv bt279.2.1 1460)))) + (wrap64 (Int.tdiv bt279.2.1 36524)))) - (wrap64 (Int.tdiv bt279.2.1 146096)))) 365)))) + (wrap64 (Int.tdiv (wrap64 (Int.tdiv (wrap64 ((wrap64 ((wrap64 (bt279.2.1 - (wrap64 (Int.tdiv bt279.2.1 1460)))) + (wrap64 (Int.tdiv bt279.2.1 36524)))) - (wrap64 (Int.tdiv bt279.2.1 146096)))) 365)) 4)))) - (wrap64 (Int.tdiv (wrap64 (Int.tdiv (wrap64 ((wrap64 ((wrap64 (bt279.2.1 - (wrap64 (Int.tdiv bt279.2.1 1460)))) + (wrap64 (Int.tdiv bt279.2.1 36524)))) - (wrap64 (Int.tdiv bt279.2.1 146096)))) 365)) 100)))))))) + 2)) 153)) + 3)) > 12 then ((civil_may.f (wrap64 ((wrap64 ((wrap64 (Int.tdiv (wrap64 ((wrap64 ((wrap64 (bt279.2.1 - (wrap64 (Int.tdiv bt279.2.1 1460)))) + (wrap64 (Int.tdiv bt279.2.1 36524)))) - (wrap64 (Int.tdiv bt279.2.1 146096)))) 365)) + (wrap64 (400 * bt279.1)))) + 1))).bind fun t282 => (if t282 = true then (some (wrap64 ((wrap64 ((wrap64 (Int.tdiv (wrap64 ((wrap64 ((wrap64 (bt279.2.1 - (wrap64 (Int.tdiv bt279.2.1 1460)))) + (wrap64 (Int.tdiv bt279.2.1 36524)))) - (wrap64 (Int.tdiv bt279.2.1 146096)))) 365)) + (wrap64 (400 * bt279.1)))) + 1), wrap64 ((wrap64 ((wrap64 (Int.tdiv (wrap64 ((wrap64 (5 * (wrap64 (bt279.2.1 - (wrap64 ((wrap64 ((wrap64 (365 * (wrap64 (Int.tdiv (wrap64 ((wrap64 ((wrap64 (bt279.2.1 - (wrap64 (Int.tdiv bt279.2.1 1460)))) + (wrap64 (Int.tdiv bt279.2.1 36524)))) - (wrap64 (Int.tdiv bt279.2.1 146096)))) 365)))) + (wrap64 (Int.tdiv (wrap64 (Int.tdiv (wrap64 ((wrap64 ((wrap64 (bt279.2.1 - (wrap64 (Int.tdiv bt279.2.1 1460)))) + (wrap64 (Int.tdiv bt279.2.1 36524)))) - (wrap64 (Int.tdiv bt279.2.1 146096)))) 365)) 4)))) - (wrap64 (Int.tdiv (wrap64 (Int.tdiv (wrap64 ((wrap64 ((wrap64 (bt279.2.1 - (wrap64 (Int.tdiv bt279.2.1 1460)))) + (wrap64 (Int.tdiv bt279.2.1 36524)))) - (wrap64 (Int.tdiv bt279.2.1 146096)))) 365)) 100)))))))) + 2)) 153)) + 3)) - 12), wrap64 ((wrap64 ((wrap64 (bt279.2.1 - (wrap64 ((wrap64 ((wrap64 (365 * (wrap64 (Int.tdiv (wrap64 ((wrap64 ((wrap64 (bt279.2.1 - (wrap64 (Int.tdiv bt279.2.1 1460)))) + (wrap64 (Int.tdiv bt279.2.1 36524)))) - (wrap64 (Int.tdiv bt279.2.1 146096)))) 365)))) + (wrap64 (Int.tdiv (wrap64 (Int.tdiv (wrap64 ((wrap64 ((wrap64 (bt279.2.1 - (wrap64 (Int.tdiv bt279.2.1 1460)))) + (wrap64 (Int.tdiv bt279.2.1 36524)))) - (wrap64 (Int.tdiv bt279.2.1 146096)))) 365)) 4)))) - (wrap64 (Int.tdiv (wrap64 (Int.tdiv (wrap64 ((wrap64 ((wrap64 (bt279.2.1 - (wrap64 (Int.tdiv bt279.2.1 1460)))) + (wrap64 (Int.tdiv bt279.2.1 36524)))) - (wrap64 (Int.tdiv bt279.2.1 146096)))) 365)) 100)))))) - (wrap64 (Int.tdiv (wrap64 ((wrap64 (153 * (wrap64 (Int.tdiv (wrap64 ((wrap64 (5 * (wrap64 (bt279.2.1 - (wrap64 ((wrap64 ((wrap64 (365 * (wrap64 (Int.tdiv (wrap64 ((wrap64 ((wrap64 (bt279.2.1 - (wrap64 (Int.tdiv bt279.2.1 1460)))) + (wrap64 (Int.tdiv bt279.2.1 36524)))) - (wrap64 (Int.tdiv bt279.2.1 146096)))) 365)))) + (wrap64 (Int.tdiv (wrap64 (Int.tdiv (wrap64 ((wrap64 ((wrap64 (bt279.2.1 - (wrap64 (Int.tdiv bt279.2.1 1460)))) + (wrap64 (Int.tdiv bt279.2.1 36524)))) - (wrap64 (Int.tdiv bt279.2.1 146096)))) 365)) 4)))) - (wrap64 (Int.tdiv (wrap64 (Int.tdiv (wrap64 ((wrap64 ((wrap64 (bt279.2.1 - (wrap64 (Int.tdiv bt279.2.1 1460)))) + (wrap64 (Int.tdiv bt279.2.1 36524)))) - (wrap64 (Int.tdiv bt279.2.1 146096)))) 365)) 100)))))))) + 2)) 153)))) + 2)) 5)))) + 1), 0)) else (some (0, 0, 0, 2)))) else ((civil_may.f (wrap64 ((wrap64 (Int.tdiv (wrap64 ((wrap64 ((wrap64 (bt279.2.1 - (wrap64 (Int.tdiv bt279.2.1 1460)))) + (wrap64 (Int.tdiv bt279.2.1 36524)))) - (wrap64 (Int.tdiv bt279.2.1 146096)))) 365)) + (wrap64 (400 * bt279.1))))).bind fun t283 => (if t283 = true then (some (wrap64 ((wrap64 (Int.tdiv (wrap64 ((wrap64 ((wrap64 (bt279.2.1 - (wrap64 (Int.tdiv bt279.2.1 1460)))) + (wrap64 (Int.tdiv bt279.2.1 36524)))) - (wrap64 (Int.tdiv bt279.2.1 146096)))) 365)) + (wrap64 (400 * bt279.1))), wrap64 ((wrap64 (Int.tdiv (wrap64 ((wrap64 (5 * (wrap64 (bt279.2.1 - (wrap64 ((wrap64 ((wrap64 (365 * (wrap64 (Int.tdiv (wrap64 ((wrap64 ((wrap64 (bt279.2.1 - (wrap64 (Int.tdiv bt279.2.1 1460)))) + (wrap64 (Int.tdiv bt279.2.1 36524)))) - (wrap64 (Int.tdiv bt279.2.1 146096)))) 365)))) + (wrap64 (Int.tdiv (wrap64 (Int.tdiv (wrap64 ((wrap64 ((wrap64 (bt279.2.1 - (wrap64 (Int.tdiv bt279.2.1 1460)))) + (wrap64 (Int.tdiv bt279.2.1 36524)))) - (wrap64 (Int.tdiv bt279.2.1 146096)))) 365)) 4)))) - (wrap64 (Int.tdiv (wrap64 (Int.tdiv (wrap64 ((wrap64 ((wrap64 (bt279.2.1 - (wrap64 (Int.tdiv bt279.2.1 1460)))) + (wrap64 (Int.tdiv bt279.2.1 36524)))) - (wrap64 (Int.tdiv bt279.2.1 146096)))) 365)) 100)))))))) + 2)) 153)) + 3), wrap64 ((wrap64 ((wrap64 (bt279.2.1 - (wrap64 ((wrap64 ((wrap64 (365 * (wrap64 (Int.tdiv (wrap64 ((wrap64 ((wrap64 (bt279.2.1 - (wrap64 (Int.tdiv bt279.2.1 1460)))) + (wrap64 (Int.tdiv bt279.2.1 36524)))) - (wrap64 (Int.tdiv bt279.2.1 146096)))) 365)))) + (wrap64 (Int.tdiv (wrap64 (Int.tdiv (wrap64 ((wrap64 ((wrap64 (bt279.2.1 - (wrap64 (Int.tdiv bt279.2.1 1460)))) + (wrap64 (Int.tdiv bt279.2.1 36524)))) - (wrap64 (Int.tdiv bt279.2.1 146096)))) 365)) 4)))) - (wrap64 (Int.tdiv (wrap64 (Int.tdiv (wrap64 ((wrap64 ((wrap64 (bt279.2.1 - (wrap64 (Int.tdiv bt279.2.1 1460)))) + (wrap64 (Int.tdiv bt279.2.1 36524)))) - (wrap64 (Int.tdiv bt279.2.1 146096)))) 365)) 100)))))) - (wrap64 (Int.tdiv (wrap64 ((wrap64 (153 * (wrap64 (Int.tdiv (wrap64 ((wrap64 (5 * (wrap64 (bt279.2.1 - (wrap64 ((wrap64 ((wrap64 (365 * (wrap64 (Int.tdiv (wrap64 ((wrap64 ((wrap64 (bt279.2.1 - (wrap64 (Int.tdiv bt279.2.1 1460)))) + (wrap64 (Int.tdiv bt279.2.1 36524)))) - (wrap64 (Int.tdiv bt279.2.1 146096)))) 365)))) + (wrap64 (Int.tdiv (wrap64 (Int.tdiv (wrap64 ((wrap64 ((wrap64 (bt279.2.1 - (wrap64 (Int.tdiv bt279.2.1 1460)))) + (wrap64 (Int.tdiv bt279.2.1 36524)))) - (wrap64 (Int.tdiv bt279.2.1 146096)))) 365)) 4)))) - (wrap64 (Int.tdiv (wrap64 (Int.tdiv (wrap64 ((wrap64 ((wrap64 (bt279.2.1 - (wrap64 (Int.tdiv bt279.2.1 1460)))) + (wrap64 (Int.tdiv bt279.2.1 36524)))) - (wrap64 (Int.tdiv bt279.2.1 146096)))) 365)) 100)))))))) + 2)) 153)))) + 2)) 5)))) + 1), 0)) else (some (0, 0, 0, 2)))))) = some (r1, r2, r3, r4) := by rw [if_pos rfl] at H; exact H
    clear H
    have H := H1
    clear H1
    replace H := Option.bind_eq_some_iff.mp H
    obtain ⟨⟨t279, t280, t281⟩, A40, H⟩ := H
    replace H : (if (wrap64 ((wrap64 (Int.tdiv (wrap64 ((wrap64 (5 * (wrap64 (t280 - (wrap64 ((wrap64 ((wrap64 (365 * (wrap64 (Int.tdiv (wrap64 ((wrap64 ((wrap64 (t280 - (wrap64 (Int.tdiv t280 1460)))) + (wrap64 (Int.tdiv t280 36524)))) - (wrap64 (Int.tdiv t280 146096)))) 365)))) + (wrap64 (Int.tdiv (wrap64 (Int.tdiv (wrap64 ((wrap64 ((wrap64 (t280 - (wrap64 (Int.tdiv t280 1460)))) + (wrap64 (Int.tdiv t280 36524)))) - (wrap64 (Int.tdiv t280 146096)))) 365)) 4)))) - (wrap64 (Int.tdiv (wrap64 (Int.tdiv (wrap64 ((wrap64 ((wrap64 (t280 - (wrap64 (Int.tdiv t280 1460)))) + (wrap64 (Int.tdiv t280 36524)))) - (wrap64 (Int.tdiv t280 146096)))) 365)) 100)))))))) + 2)) 153)) + 3)) > 12 then ((civil_may.f (wrap64 ((wrap64 ((wrap64 (Int.tdiv (wrap64 ((wrap64 ((wrap64 (t280 - (wrap64 (Int.tdiv t280 1460)))) + (wrap64 (Int.tdiv t280 36524)))) - (wrap64 (Int.tdiv t280 146096)))) 365)) + (wrap64 (400 * t279)))) + 1))).bind fun t282 => (if t282 = true then (some (wrap64 ((wrap64 ((wrap64 (Int.tdiv (wrap64 ((wrap64 ((wrap64 (t280 - (wrap64 (Int.tdiv t280 1460)))) + (wrap64 (Int.tdiv t280 36524)))) - (wrap64 (Int.tdiv t280 146096)))) 365)) + (wrap64 (400 * t279)))) + 1), wrap64 ((wrap64 ((wrap64 (Int.tdiv (wrap64 ((wrap64 (5 * (wrap64 (t280 - (wrap64 ((wrap64 ((wrap64 (365 * (wrap64 (Int.tdiv (wrap64 ((wrap64 ((wrap64 (t280 - (wrap64 (Int.tdiv t280 1460)))) + (wrap64 (Int.tdiv t280 36524)))) - (wrap64 (Int.tdiv t280 146096)))) 365)))) + (wrap64 (Int.tdiv (wrap64 (Int.tdiv (wrap64 ((wrap64 ((wrap64 (t280 - (wrap64 (Int.tdiv t280 1460)))) + (wrap64 (Int.tdiv t280 36524)))) - (wrap64 (Int.tdiv t280 146096)))) 365)) 4)))) - (wrap64 (Int.tdiv (wrap64 (Int.tdiv (wrap64 ((wrap64 ((wrap64 (t280 - (wrap64 (Int.tdiv t280 1460)))) + (wrap64 (Int.tdiv t280 36524)))) - (wrap64 (Int.tdiv t280 146096)))) 365)) 100)))))))) + 2)) 153)) + 3)) - 12), wrap64 ((wrap64 ((wrap64 (t280 - (wrap64 ((wrap64 ((wrap64 (365 * (wrap64 (Int.tdiv (wrap64 ((wrap64 ((wrap64 (t280 - (wrap64 (Int.tdiv t280 1460)))) + (wrap64 (Int.tdiv t280 36524)))) - (wrap64 (Int.tdiv t280 146096)))) 365)))) + (wrap64 (Int.tdiv (wrap64 (Int.tdiv (wrap64 ((wrap64 ((wrap64 (t280 - (wrap64 (Int.tdiv t280 1460)))) + (wrap64 (Int.tdiv t280 36524)))) - (wrap64 (Int.tdiv t280 146096)))) 365)) 4)))) - (wrap64 (Int.tdiv (wrap64 (Int.tdiv (wrap64 ((wrap64 ((wrap64 (t280 - (wrap64 (Int.tdiv t280 1460)))) + (wrap64 (Int.tdiv t280 36524)))) - (wrap64 (Int.tdiv t280 146096)))) 365)) 100)))))) - (wrap64 (Int.tdiv (wrap64 ((wrap64 (153 * (wrap64 (Int.tdiv (wrap64 ((wrap64 (5 * (wrap64 (t280 - (wrap64 ((wrap64 ((wrap64 (365 * (wrap64 (Int.tdiv (wrap64 ((wrap64 ((wrap64 (t280 - (wrap64 (Int.tdiv t280 1460)))) + (wrap64 (Int.tdiv t280 36524)))) - (wrap64 (Int.tdiv t280 146096)))) 365)))) + (wrap64 (Int.tdiv (wrap64 (Int.tdiv (wrap64 ((wrap64 ((wrap64 (t280 - (wrap64 (Int.tdiv t280 1460)))) + (wrap64 (Int.tdiv t280 36524)))) - (wrap64 (Int.tdiv t280 146096)))) 365)) 4)))) - (wrap64 (Int.tdiv (wrap64 (Int.tdiv (wrap64 ((wrap64 ((wrap64 (t280 - (wrap64 (Int.tdiv t280 1460)))) + (wrap64 (Int.tdiv t280 36524)))) - (wrap64 (Int.tdiv t280 146096)))) 365)) 100)))))))) + 2)) 153)))) + 2)) 5)))) + 1), 0)) else (some (0, 0, 0, 2)))) else ((civil_may.f (wrap64 ((wrap64 (Int.tdiv (wrap64 ((wrap64 ((wrap64 (t280 - (wrap64 (Int.tdiv t280 1460)))) + (wrap64 (Int.tdiv t280 36524)))) - (wrap64 (Int.tdiv t280 146096)))) 365)) + (wrap64 (400 * t279))))).bind fun t283 => (if t283 = true then (some (wrap64 ((wrap64 (Int.tdiv (wrap64 ((wrap64 ((wrap64 (t280 - (wrap64 (Int.tdiv t280 1460)))) + (wrap64 (Int.tdiv t280 36524)))) - (wrap64 (Int.tdiv t280 146096)))) 365)) + (wrap64 (400 * t279))), wrap64 ((wrap64 (Int.tdiv (wrap64 ((wrap64 (5 * (wrap64 (t280 - (wrap64 ((wrap64 ((wrap64 (365 * (wrap64 (Int.tdiv (wrap64 ((wrap64 ((wrap64 (t280 - (wrap64 (Int.tdiv t280 1460)))) + (wrap64 (Int.tdiv t280 36524)))) - (wrap64 (Int.tdiv t280 146096)))) 365)))) + (wrap64 (Int.tdiv (wrap64 (Int.tdiv (wrap64 ((wrap64 ((wrap64 (t280 - (wrap64 (Int.tdiv t280 1460)))) + (wrap64 (Int.tdiv t280 36524)))) - (wrap64 (Int.tdiv t280 146096)))) 365)) 4)))) - (wrap64 (Int.tdiv (wrap64 (Int.tdiv (wrap64 ((wrap64 ((wrap64 (t280 - (wrap64 (Int.tdiv t280 1460)))) + (wrap64 (Int.tdiv t280 36524)))) - (wrap64 (Int.tdiv t280 146096)))) 365)) 100)))))))) + 2)) 153)) + 3), wrap64 ((wrap64 ((wrap64 (t280 - (wrap64 ((wrap64 ((wrap64 (365 * (wrap64 (Int.tdiv (wrap64 ((wrap64 ((wrap64 (t280 - (wrap64 (Int.tdiv t280 1460)))) + (wrap64 (Int.tdiv t280 36524)))) - (wrap64 (Int.tdiv t280 146096)))) 365)))) + (wrap64 (Int.tdiv (wrap64 (Int.tdiv (wrap64 ((wrap64 ((wrap64 (t280 - (wrap64 (Int.tdiv t280 1460)))) + (wrap64 (Int.tdiv t280 36524)))) - (wrap64 (Int.tdiv t280 146096)))) 365)) 4)))) - (wrap64 (Int.tdiv (wrap64 (Int.tdiv (wrap64 ((wrap64 ((wrap64 (t280 - (wrap64 (Int.tdiv t280 1460)))) + (wrap64 (Int.tdiv t280 36524)))) - (wrap64 (Int.tdiv t280 146096)))) 365)) 100)))))) - (wrap64 (Int.tdiv (wrap64 ((wrap64 (153 * (wrap64 (Int.tdiv (wrap64 ((wrap64 (5 * (wrap64 (t280 - (wrap64 ((wrap64 ((wrap64 (365 * (wrap64 (Int.tdiv (wrap64 ((wrap64 ((wrap64 (t280 - (wrap64 (Int.tdiv t280 1460)))) + (wrap64 (Int.tdiv t280 36524)))) - (wrap64 (Int.tdiv t280 146096)))) 365)))) + (wrap64 (Int.tdiv (wrap64 (Int.tdiv (wrap64 ((wrap64 ((wrap64 (t280 - (wrap64 (Int.tdiv t280 1460)))) + (wrap64 (Int.tdiv t280 36524)))) - (wrap64 (Int.tdiv t280 146096)))) 365)) 4)))) - (wrap64 (Int.tdiv (wrap64 (Int.tdiv (wrap64 ((wrap64 ((wrap64 (t280 - (wrap64 (Int.tdiv t280 1460)))) + (wrap64 (Int.tdiv t280 36524)))) - (wrap64 (Int.tdiv t280 146096)))) 365)) 100)))))))) + 2)) 153)))) + 2)) 5)))) + 1), 0)) else (some (0, 0, 0, 2))))) = some (r1, r2, r3, r4) := H
    have A4 := Aside0.mk A40
    clear A40
    by_cases c5 : (wrap64 ((wrap64 (Int.tdiv (wrap64 ((wrap64 (5 * (wrap64 (t280 - (wrap64 ((wrap64 ((wrap64 (365 * (wrap64 (Int.tdiv (wrap64 ((wrap64 ((wrap64 (t280 - (wrap64 (Int.tdiv t280 1460)))) + (wrap64 (Int.tdiv t280 36524)))) - (wrap64 (Int.tdiv t280 146096)))) 365)))) + (wrap64 (Int.tdiv (wrap64 (Int.tdiv (wrap64 ((wrap64 ((wrap64 (t280 - (wrap64 (Int.tdiv t280 1460)))) + (wrap64 (Int.tdiv t280 36524)))) - (wrap64 (Int.tdiv t280 146096)))) 365)) 4)))) - (wrap64 (Int.tdiv (wrap64 (Int.tdiv (wrap64 ((wrap64 ((wrap64 (t280 - (wrap64 (Int.tdiv t280 1460)))) + (wrap64 (Int.tdiv t280 36524)))) - (wrap64 (Int.tdiv t280 146096)))) 365)) 100)))))))) + 2)) 153)) + 3)) > 12
    · rw [if_pos c5] at H
      have c5b0 : decide (12 < (wrap64 ((wrap64 (Int.tdiv (wrap64 ((wrap64 (5 * (wrap64 (t280 - (wrap64 ((wrap64 ((wrap64 (365 * (wrap64 (Int.tdiv (wrap64 ((wrap64 ((wrap64 (t280 - (wrap64 (Int.tdiv t280 1460)))) + (wrap64 (Int.tdiv t280 36524)))) - (wrap64 (Int.tdiv t280 146096)))) 365)))) + (wrap64 (Int.tdiv (wrap64 (Int.tdiv (wrap64 ((wrap64 ((wrap64 (t280 - (wrap64 (Int.tdiv t280 1460)))) + (wrap64 (Int.tdiv t280 36524)))) - (wrap64 (Int.tdiv t280 146096)))) 365)) 4)))) - (wrap64 (Int.tdiv (wrap64 (Int.tdiv (wrap64 ((wrap64 ((wrap64 (t280 - (wrap64 (Int.tdiv t280 1460)))) + (wrap64 (Int.tdiv t280 36524)))) - (wrap64 (Int.tdiv t280 146096)))) 365)) 100)))))))) + 2)) 153)) + 3))) = true := decide_eq_true c5
      clear c5
      replace H := Option.bind_eq_some_iff.mp H
      obtain ⟨t282, A60, H⟩ := H
      replace H : (if t282 = true then (some (wrap64 ((wrap64 ((wrap64 (Int.tdiv (wrap64 ((wrap64 ((wrap64 (t280 - (wrap64 (Int.tdiv t280 1460)))) + (wrap64 (Int.tdiv t280 36524)))) - (wrap64 (Int.tdiv t280 146096)))) 365)) + (wrap64 (400 * t279)))) + 1), wrap64 ((wrap64 ((wrap64 (Int.tdiv (wrap64 ((wrap64 (5 * (wrap64 (t280 - (wrap64 ((wrap64 ((wrap64 (365 * (wrap64 (Int.tdiv (wrap64 ((wrap64 ((wrap64 (t280 - (wrap64 (Int.tdiv t280 1460)))) + (wrap64 (Int.tdiv t280 36524)))) - (wrap64 (Int.tdiv t280 146096)))) 365)))) + (wrap64 (Int.tdiv (wrap64 (Int.tdiv (wrap64 ((wrap64 ((wrap64 (t280 - (wrap64 (Int.tdiv t280 1460)))) + (wrap64 (Int.tdiv t280 36524)))) - (wrap64 (Int.tdiv t280 146096)))) 365)) 4)))) - (wrap64 (Int.tdiv (wrap64 (Int.tdiv (wrap64 ((wrap64 ((wrap64 (t280 - (wrap64 (Int.tdiv t280 1460)))) + (wrap64 (Int.tdiv t280 36524)))) - (wrap64 (Int.tdiv t280 146096)))) 365)) 100)))))))) + 2)) 153)) + 3)) - 12), wrap64 ((wrap64 ((wrap64 (t280 - (wrap64 ((wrap64 ((wrap64 (365 * (wrap64 (Int.tdiv (wrap64 ((wrap64 ((wrap64 (t280 - (wrap64 (Int.tdiv t280 1460)))) + (wrap64 (Int.tdiv t280 36524)))) - (wrap64 (Int.tdiv t280 146096)))) 365)))) + (wrap64 (Int.tdiv (wrap64 (Int.tdiv (wrap64 ((wrap64 ((wrap64 (t280 - (wrap64 (Int.tdiv t280 1460)))) + (wrap64 (Int.tdiv t280 36524)))) - (wrap64 (Int.tdiv t280 146096)))) 365)) 4)))) - (wrap64 (Int.tdiv (wrap64 (Int.tdiv (wrap64 ((wrap64 ((wrap64 (t280 - (wrap64 (Int.tdiv t280 1460)))) + (wrap64 (Int.tdiv t280 36524)))) - (wrap64 (Int.tdiv t280 146096)))) 365)) 100)))))) - (wrap64 (Int.tdiv (wrap64 ((wrap64 (153 * (wrap64 (Int.tdiv (wrap64 ((wrap64 (5 * (wrap64 (t280 - (wrap64 ((wrap64 ((wrap64 (365 * (wrap64 (Int.tdiv (wrap64 ((wrap64 ((wrap64 (t280 - (wrap64 (Int.tdiv t280 1460)))) + (wrap64 (Int.tdiv t280 36524)))) - (wrap64 (Int.tdiv t280 146096)))) 365)))) + (wrap64 (Int.tdiv (wrap64 (Int.tdiv (wrap64 ((wrap64 ((wrap64 (t280 - (wrap64 (Int.tdiv t280 1460)))) + (wrap64 (Int.tdiv t280 36524)))) - (wrap64 (Int.tdiv t280 146096)))) 365)) 4)))) - (wrap64 (Int.tdiv (wrap64 (Int.tdiv (wrap64 ((wrap64 ((wrap64 (t280 - (wrap64 (Int.tdiv t280 1460)))) + (wrap64 (Int.tdiv t280 36524)))) - (wrap64 (Int.tdiv t280 146096)))) 365)) 100)))))))) + 2)) 153)))) + 2)) 5)))) + 1), 0)) else (some (0, 0, 0, 2))) = some (r1, r2, r3, r4) := H
      have A6 := Aside0.mk A60
      clear A60
      by_cases c7 : t282 = true
      · subst c7
        have H1 : (some (wrap64 ((wrap64 ((wrap64 (Int.tdiv (wrap64 ((wrap64 ((wrap64 (t280 - (wrap64 (Int.tdiv t280 1460)))) + (wrap64 (Int.tdiv t280 36524)))) - (wrap64 (Int.tdiv t280 146096)))) 365)) + (wrap64 (400 * t279)))) + 1), wrap64 ((wrap64 ((wrap64 (Int.tdiv (wrap64 ((wrap64 (5 * (wrap64 (t280 - (wrap64 ((wrap64 ((wrap64 (365 * (wrap64 (Int.tdiv (wrap64 ((wrap64 ((wrap64 (t280 - (wrap64 (Int.tdiv t280 1460)))) + (wrap64 (Int.tdiv t280 36524)))) - (wrap64 (Int.tdiv t280 146096)))) 365)))) + (wrap64 (Int.tdiv (wrap64 (Int.tdiv (wrap64 ((wrap64 ((wrap64 (t280 - (wrap64 (Int.tdiv t280 1460)))) + (wrap64 (Int.tdiv t280 36524)))) - (wrap64 (Int.tdiv t280 146096)))) 365)) 4)))) - (wrap64 (Int.tdiv (wrap64 (Int.tdiv (wrap64 ((wrap64 ((wrap64 (t280 - (wrap64 (Int.tdiv t280 1460)))) + (wrap64 (Int.tdiv t280 36524)))) - (wrap64 (Int.tdiv t280 146096)))) 365)) 100)))))))) + 2)) 153)) + 3)) - 12), wrap64 ((wrap64 ((wrap64 (t280 - (wrap64 ((wrap64 ((wrap64 (365 * (wrap64 (Int.tdiv (wrap64 ((wrap64 ((wrap64 (t280 - (wrap64 (Int.tdiv t280 1460)))) + (wrap64 (Int.tdiv t280 36524)))) - (wrap64 (Int.tdiv t280 146096)))) 365)))) + (wrap64 (Int.tdiv (wrap64 (Int.tdiv (wrap64 ((wrap64 ((wrap64 (t280 - (wrap64 (Int.tdiv t280 1460)))) + (wrap64 (Int.tdiv t280 36524)))) - (wrap64 (Int.tdiv t280 146096)))) 365)) 4)))) - (wrap64 (Int.tdiv (wrap64 (Int.tdiv (wrap64 ((wrap64 ((wrap64 (t280 - (wrap64 (Int.tdiv t280 1460)))) + (wrap64 (Int.tdiv t280 36524)))) - (wrap64 (Int.tdiv t280 146096)))) 365)) 100)))))) - (wrap64 (Int.tdiv (wrap64 ((wrap64 (153 * (wrap64 (Int.tdiv (wrap64 ((wrap64 (5 * (wrap64 (t280 - (wrap64 ((wrap64 ((wrap64 (365 * (wrap64 (Int.tdiv (wrap64 ((wrap64 ((wrap64 (t280 - (wrap64 (Int.tdiv t280 1460)))) + (wrap64 (Int.tdiv t280 36524)))) - (wrap64 (Int.tdiv t280 146096)))) 365)))) + (wrap64 (Int.tdiv (wrap64 (Int.tdiv (wrap64 ((wrap64 ((wrap64 (t280 - (wrap64 (Int.tdiv t280 1460)))) + (wrap64 (Int.tdiv t280 36524)))) - (wrap64 (Int.tdiv t280 146096)))) 365)) 4)))) - (wrap64 (Int.tdiv (wrap64 (Int.tdiv (wrap64 ((wrap64 ((wrap64 (t280 - (wrap64 (Int.tdiv t280 1460)))) + (wrap64 (Int.tdiv t280 36524)))) - (wrap64 (Int.tdiv t280 146096)))) 365)) 100)))))))) + 2)) 153)))) + 2)) 5)))) + 1), 0)) = some (r1, r2, r3, r4) := by rw [if_pos rfl] at H; exact H
        clear H
        have H := H1
        clear H1
        simp only [Option.some.injEq, Prod.mk.injEq] at H
        obtain ⟨rfl, rfl, rfl, rfl⟩ := H
        go_enter Tryd.func21, Tryd.ntmps21
        go_wp2_with (first | ((with_reducible refine gate_callee (f := 42) rfl ?_); refine goesL_ (some 15) rfl rfl Tryd.func42 (by kernel_rfl) rfl #[.int .i64 a0, .int .i64 719468] rfl (by (try simp only [List.map_toArray, List.map_cons, List.map_nil]); first | done | rfl | (simp only [List.length_drop, List.length_take]; rfl)) ?_; (with_reducible refine (number_Add.calls a0 719468 t277 true _ A2.out).mono ?_); rintro e w' ⟨rfl, ⟨nd, rfl⟩⟩; refine ⟨_, rfl, ?_⟩) | ((with_reducible refine gate_callee (f := 34) rfl ?_); refine goesL_ (some 22) rfl rfl Tryd.func34 (by kernel_rfl) rfl #[.int .i64 t277, .int .i64 146097] rfl (by (try simp only [List.map_toArray, List.map_cons, List.map_nil]); first | done | rfl | (simp only [List.length_drop, List.length_take]; rfl)) ?_; (with_reducible refine (number_Div.calls t277 146097 t279 t280 t281 _ A4.out).mono ?_); rintro e w' ⟨rfl, ⟨nd, rfl⟩⟩; refine ⟨_, rfl, ?_⟩) | ((with_reducible refine gate_callee (f := 43) rfl ?_); refine goesL_ (some 71) rfl rfl Tryd.func43 (by kernel_rfl) rfl #[.int .i64 (wrap64 ((wrap64 ((wrap64 (Int.tdiv (wrap64 ((wrap64 ((wrap64 (t280 - (wrap64 (Int.tdiv t280 1460)))) + (wrap64 (Int.tdiv t280 36524)))) - (wrap64 (Int.tdiv t280 146096)))) 365)) + (wrap64 (400 * t279)))) + 1))] rfl (by (try simp only [List.map_toArray, List.map_cons, List.map_nil]); first | done | rfl | (simp only [List.length_drop, List.length_take]; rfl)) ?_; (with_reducible refine (civil_may.calls (wrap64 ((wrap64 ((wrap64 (Int.tdiv (wrap64 ((wrap64 ((wrap64 (t280 - (wrap64 (Int.tdiv t280 1460)))) + (wrap64 (Int.tdiv t280 36524)))) - (wrap64 (Int.tdiv t280 146096)))) 365)) + (wrap64 (400 * t279)))) + 1)) true _ A6.out).mono ?_); rintro e w' ⟨rfl, ⟨nd, rfl⟩⟩; refine ⟨_, rfl, ?_⟩))
        refine bodyPost_ret (results_list (rs := [.tmp 2, .tmp 3, .tmp 4, .tmp 5]) rfl (by simp) (.tmp (.tmp (.tmp (.tmp .nil))))) rfl ?_
        exact ⟨by first | rfl | (simp; done) | (simp [*]; done), by repeat (first | exact Drawn0.refl _ | apply Drawn0.step)⟩
      · replace c7 := Bool.eq_false_iff.mpr c7
        subst c7
        have H1 : (some (0, 0, 0, 2)) = some (r1, r2, r3, r4) := by rw [if_neg (show ¬ (false = true) by decide)] at H; exact H
        clear H
        have H := H1
        clear H1
        simp only [Option.some.injEq, Prod.mk.injEq] at H
        obtain ⟨rfl, rfl, rfl, rfl⟩ := H
        go_enter Tryd.func21, Tryd.ntmps21
        go_wp2_with (first | ((with_reducible refine gate_callee (f := 42) rfl ?_); refine goesL_ (some 15) rfl rfl Tryd.func42 (by kernel_rfl) rfl #[.int .i64 a0, .int .i64 719468] rfl (by (try simp only [List.map_toArray, List.map_cons, List.map_nil]); first | done | rfl | (simp only [List.length_drop, List.length_take]; rfl)) ?_; (with_reducible refine (number_Add.calls a0 719468 t277 true _ A2.out).mono ?_); rintro e w' ⟨rfl, ⟨nd, rfl⟩⟩; refine ⟨_, rfl, ?_⟩) | ((with_reducible refine gate_callee (f := 34) rfl ?_); refine goesL_ (some 22) rfl rfl Tryd.func34 (by kernel_rfl) rfl #[.int .i64 t277, .int .i64 146097] rfl (by (try simp only [List.map_toArray, List.map_cons, List.map_nil]); first | done | rfl | (simp only [List.length_drop, List.length_take]; rfl)) ?_; (with_reducible refine (number_Div.calls t277 146097 t279 t280 t281 _ A4.out).mono ?_); rintro e w' ⟨rfl, ⟨nd, rfl⟩⟩; refine ⟨_, rfl, ?_⟩) | ((with_reducible refine gate_callee (f := 43) rfl ?_); refine goesL_ (some 71) rfl rfl Tryd.func43 (by kernel_rfl) rfl #[.int .i64 (wrap64 ((wrap64 ((wrap64 (Int.tdiv (wrap64 ((wrap64 ((wrap64 (t280 - (wrap64 (Int.tdiv t280 1460)))) + (wrap64 (Int.tdiv t280 36524)))) - (wrap64 (Int.tdiv t280 146096)))) 365)) + (wrap64 (400 * t279)))) + 1))] rfl (by (try simp only [List.map_toArray, List.map_cons, List.map_nil]); first | done | rfl | (simp only [List.length_drop, List.length_take]; rfl)) ?_; (with_reducible refine (civil_may.calls (wrap64 ((wrap64 ((wrap64 (Int.tdiv (wrap64 ((wrap64 ((wrap64 (t280 - (wrap64 (Int.tdiv t280 1460)))) + (wrap64 (Int.tdiv t280 36524)))) - (wrap64 (Int.tdiv t280 146096)))) 365)) + (wrap64 (400 * t279)))) + 1)) false _ A6.out).mono ?_); rintro e w' ⟨rfl, ⟨nd, rfl⟩⟩; refine ⟨_, rfl, ?_⟩))
        refine bodyPost_ret (results_list (rs := [.tmp 2, .tmp 3, .tmp 4, .tmp 5]) rfl (by simp) (.tmp (.tmp (.tmp (.tmp .nil))))) rfl ?_
        exact ⟨by first | rfl | (simp; done) | (simp [*]; done), by repeat (first | exact Drawn0.refl _ | apply Drawn0.step)⟩
    · rw [if_neg c5] at H
      have c5b0 : decide (12 < (wrap64 ((wrap64 (Int.tdiv (wrap64 ((wrap64 (5 * (wrap64 (t280 - (wrap64 ((wrap64 ((wrap64 (365 * (wrap64 (Int.tdiv (wrap64 ((wrap64 ((wrap64 (t280 - (wrap64 (Int.tdiv t280 1460)))) + (wrap64 (Int.tdiv t280 36524)))) - (wrap64 (Int.tdiv t280 146096)))) 365)))) + (wrap64 (Int.tdiv (wrap64 (Int.tdiv (wrap64 ((wrap64 ((wrap64 (t280 - (wrap64 (Int.tdiv t280 1460)))) + (wrap64 (Int.tdiv t280 36524)))) - (wrap64 (Int.tdiv t280 146096)))) 365)) 4)))) - (wrap64 (Int.tdiv (wrap64 (Int.tdiv (wrap64 ((wrap64 ((wrap64 (t280 - (wrap64 (Int.tdiv t280 1460)))) + (wrap64 (Int.tdiv t280 36524)))) - (wrap64 (Int.tdiv t280 146096)))) 365)) 100)))))))) + 2)) 153)) + 3))) = false := decide_eq_false c5
      clear c5
      replace H := Option.bind_eq_some_iff.mp H
      obtain ⟨t283, A80, H⟩ := H
      replace H : (if t283 = true then (some (wrap64 ((wrap64 (Int.tdiv (wrap64 ((wrap64 ((wrap64 (t280 - (wrap64 (Int.tdiv t280 1460)))) + (wrap64 (Int.tdiv t280 36524)))) - (wrap64 (Int.tdiv t280 146096)))) 365)) + (wrap64 (400 * t279))), wrap64 ((wrap64 (Int.tdiv (wrap64 ((wrap64 (5 * (wrap64 (t280 - (wrap64 ((wrap64 ((wrap64 (365 * (wrap64 (Int.tdiv (wrap64 ((wrap64 ((wrap64 (t280 - (wrap64 (Int.tdiv t280 1460)))) + (wrap64 (Int.tdiv t280 36524)))) - (wrap64 (Int.tdiv t280 146096)))) 365)))) + (wrap64 (Int.tdiv (wrap64 (Int.tdiv (wrap64 ((wrap64 ((wrap64 (t280 - (wrap64 (Int.tdiv t280 1460)))) + (wrap64 (Int.tdiv t280 36524)))) - (wrap64 (Int.tdiv t280 146096)))) 365)) 4)))) - (wrap64 (Int.tdiv (wrap64 (Int.tdiv (wrap64 ((wrap64 ((wrap64 (t280 - (wrap64 (Int.tdiv t280 1460)))) + (wrap64 (Int.tdiv t280 36524)))) - (wrap64 (Int.tdiv t280 146096)))) 365)) 100)))))))) + 2)) 153)) + 3), wrap64 ((wrap64 ((wrap64 (t280 - (wrap64 ((wrap64 ((wrap64 (365 * (wrap64 (Int.tdiv (wrap64 ((wrap64 ((wrap64 (t280 - (wrap64 (Int.tdiv t280 1460)))) + (wrap64 (Int.tdiv t280 36524)))) - (wrap64 (Int.tdiv t280 146096)))) 365)))) + (wrap64 (Int.tdiv (wrap64 (Int.tdiv (wrap64 ((wrap64 ((wrap64 (t280 - (wrap64 (Int.tdiv t280 1460)))) + (wrap64 (Int.tdiv t280 36524)))) - (wrap64 (Int.tdiv t280 146096)))) 365)) 4)))) - (wrap64 (Int.tdiv (wrap64 (Int.tdiv (wrap64 ((wrap64 ((wrap64 (t280 - (wrap64 (Int.tdiv t280 1460)))) + (wrap64 (Int.tdiv t280 36524)))) - (wrap64 (Int.tdiv t280 146096)))) 365)) 100)))))) - (wrap64 (Int.tdiv (wrap64 ((wrap64 (153 * (wrap64 (Int.tdiv (wrap64 ((wrap64 (5 * (wrap64 (t280 - (wrap64 ((wrap64 ((wrap64 (365 * (wrap64 (Int.tdiv (wrap64 ((wrap64 ((wrap64 (t280 - (wrap64 (Int.tdiv t280 1460)))) + (wrap64 (Int.tdiv t280 36524)))) - (wrap64 (Int.tdiv t280 146096)))) 365)))) + (wrap64 (Int.tdiv (wrap64 (Int.tdiv (wrap64 ((wrap64 ((wrap64 (t280 - (wrap64 (Int.tdiv t280 1460)))) + (wrap64 (Int.tdiv t280 36524)))) - (wrap64 (Int.tdiv t280 146096)))) 365)) 4)))) - (wrap64 (Int.tdiv (wrap64 (Int.tdiv (wrap64 ((wrap64 ((wrap64 (t280 - (wrap64 (Int.tdiv t280 1460)))) + (wrap64 (Int.tdiv t280 36524)))) - (wrap64 (Int.tdiv t280 146096)))) 365)) 100)))))))) + 2)) 153)))) + 2)) 5)))) + 1), 0)) else (some (0, 0, 0, 2))) = some (r1, r2, r3, r4) := H
      have A8 := Aside0.mk A80
      clear A80
      by_cases c9 : t283 = true
      · subst c9
        have H1 : (some (wrap64 ((wrap64 (Int.tdiv (wrap64 ((wrap64 ((wrap64 (t280 - (wrap64 (Int.tdiv t280 1460)))) + (wrap64 (Int.tdiv t280 36524)))) - (wrap64 (Int.tdiv t280 146096)))) 365)) + (wrap64 (400 * t279))), wrap64 ((wrap64 (Int.tdiv (wrap64 ((wrap64 (5 * (wrap64 (t280 - (wrap64 ((wrap64 ((wrap64 (365 * (wrap64 (Int.tdiv (wrap64 ((wrap64 ((wrap64 (t280 - (wrap64 (Int.tdiv t280 1460)))) + (wrap64 (Int.tdiv t280 36524)))) - (wrap64 (Int.tdiv t280 146096)))) 365)))) + (wrap64 (Int.tdiv (wrap64 (Int.tdiv (wrap64 ((wrap64 ((wrap64 (t280 - (wrap64 (Int.tdiv t280 1460)))) + (wrap64 (Int.tdiv t280 36524)))) - (wrap64 (Int.tdiv t280 146096)))) 365)) 4)))) - (wrap64 (Int.tdiv (wrap64 (Int.tdiv (wrap64 ((wrap64 ((wrap64 (t280 - (wrap64 (Int.tdiv t280 1460)))) + (wrap64 (Int.tdiv t280 36524)))) - (wrap64 (Int.tdiv t280 146096)))) 365)) 100)))))))) + 2)) 153)) + 3), wrap64 ((wrap64 ((wrap64 (t280 - (wrap64 ((wrap64 ((wrap64 (365 * (wrap64 (Int.tdiv (wrap64 ((wrap64 ((wrap64 (t280 - (wrap64 (Int.tdiv t280 1460)))) + (wrap64 (Int.tdiv t280 36524)))) - (wrap64 (Int.tdiv t280 146096)))) 365)))) + (wrap64 (Int.tdiv (wrap64 (Int.tdiv (wrap64 ((wrap64 ((wrap64 (t280 - (wrap64 (Int.tdiv t280 1460)))) + (wrap64 (Int.tdiv t280 36524)))) - (wrap64 (Int.tdiv t280 146096)))) 365)) 4)))) - (wrap64 (Int.tdiv (wrap64 (Int.tdiv (wrap64 ((wrap64 ((wrap64 (t280 - (wrap64 (Int.tdiv t280 1460)))) + (wrap64 (Int.tdiv t280 36524)))) - (wrap64 (Int.tdiv t280 146096)))) 365)) 100)))))) - (wrap64 (Int.tdiv (wrap64 ((wrap64 (153 * (wrap64 (Int.tdiv (wrap64 ((wrap64 (5 * (wrap64 (t280 - (wrap64 ((wrap64 ((wrap64 (365 * (wrap64 (Int.tdiv (wrap64 ((wrap64 ((wrap64 (t280 - (wrap64 (Int.tdiv t280 1460)))) + (wrap64 (Int.tdiv t280 36524)))) - (wrap64 (Int.tdiv t280 146096)))) 365)))) + (wrap64 (Int.tdiv (wrap64 (Int.tdiv (wrap64 ((wrap64 ((wrap64 (t280 - (wrap64 (Int.tdiv t280 1460)))) + (wrap64 (Int.tdiv t280 36524)))) - (wrap64 (Int.tdiv t280 146096)))) 365)) 4)))) - (wrap64 (Int.tdiv (wrap64 (Int.tdiv (wrap64 ((wrap64 ((wrap64 (t280 - (wrap64 (Int.tdiv t280 1460)))) + (wrap64 (Int.tdiv t280 36524)))) - (wrap64 (Int.tdiv t280 146096)))) 365)) 100)))))))) + 2)) 153)))) + 2)) 5)))) + 1), 0)) = some (r1, r2, r3, r4) := by rw [if_pos rfl] at H; exact H
        clear H
        have H := H1
        clear H1
        simp only [Option.some.injEq, Prod.mk.injEq] at H
        obtain ⟨rfl, rfl, rfl, rfl⟩ := H
        go_enter Tryd.func21, Tryd.ntmps21
        go_wp2_with (first | ((with_reducible refine gate_callee (f := 42) rfl ?_); refine goesL_ (some 15) rfl rfl Tryd.func42 (by kernel_rfl) rfl #[.int .i64 a0, .int .i64 719468] rfl (by (try simp only [List.map_toArray, List.map_cons, List.map_nil]); first | done | rfl | (simp only [List.length_drop, List.length_take]; rfl)) ?_; (with_reducible refine (number_Add.calls a0 719468 t277 true _ A2.out).mono ?_); rintro e w' ⟨rfl, ⟨nd, rfl⟩⟩; refine ⟨_, rfl, ?_⟩) | ((with_reducible refine gate_callee (f := 34) rfl ?_); refine goesL_ (some 22) rfl rfl Tryd.func34 (by kernel_rfl) rfl #[.int .i64 t277, .int .i64 146097] rfl (by (try simp only [List.map_toArray, List.map_cons, List.map_nil]); first | done | rfl | (simp only [List.length_drop, List.length_take]; rfl)) ?_; (with_reducible refine (number_Div.calls t277 146097 t279 t280 t281 _ A4.out).mono ?_); rintro e w' ⟨rfl, ⟨nd, rfl⟩⟩; refine ⟨_, rfl, ?_⟩) | ((with_reducible refine gate_callee (f := 43) rfl ?_); refine goesL_ (some 71) rfl rfl Tryd.func43 (by kernel_rfl) rfl #[.int .i64 (wrap64 ((wrap64 (Int.tdiv (wrap64 ((wrap64 ((wrap64 (t280 - (wrap64 (Int.tdiv t280 1460)))) + (wrap64 (Int.tdiv t280 36524)))) - (wrap64 (Int.tdiv t280 146096)))) 365)) + (wrap64 (400 * t279))))] rfl (by (try simp only [List.map_toArray, List.map_cons, List.map_nil]); first | done | rfl | (simp only [List.length_drop, List.length_take]; rfl)) ?_; (with_reducible refine (civil_may.calls (wrap64 ((wrap64 (Int.tdiv (wrap64 ((wrap64 ((wrap64 (t280 - (wrap64 (Int.tdiv t280 1460)))) + (wrap64 (Int.tdiv t280 36524)))) - (wrap64 (Int.tdiv t280 146096)))) 365)) + (wrap64 (400 * t279)))) true _ A8.out).mono ?_); rintro e w' ⟨rfl, ⟨nd, rfl⟩⟩; refine ⟨_, rfl, ?_⟩))
        refine bodyPost_ret (results_list (rs := [.tmp 2, .tmp 3, .tmp 4, .tmp 5]) rfl (by simp) (.tmp (.tmp (.tmp (.tmp .nil))))) rfl ?_
        exact ⟨by first | rfl | (simp; done) | (simp [*]; done), by repeat (first | exact Drawn0.refl _ | apply Drawn0.step)⟩
      · replace c9 := Bool.eq_false_iff.mpr c9
        subst c9
        have H1 : (some (0, 0, 0, 2)) = some (r1, r2, r3, r4) := by rw [if_neg (show ¬ (false = true) by decide)] at H; exact H
        clear H
        have H := H1
        clear H1
        simp only [Option.some.injEq, Prod.mk.injEq] at H
        obtain ⟨rfl, rfl, rfl, rfl⟩ := H
        go_enter Tryd.func21, Tryd.ntmps21
        go_wp2_with (first | ((with_reducible refine gate_callee (f := 42) rfl ?_); refine goesL_ (some 15) rfl rfl Tryd.func42 (by kernel_rfl) rfl #[.int .i64 a0, .int .i64 719468] rfl (by (try simp only [List.map_toArray, List.map_cons, List.map_nil]); first | done | rfl | (simp only [List.length_drop, List.length_take]; rfl)) ?_; (with_reducible refine (number_Add.calls a0 719468 t277 true _ A2.out).mono ?_); rintro e w' ⟨rfl, ⟨nd, rfl⟩⟩; refine ⟨_, rfl, ?_⟩) | ((with_reducible refine gate_callee (f := 34) rfl ?_); refine goesL_ (some 22) rfl rfl Tryd.func34 (by kernel_rfl) rfl #[.int .i64 t277, .int .i64 146097] rfl (by (try simp only [List.map_toArray, List.map_cons, List.map_nil]); first | done | rfl | (simp only [List.length_drop, List.length_take]; rfl)) ?_; (with_reducible refine (number_Div.calls t277 146097 t279 t280 t281 _ A4.out).mono ?_); rintro e w' ⟨rfl, ⟨nd, rfl⟩⟩; refine ⟨_, rfl, ?_⟩) | ((with_reducible refine gate_callee (f := 43) rfl ?_); refine goesL_ (some 71) rfl rfl Tryd.func43 (by kernel_rfl) rfl #[.int .i64 (wrap64 ((wrap64 (Int.tdiv (wrap64 ((wrap64 ((wrap64 (t280 - (wrap64 (Int.tdiv t280 1460)))) + (wrap64 (Int.tdiv t280 36524)))) - (wrap64 (Int.tdiv t280 146096)))) 365)) + (wrap64 (400 * t279))))] rfl (by (try simp only [List.map_toArray, List.map_cons, List.map_nil]); first | done | rfl | (simp only [List.length_drop, List.length_take]; rfl)) ?_; (with_reducible refine (civil_may.calls (wrap64 ((wrap64 (Int.tdiv (wrap64 ((wrap64 ((wrap64 (t280 - (wrap64 (Int.tdiv t280 1460)))) + (wrap64 (Int.tdiv t280 36524)))) - (wrap64 (Int.tdiv t280 146096)))) 365)) + (wrap64 (400 * t279)))) false _ A8.out).mono ?_); rintro e w' ⟨rfl, ⟨nd, rfl⟩⟩; refine ⟨_, rfl, ?_⟩))
        refine bodyPost_ret (results_list (rs := [.tmp 2, .tmp 3, .tmp 4, .tmp 5]) rfl (by simp) (.tmp (.tmp (.tmp (.tmp .nil))))) rfl ?_
        exact ⟨by first | rfl | (simp; done) | (simp [*]; done), by repeat (first | exact Drawn0.refl _ | apply Drawn0.step)⟩
  · replace c3 := Bool.eq_false_iff.mpr c3
    subst c3
    have H1 : (some (0, 0, 0, 2)) = some (r1, r2, r3, r4) := by rw [if_neg (show ¬ (false = true) by decide)] at H; exact H
    clear H
    have H := H1
    clear H1
    simp only [Option.some.injEq, Prod.mk.injEq] at H
    obtain ⟨rfl, rfl, rfl, rfl⟩ := H
    go_enter Tryd.func21, Tryd.ntmps21
    go_wp2_with (first | ((with_reducible refine gate_callee (f := 42) rfl ?_); refine goesL_ (some 15) rfl rfl Tryd.func42 (by kernel_rfl) rfl #[.int .i64 a0, .int .i64 719468] rfl (by (try simp only [List.map_toArray, List.map_cons, List.map_nil]); first | done | rfl | (simp only [List.length_drop, List.length_take]; rfl)) ?_; (with_reducible refine (number_Add.calls a0 719468 t277 false _ A2.out).mono ?_); rintro e w' ⟨rfl, ⟨nd, rfl⟩⟩; refine ⟨_, rfl, ?_⟩))
    refine bodyPost_ret (results_list (rs := [.tmp 2, .tmp 3, .tmp 4, .tmp 5]) rfl (by simp) (.tmp (.tmp (.tmp (.tmp .nil))))) rfl ?_
    exact ⟨by first | rfl | (simp; done) | (simp [*]; done), by repeat (first | exact Drawn0.refl _ | apply Drawn0.step)⟩

end Go.Proofs.YtgbehcahdgamoaaDoor.Fn

namespace Go.Proofs.YtgbehcahdgamoaaDoor.Fn
open Go.RowKit Go.Proofs.YtgbehcahdgamoaaDoorW.PrintWords Go.Proofs.YtgbehcahdgamoaaDoorW.PrintLast Go.Proofs.YtgbehcahdgamoaaDoorW.PrintMore

theorem add_eq (a b : Int) (ha : IsI64 a) (hb : 0 ≤ b ∧ b ≤ 9223372036854775807) : number_Add.f a b = some (if a + b ≤ 9223372036854775807 then (a + b, true) else (0, false)) := by
  unfold IsI64 at ha
  unfold number_Add.f
  have d2 : decide (b < 0) = false := by simp; omega
  rw [d2]
  by_cases h0 : a < 0
  · have d1 : decide (a < 0) = true := by simpa using h0
    rw [d1, if_neg (by decide), if_pos (by omega), w64 ⟨by omega, by omega⟩]
  · have d1 : decide (a < 0) = false := by simpa using h0
    rw [d1, if_pos (by decide)]
    by_cases h1 : a + b ≤ 9223372036854775807
    · rw [w64 ⟨by omega, by omega⟩, if_pos h1]
      have d3 : decide (a + b < 0) = false := by simp; omega
      rw [d3]
      rfl
    · rw [if_neg h1]
      have d3 : decide (wrap64 (a + b) < 0) = true := by unfold wrap64; simp; omega
      rw [d3]
      rfl

/-- The year of an era, the day of that year (from March), and the month, out of a day of an era. -/
def yoe (r : Int) : Int := (r - r / 1460 + r / 36524 - r / 146096) / 365
def doy (r : Int) : Int := r - (365 * yoe r + yoe r / 4 - yoe r / 100)
def mp (r : Int) : Int := (5 * doy r + 2) / 153
theorem yoe_range (r : Int) (h : 0 ≤ r ∧ r ≤ 146096) : 0 ≤ yoe r ∧ yoe r ≤ 399 := by unfold yoe; omega
/-- Asked of each day of an era, by the kernel. -/
def eraOk (r : Nat) : Bool :=
  let Y := (r - r / 1460 + r / 36524 - r / 146096) / 365
  Nat.ble (365 * Y + Y / 4) (r + Y / 100) && (Nat.ble (r + Y / 100) (365 * Y + Y / 4 + 364) || (Nat.beq (r + Y / 100) (365 * Y + Y / 4 + 365) && (Nat.beq ((Y + 1) % 4) 0 && (!(Nat.beq ((Y + 1) % 100) 0) || Nat.beq ((Y + 1) % 400) 0))))
def allOk (p : Nat → Bool) : Nat → Bool
  | 0 => true
  | n + 1 => p n && allOk p n
theorem allOk_of (p : Nat → Bool) : ∀ n, allOk p n = true → ∀ i, i < n → p i = true
  | 0, _, i, h => by omega
  | n + 1, h, i, hi => by
    unfold allOk at h
    simp only [Bool.and_eq_true] at h
    by_cases e : i = n
    · subst e; exact h.1
    · exact allOk_of p n h.2 i (by omega)
theorem era_ok : allOk eraOk 146097 = true := by decide +kernel
theorem doy_range (r : Int) (h : 0 ≤ r ∧ r ≤ 146096) : 0 ≤ doy r ∧ (doy r ≤ 364 ∨ (doy r = 365 ∧ leapB (yoe r + 1) = true)) := by
  obtain ⟨n, rfl⟩ := Int.eq_ofNat_of_zero_le h.1
  have hn := allOk_of eraOk 146097 era_ok n (by omega)
  have hY : yoe (n : Int) = (((n - n / 1460 + n / 36524 - n / 146096) / 365 : Nat) : Int) := by unfold yoe; omega
  unfold eraOk at hn
  simp only [Bool.and_eq_true, Bool.or_eq_true, Nat.ble_eq, Bool.not_eq_true', ← Bool.not_eq_true, Nat.beq_eq] at hn
  unfold doy leapB
  rw [hY]
  generalize (n - n / 1460 + n / 36524 - n / 146096) / 365 = Y at hn
  simp only [Bool.and_eq_true, Bool.or_eq_true, decide_eq_true_eq]
  omega
theorem doy_365 (r : Int) (h : 0 ≤ r ∧ r ≤ 146096) : 0 ≤ doy r ∧ doy r ≤ 365 := by have := doy_range r h; omega

/-- The civil date of a day. -/
def dY (n : Int) : Int := yoe ((n + 719468) % 146097) + 400 * ((n + 719468) / 146097) + (if mp ((n + 719468) % 146097) + 3 > 12 then 1 else 0)
def dM (n : Int) : Int := if mp ((n + 719468) % 146097) + 3 > 12 then mp ((n + 719468) % 146097) + 3 - 12 else mp ((n + 719468) % 146097) + 3
def dD (n : Int) : Int := doy ((n + 719468) % 146097) - (153 * mp ((n + 719468) % 146097) + 2) / 5 + 1

theorem mp_range (r : Int) (h : 0 ≤ r ∧ r ≤ 146096) : 0 ≤ mp r ∧ mp r ≤ 11 := by have := doy_365 r h; unfold mp; omega

theorem date_eq (n : Int) (hn : IsI64 n) : civil_Date.f n = some (if n ≤ 9223372036854056339 ∧ mayB (dY n) = true then (dY n, dM n, dD n, 0) else (0, 0, 0, 2)) := by
  unfold civil_Date.f
  rw [add_eq n 719468 hn (by omega)]
  simp only [Option.bind_some]
  unfold IsI64 at hn
  by_cases h : n + 719468 ≤ 9223372036854775807
  · rw [if_pos h]
    simp only [if_true]
    rw [div_eq _ _ (by omega) (by omega) ⟨by omega, by omega⟩]
    simp only [Option.bind_some]
    have hr : 0 ≤ (n + 719468) % 146097 ∧ (n + 719468) % 146097 ≤ 146096 := by omega
    have hq : -63132000000000 ≤ (n + 719468) / 146097 ∧ (n + 719468) / 146097 ≤ 63132000000000 := by omega
    have e : (n ≤ 9223372036854056339) = True := by simp; omega
    unfold dY dM dD
    simp only [e, true_and]
    clear e h hn
    generalize (n + 719468) % 146097 = r at hr
    generalize (n + 719468) / 146097 = q at hq
    have y0 := yoe_range r hr
    have d0 := doy_365 r hr
    have m0 := mp_range r hr
    have t1 : Int.tdiv r 1460 = r / 1460 := Int.tdiv_eq_ediv_of_nonneg hr.1
    have t2 : Int.tdiv r 36524 = r / 36524 := Int.tdiv_eq_ediv_of_nonneg hr.1
    have t3 : Int.tdiv r 146096 = r / 146096 := Int.tdiv_eq_ediv_of_nonneg hr.1
    have t4 : Int.tdiv (r - r / 1460 + r / 36524 - r / 146096) 365 = yoe r := Int.tdiv_eq_ediv_of_nonneg (by omega)
    rw [t1, t2, t3, w64 (a := r / 1460) ⟨by omega, by omega⟩, w64 (a := r / 36524) ⟨by omega, by omega⟩, w64 (a := r / 146096) ⟨by omega, by omega⟩, w64 (a := r - r / 1460) ⟨by omega, by omega⟩,
      w64 (a := r - r / 1460 + r / 36524) ⟨by omega, by omega⟩, w64 (a := r - r / 1460 + r / 36524 - r / 146096) ⟨by omega, by omega⟩, t4]
    have e1 : doy r = r - (365 * yoe r + yoe r / 4 - yoe r / 100) := rfl
    have e2 : mp r = (5 * doy r + 2) / 153 := rfl
    generalize yoe r = Y at y0 e1
    generalize doy r = D at d0 e1 e2
    generalize mp r = M at m0 e2
    rw [w64 (a := Y) ⟨by omega, by omega⟩, Int.tdiv_eq_ediv_of_nonneg (show 0 ≤ Y by omega), Int.tdiv_eq_ediv_of_nonneg (show 0 ≤ Y by omega), w64 (a := Y / 4) ⟨by omega, by omega⟩, w64 (a := Y / 100) ⟨by omega, by omega⟩,
      w64 (a := 365 * Y) ⟨by omega, by omega⟩, w64 (a := 365 * Y + Y / 4) ⟨by omega, by omega⟩, w64 (a := 365 * Y + Y / 4 - Y / 100) ⟨by omega, by omega⟩, ← e1, w64 (a := D) ⟨by omega, by omega⟩,
      w64 (a := 5 * D) ⟨by omega, by omega⟩, w64 (a := 5 * D + 2) ⟨by omega, by omega⟩, Int.tdiv_eq_ediv_of_nonneg (show 0 ≤ 5 * D + 2 by omega), ← e2, w64 (a := M) ⟨by omega, by omega⟩,
      w64 (a := M + 3) ⟨by omega, by omega⟩, w64 (a := 400 * q) ⟨by omega, by omega⟩, w64 (a := Y + 400 * q) ⟨by omega, by omega⟩, w64 (a := Y + 400 * q + 1) ⟨by omega, by omega⟩,
      w64 (a := M + 3 - 12) ⟨by omega, by omega⟩, w64 (a := 153 * M) ⟨by omega, by omega⟩, w64 (a := 153 * M + 2) ⟨by omega, by omega⟩, Int.tdiv_eq_ediv_of_nonneg (show 0 ≤ 153 * M + 2 by omega), w64 (a := (153 * M + 2) / 5) ⟨by omega, by omega⟩,
      w64 (a := D - (153 * M + 2) / 5) ⟨by omega, by omega⟩, w64 (a := D - (153 * M + 2) / 5 + 1) ⟨by omega, by omega⟩]
    by_cases h12 : M + 3 > 12
    · rw [if_pos h12, if_pos h12, if_pos h12, may_eq]
      simp only [Option.bind_some]
      split <;> rfl
    · rw [if_neg h12, if_neg h12, if_neg h12, may_eq]
      simp only [Option.bind_some, Int.add_zero]
      split <;> rfl
  · rw [if_neg h]
    have e : (n ≤ 9223372036854056339) = False := by simp; omega
    simp [e]
end Go.Proofs.YtgbehcahdgamoaaDoor.Fn

namespace Go.Proofs.YtgbehcahdgamoaaDoor.Fn
open Go.RowKit Go.Proofs.YtgbehcahdgamoaaDoorW.PrintWords Go.Proofs.YtgbehcahdgamoaaDoorW.PrintLast Go.Proofs.YtgbehcahdgamoaaDoorW.PrintMore

theorem leap_400 (y q : Int) : leapB (y + 400 * q) = leapB y := by
  unfold leapB
  rw [show (y + 400 * q) % 4 = y % 4 by omega, show (y + 400 * q) % 100 = y % 100 by omega, show (y + 400 * q) % 400 = y % 400 by omega]
theorem year_len (y : Int) : daysN (y + 1) 1 1 = daysN y 1 1 + 365 + (if leapB y = true then 1 else 0) := by
  unfold daysN yM mM leapB
  simp only [show (1 : Int) < 3 by decide, if_true]
  by_cases h4 : y % 4 = 0 <;> by_cases h100 : y % 100 = 0 <;> by_cases h400 : y % 400 = 0 <;> simp [h4, h100, h400] <;> omega
theorem lenN_of (y : Int) : lenN y 1 = 31 ∧ lenN y 2 = (if leapB y = true then 29 else 28) ∧ lenN y 3 = 31 ∧ lenN y 4 = 30 ∧ lenN y 5 = 31 ∧ lenN y 6 = 30 ∧ lenN y 7 = 31 ∧ lenN y 8 = 31 ∧ lenN y 9 = 30 ∧ lenN y 10 = 31 ∧ lenN y 11 = 30 ∧ lenN y 12 = 31 := by
  refine ⟨?_, ?_, ?_, ?_, ?_, ?_, ?_, ?_, ?_, ?_, ?_, ?_⟩
  case refine_2 => unfold lenN; rw [if_neg (by decide), if_neg (by decide)]; cases leapB y <;> simp <;> rfl
  all_goals unfold lenN; rw [if_neg (by decide), if_neg (by decide), if_neg (by simp)]; rfl
theorem month12 {m : Int} (h : 1 ≤ m ∧ m ≤ 12) : m = 1 ∨ m = 2 ∨ m = 3 ∨ m = 4 ∨ m = 5 ∨ m = 6 ∨ m = 7 ∨ m = 8 ∨ m = 9 ∨ m = 10 ∨ m = 11 ∨ m = 12 := by omega
theorem month_len (y m : Int) (hm : 1 ≤ m ∧ m ≤ 11) : daysN y (m + 1) 1 = daysN y m 1 + lenN y m := by
  obtain ⟨l1, l2, l3, l4, l5, l6, l7, l8, l9, l10, l11, _⟩ := lenN_of y
  have hl := year_len (y - 1)
  rcases (show m = 1 ∨ m = 2 ∨ m = 3 ∨ m = 4 ∨ m = 5 ∨ m = 6 ∨ m = 7 ∨ m = 8 ∨ m = 9 ∨ m = 10 ∨ m = 11 by omega) with rfl | rfl | rfl | rfl | rfl | rfl | rfl | rfl | rfl | rfl | rfl
  · rw [l1]; simp [daysN, yM, mM]; omega
  · rw [l2]
    simp [daysN, yM, mM, leapB]
    by_cases h4 : y % 4 = 0 <;> by_cases h100 : y % 100 = 0 <;> by_cases h400 : y % 400 = 0 <;> simp [h4, h100, h400] <;> omega
  · rw [l3]; simp [daysN, yM, mM]; omega
  · rw [l4]; simp [daysN, yM, mM]; omega
  · rw [l5]; simp [daysN, yM, mM]; omega
  · rw [l6]; simp [daysN, yM, mM]; omega
  · rw [l7]; simp [daysN, yM, mM]; omega
  · rw [l8]; simp [daysN, yM, mM]; omega
  · rw [l9]; simp [daysN, yM, mM]; omega
  · rw [l10]; simp [daysN, yM, mM]; omega
  · rw [l11]; simp [daysN, yM, mM]; omega
theorem year_end (y : Int) : daysN (y + 1) 1 1 = daysN y 12 1 + 31 := by simp [daysN, yM, mM]; omega
theorem daysN_day (y m d : Int) : daysN y m d = daysN y m 1 + (d - 1) := by unfold daysN; omega

/-- The first of a month lies in its year: months ahead of others, years ahead of others. -/
theorem month_le (y : Int) : ∀ (k : Nat) (m : Int), 1 ≤ m → m + k ≤ 12 → daysN y m 1 + 28 * k ≤ daysN y (m + k) 1
  | 0, m, _, _ => by simp
  | k + 1, m, h1, h2 => by
    have h := month_le y k m h1 (by omega)
    have h3 := month_len y (m + k) (by omega)
    have h4 := lenN_pos y (m + k) (by omega) (by omega)
    rw [show m + ((k + 1 : Nat) : Int) = m + k + 1 by omega, h3]
    omega
theorem year_le (y : Int) : ∀ k : Nat, daysN y 1 1 + 365 * k ≤ daysN (y + k) 1 1
  | 0 => by simp
  | k + 1 => by
    have h := year_le y k
    have h2 := year_len (y + k)
    rw [show y + ((k + 1 : Nat) : Int) = y + k + 1 by omega, h2]
    split <;> omega
theorem right_parts {y m d : Int} (h : rightN y m d = true) : mayB y = true ∧ 1 ≤ m ∧ m ≤ 12 ∧ 1 ≤ d ∧ d ≤ lenN y m := by
  unfold rightN at h
  simp only [Bool.and_eq_true, decide_eq_true_eq] at h
  obtain ⟨h1, h2, h3⟩ := h
  refine ⟨h1, ?_, ?_, h2, h3⟩
  · unfold lenN at h3; split at h3 <;> omega
  · unfold lenN at h3; split at h3
    · omega
    · split at h3 <;> omega
theorem right_mk {y m d : Int} (h1 : mayB y = true) (h2 : 1 ≤ d) (h3 : d ≤ lenN y m) : rightN y m d = true := by
  unfold rightN; rw [h1]; simp; omega
/-- A date lies in its month, and in its year. -/
theorem in_year {y m d : Int} (hm : 1 ≤ m ∧ m ≤ 12) (hd : 1 ≤ d) (hl : d ≤ lenN y m) : daysN y 1 1 ≤ daysN y m d ∧ daysN y m d < daysN (y + 1) 1 1 := by
  have h1 := month_le y (m - 1).toNat 1 (by omega) (by omega)
  rw [show (1 : Int) + ((m - 1).toNat : Int) = m by omega] at h1
  have h2 := daysN_day y m d
  refine ⟨by omega, ?_⟩
  by_cases h12 : m = 12
  · subst h12
    have := year_end y
    have := (lenN_of y).2.2.2.2.2.2.2.2.2.2.2
    omega
  · have h3 := month_len y m (by omega)
    have h4 := month_le y (12 - (m + 1)).toNat (m + 1) (by omega) (by omega)
    rw [show m + 1 + ((12 - (m + 1)).toNat : Int) = 12 by omega] at h4
    have := year_end y
    omega
theorem year_of {y y' n : Int} (h1 : daysN y 1 1 ≤ n ∧ n < daysN (y + 1) 1 1) (h2 : daysN y' 1 1 ≤ n ∧ n < daysN (y' + 1) 1 1) : y = y' := by
  rcases Int.lt_trichotomy y y' with h | h | h
  · have h3 := year_le (y + 1) (y' - (y + 1)).toNat
    rw [show y + 1 + ((y' - (y + 1)).toNat : Int) = y' by omega] at h3
    omega
  · exact h
  · have h3 := year_le (y' + 1) (y - (y' + 1)).toNat
    rw [show y' + 1 + ((y - (y' + 1)).toNat : Int) = y by omega] at h3
    omega
theorem month_of {y m d m' d' : Int} (hm : 1 ≤ m ∧ m ≤ 12) (hm' : 1 ≤ m' ∧ m' ≤ 12) (hd : 1 ≤ d ∧ d ≤ lenN y m) (hd' : 1 ≤ d' ∧ d' ≤ lenN y m') (h : daysN y m d = daysN y m' d') : m = m' ∧ d = d' := by
  have h1 := daysN_day y m d
  have h2 := daysN_day y m' d'
  rcases Int.lt_trichotomy m m' with h3 | h3 | h3
  · exfalso
    have h4 := month_len y m (by omega)
    have h5 := month_le y (m' - (m + 1)).toNat (m + 1) (by omega) (by omega)
    rw [show m + 1 + ((m' - (m + 1)).toNat : Int) = m' by omega] at h5
    omega
  · subst h3; exact ⟨rfl, by omega⟩
  · exfalso
    have h4 := month_len y m' (by omega)
    have h5 := month_le y (m - (m' + 1)).toNat (m' + 1) (by omega) (by omega)
    rw [show m' + 1 + ((m - (m' + 1)).toNat : Int) = m by omega] at h5
    omega
theorem days_inj {y m d y' m' d' : Int} (h : rightN y m d = true) (h' : rightN y' m' d' = true) (e : daysN y m d = daysN y' m' d') : y = y' ∧ m = m' ∧ d = d' := by
  obtain ⟨_, a1, a2, a3, a4⟩ := right_parts h
  obtain ⟨_, b1, b2, b3, b4⟩ := right_parts h'
  have i1 := in_year (y := y) ⟨a1, a2⟩ a3 a4
  have i2 := in_year (y := y') ⟨b1, b2⟩ b3 b4
  rw [← e] at i2
  obtain rfl := year_of i1 i2
  exact ⟨rfl, month_of ⟨a1, a2⟩ ⟨b1, b2⟩ ⟨a3, a4⟩ ⟨b3, b4⟩ e⟩

/-- civil.Date's date is one of its month, and is that day's. -/
theorem date_all (n : Int) : (1 ≤ dM n ∧ dM n ≤ 12 ∧ 1 ≤ dD n ∧ dD n ≤ lenN (dY n) (dM n)) ∧ daysN (dY n) (dM n) (dD n) = n := by
  have hr : 0 ≤ (n + 719468) % 146097 ∧ (n + 719468) % 146097 ≤ 146096 := by omega
  have hq : n = 146097 * ((n + 719468) / 146097) + (n + 719468) % 146097 - 719468 := by omega
  unfold dY dM dD at *
  generalize (n + 719468) % 146097 = r at *
  generalize (n + 719468) / 146097 = q at *
  have y0 := yoe_range r hr
  have d0 := doy_range r hr
  have m0 := mp_range r hr
  have e1 : doy r = r - (365 * yoe r + yoe r / 4 - yoe r / 100) := rfl
  have e2 : mp r = (5 * doy r + 2) / 153 := rfl
  have l0 := leap_400 (yoe r + 1) q
  generalize yoe r = Y at *
  generalize doy r = D at *
  generalize mp r = M at *
  by_cases h12 : M + 3 > 12
  · rw [if_pos h12] at *
    have hm : M = 10 ∨ M = 11 := by omega
    rw [if_pos h12]
    refine ⟨?_, ?_⟩
    · refine ⟨by omega, by omega, by omega, ?_⟩
      obtain ⟨l1, l2, _⟩ := lenN_of (Y + 400 * q + 1)
      rcases hm with rfl | rfl
      · rw [show (10 : Int) + 3 - 12 = 1 from rfl, l1]; omega
      · rw [show (11 : Int) + 3 - 12 = 2 from rfl, l2, show Y + 400 * q + 1 = Y + 1 + 400 * q by omega, l0]
        rcases d0.2 with d1 | ⟨d1, d2⟩
        · split <;> omega
        · rw [if_pos d2]; omega
    · unfold daysN yM mM
      rw [if_pos (by omega), if_pos (by omega), show Y + 400 * q + 1 - 1 = Y + 400 * q by omega, show (Y + 400 * q) / 400 = q by omega, show (Y + 400 * q) % 400 = Y by omega, show M + 3 - 12 + 9 = M by omega]
      omega
  · rw [if_neg h12] at *
    rw [if_neg h12]
    simp only [Int.add_zero] at *
    refine ⟨?_, ?_⟩
    · refine ⟨by omega, by omega, by omega, ?_⟩
      obtain ⟨_, _, l3, l4, l5, l6, l7, l8, l9, l10, l11, l12⟩ := lenN_of (Y + 400 * q)
      rcases (show M = 0 ∨ M = 1 ∨ M = 2 ∨ M = 3 ∨ M = 4 ∨ M = 5 ∨ M = 6 ∨ M = 7 ∨ M = 8 ∨ M = 9 by omega) with rfl | rfl | rfl | rfl | rfl | rfl | rfl | rfl | rfl | rfl
      · rw [show (0 : Int) + 3 = 3 from rfl, l3]; omega
      · rw [show (1 : Int) + 3 = 4 from rfl, l4]; omega
      · rw [show (2 : Int) + 3 = 5 from rfl, l5]; omega
      · rw [show (3 : Int) + 3 = 6 from rfl, l6]; omega
      · rw [show (4 : Int) + 3 = 7 from rfl, l7]; omega
      · rw [show (5 : Int) + 3 = 8 from rfl, l8]; omega
      · rw [show (6 : Int) + 3 = 9 from rfl, l9]; omega
      · rw [show (7 : Int) + 3 = 10 from rfl, l10]; omega
      · rw [show (8 : Int) + 3 = 11 from rfl, l11]; omega
      · rw [show (9 : Int) + 3 = 12 from rfl, l12]; omega
    · unfold daysN yM mM
      rw [if_neg (by omega), if_neg (by omega), show (Y + 400 * q) / 400 = q by omega, show (Y + 400 * q) % 400 = Y by omega, show M + 3 - 3 = M by omega]
      omega

theorem date_days (n : Int) (h : mayB (dY n) = true) : rightN (dY n) (dM n) (dD n) = true ∧ daysN (dY n) (dM n) (dD n) = n := by
  obtain ⟨⟨_, _, h3, h4⟩, h5⟩ := date_all n
  exact ⟨right_mk h h3 h4, h5⟩
/-- A day lies in its date's year. -/
theorem date_year (n : Int) : daysN (dY n) 1 1 ≤ n ∧ n < daysN (dY n + 1) 1 1 := by
  obtain ⟨⟨h1, h2, h3, h4⟩, h5⟩ := date_all n
  have := in_year (y := dY n) ⟨h1, h2⟩ h3 h4
  rw [h5] at this
  exact this
theorem year_mono {y z : Int} (h : y ≤ z) : daysN y 1 1 + 365 * (z - y) ≤ daysN z 1 1 := by
  have h3 := year_le y (z - y).toNat
  rw [show y + ((z - y).toNat : Int) = z by omega] at h3
  omega
theorem year_ge_iff (y n : Int) : y ≤ dY n ↔ daysN y 1 1 ≤ n := by
  have h := date_year n
  constructor
  · intro h2; have := year_mono h2; omega
  · intro h2
    rcases Int.lt_or_le (dY n) y with g | g
    · have := year_mono (show dY n + 1 ≤ y by omega); omega
    · exact g
theorem may_iff (n : Int) : mayB (dY n) = true ↔ -784353015833 ≤ n ∧ n ≤ 784351576776 := by
  have h1 := year_ge_iff (-2147483648) n
  have h2 := year_ge_iff 2147483648 n
  rw [show daysN (-2147483648) 1 1 = -784353015833 by decide] at h1
  rw [show daysN 2147483648 1 1 = 784351576777 by decide] at h2
  unfold mayB
  simp only [Bool.and_eq_true, decide_eq_true_eq]
  omega
end Go.Proofs.YtgbehcahdgamoaaDoor.Fn

namespace Go.Proofs
open Go.Shelf
def Tryd.insSort_ren : Go.Shelf.Ren := ⟨fun | 20 => 61 | n => n, fun | 24 => 62 | 22 => 58 | 3 => 3 | 25 => 73 | 4 => 4 | 0 => 0 | n => n, fun | n => n⟩
theorem Tryd.insSort : Go.Proofs.SlLaysF0.n20 Tryd.prog Tryd.insSort_ren := {
  mixed := by kernel_rfl
  f20 := ⟨Tryd.f61.name, by decide, Tryd.func61.trans (congrArg some (by kernel_rfl))⟩
  t0 := Tryd.underlying0
  a0 := Tryd.isAgg0
  z0 := Tryd.sizeOf0
  v0 := Tryd.zeroValue0
  t3 := Tryd.underlying3
  a3 := Tryd.isAgg3
  z3 := Tryd.sizeOf3
  v3 := Tryd.zeroValue3
  t4 := Tryd.underlying4
  a4 := Tryd.isAgg4
  z4 := Tryd.sizeOf4
  v4 := Tryd.zeroValue4
  t22 := Tryd.underlying58
  a22 := Tryd.isAgg58
  z22 := Tryd.sizeOf58
  v22 := Tryd.zeroValue58
  t25 := Tryd.underlying73
  a25 := Tryd.isAgg73
  z25 := Tryd.sizeOf73
  v25 := Tryd.zeroValue73 }
def Tryd.contTurn_ren : Go.Shelf.Ren := ⟨fun | 8 => 36 | 6 => 52 | n => n, fun | 22 => 58 | 23 => 62 | 25 => 63 | 4 => 4 | 3 => 3 | 0 => 0 | n => n, fun | n => n⟩
theorem Tryd.contTurn : Go.Proofs.SlLaysH0.n8 Tryd.prog Tryd.contTurn_ren := {
  mixed := by kernel_rfl
  f6 := ⟨Tryd.f52.name, by decide, Tryd.func52.trans (congrArg some (by kernel_rfl))⟩
  f8 := ⟨Tryd.f36.name, by decide, Tryd.func36.trans (congrArg some (by kernel_rfl))⟩
  t0 := Tryd.underlying0
  a0 := Tryd.isAgg0
  z0 := Tryd.sizeOf0
  v0 := Tryd.zeroValue0
  t3 := Tryd.underlying3
  a3 := Tryd.isAgg3
  z3 := Tryd.sizeOf3
  v3 := Tryd.zeroValue3
  t4 := Tryd.underlying4
  a4 := Tryd.isAgg4
  z4 := Tryd.sizeOf4
  v4 := Tryd.zeroValue4
  t22 := Tryd.underlying58
  a22 := Tryd.isAgg58
  z22 := Tryd.sizeOf58
  v22 := Tryd.zeroValue58
  t25 := Tryd.underlying63
  a25 := Tryd.isAgg63
  z25 := Tryd.sizeOf63
  v25 := Tryd.zeroValue63 }
end Go.Proofs

namespace Go.Proofs.YtgbehcahdgamoaaDoor.Fn
open Go.RowKit Go.Proofs.YtgbehcahdgamoaaDoorW.PrintWords Go.Proofs.YtgbehcahdgamoaaDoorW.PrintLast Go.Lib Go.Sort

/-- A turn's cells. -/
def encT (x : Int × Bool) : List Value := [.int .i64 x.1, .bool x.2]
/-- How two turns stand: by their moments, and of two at a time the start last. -/
def cfT (x y : Int × Bool) : Int := if x.1 < y.1 then -1 else if y.1 < x.1 then 1 else if x.2 = y.2 then 0 else if x.2 = true then 1 else -1

set_option maxHeartbeats 1000000 in
theorem turnCmp (x y : Int × Bool) (W : World) : Calls Tryd.prog 50 #[.agg #[.int .i64 x.1, .bool x.2], .agg #[.int .i64 y.1, .bool y.2]] W fun e w' => e = .returned (.int .i64 (cfT x y)) ∧ ∃ q os', w' = grow (W.drewN q) os' := by
  obtain ⟨a, b⟩ := x
  obtain ⟨c, d⟩ := y
  show Calls Tryd.prog 50 #[.agg #[.int .i64 a, .bool b], .agg #[.int .i64 c, .bool d]] W _
  by_cases h1 : a < c
  · have hr : cfT (a, b) (c, d) = -1 := by simp [cfT, h1]
    rw [hr]
    clear hr
    have n1 : (a != a) = false := by simp
    have n2 : (c != c) = false := by simp
    go_enter Tryd.func50, Tryd.ntmps50
    go_wp2
    go_ret
    exact ⟨rfl, 0, _, by rw [alloc_eq_grow, alloc_eq_grow, grow_grow]; rfl⟩
  · by_cases h2 : c < a
    · have hr : cfT (a, b) (c, d) = 1 := by simp [cfT, h1, h2]
      rw [hr]
      clear hr
      have n1 : (a != a) = false := by simp
      have n2 : (c != c) = false := by simp
      go_enter Tryd.func50, Tryd.ntmps50
      go_wp2
      go_ret
      exact ⟨rfl, 0, _, by rw [alloc_eq_grow, alloc_eq_grow, grow_grow]; rfl⟩
    · obtain rfl : a = c := by omega
      clear h1 h2
      have n1 : (a != a) = false := by simp
      have n2 : ¬ a < a := by omega
      cases b <;> cases d
      all_goals
        show Calls Tryd.prog 50 _ W (fun e w' => e = .returned (.int .i64 (cfT _ _)) ∧ _)
        unfold cfT
        simp only [Int.lt_irrefl, if_false, if_true, reduceCtorEq]
        go_enter Tryd.func50, Tryd.ntmps50
        go_wp2
        go_ret
        exact ⟨rfl, 0, _, by rw [alloc_eq_grow, alloc_eq_grow, grow_grow]; rfl⟩

theorem turnLays (blk off size : Nat) (w : World) : CmpLays Tryd.prog 50 #[] encT 2 cfT blk off size w := fun _ _ _ _ x y => turnCmp x y _

set_option maxHeartbeats 1000000 in
theorem stableTurns_calls (blk cap : Nat) (d : Array (Int × Bool)) (w : World) (hH : HoldsK encT 2 w blk 0 d) (hblk : blk < w.heap.size) (hd : d.size < 20) :
    Calls Tryd.prog 58 #[.slice (some ⟨blk, 0, none⟩) d.size cap, .int .i64 d.size, .func (.func 50) #[] #[]] w fun e w' => e = .returned (.tuple #[]) ∧ ∃ n os, w' = sortWorldK encT 2 w blk 0 n (Sort.insertionSort (ltOf cfT) d 0 d.size) os := by
  have eg : ∀ args w, (callFunc 50 args).run Tryd.prog w = .ok (.enter 50 args) w := enters_of Tryd.func50 (by kernel_rfl) rfl
  have hcon := AnyQ.insertionSortCmpFunc Tryd.insSort 2 Tryd.isAgg62 Tryd.sizeOf62 encT (fun _ => rfl) (fun x v hv => by simp [encT] at hv; rcases hv with rfl | rfl <;> rfl) cfT 50 #[] blk 0 cap 0 d.size d w eg (turnLays blk 0 d.size w) hH hblk (by omega) (by omega) (by omega)
  change Calls Tryd.prog 61 #[.slice (some ⟨blk, 0, none⟩) d.size cap, .int .i64 ((0 : Nat) : Int), .int .i64 d.size, .func (.func 50) #[] #[]] _ _ at hcon
  rw [show ((0 : Nat) : Int) = 0 from rfl] at hcon
  clear hH
  generalize Sort.insertionSort (ltOf cfT) d 0 d.size = r at hcon ⊢
  have d1 : ((d.size : Nat) : Int) < 20 := by omega
  generalize d.size = n at hcon d1 hd ⊢
  clear hd
  go_enter Tryd.func58, Tryd.ntmps58
  go_wp2
  refine wp_loop_rounds 1 ?_
  rw [rounds_succ]
  go_wp2_with (go_at_call 61; refine hcon.mono ?_; rintro e w' ⟨rfl, q, os, rfl⟩)
  refine wp_loop_rounds 1 ?_
  rw [rounds_succ]
  go_wp2
  go_end0
  exact ⟨rfl, q, os, rfl⟩

set_option maxHeartbeats 1000000 in
theorem sortTurns_calls (blk cap : Nat) (d : Array (Int × Bool)) (w : World) (hH : HoldsK encT 2 w blk 0 d) (hblk : blk < w.heap.size) (hd : d.size < 20) :
    Calls Tryd.prog 49 #[.slice (some ⟨blk, 0, none⟩) d.size cap, .func (.func 50) #[] #[]] w fun e w' => e = .returned (.tuple #[]) ∧ ∃ n os, w' = sortWorldK encT 2 w blk 0 n (Sort.insertionSort (ltOf cfT) d 0 d.size) os := by
  have hcon := stableTurns_calls blk cap d w hH hblk hd
  clear hH
  generalize Sort.insertionSort (ltOf cfT) d 0 d.size = r at hcon ⊢
  generalize d.size = n at hcon hd ⊢
  go_enter Tryd.func49, Tryd.ntmps49
  go_wp2_with (go_at_call 58; refine hcon.mono ?_; rintro e w' ⟨rfl, q, os, rfl⟩)
  go_end0
  exact ⟨rfl, q, os, rfl⟩
end Go.Proofs.YtgbehcahdgamoaaDoor.Fn

namespace Go.Proofs.YtgbehcahdgamoaaDoor.Fn
open Go.RowKit Go.Proofs.YtgbehcahdgamoaaDoorW.PrintWords Go.Proofs.YtgbehcahdgamoaaDoorW.PrintLast Go.Lib Go.Sort

/-- What a year gives: its end, its start; nothing, if there is an error. -/
def rowT (T : Int × Int × Int) : List (Int × Bool) := if T.2.2 = 0 then [(T.2.1, false), (T.1, true)] else []
/-- The rows of so many years. -/
def rowsT (T : Int → Int × Int × Int) (y : Int) : Nat → List (Int × Bool)
  | 0 => []
  | k + 1 => rowsT T y k ++ rowT (T (y + k))
theorem rowT_len (T : Int × Int × Int) : (rowT T).length ≤ 2 := by unfold rowT; split <;> simp
theorem rowsT_len (T : Int → Int × Int × Int) (y : Int) : ∀ k, (rowsT T y k).length ≤ 2 * k
  | 0 => by simp [rowsT]
  | k + 1 => by have := rowsT_len T y k; have := rowT_len (T (y + k)); simp [rowsT]; omega
def flatT (l : List (Int × Bool)) : List Value := l.flatMap encT
theorem flatT_append (l m : List (Int × Bool)) : flatT (l ++ m) = flatT l ++ flatT m := by simp [flatT]
theorem turnInfo : (Tryd.prog.info? 62).map (fun i => (i.zero, i.size, i.bytes)) = some (some (.agg #[.int .i64 0, .bool false]), 2, 16) := by kernel_rfl

theorem box_cells {w wr : World} {cs : Array Value} {t : TypeId} (hb : Below (w.heap.size + 1) (w.alloc (.cells cs t)) wr) (i : Nat) : wr.cell? ⟨w.heap.size, i, none⟩ = cs[i]? := by
  rw [hb.cell (p := ⟨w.heap.size, i, none⟩) (by simp)]
  go_simp

theorem ownsRow_below {w w' : World} {base : Nat} {e : TypeId} {size : Nat} {v : Value} {n : Nat} {xs : List Value} (h : w.ownsRow base e size v n xs) (hb : Below w.heap.size w w') : w'.ownsRow base e size v n xs := by
  obtain ⟨hl, h⟩ := h
  refine ⟨hl, ?_⟩
  rcases h with h | ⟨g, cap, cur, rfl, hg, hw, rest⟩
  · exact .inl h
  · exact .inr ⟨g, cap, cur, rfl, hg, (hb.block g (Array.getElem?_eq_some_iff.1 hw).1).trans hw, rest⟩

theorem flatT_get : ∀ (l : List (Int × Bool)) (t : Nat), t < l.length * 2 → (flatT l)[t]? = some ((encT (l[t / 2]?.getD default))[t % 2]!)
  | [], t, h => by simp at h
  | x :: l, t, h => by
    have e : flatT (x :: l) = encT x ++ flatT l := by simp [flatT]
    rw [e]
    match t, h with
    | 0, _ => rfl
    | 1, _ => rfl
    | t + 2, h =>
      rw [show (t + 2) / 2 = t / 2 + 1 from by omega, show (t + 2) % 2 = t % 2 from by omega]
      have := flatT_get l t (by simp at h; omega)
      simpa [encT] using this

theorem holdsT_of {w : World} {base g n cap : Nat} {e : TypeId} {l : List (Int × Bool)} (h : w.ownsRow base e 2 (.slice (some ⟨g, 0, none⟩) n cap) n (flatT l)) (hn : n = l.length) : HoldsK encT 2 w g 0 l.toArray := by
  intro j hj
  rw [size_flatK] at hj
  simp at hj
  refine ⟨?_, ?_⟩
  · rw [Nat.zero_add, h.cellAt j (by omega), get_flatK _ _ _ _ (by simpa using hj), flatT_get l j (by omega)]
    simp
  · rw [Nat.zero_add]; exact h.frozenAt j

theorem size_insInner {α : Type} [Inhabited α] (lt : α → α → Bool) (a : Nat) : ∀ (j : Nat) (d : Array α), (insInner lt a j d).size = d.size
  | 0, d => rfl
  | j + 1, d => by
    unfold insInner
    split
    · rw [size_insInner lt a j, swp_size]
    · rfl
theorem size_insOuter {α : Type} [Inhabited α] (lt : α → α → Bool) (a b : Nat) : ∀ (n i : Nat) (d : Array α), b - i ≤ n → (insOuter lt a b i d).size = d.size
  | 0, i, d, h => by unfold insOuter; rw [if_neg (by omega)]
  | n + 1, i, d, h => by
    unfold insOuter
    split
    · rw [size_insOuter lt a b n (i + 1) _ (by omega), size_insInner]
    · rfl
theorem size_insertionSort {α : Type} [Inhabited α] (lt : α → α → Bool) (d : Array α) (a b : Nat) : (Sort.insertionSort lt d a b).size = d.size := size_insOuter lt a b _ _ d (Nat.le_refl _)

theorem below_sortT {B : Nat} {w0 w : World} {g n : Nat} {d : Array (Int × Bool)} {os : Array Obj} (h : Below B w0 w) (hg : B ≤ g) (hB : B ≤ w.heap.size) : Below B w0 (sortWorldK encT 2 w g 0 n d os) := by
  unfold sortWorldK putRowK
  have h1 : Below B w0 (putRow id (Sort.ahead w n) g 0 (flatK encT 2 d)) := below_putRow h hg
  exact h1.trans (by
    have := below_grow B (putRow id (Sort.ahead w n) g 0 (flatK encT 2 d)) (by simpa using hB) 0 os
    exact this)

set_option maxRecDepth 100000 in
set_option maxHeartbeats 1000000 in
theorem turns_calls (k : Nat) (T : Int → Int × Int × Int) (s0 : Int) (s1 : Bool) (s2 : ByteArray) (d0 : Int) (d1 : Bool) (d2 : ByteArray) (bo : Bool) (a0 : Int) (a1 : Int) (a2 : Int) (a3 : Int) (a4 : Int) (e0 : Int) (e1 : Int) (e2 : Int) (e3 : Int) (e4 : Int) (y : Int) (w : World) (hG : GL w) (hy0 : -4611686018427387904 < y) (hy1 : y < 4611686018427387904)
    (hT : ∀ j : Nat, j < 3 → rule_Turns.f k s0 s1 s2 d0 d1 d2 bo a0 a1 a2 a3 a4 e0 e1 e2 e3 e4 (y - 1 + j) = some (T (y - 1 + j))) (hne : 0 < (rowsT T (y - 1) 3).length) :
    Calls Tryd.prog 35 #[.agg #[.int .i64 s0, .bool s1, .string s2, .int .i64 d0, .bool d1, .string d2, .bool bo, .int .i64 a0, .int .i64 a1, .int .i64 a2, .int .i64 a3, .int .i64 a4, .int .i64 e0, .int .i64 e1, .int .i64 e2, .int .i64 e3, .int .i64 e4], .int .i64 y] w fun e w' => ∃ g cap : Nat, e = .returned (.slice (some ⟨g, 0, none⟩) (rowsT T (y - 1) 3).length cap) ∧ w.heap.size ≤ g ∧ g < w'.heap.size ∧ HoldsK encT 2 w' g 0 (Sort.insertionSort (ltOf cfT) (rowsT T (y - 1) 3).toArray 0 (rowsT T (y - 1) 3).length) ∧ Below w.heap.size w w' := by
  obtain ⟨i0, hi, hz0, hz1, hz2⟩ := info_parts turnInfo
  have HG := Aside0.mk hG
  have HT := Aside0.mk hT
  have HNE := Aside0.mk hne
  clear hG hT hne
  go_enter Tryd.func35, Tryd.ntmps35
  go_wp2
  go_loopw [4, 5] (fun l i wr => ∃ (j : Nat), j ≤ 3 ∧ i = .int .i64 (y - 1 + j) ∧ wr.ownsRow (w.heap.size + 1) 62 2 l (rowsT T (y - 1) j).length (flatT (rowsT T (y - 1) j)) ∧ Below (w.heap.size + 1) (w.alloc (.cells #[.int .i64 s0, .bool s1, .string s2, .int .i64 d0, .bool d1, .string d2, .bool bo, .int .i64 a0, .int .i64 a1, .int .i64 a2, .int .i64 a3, .int .i64 a4, .int .i64 e0, .int .i64 e1, .int .i64 e2, .int .i64 e3, .int .i64 e4] 27)) wr) (fun _ i _ => (y + 2 - intOf i).toNat)
  case atStart => exact ⟨0, by omega, by simp, World.ownsRow_nil _ _ _ _, Below.refl _ _⟩
  case round =>
    obtain ⟨j, hj, rfl, hown, hb⟩ := hrel
    have hbw : Below w.heap.size w wr := (below_alloc (Below.refl _ _) _).trans (hb.mono (by simp))
    have hGr := HG.out.below hbw
    have hsz := hb.size
    simp at hsz
    have hc := box_cells hb
    have hc0_ : wr.cell? ⟨w.heap.size, 0, none⟩ = some (.int .i64 s0) := (hc 0).trans rfl
    have hc1_ : wr.cell? ⟨w.heap.size, 1, none⟩ = some (.bool s1) := (hc 1).trans rfl
    have hc2_ : wr.cell? ⟨w.heap.size, 2, none⟩ = some (.string s2) := (hc 2).trans rfl
    have hc3_ : wr.cell? ⟨w.heap.size, 3, none⟩ = some (.int .i64 d0) := (hc 3).trans rfl
    have hc4_ : wr.cell? ⟨w.heap.size, 4, none⟩ = some (.bool d1) := (hc 4).trans rfl
    have hc5_ : wr.cell? ⟨w.heap.size, 5, none⟩ = some (.string d2) := (hc 5).trans rfl
    have hc6_ : wr.cell? ⟨w.heap.size, 6, none⟩ = some (.bool bo) := (hc 6).trans rfl
    have hc7_ : wr.cell? ⟨w.heap.size, 7, none⟩ = some (.int .i64 a0) := (hc 7).trans rfl
    have hc8_ : wr.cell? ⟨w.heap.size, 8, none⟩ = some (.int .i64 a1) := (hc 8).trans rfl
    have hc9_ : wr.cell? ⟨w.heap.size, 9, none⟩ = some (.int .i64 a2) := (hc 9).trans rfl
    have hc10_ : wr.cell? ⟨w.heap.size, 10, none⟩ = some (.int .i64 a3) := (hc 10).trans rfl
    have hc11_ : wr.cell? ⟨w.heap.size, 11, none⟩ = some (.int .i64 a4) := (hc 11).trans rfl
    have hc12_ : wr.cell? ⟨w.heap.size, 12, none⟩ = some (.int .i64 e0) := (hc 12).trans rfl
    have hc13_ : wr.cell? ⟨w.heap.size, 13, none⟩ = some (.int .i64 e1) := (hc 13).trans rfl
    have hc14_ : wr.cell? ⟨w.heap.size, 14, none⟩ = some (.int .i64 e2) := (hc 14).trans rfl
    have hc15_ : wr.cell? ⟨w.heap.size, 15, none⟩ = some (.int .i64 e3) := (hc 15).trans rfl
    have hc16_ : wr.cell? ⟨w.heap.size, 16, none⟩ = some (.int .i64 e4) := (hc 16).trans rfl
    clear hc
    have HGr := Aside0.mk hGr
    have HOWN := Aside0.mk hown
    have HB := Aside0.mk hb
    clear hGr hown hb hbw
    by_cases hlt : j < 3
    · have hTj := HT.out j hlt
      obtain ⟨tt, htt⟩ : ∃ tt, tt = T (y - 1 + j) := ⟨_, rfl⟩
      have HS : Aside0 (rowsT T (y - 1) (j + 1) = rowsT T (y - 1) j ++ rowT tt) := ⟨by rw [htt]; rfl⟩
      rw [← htt] at hTj
      clear htt
      obtain ⟨p, q, e⟩ := tt
      have HTj := Aside0.mk hTj
      have hlen := rowsT_len T (y - 1) j
      clear hTj
      generalize hxs : rowsT T (y - 1) j = xs at HOWN HS hlen
      clear hxs
      by_cases he : e = 0
      · subst he
        have hcall := fun W (hG : GL W) => rule_Turns.calls k s0 s1 s2 d0 d1 d2 bo a0 a1 a2 a3 a4 e0 e1 e2 e3 e4 (y - 1 + j) p q 0 W hG HTj.out
        go_wp2_with (first | (go_at_call 14; refine (hcall _ HGr.out).mono ?_; rintro e w1 ⟨rfl, hb1⟩; have HB1 := Aside0.mk hb1; clear hb1) | (at_builtin; refine wpList_append_own _ rfl (.tmp 26) (.tmp 31) 58 rfl (w.heap.size + 1) 62 i0 (.agg #[.int .i64 0, .bool false]) 2 16 Tryd.underlying58 hi hz0 hz1 hz2 rfl (by decide) _ xs.length (flatT xs) rfl ((ownsRow_below HOWN.out HB1.out).alloc _) ⟨w1.heap.size, 0, none⟩ 2 2 [.int .i64 q, .bool false, .int .i64 p, .bool true] rfl rfl ?c1 ?c2 ?c3 ?c4 ?c5 ?_))
        case c1 => intro j u hu; match j, hu with
          | 0, hu => simp at hu; subst hu; simp only [Addr.add]; go_simp
          | 1, hu => simp at hu; subst hu; simp only [Addr.add]; go_simp
          | 2, hu => simp at hu; subst hu; simp only [Addr.add]; go_simp
          | 3, hu => simp at hu; subst hu; simp only [Addr.add]; go_simp
          | j + 4, hu => simp at hu
        case c2 => intro u hu; simp at hu; rcases hu with rfl | rfl | rfl | rfl <;> rfl
        case c3 => unfold maxLen; omega
        case c4 => omega
        case c5 => have := HB1.out.size; simp; omega
        intro v' w3 hown3 hgr _
        have HO3 : Aside0 (w3.ownsRow (w.heap.size + 1) 62 2 v' (rowsT T (y - 1) (j + 1)).length (flatT (rowsT T (y - 1) (j + 1)))) := ⟨by rw [HS.out, flatT_append]; simpa [rowT, flatT, encT] using hown3⟩
        have HB3 : Aside0 (Below (w.heap.size + 1) (w.alloc (.cells #[.int .i64 s0, .bool s1, .string s2, .int .i64 d0, .bool d1, .string d2, .bool bo, .int .i64 a0, .int .i64 a1, .int .i64 a2, .int .i64 a3, .int .i64 a4, .int .i64 e0, .int .i64 e1, .int .i64 e2, .int .i64 e3, .int .i64 e4] 27)) w3) := ⟨by
          have hs1 := HB1.out.size
          refine Below.grown (((HB.out.trans (HB1.out.mono (by omega))).alloc (by omega) _)) hgr (by simp; omega) ?_
          intro kk hk
          exact (HOWN.out.lt kk hk).1⟩
        clear hown3 hgr
        go_wp2
        go_roundw
        case rel => exact ⟨j + 1, by omega, by go_num, HO3.out, HB3.out⟩
        case measure => simp [intOf]; omega
      · have he1 : (e == 0) = false := by simpa using he
        have hcall := fun W (hG : GL W) => rule_Turns.calls k s0 s1 s2 d0 d1 d2 bo a0 a1 a2 a3 a4 e0 e1 e2 e3 e4 (y - 1 + j) p q e W hG HTj.out
        have HS2 : Aside0 (rowsT T (y - 1) (j + 1) = xs) := ⟨by rw [HS.out]; simp [rowT, he]⟩
        clear HS he
        go_wp2_with (go_at_call 14; refine (hcall _ HGr.out).mono ?_; rintro e w1 ⟨rfl, hb1⟩; have HB1 := Aside0.mk hb1; clear hb1)
        go_roundw
        case rel => exact ⟨j + 1, by omega, by go_num, by rw [HS2.out]; exact ownsRow_below HOWN.out HB1.out, HB.out.trans (HB1.out.mono (by omega))⟩
        case measure => simp [intOf]; omega
    · obtain rfl : j = 3 := by omega
      clear hlt hj
      generalize hxs : rowsT T (y - 1) 3 = xs at HOWN HNE
      have hlen : xs.length ≤ 6 := by rw [← hxs]; exact rowsT_len T (y - 1) 3
      have HX := Aside0.mk hxs
      clear hxs
      obtain ⟨g, cap, rfl⟩ := Go.Joins.ownsRow_form HOWN.out HNE.out
      have hgl := HOWN.out.lt g rfl
      have hH := holdsT_of HOWN.out rfl
      have hsort := sortTurns_calls g cap xs.toArray wr hH hgl.2 (by simp; omega)
      have HH := Aside0.mk hH
      have HSO := Aside0.mk hsort
      have HGL := Aside0.mk hgl
      clear hH hsort hgl
      have hcall := HSO.out
      simp only [List.size_toArray] at hcall
      have HC := Aside0.mk hcall
      clear hcall
      go_wp2_with (go_at_call 49; refine HC.out.mono ?_; rintro e w' ⟨rfl, q, os, rfl⟩)
      go_ret
      refine ⟨g, cap, by rw [HX.out]; rfl, by have := HGL.out.1; omega, ?_, ?_, ?_⟩
      · exact Nat.lt_of_lt_of_le HGL.out.2 (size_sortWorldK_c encT 2 wr g 0 q _ os)
      · rw [HX.out]; exact holdsK_sortWorldK_c encT 2 wr g 0 xs.toArray _ q os HH.out HGL.out.2 (size_insertionSort _ _ _ _)
      · exact below_sortT ((below_alloc (Below.refl _ _) _).trans (HB.out.mono (by omega))) (by have := HGL.out.1; omega) (by omega)
end Go.Proofs.YtgbehcahdgamoaaDoor.Fn

namespace Go.Proofs.YtgbehcahdgamoaaDoor.Fn
open Go.RowKit Go.Proofs.YtgbehcahdgamoaaDoorW.PrintWords Go.Proofs.YtgbehcahdgamoaaDoorW.PrintLast Go.Proofs.YtgbehcahdgamoaaDoorW.PrintMore Go.Lib Go.Sort

def foldT (t : Int) (l : List (Int × Bool)) (b : Bool) : Bool := l.foldl (fun b x => if x.1 ≤ t then x.2 else b) b
def firstT (l : List (Int × Bool)) : Int := (l[0]?.getD default).1
def dstT (t : Int) (l : List (Int × Bool)) : Bool := foldT t l (!(l.any fun x => x.2 && x.1 == firstT l))
def sortT (l : List (Int × Bool)) : List (Int × Bool) := (Sort.insertionSort (ltOf cfT) l.toArray 0 l.length).toList
theorem sortT_len (l : List (Int × Bool)) : (sortT l).length = l.length := by simp [sortT, size_insertionSort]

set_option maxHeartbeats 1000000 in
/-- The closure that asks whether a turn is a start at the first one's moment. -/
theorem atFirst (w : World) (B g n cap : Nat) (t0 : Int) (hn : 0 < n) (hl : w.cell? ⟨B, 0, none⟩ = some (.slice (some ⟨g, 0, none⟩) n cap)) (h0 : w.cell? ⟨g, 0, none⟩ = some (.int .i64 t0)) :
    PredBelow Tryd.prog 37 #[.pointer (some ⟨B, 0, none⟩)] (fun x : Int × Bool => .agg (encT x).toArray) (fun x => x.2 && x.1 == t0) w := fun W x hb => by
  obtain ⟨a, b⟩ := x
  have hl' : W.cell? ⟨B, 0, none⟩ = some (.slice (some ⟨g, 0, none⟩) n cap) := (hb.cell (p := ⟨B, 0, none⟩) (World.block_lt_of_cell? _ _ hl)).trans hl
  have h0' : W.cell? ⟨g, 0, none⟩ = some (.int .i64 t0) := (hb.cell (p := ⟨g, 0, none⟩) (World.block_lt_of_cell? _ _ h0)).trans h0
  show Calls Tryd.prog 37 #[.agg #[.int .i64 a, .bool b], .pointer (some ⟨B, 0, none⟩)] W _
  have HB := Aside0.mk hb
  have hg0 := World.block_lt_of_cell? _ _ h0'
  have hg1 := World.block_lt_of_cell? _ _ hl'
  have hg2 : g ≠ W.heap.size := by simp at hg0; omega
  have hg3 : B ≠ W.heap.size := by simp at hg1; omega
  clear hb hl h0
  have hnI : (0 : Int) < (n : Int) := by omega
  cases b
  · show Calls _ _ _ _ fun e w' => e = .returned (.bool false) ∧ Below w.heap.size w w'
    go_enter Tryd.func37, Tryd.ntmps37
    go_wp2
    go_quiet (fail)
    go_wp2
    go_ret
    exact ⟨rfl, by repeat (first | exact HB.out | apply pw_below_drewN | apply below_drew1 | apply below_alloc)⟩
  · show Calls _ _ _ _ fun e w' => e = .returned (.bool (true && a == t0)) ∧ Below w.heap.size w w'
    rw [Bool.true_and]
    go_enter Tryd.func37, Tryd.ntmps37
    go_wp2
    go_quiet (fail)
    go_wp2
    go_ret
    exact ⟨rfl, by repeat (first | exact HB.out | apply pw_below_drewN | apply below_drew1 | apply below_alloc)⟩

/-- rule.At, as a Lean function. -/
def rule_At.f (k : Nat) (s0 : Int) (s1 : Bool) (s2 : ByteArray) (d0 : Int) (d1 : Bool) (d2 : ByteArray) (bo : Bool) (a0 : Int) (a1 : Int) (a2 : Int) (a3 : Int) (a4 : Int) (e0 : Int) (e1 : Int) (e2 : Int) (e3 : Int) (e4 : Int) (t : Int) : Option (Int × Bool × ByteArray × Int) :=
  (posix_Right.f k s0 s1 s2 d0 d1 d2 bo a0 a1 a2 a3 a4 e0 e1 e2 e3 e4 true).bind fun ok => if ok = false then some (0, false, ⟨#[]⟩, 1) else if bo = false then some (s0, s1, s2, 0) else
    (number_Div.f t 86400).bind fun dv => (civil_Date.f dv.1).bind fun dt => if dt.2.2.2 = 0 then (if -4611686018427387904 < dt.1 ∧ dt.1 < 4611686018427387904 then
      (rule_Turns.f k s0 s1 s2 d0 d1 d2 bo a0 a1 a2 a3 a4 e0 e1 e2 e3 e4 (dt.1 - 1)).bind fun T0 => (rule_Turns.f k s0 s1 s2 d0 d1 d2 bo a0 a1 a2 a3 a4 e0 e1 e2 e3 e4 dt.1).bind fun T1 => (rule_Turns.f k s0 s1 s2 d0 d1 d2 bo a0 a1 a2 a3 a4 e0 e1 e2 e3 e4 (dt.1 + 1)).bind fun T2 =>
        if 0 < (rowT T0 ++ rowT T1 ++ rowT T2).length then (if dstT t (sortT (rowT T0 ++ rowT T1 ++ rowT T2)) = true then some (d0, d1, d2, 0) else some (s0, s1, s2, 0)) else none
      else none) else some (0, false, ⟨#[]⟩, dt.2.2.2)

set_option maxRecDepth 100000 in
set_option maxHeartbeats 1000000 in
theorem At_wrong (k : Nat) (s0 : Int) (s1 : Bool) (s2 : ByteArray) (d0 : Int) (d1 : Bool) (d2 : ByteArray) (bo : Bool) (a0 : Int) (a1 : Int) (a2 : Int) (a3 : Int) (a4 : Int) (e0 : Int) (e1 : Int) (e2 : Int) (e3 : Int) (e4 : Int) (t : Int) (w : World) (h : posix_Right.f k s0 s1 s2 d0 d1 d2 bo a0 a1 a2 a3 a4 e0 e1 e2 e3 e4 true = some false) :
    Calls Tryd.prog 16 #[.agg #[.int .i64 s0, .bool s1, .string s2, .int .i64 d0, .bool d1, .string d2, .bool bo, .int .i64 a0, .int .i64 a1, .int .i64 a2, .int .i64 a3, .int .i64 a4, .int .i64 e0, .int .i64 e1, .int .i64 e2, .int .i64 e3, .int .i64 e4], .int .i64 t] w fun e w' => e = .returned (.tuple #[.agg #[.int .i64 0, .bool false, .string ⟨#[]⟩], .int .i64 1]) ∧ Below w.heap.size w w' := by
  have HC := Aside0.mk (fun W => posix_Right.calls k s0 s1 s2 d0 d1 d2 bo a0 a1 a2 a3 a4 e0 e1 e2 e3 e4 true false W h)
  clear h
  go_enter Tryd.func16, Tryd.ntmps16
  go_wp2_with ((with_reducible refine gate_dst (N := 17) rfl ?_); refine wpList_load_row rfl 27 _ rfl w.heap.size rfl 27 #[.int .i64 s0, .bool s1, .string s2, .int .i64 d0, .bool d1, .string d2, .bool bo, .int .i64 a0, .int .i64 a1, .int .i64 a2, .int .i64 a3, .int .i64 a4, .int .i64 e0, .int .i64 e1, .int .i64 e2, .int .i64 e3, .int .i64 e4] (0, 0) _ (blk_alloc (blk_new _ _) _) Tryd.underlying27 rfl (by kernel_rfl) ?_)
  refine (HC.out _).mono ?_
  rintro e w1 ⟨rfl, hb1⟩
  have BK := blk_below (blk_new _ _) hb1
  simp only [World.size_alloc] at BK
  have HBw := Aside0.mk ((below_alloc (below_alloc (Below.refl _ _) _) _).trans (hb1.mono (by simp; omega)))
  have hk0_ : w1.cell? ⟨w.heap.size+1, 0, none⟩ = some (.int .i64 0) := (blk_cell BK 0).trans rfl
  have hk1_ : w1.cell? ⟨w.heap.size+1, 1, none⟩ = some (.bool false) := (blk_cell BK 1).trans rfl
  have hk2_ : w1.cell? ⟨w.heap.size+1, 2, none⟩ = some (.string (⟨#[]⟩ : ByteArray)) := (blk_cell BK 2).trans rfl
  have hf0_ : w1.frozen? ⟨w.heap.size+1, 0, none⟩ = false := blk_frozen BK 0
  have hf1_ : w1.frozen? ⟨w.heap.size+1, 1, none⟩ = false := blk_frozen BK 1
  have hf2_ : w1.frozen? ⟨w.heap.size+1, 2, none⟩ = false := blk_frozen BK 2
  have BK1 := Aside0.mk BK
  clear hb1 BK HC
  go_wp2
  refine bodyPost_ret (results_ct rfl _ _ (w.heap.size+1) 23 #[.int .i64 (0), .bool false, .string (⟨#[]⟩)] (0, 0) _ rfl (by (with_reducible repeat (first | refine blk_drewN ?_ _ | refine blk_drew ?_ | refine blk_alloc ?_ _)); refine blk_put (cs := #[.int .i64 (0), .bool false, .string (⟨#[]⟩ : ByteArray)]) ?_ 2 _ rfl; (with_reducible repeat (first | refine blk_drewN ?_ _ | refine blk_drew ?_ | refine blk_alloc ?_ _)); refine blk_put (cs := #[.int .i64 (0), .bool false, .string (⟨#[]⟩ : ByteArray)]) ?_ 1 _ rfl; (with_reducible repeat (first | refine blk_drewN ?_ _ | refine blk_drew ?_ | refine blk_alloc ?_ _)); refine blk_put (cs := #[.int .i64 0, .bool false, .string (⟨#[]⟩ : ByteArray)]) ?_ 0 _ rfl; (with_reducible repeat (first | refine blk_drewN ?_ _ | refine blk_drew ?_ | refine blk_alloc ?_ _)); exact BK1.out) Tryd.underlying23 rfl (by kernel_rfl)) rfl ?_
  exact ⟨rfl, (by repeat (first | exact HBw.out | apply pw_below_drewN | apply below_drew1 | apply below_alloc | refine below_set ?_ (by omega)))⟩

set_option maxRecDepth 100000 in
set_option maxHeartbeats 1000000 in
theorem At_one (k : Nat) (s0 : Int) (s1 : Bool) (s2 : ByteArray) (d0 : Int) (d1 : Bool) (d2 : ByteArray) (a0 : Int) (a1 : Int) (a2 : Int) (a3 : Int) (a4 : Int) (e0 : Int) (e1 : Int) (e2 : Int) (e3 : Int) (e4 : Int) (t : Int) (w : World) (bo : Bool) (hbo : bo = false) (h : posix_Right.f k s0 s1 s2 d0 d1 d2 bo a0 a1 a2 a3 a4 e0 e1 e2 e3 e4 true = some true) :
    Calls Tryd.prog 16 #[.agg #[.int .i64 s0, .bool s1, .string s2, .int .i64 d0, .bool d1, .string d2, .bool bo, .int .i64 a0, .int .i64 a1, .int .i64 a2, .int .i64 a3, .int .i64 a4, .int .i64 e0, .int .i64 e1, .int .i64 e2, .int .i64 e3, .int .i64 e4], .int .i64 t] w fun e w' => e = .returned (.tuple #[.agg #[.int .i64 s0, .bool s1, .string s2], .int .i64 0]) ∧ Below w.heap.size w w' := by
  subst hbo
  have HC := Aside0.mk (fun W => posix_Right.calls k s0 s1 s2 d0 d1 d2 false a0 a1 a2 a3 a4 e0 e1 e2 e3 e4 true true W h)
  clear h
  go_enter Tryd.func16, Tryd.ntmps16
  go_wp2_with ((with_reducible refine gate_dst (N := 17) rfl ?_); refine wpList_load_row rfl 27 _ rfl w.heap.size rfl 27 #[.int .i64 s0, .bool s1, .string s2, .int .i64 d0, .bool d1, .string d2, .bool false, .int .i64 a0, .int .i64 a1, .int .i64 a2, .int .i64 a3, .int .i64 a4, .int .i64 e0, .int .i64 e1, .int .i64 e2, .int .i64 e3, .int .i64 e4] (0, 0) _ (blk_alloc (blk_new _ _) _) Tryd.underlying27 rfl (by kernel_rfl) ?_)
  refine (HC.out _).mono ?_
  rintro e w1 ⟨rfl, hb1⟩
  have BK := blk_below (blk_new _ _) hb1
  simp only [World.size_alloc] at BK
  have BR := blk_below (blk_alloc (blk_new _ _) _) hb1
  have HBw := Aside0.mk ((below_alloc (below_alloc (Below.refl _ _) _) _).trans (hb1.mono (by simp; omega)))
  have hk0_ : w1.cell? ⟨w.heap.size+1, 0, none⟩ = some (.int .i64 0) := (blk_cell BK 0).trans rfl
  have hk1_ : w1.cell? ⟨w.heap.size+1, 1, none⟩ = some (.bool false) := (blk_cell BK 1).trans rfl
  have hk2_ : w1.cell? ⟨w.heap.size+1, 2, none⟩ = some (.string (⟨#[]⟩ : ByteArray)) := (blk_cell BK 2).trans rfl
  have hf0_ : w1.frozen? ⟨w.heap.size+1, 0, none⟩ = false := blk_frozen BK 0
  have hf1_ : w1.frozen? ⟨w.heap.size+1, 1, none⟩ = false := blk_frozen BK 1
  have hf2_ : w1.frozen? ⟨w.heap.size+1, 2, none⟩ = false := blk_frozen BK 2
  have hr0 : w1.cell? ⟨w.heap.size, 0, none⟩ = some (.int .i64 s0) := (blk_cell BR 0).trans rfl
  have hr1 : w1.cell? ⟨w.heap.size, 1, none⟩ = some (.bool s1) := (blk_cell BR 1).trans rfl
  have hr2 : w1.cell? ⟨w.heap.size, 2, none⟩ = some (.string s2) := (blk_cell BR 2).trans rfl
  have hr6 : w1.cell? ⟨w.heap.size, 6, none⟩ = some (.bool false) := (blk_cell BR 6).trans rfl
  have BK1 := Aside0.mk BK
  clear hb1 BK HC BR
  go_wp2
  refine bodyPost_ret (results_ct rfl _ _ (w.heap.size+1) 23 #[.int .i64 (s0), .bool s1, .string s2] (0, 0) _ rfl (by (with_reducible repeat (first | refine blk_drewN ?_ _ | refine blk_drew ?_ | refine blk_alloc ?_ _)); refine blk_put (cs := #[.int .i64 (s0), .bool s1, .string (⟨#[]⟩ : ByteArray)]) ?_ 2 _ rfl; (with_reducible repeat (first | refine blk_drewN ?_ _ | refine blk_drew ?_ | refine blk_alloc ?_ _)); refine blk_put (cs := #[.int .i64 (s0), .bool false, .string (⟨#[]⟩ : ByteArray)]) ?_ 1 _ rfl; (with_reducible repeat (first | refine blk_drewN ?_ _ | refine blk_drew ?_ | refine blk_alloc ?_ _)); refine blk_put (cs := #[.int .i64 0, .bool false, .string (⟨#[]⟩ : ByteArray)]) ?_ 0 _ rfl; (with_reducible repeat (first | refine blk_drewN ?_ _ | refine blk_drew ?_ | refine blk_alloc ?_ _)); exact BK1.out) Tryd.underlying23 rfl (by kernel_rfl)) rfl ?_
  exact ⟨rfl, (by repeat (first | exact HBw.out | apply pw_below_drewN | apply below_drew1 | apply below_alloc | refine below_set ?_ (by omega)))⟩

set_option maxRecDepth 100000 in
set_option maxHeartbeats 1000000 in
theorem At_err (k : Nat) (s0 : Int) (s1 : Bool) (s2 : ByteArray) (d0 : Int) (d1 : Bool) (d2 : ByteArray) (a0 : Int) (a1 : Int) (a2 : Int) (a3 : Int) (a4 : Int) (e0 : Int) (e1 : Int) (e2 : Int) (e3 : Int) (e4 : Int) (t : Int) (w : World) (bo : Bool) (hbo : bo = true) (h : posix_Right.f k s0 s1 s2 d0 d1 d2 bo a0 a1 a2 a3 a4 e0 e1 e2 e3 e4 true = some true)
    (v0 v1 : Int) (v2 : Bool) (hv : number_Div.f t 86400 = some (v0, v1, v2)) (y m d er : Int) (hd : civil_Date.f v0 = some (y, m, d, er)) (her : er ≠ 0) :
    Calls Tryd.prog 16 #[.agg #[.int .i64 s0, .bool s1, .string s2, .int .i64 d0, .bool d1, .string d2, .bool bo, .int .i64 a0, .int .i64 a1, .int .i64 a2, .int .i64 a3, .int .i64 a4, .int .i64 e0, .int .i64 e1, .int .i64 e2, .int .i64 e3, .int .i64 e4], .int .i64 t] w fun e w' => e = .returned (.tuple #[.agg #[.int .i64 0, .bool false, .string ⟨#[]⟩], .int .i64 er]) ∧ Below w.heap.size w w' := by
  subst hbo
  have HC := Aside0.mk (fun W => posix_Right.calls k s0 s1 s2 d0 d1 d2 true a0 a1 a2 a3 a4 e0 e1 e2 e3 e4 true true W h)
  have HV := Aside0.mk (fun W => number_Div.calls t 86400 v0 v1 v2 W hv)
  have HD := Aside0.mk (fun W => civil_Date.calls v0 y m d er W hd)
  have hne : (er != 0) = true := by simpa using her
  clear h hv hd her
  go_enter Tryd.func16, Tryd.ntmps16
  go_wp2_with ((with_reducible refine gate_dst (N := 17) rfl ?_); refine wpList_load_row rfl 27 _ rfl w.heap.size rfl 27 #[.int .i64 s0, .bool s1, .string s2, .int .i64 d0, .bool d1, .string d2, .bool true, .int .i64 a0, .int .i64 a1, .int .i64 a2, .int .i64 a3, .int .i64 a4, .int .i64 e0, .int .i64 e1, .int .i64 e2, .int .i64 e3, .int .i64 e4] (0, 0) _ (blk_alloc (blk_new _ _) _) Tryd.underlying27 rfl (by kernel_rfl) ?_)
  refine (HC.out _).mono ?_
  rintro e w1 ⟨rfl, hb1⟩
  have BK := blk_below (blk_new _ _) hb1
  simp only [World.size_alloc] at BK
  have BR := blk_below (blk_alloc (blk_new _ _) _) hb1
  have HBw := Aside0.mk ((below_alloc (below_alloc (Below.refl _ _) _) _).trans (hb1.mono (by simp; omega)))
  have hk0_ : w1.cell? ⟨w.heap.size+1, 0, none⟩ = some (.int .i64 0) := (blk_cell BK 0).trans rfl
  have hk1_ : w1.cell? ⟨w.heap.size+1, 1, none⟩ = some (.bool false) := (blk_cell BK 1).trans rfl
  have hk2_ : w1.cell? ⟨w.heap.size+1, 2, none⟩ = some (.string (⟨#[]⟩ : ByteArray)) := (blk_cell BK 2).trans rfl
  have hf0_ : w1.frozen? ⟨w.heap.size+1, 0, none⟩ = false := blk_frozen BK 0
  have hf1_ : w1.frozen? ⟨w.heap.size+1, 1, none⟩ = false := blk_frozen BK 1
  have hf2_ : w1.frozen? ⟨w.heap.size+1, 2, none⟩ = false := blk_frozen BK 2
  have hr6 : w1.cell? ⟨w.heap.size, 6, none⟩ = some (.bool true) := (blk_cell BR 6).trans rfl
  have BK1 := Aside0.mk BK
  clear hb1 BK HC BR
  go_wp2_with (first | (go_at_call 34; refine (HV.out _).mono ?_; rintro e w' ⟨rfl, ⟨nd, rfl⟩⟩) | (go_at_call 21; refine (HD.out _).mono ?_; rintro e w' ⟨rfl, ⟨nd, rfl⟩⟩))
  refine bodyPost_ret (results_ct rfl _ _ (w.heap.size+1) 23 #[.int .i64 (0), .bool false, .string (⟨#[]⟩)] (0, 0) _ rfl (by (with_reducible repeat (first | refine blk_drewN ?_ _ | refine blk_drew ?_ | refine blk_alloc ?_ _)); refine blk_put (cs := #[.int .i64 (0), .bool false, .string (⟨#[]⟩ : ByteArray)]) ?_ 2 _ rfl; (with_reducible repeat (first | refine blk_drewN ?_ _ | refine blk_drew ?_ | refine blk_alloc ?_ _)); refine blk_put (cs := #[.int .i64 (0), .bool false, .string (⟨#[]⟩ : ByteArray)]) ?_ 1 _ rfl; (with_reducible repeat (first | refine blk_drewN ?_ _ | refine blk_drew ?_ | refine blk_alloc ?_ _)); refine blk_put (cs := #[.int .i64 0, .bool false, .string (⟨#[]⟩ : ByteArray)]) ?_ 0 _ rfl; (with_reducible repeat (first | refine blk_drewN ?_ _ | refine blk_drew ?_ | refine blk_alloc ?_ _)); exact BK1.out) Tryd.underlying23 rfl (by kernel_rfl)) rfl ?_
  exact ⟨rfl, (by repeat (first | exact HBw.out | apply pw_below_drewN | apply below_drew1 | apply below_alloc | refine below_set ?_ (by omega)))⟩

theorem cells_T {w : World} {g : Nat} {l : List (Int × Bool)} (h : HoldsK encT 2 w g 0 (Sort.insertionSort (ltOf cfT) l.toArray 0 l.length)) (i : Nat) (hi : i < (sortT l).length) :
    w.cell? ⟨g, i * 2, none⟩ = some (.int .i64 ((sortT l)[i]?.getD default).1) ∧ w.cell? ⟨g, i * 2 + 1, none⟩ = some (.bool ((sortT l)[i]?.getD default).2) := by
  have hs : i < (Sort.insertionSort (ltOf cfT) l.toArray 0 l.length).size := by rw [size_insertionSort]; rw [sortT_len] at hi; simpa using hi
  have h0 := (h.cell hs (show 0 < 2 by omega)).1
  have h1 := (h.cell hs (show 1 < 2 by omega)).1
  have e : (Sort.insertionSort (ltOf cfT) l.toArray 0 l.length)[i]! = (sortT l)[i]?.getD default := by
    unfold sortT
    rw [getElem!_pos (Sort.insertionSort (ltOf cfT) l.toArray 0 l.length) i hs]
    simp [hs]
  rw [e] at h0 h1
  refine ⟨?_, ?_⟩
  · simpa [encT] using h0
  · simpa [encT] using h1

theorem foldT_step (t : Int) (l : List (Int × Bool)) (b : Bool) (i : Nat) (hi : i < l.length) : foldT t (l.take (i + 1)) b = if (l[i]?.getD default).1 ≤ t then (l[i]?.getD default).2 else foldT t (l.take i) b := by
  rw [List.take_succ_eq_append_getElem hi]
  unfold foldT
  rw [List.foldl_append]
  simp [hi]

end Go.Proofs.YtgbehcahdgamoaaDoor.Fn
