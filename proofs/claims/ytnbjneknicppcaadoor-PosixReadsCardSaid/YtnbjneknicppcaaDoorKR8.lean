/- Part 8 of the texts for KTR: contracts and plain laws that it leans on. -/
import Derived.Test.YtnbjneknicppcaaDoorKR2
import Derived.Test.YtnbjneknicppcaaDoorKR5
import Derived.Test.YtnbjneknicppcaaDoorKR6
import Derived.Test.YtnbjneknicppcaaDoorKR7
namespace Go.Proofs.YtnbjneknicppcaaDoor.Fn
open Go.RowKit Go.Proofs.YtnbjneknicppcaaDoorW.PrintWords Go.Proofs.YtnbjneknicppcaaDoorW.PrintLast Go.Proofs.YtnbjneknicppcaaDoorW.PrintMore
attribute [local go_sem] max2_int min2_int max_two min_two max_three min_three max_four min_four
set_option linter.unusedVariables false
set_option linter.unusedSimpArgs false
/-! ### longcaseref08_when: function 39 -/
mutual
def longcaseref08_when.j0 : Nat → ByteArray → Int → Bool → Bool → Int → Int → Int → Int → Int → Option (Int × Int × Int × Int × Int × Int)
  | 0, _, _, _, _, _, _, _, _, _ => none
  | k + 1, x0, x1, x2, x23, x233000, x233001, x233002, x233003, x233004 => if x23 = true then (some (x233000, x233001, x233002, x233003, x233004, (-1))) else (if 0 ≤ (wrap64 (x1 + 1)) then (if (wrap64 (x1 + 1)) < (x0.size : Int) then (if (bt x0 (wrap64 (x1 + 1))) = 74 then (longcaseref08_when.j1 k x0 (wrap64 ((wrap64 (x1 + 1)) + 1)) x2 1 x233001 x233002 x233003 x233004) else (if (bt x0 (wrap64 (x1 + 1))) = 77 then (longcaseref08_when.j1 k x0 (wrap64 ((wrap64 (x1 + 1)) + 1)) x2 3 x233001 x233002 x233003 x233004) else (longcaseref08_when.j1 k x0 (wrap64 (x1 + 1)) x2 x233000 x233001 x233002 x233003 x233004))) else (none)) else (none))
def longcaseref08_when.j1 : Nat → ByteArray → Int → Bool → Int → Int → Int → Int → Int → Option (Int × Int × Int × Int × Int × Int)
  | 0, _, _, _, _, _, _, _, _ => none
  | k + 1, x0, x1, x2, x233000, x233001, x233002, x233003, x233004 => (longcaseref08_digits.f k x0 x1 3).bind fun bt233 => (longcaseref08_when.l0 k x0 bt233.2 x2 0 x233000 bt233.1 x233002 x233003 x233004)
def longcaseref08_when.l0 : Nat → ByteArray → Int → Bool → Int → Int → Int → Int → Int → Int → Option (Int × Int × Int × Int × Int × Int)
  | 0, _, _, _, _, _, _, _, _, _ => none
  | k + 1, x0, x1, x2, x9, x233000, x233001, x233002, x233003, x233004 => if x9 < 2 then (longcaseref08_when.j3 k x0 x1 x2 x9 (x233000 == 3) x233000 x233001 x233002 x233003 x233004) else (longcaseref08_when.j3 k x0 x1 x2 x9 false x233000 x233001 x233002 x233003 x233004)
def longcaseref08_when.j3 : Nat → ByteArray → Int → Bool → Int → Bool → Int → Int → Int → Int → Int → Option (Int × Int × Int × Int × Int × Int)
  | 0, _, _, _, _, _, _, _, _, _, _ => none
  | k + 1, x0, x1, x2, x9, x54, x233000, x233001, x233002, x233003, x233004 => if x54 = true then (if x1 < 0 then (longcaseref08_when.j4 k x0 x1 x2 x9 true x233000 x233001 x233002 x233003 x233004) else (if x1 ≥ (x0.size : Int) then (longcaseref08_when.j4 k x0 x1 x2 x9 true x233000 x233001 x233002 x233003 x233004) else (if 0 ≤ x1 then (if x1 < (x0.size : Int) then (longcaseref08_when.j4 k x0 x1 x2 x9 ((bt x0 x1) != 46) x233000 x233001 x233002 x233003 x233004) else (none)) else (none)))) else (if x1 ≥ 0 then (if x1 < (x0.size : Int) then (if 0 ≤ x1 then (longcaseref08_when.j5 k x0 x1 x2 ((bt x0 x1) == 47) x233000 x233001 x233002 x233003 x233004) else (none)) else (longcaseref08_when.j5 k x0 x1 x2 false x233000 x233001 x233002 x233003 x233004)) else (longcaseref08_when.j5 k x0 x1 x2 false x233000 x233001 x233002 x233003 x233004))
def longcaseref08_when.j4 : Nat → ByteArray → Int → Bool → Int → Bool → Int → Int → Int → Int → Int → Option (Int × Int × Int × Int × Int × Int)
  | 0, _, _, _, _, _, _, _, _, _, _ => none
  | k + 1, x0, x1, x2, x9, x70, x233000, x233001, x233002, x233003, x233004 => if x70 = true then (some (x233000, x233001, x233002, x233003, x233004, (-1))) else ((longcaseref08_digits.f k x0 (wrap64 (x1 + 1)) 3).bind fun bt235 => (if x9 = 0 then (longcaseref08_when.l0 k x0 bt235.2 x2 (wrap64 (x9 + 1)) x233000 x233001 bt235.1 x233003 x233004) else (longcaseref08_when.l0 k x0 bt235.2 x2 (wrap64 (x9 + 1)) x233000 x233001 x233002 bt235.1 x233004)))
def longcaseref08_when.j5 : Nat → ByteArray → Int → Bool → Bool → Int → Int → Int → Int → Int → Option (Int × Int × Int × Int × Int × Int)
  | 0, _, _, _, _, _, _, _, _, _ => none
  | k + 1, x0, x1, x2, x99, x233000, x233001, x233002, x233003, x233004 => if x99 = true then ((longcaseref08_time.f k x0 (wrap64 (x1 + 1)) x2 x2).bind fun bt237 => (if bt237.2 < 0 then (some (x233000, x233001, x233002, x233003, bt237.1, (-1))) else ((longcaseref08_Change.f k x233000 x233001 x233002 x233003 bt237.1 x2).bind fun t239 => (if t239 = true then (some (x233000, x233001, x233002, x233003, bt237.1, bt237.2)) else (some (x233000, x233001, x233002, x233003, bt237.1, (-1))))))) else (if x1 < 0 then (some (x233000, x233001, x233002, x233003, x233004, (-1))) else ((longcaseref08_Change.f k x233000 x233001 x233002 x233003 x233004 x2).bind fun t240 => (if t240 = true then (some (x233000, x233001, x233002, x233003, x233004, x1)) else (some (x233000, x233001, x233002, x233003, x233004, (-1))))))
end
def longcaseref08_when.f (k : Nat) (a0 : ByteArray) (a1 : Int) (a2 : Bool) : Option (Int × Int × Int × Int × Int × Int) := if (wrap64 (a1 + 1)) ≥ (a0.size : Int) then (longcaseref08_when.j0 k a0 a1 a2 true 2 0 0 0 7200) else (if 0 ≤ a1 then (if a1 < (a0.size : Int) then (longcaseref08_when.j0 k a0 a1 a2 ((bt a0 a1) != 44) 2 0 0 0 7200) else (none)) else (none))
theorem longcaseref08_when.mono_l : ∀ k, (∀ y0 y1 y2 y3 y4 y5 y6 y7 y8, LeO (longcaseref08_when.j0 k y0 y1 y2 y3 y4 y5 y6 y7 y8) (longcaseref08_when.j0 (k + 1) y0 y1 y2 y3 y4 y5 y6 y7 y8)) ∧ (∀ y0 y1 y2 y3 y4 y5 y6 y7, LeO (longcaseref08_when.j1 k y0 y1 y2 y3 y4 y5 y6 y7) (longcaseref08_when.j1 (k + 1) y0 y1 y2 y3 y4 y5 y6 y7)) ∧ (∀ y0 y1 y2 y3 y4 y5 y6 y7 y8, LeO (longcaseref08_when.l0 k y0 y1 y2 y3 y4 y5 y6 y7 y8) (longcaseref08_when.l0 (k + 1) y0 y1 y2 y3 y4 y5 y6 y7 y8)) ∧ (∀ y0 y1 y2 y3 y4 y5 y6 y7 y8 y9, LeO (longcaseref08_when.j3 k y0 y1 y2 y3 y4 y5 y6 y7 y8 y9) (longcaseref08_when.j3 (k + 1) y0 y1 y2 y3 y4 y5 y6 y7 y8 y9)) ∧ (∀ y0 y1 y2 y3 y4 y5 y6 y7 y8 y9, LeO (longcaseref08_when.j4 k y0 y1 y2 y3 y4 y5 y6 y7 y8 y9) (longcaseref08_when.j4 (k + 1) y0 y1 y2 y3 y4 y5 y6 y7 y8 y9)) ∧ (∀ y0 y1 y2 y3 y4 y5 y6 y7 y8, LeO (longcaseref08_when.j5 k y0 y1 y2 y3 y4 y5 y6 y7 y8) (longcaseref08_when.j5 (k + 1) y0 y1 y2 y3 y4 y5 y6 y7 y8))
  | 0 => ⟨fun _ _ _ _ _ _ _ _ _ r h => by simp [longcaseref08_when.j0] at h, fun _ _ _ _ _ _ _ _ r h => by simp [longcaseref08_when.j1] at h, fun _ _ _ _ _ _ _ _ _ r h => by simp [longcaseref08_when.l0] at h, fun _ _ _ _ _ _ _ _ _ _ r h => by simp [longcaseref08_when.j3] at h, fun _ _ _ _ _ _ _ _ _ _ r h => by simp [longcaseref08_when.j4] at h, fun _ _ _ _ _ _ _ _ _ r h => by simp [longcaseref08_when.j5] at h⟩
  | k + 1 => by
    obtain ⟨ih0, ih1, ih2, ih3, ih4, ih5⟩ := longcaseref08_when.mono_l k
    refine ⟨?_, ?_, ?_, ?_, ?_, ?_⟩
    · intro y0 y1 y2 y3 y4 y5 y6 y7 y8
      unfold longcaseref08_when.j0
      repeat' first
      | (with_reducible exact ih0 _ _ _ _ _ _ _ _ _)
      | (with_reducible exact ih1 _ _ _ _ _ _ _ _)
      | (with_reducible exact ih2 _ _ _ _ _ _ _ _ _)
      | (with_reducible exact ih3 _ _ _ _ _ _ _ _ _ _)
      | (with_reducible exact ih4 _ _ _ _ _ _ _ _ _ _)
      | (with_reducible exact ih5 _ _ _ _ _ _ _ _ _)
      | (with_reducible exact longcaseref08_Change.mono _ _ _ _ _ _ _)
      | (with_reducible exact longcaseref08_digits.mono _ _ _ _)
      | (with_reducible exact longcaseref08_time.mono _ _ _ _ _)
      | (with_reducible exact LeO.refl _)
      | (with_reducible exact LeO.none _)
      | (with_reducible refine LeO.ite ?_ ?_)
      | (with_reducible refine LeO.bind ?_ (fun _ => ?_))
      | exact ih0 _ _ _ _ _ _ _ _ _
      | exact ih1 _ _ _ _ _ _ _ _
      | exact ih2 _ _ _ _ _ _ _ _ _
      | exact ih3 _ _ _ _ _ _ _ _ _ _
      | exact ih4 _ _ _ _ _ _ _ _ _ _
      | exact ih5 _ _ _ _ _ _ _ _ _
      | exact longcaseref08_Change.mono _ _ _ _ _ _ _
      | exact longcaseref08_digits.mono _ _ _ _
      | exact longcaseref08_time.mono _ _ _ _ _
      | exact LeO.none _
      | refine LeO.ite ?_ ?_
      | refine LeO.bind ?_ (fun _ => ?_)
    · intro y0 y1 y2 y3 y4 y5 y6 y7
      unfold longcaseref08_when.j1
      repeat' first
      | (with_reducible exact ih0 _ _ _ _ _ _ _ _ _)
      | (with_reducible exact ih1 _ _ _ _ _ _ _ _)
      | (with_reducible exact ih2 _ _ _ _ _ _ _ _ _)
      | (with_reducible exact ih3 _ _ _ _ _ _ _ _ _ _)
      | (with_reducible exact ih4 _ _ _ _ _ _ _ _ _ _)
      | (with_reducible exact ih5 _ _ _ _ _ _ _ _ _)
      | (with_reducible exact longcaseref08_Change.mono _ _ _ _ _ _ _)
      | (with_reducible exact longcaseref08_digits.mono _ _ _ _)
      | (with_reducible exact longcaseref08_time.mono _ _ _ _ _)
      | (with_reducible exact LeO.refl _)
      | (with_reducible exact LeO.none _)
      | (with_reducible refine LeO.ite ?_ ?_)
      | (with_reducible refine LeO.bind ?_ (fun _ => ?_))
      | exact ih0 _ _ _ _ _ _ _ _ _
      | exact ih1 _ _ _ _ _ _ _ _
      | exact ih2 _ _ _ _ _ _ _ _ _
      | exact ih3 _ _ _ _ _ _ _ _ _ _
      | exact ih4 _ _ _ _ _ _ _ _ _ _
      | exact ih5 _ _ _ _ _ _ _ _ _
      | exact longcaseref08_Change.mono _ _ _ _ _ _ _
      | exact longcaseref08_digits.mono _ _ _ _
      | exact longcaseref08_time.mono _ _ _ _ _
      | exact LeO.none _
      | refine LeO.ite ?_ ?_
      | refine LeO.bind ?_ (fun _ => ?_)
    · intro y0 y1 y2 y3 y4 y5 y6 y7 y8
      unfold longcaseref08_when.l0
      repeat' first
      | (with_reducible exact ih0 _ _ _ _ _ _ _ _ _)
      | (with_reducible exact ih1 _ _ _ _ _ _ _ _)
      | (with_reducible exact ih2 _ _ _ _ _ _ _ _ _)
      | (with_reducible exact ih3 _ _ _ _ _ _ _ _ _ _)
      | (with_reducible exact ih4 _ _ _ _ _ _ _ _ _ _)
      | (with_reducible exact ih5 _ _ _ _ _ _ _ _ _)
      | (with_reducible exact longcaseref08_Change.mono _ _ _ _ _ _ _)
      | (with_reducible exact longcaseref08_digits.mono _ _ _ _)
      | (with_reducible exact longcaseref08_time.mono _ _ _ _ _)
      | (with_reducible exact LeO.refl _)
      | (with_reducible exact LeO.none _)
      | (with_reducible refine LeO.ite ?_ ?_)
      | (with_reducible refine LeO.bind ?_ (fun _ => ?_))
      | exact ih0 _ _ _ _ _ _ _ _ _
      | exact ih1 _ _ _ _ _ _ _ _
      | exact ih2 _ _ _ _ _ _ _ _ _
      | exact ih3 _ _ _ _ _ _ _ _ _ _
      | exact ih4 _ _ _ _ _ _ _ _ _ _
      | exact ih5 _ _ _ _ _ _ _ _ _
      | exact longcaseref08_Change.mono _ _ _ _ _ _ _
      | exact longcaseref08_digits.mono _ _ _ _
      | exact longcaseref08_time.mono _ _ _ _ _
      | exact LeO.none _
      | refine LeO.ite ?_ ?_
      | refine LeO.bind ?_ (fun _ => ?_)
    · intro y0 y1 y2 y3 y4 y5 y6 y7 y8 y9
      unfold longcaseref08_when.j3
      repeat' first
      | (with_reducible exact ih0 _ _ _ _ _ _ _ _ _)
      | (with_reducible exact ih1 _ _ _ _ _ _ _ _)
      | (with_reducible exact ih2 _ _ _ _ _ _ _ _ _)
      | (with_reducible exact ih3 _ _ _ _ _ _ _ _ _ _)
      | (with_reducible exact ih4 _ _ _ _ _ _ _ _ _ _)
      | (with_reducible exact ih5 _ _ _ _ _ _ _ _ _)
      | (with_reducible exact longcaseref08_Change.mono _ _ _ _ _ _ _)
      | (with_reducible exact longcaseref08_digits.mono _ _ _ _)
      | (with_reducible exact longcaseref08_time.mono _ _ _ _ _)
      | (with_reducible exact LeO.refl _)
      | (with_reducible exact LeO.none _)
      | (with_reducible refine LeO.ite ?_ ?_)
      | (with_reducible refine LeO.bind ?_ (fun _ => ?_))
      | exact ih0 _ _ _ _ _ _ _ _ _
      | exact ih1 _ _ _ _ _ _ _ _
      | exact ih2 _ _ _ _ _ _ _ _ _
      | exact ih3 _ _ _ _ _ _ _ _ _ _
      | exact ih4 _ _ _ _ _ _ _ _ _ _
      | exact ih5 _ _ _ _ _ _ _ _ _
      | exact longcaseref08_Change.mono _ _ _ _ _ _ _
      | exact longcaseref08_digits.mono _ _ _ _
      | exact longcaseref08_time.mono _ _ _ _ _
      | exact LeO.none _
      | refine LeO.ite ?_ ?_
      | refine LeO.bind ?_ (fun _ => ?_)
    · intro y0 y1 y2 y3 y4 y5 y6 y7 y8 y9
      unfold longcaseref08_when.j4
      repeat' first
      | (with_reducible exact ih0 _ _ _ _ _ _ _ _ _)
      | (with_reducible exact ih1 _ _ _ _ _ _ _ _)
      | (with_reducible exact ih2 _ _ _ _ _ _ _ _ _)
      | (with_reducible exact ih3 _ _ _ _ _ _ _ _ _ _)
      | (with_reducible exact ih4 _ _ _ _ _ _ _ _ _ _)
      | (with_reducible exact ih5 _ _ _ _ _ _ _ _ _)
      | (with_reducible exact longcaseref08_Change.mono _ _ _ _ _ _ _)
      | (with_reducible exact longcaseref08_digits.mono _ _ _ _)
      | (with_reducible exact longcaseref08_time.mono _ _ _ _ _)
      | (with_reducible exact LeO.refl _)
      | (with_reducible exact LeO.none _)
      | (with_reducible refine LeO.ite ?_ ?_)
      | (with_reducible refine LeO.bind ?_ (fun _ => ?_))
      | exact ih0 _ _ _ _ _ _ _ _ _
      | exact ih1 _ _ _ _ _ _ _ _
      | exact ih2 _ _ _ _ _ _ _ _ _
      | exact ih3 _ _ _ _ _ _ _ _ _ _
      | exact ih4 _ _ _ _ _ _ _ _ _ _
      | exact ih5 _ _ _ _ _ _ _ _ _
      | exact longcaseref08_Change.mono _ _ _ _ _ _ _
      | exact longcaseref08_digits.mono _ _ _ _
      | exact longcaseref08_time.mono _ _ _ _ _
      | exact LeO.none _
      | refine LeO.ite ?_ ?_
      | refine LeO.bind ?_ (fun _ => ?_)
    · intro y0 y1 y2 y3 y4 y5 y6 y7 y8
      unfold longcaseref08_when.j5
      repeat' first
      | (with_reducible exact ih0 _ _ _ _ _ _ _ _ _)
      | (with_reducible exact ih1 _ _ _ _ _ _ _ _)
      | (with_reducible exact ih2 _ _ _ _ _ _ _ _ _)
      | (with_reducible exact ih3 _ _ _ _ _ _ _ _ _ _)
      | (with_reducible exact ih4 _ _ _ _ _ _ _ _ _ _)
      | (with_reducible exact ih5 _ _ _ _ _ _ _ _ _)
      | (with_reducible exact longcaseref08_Change.mono _ _ _ _ _ _ _)
      | (with_reducible exact longcaseref08_digits.mono _ _ _ _)
      | (with_reducible exact longcaseref08_time.mono _ _ _ _ _)
      | (with_reducible exact LeO.refl _)
      | (with_reducible exact LeO.none _)
      | (with_reducible refine LeO.ite ?_ ?_)
      | (with_reducible refine LeO.bind ?_ (fun _ => ?_))
      | exact ih0 _ _ _ _ _ _ _ _ _
      | exact ih1 _ _ _ _ _ _ _ _
      | exact ih2 _ _ _ _ _ _ _ _ _
      | exact ih3 _ _ _ _ _ _ _ _ _ _
      | exact ih4 _ _ _ _ _ _ _ _ _ _
      | exact ih5 _ _ _ _ _ _ _ _ _
      | exact longcaseref08_Change.mono _ _ _ _ _ _ _
      | exact longcaseref08_digits.mono _ _ _ _
      | exact longcaseref08_time.mono _ _ _ _ _
      | exact LeO.none _
      | refine LeO.ite ?_ ?_
      | refine LeO.bind ?_ (fun _ => ?_)
theorem longcaseref08_when.mono : ∀ a0 a1 a2 k, LeO (longcaseref08_when.f k a0 a1 a2) (longcaseref08_when.f (k + 1) a0 a1 a2) := by
  intro a0 a1 a2 k
  obtain ⟨ih0, ih1, ih2, ih3, ih4, ih5⟩ := longcaseref08_when.mono_l k
  unfold longcaseref08_when.f
  repeat' first
      | (with_reducible exact ih0 _ _ _ _ _ _ _ _ _)
      | (with_reducible exact ih1 _ _ _ _ _ _ _ _)
      | (with_reducible exact ih2 _ _ _ _ _ _ _ _ _)
      | (with_reducible exact ih3 _ _ _ _ _ _ _ _ _ _)
      | (with_reducible exact ih4 _ _ _ _ _ _ _ _ _ _)
      | (with_reducible exact ih5 _ _ _ _ _ _ _ _ _)
      | (with_reducible exact longcaseref08_Change.mono _ _ _ _ _ _ _)
      | (with_reducible exact longcaseref08_digits.mono _ _ _ _)
      | (with_reducible exact longcaseref08_time.mono _ _ _ _ _)
      | (with_reducible exact LeO.refl _)
      | (with_reducible exact LeO.none _)
      | (with_reducible refine LeO.ite ?_ ?_)
      | (with_reducible refine LeO.bind ?_ (fun _ => ?_))
      | exact ih0 _ _ _ _ _ _ _ _ _
      | exact ih1 _ _ _ _ _ _ _ _
      | exact ih2 _ _ _ _ _ _ _ _ _
      | exact ih3 _ _ _ _ _ _ _ _ _ _
      | exact ih4 _ _ _ _ _ _ _ _ _ _
      | exact ih5 _ _ _ _ _ _ _ _ _
      | exact longcaseref08_Change.mono _ _ _ _ _ _ _
      | exact longcaseref08_digits.mono _ _ _ _
      | exact longcaseref08_time.mono _ _ _ _ _
      | exact LeO.none _
      | refine LeO.ite ?_ ?_
      | refine LeO.bind ?_ (fun _ => ?_)
set_option maxHeartbeats 8000000 in
set_option maxRecDepth 100000 in
theorem longcaseref08_when.calls (k : Nat) (a0 : ByteArray) (a1 : Int) (a2 : Bool) (r1 : Int) (r2 : Int) (r3 : Int) (r4 : Int) (r5 : Int) (r6 : Int) (w : World) (h : longcaseref08_when.f k a0 a1 a2 = some (r1, r2, r3, r4, r5, r6)) :
    Calls Tryd.prog 39 #[.string a0, .int .i64 a1, .bool a2] w fun e w' => e = .returned (.tuple #[.agg #[.int .i64 r1, .int .i64 r2, .int .i64 r3, .int .i64 r4, .int .i64 r5], .int .i64 r6]) ∧ Below w.heap.size w w' := by
  have hu25 := Tryd.underlying25
  have HB := Aside0.mk (Below.refl w.heap.size w)
  have H : (if (wrap64 (a1 + 1)) ≥ (a0.size : Int) then (longcaseref08_when.j0 k a0 a1 a2 true 2 0 0 0 7200) else (if 0 ≤ a1 then (if a1 < (a0.size : Int) then (longcaseref08_when.j0 k a0 a1 a2 ((bt a0 a1) != 44) 2 0 0 0 7200) else (none)) else (none))) = some (r1, r2, r3, r4, r5, r6) := h
  clear h
  have HC4 := Aside0.mk H
  clear H
  go_enter Tryd.func39, Tryd.ntmps39
  go_upto_region 2 with (first | ((with_reducible refine gate_dst (N := 6) rfl ?_); (try (refine gate_guard (by rfl) ?_; dsimp only)); refine box_event ?hg (N := 6) ?hd (cs := #[.int .i64 0, .int .i64 0, .int .i64 0, .int .i64 0, .int .i64 0]) (t := 25) ?hr ?_; (case hd => rfl); (case hg => rfl); (case hr => first | (go_simp; done) | (go_simp; rfl)); intro gb231 hg w5 hbox hb; have n0_ := Aside0.mk (below_step (by repeat (first | (with_reducible first | exact HB.out | apply below_alloc | apply pw_below_drewN | apply below_drew1) | exact HB.out)) hb); have n1_ := Aside0.mk (hbox); have n2_ := Aside0.mk ((by rw [hg]; exact (below_size (by repeat (first | (with_reducible first | exact HB.out | apply below_alloc | apply pw_below_drewN | apply below_drew1) | exact HB.out))) : w.heap.size ≤ gb231)); have n3_ := Aside0.mk ((by rw [hg]; exact (below_size (by repeat (first | (with_reducible first | exact HB.out | apply below_alloc | apply pw_below_drewN | apply below_drew1) | exact HB.out))) : w.heap.size ≤ gb231)); clear HB; have HB := n0_; have BK231 := n1_; have GW231 := n2_; have GE231 := n3_; clear n0_ n1_ n2_ n3_; clear hb hbox hg) | ((with_reducible refine gate_dst (N := 8) rfl ?_); (try (refine gate_guard (by rfl) ?_; dsimp only)); refine box_event ?hg (N := 8) ?hd (cs := #[.int .i64 0, .int .i64 0, .int .i64 0, .int .i64 0, .int .i64 0]) (t := 25) ?hr ?_; (case hd => rfl); (case hg => rfl); (case hr => first | (go_simp; done) | (go_simp; rfl)); intro gb232 hg w6 hbox hb; have n0_ := Aside0.mk (blk_below (g := gb231) (o := .cells #[.int .i64 0, .int .i64 0, .int .i64 0, .int .i64 0, .int .i64 0] 25 (0, 0)) (by (with_reducible repeat (first | refine blk_drewN ?_ _ | refine blk_drew ?_ | refine blk_alloc ?_ _)); exact BK231.out) hb); have n1_ := Aside0.mk (below_step (by repeat (first | (with_reducible first | exact HB.out | apply below_alloc | apply pw_below_drewN | apply below_drew1 | refine below_set ?_ GE231.out) | exact HB.out)) hb); have n2_ := Aside0.mk (hbox); have n3_ := Aside0.mk ((by rw [hg]; exact (below_size (by repeat (first | (with_reducible first | exact HB.out | apply below_alloc | apply pw_below_drewN | apply below_drew1 | refine below_set ?_ GE231.out) | exact HB.out))) : w.heap.size ≤ gb232)); have n4_ := Aside0.mk ((by rw [hg]; exact (below_size (by repeat (first | (with_reducible first | exact HB.out | apply below_alloc | apply pw_below_drewN | apply below_drew1 | refine below_set ?_ GE231.out) | exact HB.out))) : w.heap.size ≤ gb232)); have n5_ := Aside0.mk ((by rw [hg]; exact Nat.ne_of_lt (blk_lt (g := gb231) (o := .cells #[.int .i64 0, .int .i64 0, .int .i64 0, .int .i64 0, .int .i64 0] 25 (0, 0)) (by (with_reducible repeat (first | refine blk_drewN ?_ _ | refine blk_drew ?_ | refine blk_alloc ?_ _)); exact BK231.out)) : gb231 ≠ gb232)); have n6_ := Aside0.mk ((by rw [hg]; exact Nat.ne_of_gt (blk_lt (g := gb231) (o := .cells #[.int .i64 0, .int .i64 0, .int .i64 0, .int .i64 0, .int .i64 0] 25 (0, 0)) (by (with_reducible repeat (first | refine blk_drewN ?_ _ | refine blk_drew ?_ | refine blk_alloc ?_ _)); exact BK231.out)) : gb232 ≠ gb231)); clear BK231; clear HB; have BK231 := n0_; have HB := n1_; have BK232 := n2_; have GW232 := n3_; have GE232 := n4_; have NB231_232 := n5_; have NB232_231 := n6_; clear n0_ n1_ n2_ n3_ n4_ n5_ n6_; clear hb hbox hg; have hnb7 := NB232_231.out; have hnc7 := NB231_232.out; have hcz8_0 : w6.cell? ⟨gb232, 0, none⟩ = some (.int .i64 0) := (blk_cell BK232.out 0).trans rfl; have hcz8_1 : w6.cell? ⟨gb232, 1, none⟩ = some (.int .i64 0) := (blk_cell BK232.out 1).trans rfl; have hcz8_2 : w6.cell? ⟨gb232, 2, none⟩ = some (.int .i64 0) := (blk_cell BK232.out 2).trans rfl; have hcz8_3 : w6.cell? ⟨gb232, 3, none⟩ = some (.int .i64 0) := (blk_cell BK232.out 3).trans rfl; have hcz8_4 : w6.cell? ⟨gb232, 4, none⟩ = some (.int .i64 0) := (blk_cell BK232.out 4).trans rfl; have hfz8_0 := blk_frozen BK232.out 0; have hfz8_1 := blk_frozen BK232.out 1; have hfz8_2 := blk_frozen BK232.out 2; have hfz8_3 := blk_frozen BK232.out 3; have hfz8_4 := blk_frozen BK232.out 4))
  (try simp only [Act.put, List.setIfInBounds_toArray, List.set_cons_zero, List.set_cons_succ])
  go_cut [23] (fun v23 wc => ∃ (kq : Nat) (x23_3 : Bool), v23 = .bool x23_3 ∧ Aside0 (longcaseref08_when.j0 kq a0 a1 a2 x23_3 2 0 0 0 7200 = some (r1, r2, r3, r4, r5, r6)) ∧ Aside0 (kq ≤ k) ∧ Aside0 (wc.heap[gb231]? = some (.cells #[.int .i64 0, .int .i64 0, .int .i64 0, .int .i64 0, .int .i64 0] 25 (0, 0))) ∧ Aside0 (wc.heap[gb232]? = some (.cells #[.int .i64 2, .int .i64 0, .int .i64 0, .int .i64 0, .int .i64 7200] 25 (0, 0))) ∧ Aside0 (Below w.heap.size w wc))
  case first => as_aux_lemma =>
    have H := HC4.out
    clear HC4
    by_cases c9 : (wrap64 (a1 + 1)) ≥ (a0.size : Int)
    · rw [if_pos c9] at H
      have c9b0 : decide ((a0.size : Int) ≤ (wrap64 (a1 + 1))) = true := decide_eq_true c9
      clear c9
      (first | rw [c9b0] | (simp only [i64_w, i32_w]; rw [c9b0]) | skip)
      have H' := Aside0.mk H
      clear H
      go_wp2
      go_meet
      case rel => exact ⟨_, (true), (by first | rfl | (simp; done) | (simp [*]; done)), H', ⟨by first | omega | exact Nat.le_refl _⟩, ⟨by (with_reducible repeat (first | refine blk_drewN ?_ _ | refine blk_drew ?_ | refine blk_alloc ?_ _)); refine blk_far ?_ NB231_232.out _; (with_reducible repeat (first | refine blk_drewN ?_ _ | refine blk_drew ?_ | refine blk_alloc ?_ _)); refine blk_far ?_ NB231_232.out _; (with_reducible repeat (first | refine blk_drewN ?_ _ | refine blk_drew ?_ | refine blk_alloc ?_ _)); refine blk_far ?_ NB231_232.out _; (with_reducible repeat (first | refine blk_drewN ?_ _ | refine blk_drew ?_ | refine blk_alloc ?_ _)); refine blk_far ?_ NB231_232.out _; (with_reducible repeat (first | refine blk_drewN ?_ _ | refine blk_drew ?_ | refine blk_alloc ?_ _)); refine blk_far ?_ NB231_232.out _; (with_reducible repeat (first | refine blk_drewN ?_ _ | refine blk_drew ?_ | refine blk_alloc ?_ _)); exact BK231.out⟩, ⟨by (with_reducible repeat (first | refine blk_drewN ?_ _ | refine blk_drew ?_ | refine blk_alloc ?_ _)); refine blk_put (cs := #[.int .i64 2, .int .i64 0, .int .i64 0, .int .i64 0, .int .i64 0]) ?_ 4 _ rfl; (with_reducible repeat (first | refine blk_drewN ?_ _ | refine blk_drew ?_ | refine blk_alloc ?_ _)); refine blk_put (cs := #[.int .i64 2, .int .i64 0, .int .i64 0, .int .i64 0, .int .i64 0]) ?_ 3 _ rfl; (with_reducible repeat (first | refine blk_drewN ?_ _ | refine blk_drew ?_ | refine blk_alloc ?_ _)); refine blk_put (cs := #[.int .i64 2, .int .i64 0, .int .i64 0, .int .i64 0, .int .i64 0]) ?_ 2 _ rfl; (with_reducible repeat (first | refine blk_drewN ?_ _ | refine blk_drew ?_ | refine blk_alloc ?_ _)); refine blk_put (cs := #[.int .i64 2, .int .i64 0, .int .i64 0, .int .i64 0, .int .i64 0]) ?_ 1 _ rfl; (with_reducible repeat (first | refine blk_drewN ?_ _ | refine blk_drew ?_ | refine blk_alloc ?_ _)); refine blk_put (cs := #[.int .i64 0, .int .i64 0, .int .i64 0, .int .i64 0, .int .i64 0]) ?_ 0 _ rfl; (with_reducible repeat (first | refine blk_drewN ?_ _ | refine blk_drew ?_ | refine blk_alloc ?_ _)); exact BK232.out⟩, ⟨by repeat (first | (with_reducible first | exact HB.out | apply below_alloc | apply pw_below_drewN | apply below_drew1 | refine below_set ?_ GE231.out | refine below_set ?_ GE232.out) | exact HB.out)⟩⟩
    · rw [if_neg c9] at H
      have c9b0 : decide ((a0.size : Int) ≤ (wrap64 (a1 + 1))) = false := decide_eq_false c9
      clear c9
      (first | rw [c9b0] | (simp only [i64_w, i32_w]; rw [c9b0]) | skip)
      by_cases c10 : 0 ≤ a1
      · rw [if_pos c10] at H
        have c10b0 : decide (0 ≤ a1) = true := decide_eq_true c10
        clear c10
        by_cases c11 : a1 < (a0.size : Int)
        · rw [if_pos c11] at H
          have c11b0 : decide (a1 < (a0.size : Int)) = true := decide_eq_true c11
          clear c11
          have H' := Aside0.mk H
          clear H
          have p12 : 0 ≤ (a1 : Int) := of_decide_eq_true (by first | (with_reducible assumption) | assumption)
          have q12 : a1 < (a0.size : Int) := of_decide_eq_true (by first | (with_reducible assumption) | assumption)
          have hx12 := bt_at a0 a1
          replace p12 := eq_true p12
          replace q12 := eq_true q12
          go_wp2
          go_meet
          case rel => exact ⟨_, (((bt a0 a1) != 44)), (by first | rfl | (simp; done) | (simp [*]; done)), H', ⟨by first | omega | exact Nat.le_refl _⟩, ⟨by (with_reducible repeat (first | refine blk_drewN ?_ _ | refine blk_drew ?_ | refine blk_alloc ?_ _)); refine blk_far ?_ NB231_232.out _; (with_reducible repeat (first | refine blk_drewN ?_ _ | refine blk_drew ?_ | refine blk_alloc ?_ _)); refine blk_far ?_ NB231_232.out _; (with_reducible repeat (first | refine blk_drewN ?_ _ | refine blk_drew ?_ | refine blk_alloc ?_ _)); refine blk_far ?_ NB231_232.out _; (with_reducible repeat (first | refine blk_drewN ?_ _ | refine blk_drew ?_ | refine blk_alloc ?_ _)); refine blk_far ?_ NB231_232.out _; (with_reducible repeat (first | refine blk_drewN ?_ _ | refine blk_drew ?_ | refine blk_alloc ?_ _)); refine blk_far ?_ NB231_232.out _; (with_reducible repeat (first | refine blk_drewN ?_ _ | refine blk_drew ?_ | refine blk_alloc ?_ _)); exact BK231.out⟩, ⟨by (with_reducible repeat (first | refine blk_drewN ?_ _ | refine blk_drew ?_ | refine blk_alloc ?_ _)); refine blk_put (cs := #[.int .i64 2, .int .i64 0, .int .i64 0, .int .i64 0, .int .i64 0]) ?_ 4 _ rfl; (with_reducible repeat (first | refine blk_drewN ?_ _ | refine blk_drew ?_ | refine blk_alloc ?_ _)); refine blk_put (cs := #[.int .i64 2, .int .i64 0, .int .i64 0, .int .i64 0, .int .i64 0]) ?_ 3 _ rfl; (with_reducible repeat (first | refine blk_drewN ?_ _ | refine blk_drew ?_ | refine blk_alloc ?_ _)); refine blk_put (cs := #[.int .i64 2, .int .i64 0, .int .i64 0, .int .i64 0, .int .i64 0]) ?_ 2 _ rfl; (with_reducible repeat (first | refine blk_drewN ?_ _ | refine blk_drew ?_ | refine blk_alloc ?_ _)); refine blk_put (cs := #[.int .i64 2, .int .i64 0, .int .i64 0, .int .i64 0, .int .i64 0]) ?_ 1 _ rfl; (with_reducible repeat (first | refine blk_drewN ?_ _ | refine blk_drew ?_ | refine blk_alloc ?_ _)); refine blk_put (cs := #[.int .i64 0, .int .i64 0, .int .i64 0, .int .i64 0, .int .i64 0]) ?_ 0 _ rfl; (with_reducible repeat (first | refine blk_drewN ?_ _ | refine blk_drew ?_ | refine blk_alloc ?_ _)); exact BK232.out⟩, ⟨by repeat (first | (with_reducible first | exact HB.out | apply below_alloc | apply pw_below_drewN | apply below_drew1 | refine below_set ?_ GE231.out | refine below_set ?_ GE232.out) | exact HB.out)⟩⟩
        · rw [if_neg c11] at H
          exact absurd H (by simp)
      · rw [if_neg c10] at H
        exact absurd H (by simp)
  case rest => as_aux_lemma =>
    clear HC4
    try clear c1
    try clear p1
    try clear q1
    try clear hx1
    try clear p2
    try clear c3
    try clear p6
    try clear c7
    try clear c9
    try clear c9b0
    try clear c10
    try clear c10b0
    try clear c11
    try clear c11b0
    try clear p12
    try clear q12
    try clear hx12
    try clear hcz8_0
    try clear hcz8_1
    try clear hcz8_2
    try clear hcz8_3
    try clear hcz8_4
    try clear hfz8_0
    try clear hfz8_1
    try clear hfz8_2
    try clear hfz8_3
    try clear hfz8_4
    try clear p12
    try clear q12
    obtain ⟨kq, x23_3, rfl, HA, HJ3, BK231, BK232, HB⟩ := hcut
    cases kq with
    | zero => exact absurd HA.out (by simp [longcaseref08_when.j0])
    | succ kj3 =>
      have H := HA.out
      clear HA
      simp only [longcaseref08_when.j0] at H
      by_cases c13 : x23_3 = true
      · subst c13
        have H1 : (some (2, 0, 0, 0, 7200, (-1))) = some (r1, r2, r3, r4, r5, r6) := by rw [if_pos rfl] at H; exact H
        clear H
        have H := H1
        clear H1
        simp only [Option.some.injEq, Prod.mk.injEq] at H
        obtain ⟨rfl, rfl, rfl, rfl, rfl, rfl⟩ := H
        have hnb14 := NB231_232.out
        have hnc14 := NB232_231.out
        have hcz15_0 : wc.cell? ⟨gb231, 0, none⟩ = some (.int .i64 0) := (blk_cell BK231.out 0).trans rfl
        have hcz15_1 : wc.cell? ⟨gb231, 1, none⟩ = some (.int .i64 0) := (blk_cell BK231.out 1).trans rfl
        have hcz15_2 : wc.cell? ⟨gb231, 2, none⟩ = some (.int .i64 0) := (blk_cell BK231.out 2).trans rfl
        have hcz15_3 : wc.cell? ⟨gb231, 3, none⟩ = some (.int .i64 0) := (blk_cell BK231.out 3).trans rfl
        have hcz15_4 : wc.cell? ⟨gb231, 4, none⟩ = some (.int .i64 0) := (blk_cell BK231.out 4).trans rfl
        have hfz15_0 := blk_frozen BK231.out 0
        have hfz15_1 := blk_frozen BK231.out 1
        have hfz15_2 := blk_frozen BK231.out 2
        have hfz15_3 := blk_frozen BK231.out 3
        have hfz15_4 := blk_frozen BK231.out 4
        go_wp2_with (first | ((with_reducible refine gate_dst (N := 24) rfl ?_); (try (refine gate_guard (by rfl) ?_; dsimp only)); refine wpList_load_row rfl 25 _ rfl (gb232) rfl 25 #[.int .i64 2, .int .i64 0, .int .i64 0, .int .i64 0, .int .i64 7200] (0, 0) _ (by (with_reducible repeat (first | refine blk_drewN ?_ _ | refine blk_drew ?_ | refine blk_alloc ?_ _)); exact BK232.out) Tryd.underlying25 rfl (by kernel_rfl) ?_))
        refine bodyPost_ret (results_ct rfl _ _ gb231 25 #[.int .i64 2, .int .i64 0, .int .i64 0, .int .i64 0, .int .i64 7200] (0, 0) _ rfl (by (with_reducible repeat (first | refine blk_drewN ?_ _ | refine blk_drew ?_ | refine blk_alloc ?_ _)); refine blk_put (cs := #[.int .i64 2, .int .i64 0, .int .i64 0, .int .i64 0, .int .i64 0]) ?_ 4 _ rfl; (with_reducible repeat (first | refine blk_drewN ?_ _ | refine blk_drew ?_ | refine blk_alloc ?_ _)); refine blk_put (cs := #[.int .i64 2, .int .i64 0, .int .i64 0, .int .i64 0, .int .i64 0]) ?_ 3 _ rfl; (with_reducible repeat (first | refine blk_drewN ?_ _ | refine blk_drew ?_ | refine blk_alloc ?_ _)); refine blk_put (cs := #[.int .i64 2, .int .i64 0, .int .i64 0, .int .i64 0, .int .i64 0]) ?_ 2 _ rfl; (with_reducible repeat (first | refine blk_drewN ?_ _ | refine blk_drew ?_ | refine blk_alloc ?_ _)); refine blk_put (cs := #[.int .i64 2, .int .i64 0, .int .i64 0, .int .i64 0, .int .i64 0]) ?_ 1 _ rfl; (with_reducible repeat (first | refine blk_drewN ?_ _ | refine blk_drew ?_ | refine blk_alloc ?_ _)); refine blk_put (cs := #[.int .i64 0, .int .i64 0, .int .i64 0, .int .i64 0, .int .i64 0]) ?_ 0 _ rfl; (with_reducible repeat (first | refine blk_drewN ?_ _ | refine blk_drew ?_ | refine blk_alloc ?_ _)); exact BK231.out) Tryd.underlying25 rfl (by kernel_rfl)) rfl ?_
        exact ⟨by first | rfl | (simp [errW_none, errW_some] <;> rfl) | (simp [*, errW_none, errW_some] <;> rfl), by repeat (first | (with_reducible first | exact HB.out | apply below_alloc | apply pw_below_drewN | apply below_drew1 | refine below_set ?_ GE231.out | refine below_set ?_ GE232.out) | exact HB.out)⟩
      · replace c13 := Bool.eq_false_iff.mpr c13
        subst c13
        have H1 : (if 0 ≤ (wrap64 (a1 + 1)) then (if (wrap64 (a1 + 1)) < (a0.size : Int) then (if (bt a0 (wrap64 (a1 + 1))) = 74 then (longcaseref08_when.j1 kj3 a0 (wrap64 ((wrap64 (a1 + 1)) + 1)) a2 1 0 0 0 7200) else (if (bt a0 (wrap64 (a1 + 1))) = 77 then (longcaseref08_when.j1 kj3 a0 (wrap64 ((wrap64 (a1 + 1)) + 1)) a2 3 0 0 0 7200) else (longcaseref08_when.j1 kj3 a0 (wrap64 (a1 + 1)) a2 2 0 0 0 7200))) else (none)) else (none)) = some (r1, r2, r3, r4, r5, r6) := by rw [if_neg (show ¬ (false = true) by decide)] at H; exact H
        clear H
        have H := H1
        clear H1
        obtain ⟨ji16, hji16⟩ : ∃ j_ : Int, (wrap64 (a1 + 1)) = j_ := ⟨_, rfl⟩
        replace H : (if 0 ≤ (ji16) then (if (ji16) < (a0.size : Int) then (if (bt a0 (ji16)) = 74 then (longcaseref08_when.j1 kj3 a0 (wrap64 ((ji16) + 1)) a2 1 0 0 0 7200) else (if (bt a0 (ji16)) = 77 then (longcaseref08_when.j1 kj3 a0 (wrap64 ((ji16) + 1)) a2 3 0 0 0 7200) else (longcaseref08_when.j1 kj3 a0 ji16 a2 2 0 0 0 7200))) else (none)) else (none)) = some (r1, r2, r3, r4, r5, r6) := by first | (rw [hji16] at H; exact H) | (simp only [hji16] at H ⊢; exact H)
        have hji16w : (IntKind.i64.wrap (a1 + 1)) = ji16 := (i64_w _).trans hji16
        by_cases c17 : 0 ≤ (ji16)
        · rw [if_pos c17] at H
          have c17b0 : decide (0 ≤ (ji16)) = true := decide_eq_true c17
          clear c17
          by_cases c18 : (ji16) < (a0.size : Int)
          · rw [if_pos c18] at H
            have c18b0 : decide ((ji16) < (a0.size : Int)) = true := decide_eq_true c18
            clear c18
            have HC20 := Aside0.mk H
            clear H
            have p19 : 0 ≤ ((ji16) : Int) := of_decide_eq_true (by first | (with_reducible assumption) | assumption)
            have q19 : (ji16) < (a0.size : Int) := of_decide_eq_true (by first | (with_reducible assumption) | assumption)
            have hx19 := bt_at a0 (ji16)
            replace p19 := eq_true p19
            replace q19 := eq_true q19
            go_upto_if 30 with (fail)
            go_cut [1] (fun v1 wc => ∃ (kq : Nat) (x1_19 : Int) (x233000_19 : Int), v1 = .int .i64 x1_19 ∧ Aside0 (longcaseref08_when.j1 kq a0 x1_19 a2 x233000_19 0 0 0 7200 = some (r1, r2, r3, r4, r5, r6)) ∧ Aside0 (kq ≤ kj3) ∧ Aside0 (wc.heap[gb231]? = some (.cells #[.int .i64 0, .int .i64 0, .int .i64 0, .int .i64 0, .int .i64 0] 25 (0, 0))) ∧ Aside0 (wc.heap[gb232]? = some (.cells #[.int .i64 x233000_19, .int .i64 0, .int .i64 0, .int .i64 0, .int .i64 7200] 25 (0, 0))) ∧ Aside0 (Below w.heap.size w wc))
            case first => as_aux_lemma =>
              have H := HC20.out
              clear HC20
              by_cases c21 : (bt a0 (ji16)) = 74
              · rw [if_pos c21] at H
                have c21b0 : ((bt a0 (ji16)) == 74) = true := beq_iff_eq.mpr c21
                have c21b1 : ((bt a0 (ji16)) != 74) = false := bne_eq_false_iff_eq.mpr c21
                clear c21
                (first | rw [c21b0] | (simp only [i64_w, i32_w]; rw [c21b0]) | skip)
                have H' := Aside0.mk H
                clear H
                have hnb22 := NB232_231.out
                have hnc22 := NB231_232.out
                have hcz23_0 : wc.cell? ⟨gb232, 0, none⟩ = some (.int .i64 2) := (blk_cell BK232.out 0).trans rfl
                have hcz23_1 : wc.cell? ⟨gb232, 1, none⟩ = some (.int .i64 0) := (blk_cell BK232.out 1).trans rfl
                have hcz23_2 : wc.cell? ⟨gb232, 2, none⟩ = some (.int .i64 0) := (blk_cell BK232.out 2).trans rfl
                have hcz23_3 : wc.cell? ⟨gb232, 3, none⟩ = some (.int .i64 0) := (blk_cell BK232.out 3).trans rfl
                have hcz23_4 : wc.cell? ⟨gb232, 4, none⟩ = some (.int .i64 7200) := (blk_cell BK232.out 4).trans rfl
                have hfz23_0 := blk_frozen BK232.out 0
                have hfz23_1 := blk_frozen BK232.out 1
                have hfz23_2 := blk_frozen BK232.out 2
                have hfz23_3 := blk_frozen BK232.out 3
                have hfz23_4 := blk_frozen BK232.out 4
                go_wp2
                go_meet
                case rel => exact ⟨_, (wrap64 ((ji16) + 1)), (1), (by first | rfl | (simp; done) | (simp only [← hji16] <;> (first | rfl | simp)) | (simp [*]; done)), H', ⟨by have := HJ3.out; first | omega | exact Nat.le_refl _⟩, ⟨by (with_reducible repeat (first | refine blk_drewN ?_ _ | refine blk_drew ?_ | refine blk_alloc ?_ _)); refine blk_far ?_ NB231_232.out _; (with_reducible repeat (first | refine blk_drewN ?_ _ | refine blk_drew ?_ | refine blk_alloc ?_ _)); exact BK231.out⟩, ⟨by (with_reducible repeat (first | refine blk_drewN ?_ _ | refine blk_drew ?_ | refine blk_alloc ?_ _)); refine blk_put (cs := #[.int .i64 2, .int .i64 0, .int .i64 0, .int .i64 0, .int .i64 7200]) ?_ 0 _ rfl; (with_reducible repeat (first | refine blk_drewN ?_ _ | refine blk_drew ?_ | refine blk_alloc ?_ _)); exact BK232.out⟩, ⟨by repeat (first | (with_reducible first | exact HB.out | apply below_alloc | apply pw_below_drewN | apply below_drew1 | refine below_set ?_ GE231.out | refine below_set ?_ GE232.out) | exact HB.out)⟩⟩
              · rw [if_neg c21] at H
                have c21b0 : ((bt a0 (ji16)) == 74) = false := beq_eq_false_iff_ne.mpr c21
                have c21b1 : ((bt a0 (ji16)) != 74) = true := bne_iff_ne.mpr c21
                (first | rw [c21b0] | (simp only [i64_w, i32_w]; rw [c21b0]) | skip)
                by_cases c25 : (bt a0 (ji16)) = 77
                · rw [if_pos c25] at H
                  have c25b0 : ((bt a0 (ji16)) == 77) = true := beq_iff_eq.mpr c25
                  have c25b1 : ((bt a0 (ji16)) != 77) = false := bne_eq_false_iff_eq.mpr c25
                  clear c25
                  have H' := Aside0.mk H
                  clear H
                  have p24 : 0 ≤ ((ji16) : Int) := of_decide_eq_true (by first | (with_reducible assumption) | assumption)
                  have q24 : (ji16) < (a0.size : Int) := of_decide_eq_true (by first | (with_reducible assumption) | assumption)
                  have hx24 := bt_at a0 (ji16)
                  replace p24 := eq_true p24
                  replace q24 := eq_true q24
                  have hnb26 := NB232_231.out
                  have hnc26 := NB231_232.out
                  have hcz27_0 : wc.cell? ⟨gb232, 0, none⟩ = some (.int .i64 2) := (blk_cell BK232.out 0).trans rfl
                  have hcz27_1 : wc.cell? ⟨gb232, 1, none⟩ = some (.int .i64 0) := (blk_cell BK232.out 1).trans rfl
                  have hcz27_2 : wc.cell? ⟨gb232, 2, none⟩ = some (.int .i64 0) := (blk_cell BK232.out 2).trans rfl
                  have hcz27_3 : wc.cell? ⟨gb232, 3, none⟩ = some (.int .i64 0) := (blk_cell BK232.out 3).trans rfl
                  have hcz27_4 : wc.cell? ⟨gb232, 4, none⟩ = some (.int .i64 7200) := (blk_cell BK232.out 4).trans rfl
                  have hfz27_0 := blk_frozen BK232.out 0
                  have hfz27_1 := blk_frozen BK232.out 1
                  have hfz27_2 := blk_frozen BK232.out 2
                  have hfz27_3 := blk_frozen BK232.out 3
                  have hfz27_4 := blk_frozen BK232.out 4
                  go_wp2
                  go_meet
                  case rel => exact ⟨_, (wrap64 ((ji16) + 1)), (3), (by first | rfl | (simp; done) | (simp only [← hji16] <;> (first | rfl | simp)) | (simp [*]; done)), H', ⟨by have := HJ3.out; first | omega | exact Nat.le_refl _⟩, ⟨by (with_reducible repeat (first | refine blk_drewN ?_ _ | refine blk_drew ?_ | refine blk_alloc ?_ _)); refine blk_far ?_ NB231_232.out _; (with_reducible repeat (first | refine blk_drewN ?_ _ | refine blk_drew ?_ | refine blk_alloc ?_ _)); exact BK231.out⟩, ⟨by (with_reducible repeat (first | refine blk_drewN ?_ _ | refine blk_drew ?_ | refine blk_alloc ?_ _)); refine blk_put (cs := #[.int .i64 2, .int .i64 0, .int .i64 0, .int .i64 0, .int .i64 7200]) ?_ 0 _ rfl; (with_reducible repeat (first | refine blk_drewN ?_ _ | refine blk_drew ?_ | refine blk_alloc ?_ _)); exact BK232.out⟩, ⟨by repeat (first | (with_reducible first | exact HB.out | apply below_alloc | apply pw_below_drewN | apply below_drew1 | refine below_set ?_ GE231.out | refine below_set ?_ GE232.out) | exact HB.out)⟩⟩
                · rw [if_neg c25] at H
                  have c25b0 : ((bt a0 (ji16)) == 77) = false := beq_eq_false_iff_ne.mpr c25
                  have c25b1 : ((bt a0 (ji16)) != 77) = true := bne_iff_ne.mpr c25
                  have H' := Aside0.mk H
                  clear H
                  have p24 : 0 ≤ ((ji16) : Int) := of_decide_eq_true (by first | (with_reducible assumption) | assumption)
                  have q24 : (ji16) < (a0.size : Int) := of_decide_eq_true (by first | (with_reducible assumption) | assumption)
                  have hx24 := bt_at a0 (ji16)
                  replace p24 := eq_true p24
                  replace q24 := eq_true q24
                  go_wp2
                  go_meet
                  case rel => exact ⟨_, (ji16), (2), (by first | rfl | (simp; done) | (simp only [← hji16] <;> (first | rfl | simp)) | (simp [*]; done)), H', ⟨by have := HJ3.out; first | omega | exact Nat.le_refl _⟩, ⟨by (with_reducible repeat (first | refine blk_drewN ?_ _ | refine blk_drew ?_ | refine blk_alloc ?_ _)); exact BK231.out⟩, ⟨by (with_reducible repeat (first | refine blk_drewN ?_ _ | refine blk_drew ?_ | refine blk_alloc ?_ _)); exact BK232.out⟩, ⟨by repeat (first | (with_reducible first | exact HB.out | apply below_alloc | apply pw_below_drewN | apply below_drew1 | refine below_set ?_ GE231.out | refine below_set ?_ GE232.out) | exact HB.out)⟩⟩
            case rest => as_aux_lemma =>
              clear HC20
              try clear c1
              try clear p1
              try clear q1
              try clear hx1
              try clear c2
              try clear p2
              try clear q2
              try clear hx2
              try clear c3
              try clear p6
              try clear c7
              try clear c9
              try clear c9b0
              try clear c10
              try clear c10b0
              try clear c11
              try clear c11b0
              try clear p12
              try clear q12
              try clear hx12
              try clear c13
              try clear c14
              try clear c17
              try clear c17b0
              try clear c18
              try clear c18b0
              try clear p19
              try clear q19
              try clear hx19
              try clear c21
              try clear c21b0
              try clear c21b1
              try clear c22
              try clear p24
              try clear q24
              try clear hx24
              try clear c25
              try clear c25b0
              try clear c25b1
              try clear c26
              try clear hcz15_0
              try clear hcz15_1
              try clear hcz15_2
              try clear hcz15_3
              try clear hcz15_4
              try clear hcz23_0
              try clear hcz23_1
              try clear hcz23_2
              try clear hcz23_3
              try clear hcz23_4
              try clear hcz27_0
              try clear hcz27_1
              try clear hcz27_2
              try clear hcz27_3
              try clear hcz27_4
              try clear hcz8_0
              try clear hcz8_1
              try clear hcz8_2
              try clear hcz8_3
              try clear hcz8_4
              try clear hfz15_0
              try clear hfz15_1
              try clear hfz15_2
              try clear hfz15_3
              try clear hfz15_4
              try clear hfz23_0
              try clear hfz23_1
              try clear hfz23_2
              try clear hfz23_3
              try clear hfz23_4
              try clear hfz27_0
              try clear hfz27_1
              try clear hfz27_2
              try clear hfz27_3
              try clear hfz27_4
              try clear hfz8_0
              try clear hfz8_1
              try clear hfz8_2
              try clear hfz8_3
              try clear hfz8_4
              try clear p1
              try clear p12
              try clear p19
              try clear p2
              try clear p24
              try clear p6
              try clear q1
              try clear q12
              try clear q19
              try clear q24
              obtain ⟨kq, x1_19, x233000_19, rfl, HA, HJ19, BK231, BK232, HB⟩ := hcut
              cases kq with
              | zero => exact absurd HA.out (by simp [longcaseref08_when.j1])
              | succ kj19 =>
                have H := HA.out
                clear HA
                simp only [longcaseref08_when.j1] at H
                replace H := Option.bind_eq_some_iff.mp H
                obtain ⟨⟨t233, t234⟩, A280, H⟩ := H
                replace H : (longcaseref08_when.l0 kj19 a0 t234 a2 0 x233000_19 t233 0 0 7200) = some (r1, r2, r3, r4, r5, r6) := H
                have A28 := Aside0.mk A280
                clear A280
                have H' := Aside0.mk H
                clear H
                go_wp2_with (first | ((with_reducible refine gate_callee (f := 57) rfl ?_); refine goesL_ (some 44) rfl rfl Tryd.func57 (by kernel_rfl) rfl #[.string a0, .int .i64 x1_19, .int .i64 3] rfl (by (try simp only [List.map_toArray, List.map_cons, List.map_nil]); first | done | rfl | (simp only [List.length_drop, List.length_take]; rfl)) ?_; (with_reducible refine (longcaseref08_digits.calls kj19 a0 x1_19 3 t233 t234 _ A28.out).mono ?_); rintro e w' ⟨rfl, ⟨nd, rfl⟩⟩; refine ⟨_, rfl, ?_⟩; (try (rw [drewN_self wc]; generalize hq_ : World.drewN wc _ = wc; have n0_ : Aside0 (wc.heap[gb231]? = some (.cells #[.int .i64 0, .int .i64 0, .int .i64 0, .int .i64 0, .int .i64 0] 25 (0, 0))) := ⟨by rw [← hq_]; exact (by (with_reducible repeat (first | refine blk_drewN ?_ _ | refine blk_drew ?_ | refine blk_alloc ?_ _)); exact BK231.out)⟩; have n1_ : Aside0 (wc.heap[gb232]? = some (.cells #[.int .i64 x233000_19, .int .i64 0, .int .i64 0, .int .i64 0, .int .i64 7200] 25 (0, 0))) := ⟨by rw [← hq_]; exact (by (with_reducible repeat (first | refine blk_drewN ?_ _ | refine blk_drew ?_ | refine blk_alloc ?_ _)); exact BK232.out)⟩; have n2_ : Aside0 (Below w.heap.size w wc) := ⟨by rw [← hq_]; exact (by repeat (first | (with_reducible first | exact HB.out | apply below_alloc | apply pw_below_drewN | apply below_drew1 | refine below_set ?_ GE231.out | refine below_set ?_ GE232.out) | exact HB.out))⟩; clear BK231 BK232 HB hq_; have BK231 := n0_; have BK232 := n1_; have HB := n2_; clear n0_ n1_ n2_)); have hnb29 := NB232_231.out; have hnc29 := NB231_232.out; have hcz30_0 : wc.cell? ⟨gb232, 0, none⟩ = some (.int .i64 x233000_19) := (blk_cell BK232.out 0).trans rfl; have hcz30_1 : wc.cell? ⟨gb232, 1, none⟩ = some (.int .i64 0) := (blk_cell BK232.out 1).trans rfl; have hcz30_2 : wc.cell? ⟨gb232, 2, none⟩ = some (.int .i64 0) := (blk_cell BK232.out 2).trans rfl; have hcz30_3 : wc.cell? ⟨gb232, 3, none⟩ = some (.int .i64 0) := (blk_cell BK232.out 3).trans rfl; have hcz30_4 : wc.cell? ⟨gb232, 4, none⟩ = some (.int .i64 7200) := (blk_cell BK232.out 4).trans rfl; have hfz30_0 := blk_frozen BK232.out 0; have hfz30_1 := blk_frozen BK232.out 1; have hfz30_2 := blk_frozen BK232.out 2; have hfz30_3 := blk_frozen BK232.out 3; have hfz30_4 := blk_frozen BK232.out 4))
                go_loopg [1, 9] kj19 (fun kq v1 v9 w' => ∃ (x1_3 : Int) (x9_3 : Int) (x232000_3 : Int) (x232001_3 : Int) (x232002_3 : Int) (x232003_3 : Int) (x232004_3 : Int) (x233002_3 : Int) (x233003_3 : Int), v1 = .int .i64 x1_3 ∧ v9 = .int .i64 x9_3 ∧ Aside0 (longcaseref08_when.l0 kq a0 x1_3 a2 x9_3 x233000_19 t233 x233002_3 x233003_3 7200 = some (r1, r2, r3, r4, r5, r6)) ∧ Aside0 (kq ≤ kj19) ∧ Aside0 (w'.heap[gb231]? = some (.cells #[.int .i64 x232000_3, .int .i64 x232001_3, .int .i64 x232002_3, .int .i64 x232003_3, .int .i64 x232004_3] 25 (0, 0))) ∧ Aside0 (w'.heap[gb232]? = some (.cells #[.int .i64 x233000_19, .int .i64 t233, .int .i64 x233002_3, .int .i64 x233003_3, .int .i64 7200] 25 (0, 0))) ∧ Aside0 (Below w.heap.size w w'))
                case atStart => exact ⟨(t234), (0), (0), (0), (0), (0), (0), (0), (0), (by first | rfl | (simp; done) | (simp [*]; done)), (by first | rfl | (simp; done) | (simp [*]; done)), H', ⟨Nat.le_refl _⟩, ⟨by (with_reducible repeat (first | refine blk_drewN ?_ _ | refine blk_drew ?_ | refine blk_alloc ?_ _)); refine blk_far ?_ NB231_232.out _; (with_reducible repeat (first | refine blk_drewN ?_ _ | refine blk_drew ?_ | refine blk_alloc ?_ _)); exact BK231.out⟩, ⟨by (with_reducible repeat (first | refine blk_drewN ?_ _ | refine blk_drew ?_ | refine blk_alloc ?_ _)); refine blk_put (cs := #[.int .i64 x233000_19, .int .i64 0, .int .i64 0, .int .i64 0, .int .i64 7200]) ?_ 1 _ rfl; (with_reducible repeat (first | refine blk_drewN ?_ _ | refine blk_drew ?_ | refine blk_alloc ?_ _)); exact BK232.out⟩, ⟨by repeat (first | (with_reducible first | exact HB.out | apply below_alloc | apply pw_below_drewN | apply below_drew1 | refine below_set ?_ GE231.out | refine below_set ?_ GE232.out) | exact HB.out)⟩⟩
                case round => as_aux_lemma =>
                  clear H'
                  try clear c1
                  try clear p1
                  try clear q1
                  try clear hx1
                  try clear c2
                  try clear p2
                  try clear q2
                  try clear hx2
                  try clear c3
                  try clear c5
                  try clear p6
                  try clear c7
                  try clear c9
                  try clear c9b0
                  try clear c10
                  try clear c10b0
                  try clear c11
                  try clear c11b0
                  try clear p12
                  try clear q12
                  try clear hx12
                  try clear c13
                  try clear c14
                  try clear c17
                  try clear c17b0
                  try clear c18
                  try clear c18b0
                  try clear p19
                  try clear q19
                  try clear hx19
                  try clear c21
                  try clear c21b0
                  try clear c21b1
                  try clear c22
                  try clear p24
                  try clear q24
                  try clear hx24
                  try clear c25
                  try clear c25b0
                  try clear c25b1
                  try clear c26
                  try clear c29
                  try clear hcz15_0
                  try clear hcz15_1
                  try clear hcz15_2
                  try clear hcz15_3
                  try clear hcz15_4
                  try clear hcz23_0
                  try clear hcz23_1
                  try clear hcz23_2
                  try clear hcz23_3
                  try clear hcz23_4
                  try clear hcz27_0
                  try clear hcz27_1
                  try clear hcz27_2
                  try clear hcz27_3
                  try clear hcz27_4
                  try clear hcz30_0
                  try clear hcz30_1
                  try clear hcz30_2
                  try clear hcz30_3
                  try clear hcz30_4
                  try clear hcz8_0
                  try clear hcz8_1
                  try clear hcz8_2
                  try clear hcz8_3
                  try clear hcz8_4
                  try clear hfz15_0
                  try clear hfz15_1
                  try clear hfz15_2
                  try clear hfz15_3
                  try clear hfz15_4
                  try clear hfz23_0
                  try clear hfz23_1
                  try clear hfz23_2
                  try clear hfz23_3
                  try clear hfz23_4
                  try clear hfz27_0
                  try clear hfz27_1
                  try clear hfz27_2
                  try clear hfz27_3
                  try clear hfz27_4
                  try clear hfz30_0
                  try clear hfz30_1
                  try clear hfz30_2
                  try clear hfz30_3
                  try clear hfz30_4
                  try clear hfz8_0
                  try clear hfz8_1
                  try clear hfz8_2
                  try clear hfz8_3
                  try clear hfz8_4
                  try clear p1
                  try clear p12
                  try clear p19
                  try clear p2
                  try clear p24
                  try clear p6
                  try clear q1
                  try clear q12
                  try clear q19
                  try clear q2
                  try clear q24
                  obtain ⟨x1_3, x9_3, x232000_3, x232001_3, x232002_3, x232003_3, x232004_3, x233002_3, x233003_3, rfl, rfl, HA, HK3, BK231, BK232, HB⟩ := hrel
                  cases gk with
                  | zero => exact absurd HA.out (by simp [longcaseref08_when.l0])
                  | succ k3 =>
                    have H := HA.out
                    clear HA
                    simp only [longcaseref08_when.l0] at H
                    have HC31 := Aside0.mk H
                    clear H
                    go_upto_region 13 with (fail)
                    go_cut [54] (fun v54 wc => ∃ (kq : Nat) (x54_30 : Bool), v54 = .bool x54_30 ∧ Aside0 (longcaseref08_when.j3 kq a0 x1_3 a2 x9_3 x54_30 x233000_19 t233 x233002_3 x233003_3 7200 = some (r1, r2, r3, r4, r5, r6)) ∧ Aside0 (kq ≤ k3) ∧ Aside0 (wc.heap[gb231]? = some (.cells #[.int .i64 x232000_3, .int .i64 x232001_3, .int .i64 x232002_3, .int .i64 x232003_3, .int .i64 x232004_3] 25 (0, 0))) ∧ Aside0 (wc.heap[gb232]? = some (.cells #[.int .i64 x233000_19, .int .i64 t233, .int .i64 x233002_3, .int .i64 x233003_3, .int .i64 7200] 25 (0, 0))) ∧ Aside0 (Below w.heap.size w wc))
                    case first => as_aux_lemma =>
                      have H := HC31.out
                      clear HC31
                      by_cases c32 : x9_3 < 2
                      · rw [if_pos c32] at H
                        have c32b0 : decide (x9_3 < 2) = true := decide_eq_true c32
                        clear c32
                        (first | rw [c32b0] | (simp only [i64_w, i32_w]; rw [c32b0]) | skip)
                        have H' := Aside0.mk H
                        clear H
                        have hnb33 := NB232_231.out
                        have hnc33 := NB231_232.out
                        have hcz34_0 : wr.cell? ⟨gb232, 0, none⟩ = some (.int .i64 x233000_19) := (blk_cell BK232.out 0).trans rfl
                        have hcz34_1 : wr.cell? ⟨gb232, 1, none⟩ = some (.int .i64 t233) := (blk_cell BK232.out 1).trans rfl
                        have hcz34_2 : wr.cell? ⟨gb232, 2, none⟩ = some (.int .i64 x233002_3) := (blk_cell BK232.out 2).trans rfl
                        have hcz34_3 : wr.cell? ⟨gb232, 3, none⟩ = some (.int .i64 x233003_3) := (blk_cell BK232.out 3).trans rfl
                        have hcz34_4 : wr.cell? ⟨gb232, 4, none⟩ = some (.int .i64 7200) := (blk_cell BK232.out 4).trans rfl
                        have hfz34_0 := blk_frozen BK232.out 0
                        have hfz34_1 := blk_frozen BK232.out 1
                        have hfz34_2 := blk_frozen BK232.out 2
                        have hfz34_3 := blk_frozen BK232.out 3
                        have hfz34_4 := blk_frozen BK232.out 4
                        go_wp2
                        go_meet
                        case rel => exact ⟨_, ((x233000_19 == 3)), (by first | rfl | (simp; done) | (simp [*]; done)), H', ⟨by have := HJ3.out; have := HJ19.out; have := HK3.out; first | omega | exact Nat.le_refl _⟩, ⟨by (with_reducible repeat (first | refine blk_drewN ?_ _ | refine blk_drew ?_ | refine blk_alloc ?_ _)); exact BK231.out⟩, ⟨by (with_reducible repeat (first | refine blk_drewN ?_ _ | refine blk_drew ?_ | refine blk_alloc ?_ _)); exact BK232.out⟩, ⟨by repeat (first | (with_reducible first | exact HB.out | apply below_alloc | apply pw_below_drewN | apply below_drew1 | refine below_set ?_ GE231.out | refine below_set ?_ GE232.out) | exact HB.out)⟩⟩
                      · rw [if_neg c32] at H
                        have c32b0 : decide (x9_3 < 2) = false := decide_eq_false c32
                        clear c32
                        (first | rw [c32b0] | (simp only [i64_w, i32_w]; rw [c32b0]) | skip)
                        have H' := Aside0.mk H
                        clear H
                        go_wp2
                        go_meet
                        case rel => exact ⟨_, (false), (by first | rfl | (simp; done) | (simp [*]; done)), H', ⟨by have := HJ3.out; have := HJ19.out; have := HK3.out; first | omega | exact Nat.le_refl _⟩, ⟨by (with_reducible repeat (first | refine blk_drewN ?_ _ | refine blk_drew ?_ | refine blk_alloc ?_ _)); exact BK231.out⟩, ⟨by (with_reducible repeat (first | refine blk_drewN ?_ _ | refine blk_drew ?_ | refine blk_alloc ?_ _)); exact BK232.out⟩, ⟨by repeat (first | (with_reducible first | exact HB.out | apply below_alloc | apply pw_below_drewN | apply below_drew1 | refine below_set ?_ GE231.out | refine below_set ?_ GE232.out) | exact HB.out)⟩⟩
                    case rest => as_aux_lemma =>
                      clear HC31
                      try clear c1
                      try clear p1
                      try clear q1
                      try clear hx1
                      try clear c2
                      try clear p2
                      try clear q2
                      try clear hx2
                      try clear c3
                      try clear c5
                      try clear p6
                      try clear c7
                      try clear c9
                      try clear c9b0
                      try clear c10
                      try clear c10b0
                      try clear c11
                      try clear c11b0
                      try clear p12
                      try clear q12
                      try clear hx12
                      try clear c13
                      try clear c14
                      try clear c17
                      try clear c17b0
                      try clear c18
                      try clear c18b0
                      try clear p19
                      try clear q19
                      try clear hx19
                      try clear c21
                      try clear c21b0
                      try clear c21b1
                      try clear c22
                      try clear p24
                      try clear q24
                      try clear hx24
                      try clear c25
                      try clear c25b0
                      try clear c25b1
                      try clear c26
                      try clear c29
                      try clear c32
                      try clear c32b0
                      try clear c33
                      try clear hcz15_0
                      try clear hcz15_1
                      try clear hcz15_2
                      try clear hcz15_3
                      try clear hcz15_4
                      try clear hcz23_0
                      try clear hcz23_1
                      try clear hcz23_2
                      try clear hcz23_3
                      try clear hcz23_4
                      try clear hcz27_0
                      try clear hcz27_1
                      try clear hcz27_2
                      try clear hcz27_3
                      try clear hcz27_4
                      try clear hcz30_0
                      try clear hcz30_1
                      try clear hcz30_2
                      try clear hcz30_3
                      try clear hcz30_4
                      try clear hcz34_0
                      try clear hcz34_1
                      try clear hcz34_2
                      try clear hcz34_3
                      try clear hcz34_4
                      try clear hcz8_0
                      try clear hcz8_1
                      try clear hcz8_2
                      try clear hcz8_3
                      try clear hcz8_4
                      try clear hfz15_0
                      try clear hfz15_1
                      try clear hfz15_2
                      try clear hfz15_3
                      try clear hfz15_4
                      try clear hfz23_0
                      try clear hfz23_1
                      try clear hfz23_2
                      try clear hfz23_3
                      try clear hfz23_4
                      try clear hfz27_0
                      try clear hfz27_1
                      try clear hfz27_2
                      try clear hfz27_3
                      try clear hfz27_4
                      try clear hfz30_0
                      try clear hfz30_1
                      try clear hfz30_2
                      try clear hfz30_3
                      try clear hfz30_4
                      try clear hfz34_0
                      try clear hfz34_1
                      try clear hfz34_2
                      try clear hfz34_3
                      try clear hfz34_4
                      try clear hfz8_0
                      try clear hfz8_1
                      try clear hfz8_2
                      try clear hfz8_3
                      try clear hfz8_4
                      try clear p1
                      try clear p12
                      try clear p19
                      try clear p2
                      try clear p24
                      try clear p6
                      try clear q1
                      try clear q12
                      try clear q19
                      try clear q2
                      try clear q24
                      obtain ⟨kq, x54_30, rfl, HA, HJ30, BK231, BK232, HB⟩ := hcut
                      cases kq with
                      | zero => exact absurd HA.out (by simp [longcaseref08_when.j3])
                      | succ kj30 =>
                        have H := HA.out
                        clear HA
                        simp only [longcaseref08_when.j3] at H
                        by_cases c35 : x54_30 = true
                        · subst c35
                          have H1 : (if x1_3 < 0 then (longcaseref08_when.j4 kj30 a0 x1_3 a2 x9_3 true x233000_19 t233 x233002_3 x233003_3 7200) else (if x1_3 ≥ (a0.size : Int) then (longcaseref08_when.j4 kj30 a0 x1_3 a2 x9_3 true x233000_19 t233 x233002_3 x233003_3 7200) else (if 0 ≤ x1_3 then (if x1_3 < (a0.size : Int) then (longcaseref08_when.j4 kj30 a0 x1_3 a2 x9_3 ((bt a0 x1_3) != 46) x233000_19 t233 x233002_3 x233003_3 7200) else (none)) else (none)))) = some (r1, r2, r3, r4, r5, r6) := by rw [if_pos rfl] at H; exact H
                          clear H
                          have H := H1
                          clear H1
                          have HC36 := Aside0.mk H
                          clear H
                          go_upto_region 15 with (fail)
                          go_cut [70] (fun v70 wc => ∃ (kq : Nat) (x70_35 : Bool), v70 = .bool x70_35 ∧ Aside0 (longcaseref08_when.j4 kq a0 x1_3 a2 x9_3 x70_35 x233000_19 t233 x233002_3 x233003_3 7200 = some (r1, r2, r3, r4, r5, r6)) ∧ Aside0 (kq ≤ kj30) ∧ Aside0 (wc.heap[gb231]? = some (.cells #[.int .i64 x232000_3, .int .i64 x232001_3, .int .i64 x232002_3, .int .i64 x232003_3, .int .i64 x232004_3] 25 (0, 0))) ∧ Aside0 (wc.heap[gb232]? = some (.cells #[.int .i64 x233000_19, .int .i64 t233, .int .i64 x233002_3, .int .i64 x233003_3, .int .i64 7200] 25 (0, 0))) ∧ Aside0 (Below w.heap.size w wc))
                          case first => as_aux_lemma =>
                            have H := HC36.out
                            clear HC36
                            by_cases c37 : x1_3 < 0
                            · rw [if_pos c37] at H
                              have c37b0 : decide (x1_3 < 0) = true := decide_eq_true c37
                              clear c37
                              (first | rw [c37b0] | (simp only [i64_w, i32_w]; rw [c37b0]) | skip)
                              have H' := Aside0.mk H
                              clear H
                              go_wp2
                              go_meet
                              case rel => exact ⟨_, (true), (by first | rfl | (simp; done) | (simp [*]; done)), H', ⟨by have := HJ3.out; have := HJ19.out; have := HK3.out; have := HJ30.out; first | omega | exact Nat.le_refl _⟩, ⟨by (with_reducible repeat (first | refine blk_drewN ?_ _ | refine blk_drew ?_ | refine blk_alloc ?_ _)); exact BK231.out⟩, ⟨by (with_reducible repeat (first | refine blk_drewN ?_ _ | refine blk_drew ?_ | refine blk_alloc ?_ _)); exact BK232.out⟩, ⟨by repeat (first | (with_reducible first | exact HB.out | apply below_alloc | apply pw_below_drewN | apply below_drew1 | refine below_set ?_ GE231.out | refine below_set ?_ GE232.out) | exact HB.out)⟩⟩
                            · rw [if_neg c37] at H
                              have c37b0 : decide (x1_3 < 0) = false := decide_eq_false c37
                              clear c37
                              (first | rw [c37b0] | (simp only [i64_w, i32_w]; rw [c37b0]) | skip)
                              by_cases c38 : x1_3 ≥ (a0.size : Int)
                              · rw [if_pos c38] at H
                                have c38b0 : decide ((a0.size : Int) ≤ x1_3) = true := decide_eq_true c38
                                clear c38
                                have H' := Aside0.mk H
                                clear H
                                go_wp2
                                go_meet
                                case rel => exact ⟨_, (true), (by first | rfl | (simp; done) | (simp [*]; done)), H', ⟨by have := HJ3.out; have := HJ19.out; have := HK3.out; have := HJ30.out; first | omega | exact Nat.le_refl _⟩, ⟨by (with_reducible repeat (first | refine blk_drewN ?_ _ | refine blk_drew ?_ | refine blk_alloc ?_ _)); exact BK231.out⟩, ⟨by (with_reducible repeat (first | refine blk_drewN ?_ _ | refine blk_drew ?_ | refine blk_alloc ?_ _)); exact BK232.out⟩, ⟨by repeat (first | (with_reducible first | exact HB.out | apply below_alloc | apply pw_below_drewN | apply below_drew1 | refine below_set ?_ GE231.out | refine below_set ?_ GE232.out) | exact HB.out)⟩⟩
                              · rw [if_neg c38] at H
                                have c38b0 : decide ((a0.size : Int) ≤ x1_3) = false := decide_eq_false c38
                                clear c38
                                by_cases c39 : 0 ≤ x1_3
                                · rw [if_pos c39] at H
                                  have c39b0 : decide (0 ≤ x1_3) = true := decide_eq_true c39
                                  clear c39
                                  by_cases c40 : x1_3 < (a0.size : Int)
                                  · rw [if_pos c40] at H
                                    have c40b0 : decide (x1_3 < (a0.size : Int)) = true := decide_eq_true c40
                                    clear c40
                                    have H' := Aside0.mk H
                                    clear H
                                    have p41 : 0 ≤ (x1_3 : Int) := of_decide_eq_true (by first | (with_reducible assumption) | assumption)
                                    have q41 : x1_3 < (a0.size : Int) := of_decide_eq_true (by first | (with_reducible assumption) | assumption)
                                    have hx41 := bt_at a0 x1_3
                                    replace p41 := eq_true p41
                                    replace q41 := eq_true q41
                                    go_wp2
                                    go_meet
                                    case rel => exact ⟨_, (((bt a0 x1_3) != 46)), (by first | rfl | (simp; done) | (simp [*]; done)), H', ⟨by have := HJ3.out; have := HJ19.out; have := HK3.out; have := HJ30.out; first | omega | exact Nat.le_refl _⟩, ⟨by (with_reducible repeat (first | refine blk_drewN ?_ _ | refine blk_drew ?_ | refine blk_alloc ?_ _)); exact BK231.out⟩, ⟨by (with_reducible repeat (first | refine blk_drewN ?_ _ | refine blk_drew ?_ | refine blk_alloc ?_ _)); exact BK232.out⟩, ⟨by repeat (first | (with_reducible first | exact HB.out | apply below_alloc | apply pw_below_drewN | apply below_drew1 | refine below_set ?_ GE231.out | refine below_set ?_ GE232.out) | exact HB.out)⟩⟩
                                  · rw [if_neg c40] at H
                                    exact absurd H (by simp)
                                · rw [if_neg c39] at H
                                  exact absurd H (by simp)
                          case rest => as_aux_lemma =>
                            clear HC36
                            try clear c1
                            try clear p1
                            try clear q1
                            try clear hx1
                            try clear c2
                            try clear p2
                            try clear q2
                            try clear hx2
                            try clear c3
                            try clear c4
                            try clear p4
                            try clear q4
                            try clear hx4
                            try clear c5
                            try clear p6
                            try clear c7
                            try clear c9
                            try clear c9b0
                            try clear c10
                            try clear c10b0
                            try clear c11
                            try clear c11b0
                            try clear p12
                            try clear q12
                            try clear hx12
                            try clear c13
                            try clear c14
                            try clear c17
                            try clear c17b0
                            try clear c18
                            try clear c18b0
                            try clear p19
                            try clear q19
                            try clear hx19
                            try clear c21
                            try clear c21b0
                            try clear c21b1
                            try clear c22
                            try clear p24
                            try clear q24
                            try clear hx24
                            try clear c25
                            try clear c25b0
                            try clear c25b1
                            try clear c26
                            try clear c29
                            try clear c32
                            try clear c32b0
                            try clear c33
                            try clear c35
                            try clear c37
                            try clear c37b0
                            try clear c38
                            try clear c38b0
                            try clear c39
                            try clear c39b0
                            try clear c40
                            try clear c40b0
                            try clear p41
                            try clear q41
                            try clear hx41
                            try clear hcz15_0
                            try clear hcz15_1
                            try clear hcz15_2
                            try clear hcz15_3
                            try clear hcz15_4
                            try clear hcz23_0
                            try clear hcz23_1
                            try clear hcz23_2
                            try clear hcz23_3
                            try clear hcz23_4
                            try clear hcz27_0
                            try clear hcz27_1
                            try clear hcz27_2
                            try clear hcz27_3
                            try clear hcz27_4
                            try clear hcz30_0
                            try clear hcz30_1
                            try clear hcz30_2
                            try clear hcz30_3
                            try clear hcz30_4
                            try clear hcz34_0
                            try clear hcz34_1
                            try clear hcz34_2
                            try clear hcz34_3
                            try clear hcz34_4
                            try clear hcz8_0
                            try clear hcz8_1
                            try clear hcz8_2
                            try clear hcz8_3
                            try clear hcz8_4
                            try clear hfz15_0
                            try clear hfz15_1
                            try clear hfz15_2
                            try clear hfz15_3
                            try clear hfz15_4
                            try clear hfz23_0
                            try clear hfz23_1
                            try clear hfz23_2
                            try clear hfz23_3
                            try clear hfz23_4
                            try clear hfz27_0
                            try clear hfz27_1
                            try clear hfz27_2
                            try clear hfz27_3
                            try clear hfz27_4
                            try clear hfz30_0
                            try clear hfz30_1
                            try clear hfz30_2
                            try clear hfz30_3
                            try clear hfz30_4
                            try clear hfz34_0
                            try clear hfz34_1
                            try clear hfz34_2
                            try clear hfz34_3
                            try clear hfz34_4
                            try clear hfz8_0
                            try clear hfz8_1
                            try clear hfz8_2
                            try clear hfz8_3
                            try clear hfz8_4
                            try clear p1
                            try clear p12
                            try clear p19
                            try clear p2
                            try clear p24
                            try clear p41
                            try clear p6
                            try clear q1
                            try clear q12
                            try clear q19
                            try clear q2
                            try clear q24
                            try clear q41
                            obtain ⟨kq, x70_35, rfl, HA, HJ35, BK231, BK232, HB⟩ := hcut
                            cases kq with
                            | zero => exact absurd HA.out (by simp [longcaseref08_when.j4])
                            | succ kj35 =>
                              have H := HA.out
                              clear HA
                              simp only [longcaseref08_when.j4] at H
                              by_cases c42 : x70_35 = true
                              · subst c42
                                have H1 : (some (x233000_19, t233, x233002_3, x233003_3, 7200, (-1))) = some (r1, r2, r3, r4, r5, r6) := by rw [if_pos rfl] at H; exact H
                                clear H
                                have H := H1
                                clear H1
                                simp only [Option.some.injEq, Prod.mk.injEq] at H
                                obtain ⟨rfl, rfl, rfl, rfl, rfl, rfl⟩ := H
                                have hnb43 := NB231_232.out
                                have hnc43 := NB232_231.out
                                have hcz44_0 : wc.cell? ⟨gb231, 0, none⟩ = some (.int .i64 x232000_3) := (blk_cell BK231.out 0).trans rfl
                                have hcz44_1 : wc.cell? ⟨gb231, 1, none⟩ = some (.int .i64 x232001_3) := (blk_cell BK231.out 1).trans rfl
                                have hcz44_2 : wc.cell? ⟨gb231, 2, none⟩ = some (.int .i64 x232002_3) := (blk_cell BK231.out 2).trans rfl
                                have hcz44_3 : wc.cell? ⟨gb231, 3, none⟩ = some (.int .i64 x232003_3) := (blk_cell BK231.out 3).trans rfl
                                have hcz44_4 : wc.cell? ⟨gb231, 4, none⟩ = some (.int .i64 x232004_3) := (blk_cell BK231.out 4).trans rfl
                                have hfz44_0 := blk_frozen BK231.out 0
                                have hfz44_1 := blk_frozen BK231.out 1
                                have hfz44_2 := blk_frozen BK231.out 2
                                have hfz44_3 := blk_frozen BK231.out 3
                                have hfz44_4 := blk_frozen BK231.out 4
                                go_wp2_with (first | ((with_reducible refine gate_dst (N := 71) rfl ?_); (try (refine gate_guard (by rfl) ?_; dsimp only)); refine wpList_load_row rfl 25 _ rfl (gb232) rfl 25 #[.int .i64 x233000_19, .int .i64 t233, .int .i64 x233002_3, .int .i64 x233003_3, .int .i64 7200] (0, 0) _ (by (with_reducible repeat (first | refine blk_drewN ?_ _ | refine blk_drew ?_ | refine blk_alloc ?_ _)); exact BK232.out) Tryd.underlying25 rfl (by kernel_rfl) ?_))
                                refine bodyPost_ret (results_ct rfl _ _ gb231 25 #[.int .i64 x233000_19, .int .i64 t233, .int .i64 x233002_3, .int .i64 x233003_3, .int .i64 7200] (0, 0) _ rfl (by (with_reducible repeat (first | refine blk_drewN ?_ _ | refine blk_drew ?_ | refine blk_alloc ?_ _)); refine blk_put (cs := #[.int .i64 x233000_19, .int .i64 t233, .int .i64 x233002_3, .int .i64 x233003_3, .int .i64 x232004_3]) ?_ 4 _ rfl; (with_reducible repeat (first | refine blk_drewN ?_ _ | refine blk_drew ?_ | refine blk_alloc ?_ _)); refine blk_put (cs := #[.int .i64 x233000_19, .int .i64 t233, .int .i64 x233002_3, .int .i64 x232003_3, .int .i64 x232004_3]) ?_ 3 _ rfl; (with_reducible repeat (first | refine blk_drewN ?_ _ | refine blk_drew ?_ | refine blk_alloc ?_ _)); refine blk_put (cs := #[.int .i64 x233000_19, .int .i64 t233, .int .i64 x232002_3, .int .i64 x232003_3, .int .i64 x232004_3]) ?_ 2 _ rfl; (with_reducible repeat (first | refine blk_drewN ?_ _ | refine blk_drew ?_ | refine blk_alloc ?_ _)); refine blk_put (cs := #[.int .i64 x233000_19, .int .i64 x232001_3, .int .i64 x232002_3, .int .i64 x232003_3, .int .i64 x232004_3]) ?_ 1 _ rfl; (with_reducible repeat (first | refine blk_drewN ?_ _ | refine blk_drew ?_ | refine blk_alloc ?_ _)); refine blk_put (cs := #[.int .i64 x232000_3, .int .i64 x232001_3, .int .i64 x232002_3, .int .i64 x232003_3, .int .i64 x232004_3]) ?_ 0 _ rfl; (with_reducible repeat (first | refine blk_drewN ?_ _ | refine blk_drew ?_ | refine blk_alloc ?_ _)); exact BK231.out) Tryd.underlying25 rfl (by kernel_rfl)) rfl ?_
                                exact ⟨by first | rfl | (simp [errW_none, errW_some] <;> rfl) | (simp only [← hji16]; first | rfl | (simp [errW_none, errW_some] <;> rfl)) | (simp [*, errW_none, errW_some] <;> rfl), by repeat (first | (with_reducible first | exact HB.out | apply below_alloc | apply pw_below_drewN | apply below_drew1 | refine below_set ?_ GE231.out | refine below_set ?_ GE232.out) | exact HB.out)⟩
                              · replace c42 := Bool.eq_false_iff.mpr c42
                                subst c42
                                have H1 : ((longcaseref08_digits.f kj35 a0 (wrap64 (x1_3 + 1)) 3).bind fun bt235 => (if x9_3 = 0 then (longcaseref08_when.l0 kj35 a0 bt235.2 a2 (wrap64 (x9_3 + 1)) x233000_19 t233 bt235.1 x233003_3 7200) else (longcaseref08_when.l0 kj35 a0 bt235.2 a2 (wrap64 (x9_3 + 1)) x233000_19 t233 x233002_3 bt235.1 7200))) = some (r1, r2, r3, r4, r5, r6) := by rw [if_neg (show ¬ (false = true) by decide)] at H; exact H
                                clear H
                                have H := H1
                                clear H1
                                replace H := Option.bind_eq_some_iff.mp H
                                obtain ⟨⟨t235, t236⟩, A450, H⟩ := H
                                replace H : (if x9_3 = 0 then (longcaseref08_when.l0 kj35 a0 t236 a2 (wrap64 (x9_3 + 1)) x233000_19 t233 t235 x233003_3 7200) else (longcaseref08_when.l0 kj35 a0 t236 a2 (wrap64 (x9_3 + 1)) x233000_19 t233 x233002_3 t235 7200)) = some (r1, r2, r3, r4, r5, r6) := H
                                have A45 := Aside0.mk A450
                                clear A450
                                by_cases c46 : x9_3 = 0
                                · rw [if_pos c46] at H
                                  have c46b0 : (x9_3 == 0) = true := beq_iff_eq.mpr c46
                                  have c46b1 : (x9_3 != 0) = false := bne_eq_false_iff_eq.mpr c46
                                  clear c46
                                  have H' := Aside0.mk H
                                  clear H
                                  go_wp2_with (first | ((with_reducible refine gate_callee (f := 57) rfl ?_); refine goesL_ (some 76) rfl rfl Tryd.func57 (by kernel_rfl) rfl #[.string a0, .int .i64 (wrap64 (x1_3 + 1)), .int .i64 3] rfl (by (try simp only [List.map_toArray, List.map_cons, List.map_nil]); first | done | rfl | (simp only [List.length_drop, List.length_take]; rfl)) ?_; (with_reducible refine (longcaseref08_digits.calls kj35 a0 (wrap64 (x1_3 + 1)) 3 t235 t236 _ A45.out).mono ?_); rintro e w' ⟨rfl, ⟨nd, rfl⟩⟩; refine ⟨_, rfl, ?_⟩; (try (rw [drewN_self wc]; generalize hq_ : World.drewN wc _ = wc; have n0_ : Aside0 (wc.heap[gb231]? = some (.cells #[.int .i64 x232000_3, .int .i64 x232001_3, .int .i64 x232002_3, .int .i64 x232003_3, .int .i64 x232004_3] 25 (0, 0))) := ⟨by rw [← hq_]; exact (by (with_reducible repeat (first | refine blk_drewN ?_ _ | refine blk_drew ?_ | refine blk_alloc ?_ _)); exact BK231.out)⟩; have n1_ : Aside0 (wc.heap[gb232]? = some (.cells #[.int .i64 x233000_19, .int .i64 t233, .int .i64 x233002_3, .int .i64 x233003_3, .int .i64 7200] 25 (0, 0))) := ⟨by rw [← hq_]; exact (by (with_reducible repeat (first | refine blk_drewN ?_ _ | refine blk_drew ?_ | refine blk_alloc ?_ _)); exact BK232.out)⟩; have n2_ : Aside0 (Below w.heap.size w wc) := ⟨by rw [← hq_]; exact (by repeat (first | (with_reducible first | exact HB.out | apply below_alloc | apply pw_below_drewN | apply below_drew1 | refine below_set ?_ GE231.out | refine below_set ?_ GE232.out) | exact HB.out))⟩; clear BK231 BK232 HB hq_; have BK231 := n0_; have BK232 := n1_; have HB := n2_; clear n0_ n1_ n2_)); have hnb47 := NB232_231.out; have hnc47 := NB231_232.out; have hcz48_0 : wc.cell? ⟨gb232, 0, none⟩ = some (.int .i64 x233000_19) := (blk_cell BK232.out 0).trans rfl; have hcz48_1 : wc.cell? ⟨gb232, 1, none⟩ = some (.int .i64 t233) := (blk_cell BK232.out 1).trans rfl; have hcz48_2 : wc.cell? ⟨gb232, 2, none⟩ = some (.int .i64 x233002_3) := (blk_cell BK232.out 2).trans rfl; have hcz48_3 : wc.cell? ⟨gb232, 3, none⟩ = some (.int .i64 x233003_3) := (blk_cell BK232.out 3).trans rfl; have hcz48_4 : wc.cell? ⟨gb232, 4, none⟩ = some (.int .i64 7200) := (blk_cell BK232.out 4).trans rfl; have hfz48_0 := blk_frozen BK232.out 0; have hfz48_1 := blk_frozen BK232.out 1; have hfz48_2 := blk_frozen BK232.out 2; have hfz48_3 := blk_frozen BK232.out 3; have hfz48_4 := blk_frozen BK232.out 4))
                                  go_roundg kj35
                                  case measure => have := HJ3.out; have := HJ19.out; have := HK3.out; have := HJ30.out; have := HJ35.out; omega
                                  case rel => exact ⟨(t236), (wrap64 (x9_3 + 1)), (x232000_3), (x232001_3), (x232002_3), (x232003_3), (x232004_3), (t235), (x233003_3), (by first | rfl | (simp; done) | (simp [*]; done)), (by first | rfl | (simp; done) | (simp [*]; done)), H', ⟨by have := HJ3.out; have := HJ19.out; have := HK3.out; have := HJ30.out; have := HJ35.out; omega⟩, ⟨by (with_reducible repeat (first | refine blk_drewN ?_ _ | refine blk_drew ?_ | refine blk_alloc ?_ _)); refine blk_far ?_ NB231_232.out _; (with_reducible repeat (first | refine blk_drewN ?_ _ | refine blk_drew ?_ | refine blk_alloc ?_ _)); exact BK231.out⟩, ⟨by (with_reducible repeat (first | refine blk_drewN ?_ _ | refine blk_drew ?_ | refine blk_alloc ?_ _)); refine blk_put (cs := #[.int .i64 x233000_19, .int .i64 t233, .int .i64 x233002_3, .int .i64 x233003_3, .int .i64 7200]) ?_ 2 _ rfl; (with_reducible repeat (first | refine blk_drewN ?_ _ | refine blk_drew ?_ | refine blk_alloc ?_ _)); exact BK232.out⟩, ⟨by repeat (first | (with_reducible first | exact HB.out | apply below_alloc | apply pw_below_drewN | apply below_drew1 | refine below_set ?_ GE231.out | refine below_set ?_ GE232.out) | exact HB.out)⟩⟩
                                · rw [if_neg c46] at H
                                  have c46b0 : (x9_3 == 0) = false := beq_eq_false_iff_ne.mpr c46
                                  have c46b1 : (x9_3 != 0) = true := bne_iff_ne.mpr c46
                                  have H' := Aside0.mk H
                                  clear H
                                  go_wp2_with (first | ((with_reducible refine gate_callee (f := 57) rfl ?_); refine goesL_ (some 76) rfl rfl Tryd.func57 (by kernel_rfl) rfl #[.string a0, .int .i64 (wrap64 (x1_3 + 1)), .int .i64 3] rfl (by (try simp only [List.map_toArray, List.map_cons, List.map_nil]); first | done | rfl | (simp only [List.length_drop, List.length_take]; rfl)) ?_; (with_reducible refine (longcaseref08_digits.calls kj35 a0 (wrap64 (x1_3 + 1)) 3 t235 t236 _ A45.out).mono ?_); rintro e w' ⟨rfl, ⟨nd, rfl⟩⟩; refine ⟨_, rfl, ?_⟩; (try (rw [drewN_self wc]; generalize hq_ : World.drewN wc _ = wc; have n0_ : Aside0 (wc.heap[gb231]? = some (.cells #[.int .i64 x232000_3, .int .i64 x232001_3, .int .i64 x232002_3, .int .i64 x232003_3, .int .i64 x232004_3] 25 (0, 0))) := ⟨by rw [← hq_]; exact (by (with_reducible repeat (first | refine blk_drewN ?_ _ | refine blk_drew ?_ | refine blk_alloc ?_ _)); exact BK231.out)⟩; have n1_ : Aside0 (wc.heap[gb232]? = some (.cells #[.int .i64 x233000_19, .int .i64 t233, .int .i64 x233002_3, .int .i64 x233003_3, .int .i64 7200] 25 (0, 0))) := ⟨by rw [← hq_]; exact (by (with_reducible repeat (first | refine blk_drewN ?_ _ | refine blk_drew ?_ | refine blk_alloc ?_ _)); exact BK232.out)⟩; have n2_ : Aside0 (Below w.heap.size w wc) := ⟨by rw [← hq_]; exact (by repeat (first | (with_reducible first | exact HB.out | apply below_alloc | apply pw_below_drewN | apply below_drew1 | refine below_set ?_ GE231.out | refine below_set ?_ GE232.out) | exact HB.out))⟩; clear BK231 BK232 HB hq_; have BK231 := n0_; have BK232 := n1_; have HB := n2_; clear n0_ n1_ n2_)); have hnb49 := NB232_231.out; have hnc49 := NB231_232.out; have hcz50_0 : wc.cell? ⟨gb232, 0, none⟩ = some (.int .i64 x233000_19) := (blk_cell BK232.out 0).trans rfl; have hcz50_1 : wc.cell? ⟨gb232, 1, none⟩ = some (.int .i64 t233) := (blk_cell BK232.out 1).trans rfl; have hcz50_2 : wc.cell? ⟨gb232, 2, none⟩ = some (.int .i64 x233002_3) := (blk_cell BK232.out 2).trans rfl; have hcz50_3 : wc.cell? ⟨gb232, 3, none⟩ = some (.int .i64 x233003_3) := (blk_cell BK232.out 3).trans rfl; have hcz50_4 : wc.cell? ⟨gb232, 4, none⟩ = some (.int .i64 7200) := (blk_cell BK232.out 4).trans rfl; have hfz50_0 := blk_frozen BK232.out 0; have hfz50_1 := blk_frozen BK232.out 1; have hfz50_2 := blk_frozen BK232.out 2; have hfz50_3 := blk_frozen BK232.out 3; have hfz50_4 := blk_frozen BK232.out 4))
                                  go_roundg kj35
                                  case measure => have := HJ3.out; have := HJ19.out; have := HK3.out; have := HJ30.out; have := HJ35.out; omega
                                  case rel => exact ⟨(t236), (wrap64 (x9_3 + 1)), (x232000_3), (x232001_3), (x232002_3), (x232003_3), (x232004_3), (x233002_3), (t235), (by first | rfl | (simp; done) | (simp [*]; done)), (by first | rfl | (simp; done) | (simp [*]; done)), H', ⟨by have := HJ3.out; have := HJ19.out; have := HK3.out; have := HJ30.out; have := HJ35.out; omega⟩, ⟨by (with_reducible repeat (first | refine blk_drewN ?_ _ | refine blk_drew ?_ | refine blk_alloc ?_ _)); refine blk_far ?_ NB231_232.out _; (with_reducible repeat (first | refine blk_drewN ?_ _ | refine blk_drew ?_ | refine blk_alloc ?_ _)); exact BK231.out⟩, ⟨by (with_reducible repeat (first | refine blk_drewN ?_ _ | refine blk_drew ?_ | refine blk_alloc ?_ _)); refine blk_put (cs := #[.int .i64 x233000_19, .int .i64 t233, .int .i64 x233002_3, .int .i64 x233003_3, .int .i64 7200]) ?_ 3 _ rfl; (with_reducible repeat (first | refine blk_drewN ?_ _ | refine blk_drew ?_ | refine blk_alloc ?_ _)); exact BK232.out⟩, ⟨by repeat (first | (with_reducible first | exact HB.out | apply below_alloc | apply pw_below_drewN | apply below_drew1 | refine below_set ?_ GE231.out | refine below_set ?_ GE232.out) | exact HB.out)⟩⟩
                        · replace c35 := Bool.eq_false_iff.mpr c35
                          subst c35
                          have H1 : (if x1_3 ≥ 0 then (if x1_3 < (a0.size : Int) then (if 0 ≤ x1_3 then (longcaseref08_when.j5 kj30 a0 x1_3 a2 ((bt a0 x1_3) == 47) x233000_19 t233 x233002_3 x233003_3 7200) else (none)) else (longcaseref08_when.j5 kj30 a0 x1_3 a2 false x233000_19 t233 x233002_3 x233003_3 7200)) else (longcaseref08_when.j5 kj30 a0 x1_3 a2 false x233000_19 t233 x233002_3 x233003_3 7200)) = some (r1, r2, r3, r4, r5, r6) := by rw [if_neg (show ¬ (false = true) by decide)] at H; exact H
                          clear H
                          have H := H1
                          clear H1
                          have HC51 := Aside0.mk H
                          clear H
                          go_upto_region 22 with (fail)
                          go_cut [99] (fun v99 wc => ∃ (kq : Nat) (x99_50 : Bool), v99 = .bool x99_50 ∧ Aside0 (longcaseref08_when.j5 kq a0 x1_3 a2 x99_50 x233000_19 t233 x233002_3 x233003_3 7200 = some (r1, r2, r3, r4, r5, r6)) ∧ Aside0 (kq ≤ kj30) ∧ Aside0 (wc.heap[gb231]? = some (.cells #[.int .i64 x232000_3, .int .i64 x232001_3, .int .i64 x232002_3, .int .i64 x232003_3, .int .i64 x232004_3] 25 (0, 0))) ∧ Aside0 (wc.heap[gb232]? = some (.cells #[.int .i64 x233000_19, .int .i64 t233, .int .i64 x233002_3, .int .i64 x233003_3, .int .i64 7200] 25 (0, 0))) ∧ Aside0 (Below w.heap.size w wc))
                          case first => as_aux_lemma =>
                            have H := HC51.out
                            clear HC51
                            by_cases c52 : x1_3 ≥ 0
                            · rw [if_pos c52] at H
                              have c52b0 : decide (0 ≤ x1_3) = true := decide_eq_true c52
                              clear c52
                              (first | rw [c52b0] | (simp only [i64_w, i32_w]; rw [c52b0]) | skip)
                              by_cases c53 : x1_3 < (a0.size : Int)
                              · rw [if_pos c53] at H
                                have c53b0 : decide (x1_3 < (a0.size : Int)) = true := decide_eq_true c53
                                clear c53
                                by_cases c54 : 0 ≤ x1_3
                                · rw [if_pos c54] at H
                                  have c54b0 : decide (0 ≤ x1_3) = true := decide_eq_true c54
                                  clear c54
                                  have H' := Aside0.mk H
                                  clear H
                                  have p55 : 0 ≤ (x1_3 : Int) := of_decide_eq_true (by first | (with_reducible assumption) | assumption)
                                  have q55 : x1_3 < (a0.size : Int) := of_decide_eq_true (by first | (with_reducible assumption) | assumption)
                                  have hx55 := bt_at a0 x1_3
                                  replace p55 := eq_true p55
                                  replace q55 := eq_true q55
                                  go_wp2
                                  go_meet
                                  case rel => exact ⟨_, (((bt a0 x1_3) == 47)), (by first | rfl | (simp; done) | (simp [*]; done)), H', ⟨by have := HJ3.out; have := HJ19.out; have := HK3.out; have := HJ30.out; first | omega | exact Nat.le_refl _⟩, ⟨by (with_reducible repeat (first | refine blk_drewN ?_ _ | refine blk_drew ?_ | refine blk_alloc ?_ _)); exact BK231.out⟩, ⟨by (with_reducible repeat (first | refine blk_drewN ?_ _ | refine blk_drew ?_ | refine blk_alloc ?_ _)); exact BK232.out⟩, ⟨by repeat (first | (with_reducible first | exact HB.out | apply below_alloc | apply pw_below_drewN | apply below_drew1 | refine below_set ?_ GE231.out | refine below_set ?_ GE232.out) | exact HB.out)⟩⟩
                                · rw [if_neg c54] at H
                                  exact absurd H (by simp)
                              · rw [if_neg c53] at H
                                have c53b0 : decide (x1_3 < (a0.size : Int)) = false := decide_eq_false c53
                                clear c53
                                have H' := Aside0.mk H
                                clear H
                                go_wp2
                                go_meet
                                case rel => exact ⟨_, (false), (by first | rfl | (simp; done) | (simp [*]; done)), H', ⟨by have := HJ3.out; have := HJ19.out; have := HK3.out; have := HJ30.out; first | omega | exact Nat.le_refl _⟩, ⟨by (with_reducible repeat (first | refine blk_drewN ?_ _ | refine blk_drew ?_ | refine blk_alloc ?_ _)); exact BK231.out⟩, ⟨by (with_reducible repeat (first | refine blk_drewN ?_ _ | refine blk_drew ?_ | refine blk_alloc ?_ _)); exact BK232.out⟩, ⟨by repeat (first | (with_reducible first | exact HB.out | apply below_alloc | apply pw_below_drewN | apply below_drew1 | refine below_set ?_ GE231.out | refine below_set ?_ GE232.out) | exact HB.out)⟩⟩
                            · rw [if_neg c52] at H
                              have c52b0 : decide (0 ≤ x1_3) = false := decide_eq_false c52
                              clear c52
                              (first | rw [c52b0] | (simp only [i64_w, i32_w]; rw [c52b0]) | skip)
                              have H' := Aside0.mk H
                              clear H
                              go_wp2
                              go_meet
                              case rel => exact ⟨_, (false), (by first | rfl | (simp; done) | (simp [*]; done)), H', ⟨by have := HJ3.out; have := HJ19.out; have := HK3.out; have := HJ30.out; first | omega | exact Nat.le_refl _⟩, ⟨by (with_reducible repeat (first | refine blk_drewN ?_ _ | refine blk_drew ?_ | refine blk_alloc ?_ _)); exact BK231.out⟩, ⟨by (with_reducible repeat (first | refine blk_drewN ?_ _ | refine blk_drew ?_ | refine blk_alloc ?_ _)); exact BK232.out⟩, ⟨by repeat (first | (with_reducible first | exact HB.out | apply below_alloc | apply pw_below_drewN | apply below_drew1 | refine below_set ?_ GE231.out | refine below_set ?_ GE232.out) | exact HB.out)⟩⟩
                          case rest => as_aux_lemma =>
                            clear HC51
                            try clear c1
                            try clear p1
                            try clear q1
                            try clear hx1
                            try clear c2
                            try clear p2
                            try clear q2
                            try clear hx2
                            try clear c3
                            try clear c4
                            try clear p4
                            try clear q4
                            try clear hx4
                            try clear c5
                            try clear p5
                            try clear q5
                            try clear hx5
                            try clear p6
                            try clear c7
                            try clear c9
                            try clear c9b0
                            try clear c10
                            try clear c10b0
                            try clear c11
                            try clear c11b0
                            try clear p12
                            try clear q12
                            try clear hx12
                            try clear c13
                            try clear c14
                            try clear c17
                            try clear c17b0
                            try clear c18
                            try clear c18b0
                            try clear p19
                            try clear q19
                            try clear hx19
                            try clear c21
                            try clear c21b0
                            try clear c21b1
                            try clear c22
                            try clear p24
                            try clear q24
                            try clear hx24
                            try clear c25
                            try clear c25b0
                            try clear c25b1
                            try clear c26
                            try clear c29
                            try clear c32
                            try clear c32b0
                            try clear c33
                            try clear c35
                            try clear c37
                            try clear c37b0
                            try clear c38
                            try clear c38b0
                            try clear c39
                            try clear c39b0
                            try clear c40
                            try clear c40b0
                            try clear p41
                            try clear q41
                            try clear hx41
                            try clear c42
                            try clear c43
                            try clear c46
                            try clear c46b0
                            try clear c46b1
                            try clear c47
                            try clear c49
                            try clear c52
                            try clear c52b0
                            try clear c53
                            try clear c53b0
                            try clear c54
                            try clear c54b0
                            try clear p55
                            try clear q55
                            try clear hx55
                            try clear hcz15_0
                            try clear hcz15_1
                            try clear hcz15_2
                            try clear hcz15_3
                            try clear hcz15_4
                            try clear hcz23_0
                            try clear hcz23_1
                            try clear hcz23_2
                            try clear hcz23_3
                            try clear hcz23_4
                            try clear hcz27_0
                            try clear hcz27_1
                            try clear hcz27_2
                            try clear hcz27_3
                            try clear hcz27_4
                            try clear hcz30_0
                            try clear hcz30_1
                            try clear hcz30_2
                            try clear hcz30_3
                            try clear hcz30_4
                            try clear hcz34_0
                            try clear hcz34_1
                            try clear hcz34_2
                            try clear hcz34_3
                            try clear hcz34_4
                            try clear hcz44_0
                            try clear hcz44_1
                            try clear hcz44_2
                            try clear hcz44_3
                            try clear hcz44_4
                            try clear hcz48_0
                            try clear hcz48_1
                            try clear hcz48_2
                            try clear hcz48_3
                            try clear hcz48_4
                            try clear hcz50_0
                            try clear hcz50_1
                            try clear hcz50_2
                            try clear hcz50_3
                            try clear hcz50_4
                            try clear hcz8_0
                            try clear hcz8_1
                            try clear hcz8_2
                            try clear hcz8_3
                            try clear hcz8_4
                            try clear hfz15_0
                            try clear hfz15_1
                            try clear hfz15_2
                            try clear hfz15_3
                            try clear hfz15_4
                            try clear hfz23_0
                            try clear hfz23_1
                            try clear hfz23_2
                            try clear hfz23_3
                            try clear hfz23_4
                            try clear hfz27_0
                            try clear hfz27_1
                            try clear hfz27_2
                            try clear hfz27_3
                            try clear hfz27_4
                            try clear hfz30_0
                            try clear hfz30_1
                            try clear hfz30_2
                            try clear hfz30_3
                            try clear hfz30_4
                            try clear hfz34_0
                            try clear hfz34_1
                            try clear hfz34_2
                            try clear hfz34_3
                            try clear hfz34_4
                            try clear hfz44_0
                            try clear hfz44_1
                            try clear hfz44_2
                            try clear hfz44_3
                            try clear hfz44_4
                            try clear hfz48_0
                            try clear hfz48_1
                            try clear hfz48_2
                            try clear hfz48_3
                            try clear hfz48_4
                            try clear hfz50_0
                            try clear hfz50_1
                            try clear hfz50_2
                            try clear hfz50_3
                            try clear hfz50_4
                            try clear hfz8_0
                            try clear hfz8_1
                            try clear hfz8_2
                            try clear hfz8_3
                            try clear hfz8_4
                            try clear p1
                            try clear p12
                            try clear p19
                            try clear p2
                            try clear p24
                            try clear p4
                            try clear p41
                            try clear p55
                            try clear p6
                            try clear q1
                            try clear q12
                            try clear q19
                            try clear q2
                            try clear q24
                            try clear q4
                            try clear q41
                            try clear q55
                            obtain ⟨kq, x99_50, rfl, HA, HJ50, BK231, BK232, HB⟩ := hcut
                            cases kq with
                            | zero => exact absurd HA.out (by simp [longcaseref08_when.j5])
                            | succ kj50 =>
                              have H := HA.out
                              clear HA
                              simp only [longcaseref08_when.j5] at H
                              by_cases c56 : x99_50 = true
                              · subst c56
                                have H1 : ((longcaseref08_time.f kj50 a0 (wrap64 (x1_3 + 1)) a2 a2).bind fun bt237 => (if bt237.2 < 0 then (some (x233000_19, t233, x233002_3, x233003_3, bt237.1, (-1))) else ((longcaseref08_Change.f kj50 x233000_19 t233 x233002_3 x233003_3 bt237.1 a2).bind fun t239 => (if t239 = true then (some (x233000_19, t233, x233002_3, x233003_3, bt237.1, bt237.2)) else (some (x233000_19, t233, x233002_3, x233003_3, bt237.1, (-1))))))) = some (r1, r2, r3, r4, r5, r6) := by rw [if_pos rfl] at H; exact H
                                clear H
                                have H := H1
                                clear H1
                                replace H := Option.bind_eq_some_iff.mp H
                                obtain ⟨⟨t237, t238⟩, A570, H⟩ := H
                                replace H : (if t238 < 0 then (some (x233000_19, t233, x233002_3, x233003_3, t237, (-1))) else ((longcaseref08_Change.f kj50 x233000_19 t233 x233002_3 x233003_3 t237 a2).bind fun t239 => (if t239 = true then (some (x233000_19, t233, x233002_3, x233003_3, t237, t238)) else (some (x233000_19, t233, x233002_3, x233003_3, t237, (-1)))))) = some (r1, r2, r3, r4, r5, r6) := H
                                have A57 := Aside0.mk A570
                                clear A570
                                by_cases c58 : t238 < 0
                                · rw [if_pos c58] at H
                                  have c58b0 : decide (t238 < 0) = true := decide_eq_true c58
                                  clear c58
                                  simp only [Option.some.injEq, Prod.mk.injEq] at H
                                  obtain ⟨rfl, rfl, rfl, rfl, rfl, rfl⟩ := H
                                  go_wp2_with (first | ((with_reducible refine gate_callee (f := 38) rfl ?_); refine goesL_ (some 106) rfl rfl Tryd.func38 (by kernel_rfl) rfl #[.string a0, .int .i64 (wrap64 (x1_3 + 1)), .bool a2, .bool a2] rfl (by (try simp only [List.map_toArray, List.map_cons, List.map_nil]); first | done | rfl | (simp only [List.length_drop, List.length_take]; rfl)) ?_; (with_reducible refine (longcaseref08_time.calls kj50 a0 (wrap64 (x1_3 + 1)) a2 a2 t237 t238 _ A57.out).mono ?_); rintro e w' ⟨rfl, ⟨nd, rfl⟩⟩; refine ⟨_, rfl, ?_⟩; (try (rw [drewN_self wc]; generalize hq_ : World.drewN wc _ = wc; have n0_ : Aside0 (wc.heap[gb231]? = some (.cells #[.int .i64 x232000_3, .int .i64 x232001_3, .int .i64 x232002_3, .int .i64 x232003_3, .int .i64 x232004_3] 25 (0, 0))) := ⟨by rw [← hq_]; exact (by (with_reducible repeat (first | refine blk_drewN ?_ _ | refine blk_drew ?_ | refine blk_alloc ?_ _)); exact BK231.out)⟩; have n1_ : Aside0 (wc.heap[gb232]? = some (.cells #[.int .i64 x233000_19, .int .i64 t233, .int .i64 x233002_3, .int .i64 x233003_3, .int .i64 7200] 25 (0, 0))) := ⟨by rw [← hq_]; exact (by (with_reducible repeat (first | refine blk_drewN ?_ _ | refine blk_drew ?_ | refine blk_alloc ?_ _)); exact BK232.out)⟩; have n2_ : Aside0 (Below w.heap.size w wc) := ⟨by rw [← hq_]; exact (by repeat (first | (with_reducible first | exact HB.out | apply below_alloc | apply pw_below_drewN | apply below_drew1 | refine below_set ?_ GE231.out | refine below_set ?_ GE232.out) | exact HB.out))⟩; clear BK231 BK232 HB hq_; have BK231 := n0_; have BK232 := n1_; have HB := n2_; clear n0_ n1_ n2_)); have hnb59 := NB232_231.out; have hnc59 := NB231_232.out; have hcz60_0 : wc.cell? ⟨gb232, 0, none⟩ = some (.int .i64 x233000_19) := (blk_cell BK232.out 0).trans rfl; have hcz60_1 : wc.cell? ⟨gb232, 1, none⟩ = some (.int .i64 t233) := (blk_cell BK232.out 1).trans rfl; have hcz60_2 : wc.cell? ⟨gb232, 2, none⟩ = some (.int .i64 x233002_3) := (blk_cell BK232.out 2).trans rfl; have hcz60_3 : wc.cell? ⟨gb232, 3, none⟩ = some (.int .i64 x233003_3) := (blk_cell BK232.out 3).trans rfl; have hcz60_4 : wc.cell? ⟨gb232, 4, none⟩ = some (.int .i64 7200) := (blk_cell BK232.out 4).trans rfl; have hfz60_0 := blk_frozen BK232.out 0; have hfz60_1 := blk_frozen BK232.out 1; have hfz60_2 := blk_frozen BK232.out 2; have hfz60_3 := blk_frozen BK232.out 3; have hfz60_4 := blk_frozen BK232.out 4; have hcz61_0 : wc.cell? ⟨gb231, 0, none⟩ = some (.int .i64 x232000_3) := (blk_cell BK231.out 0).trans rfl; have hcz61_1 : wc.cell? ⟨gb231, 1, none⟩ = some (.int .i64 x232001_3) := (blk_cell BK231.out 1).trans rfl; have hcz61_2 : wc.cell? ⟨gb231, 2, none⟩ = some (.int .i64 x232002_3) := (blk_cell BK231.out 2).trans rfl; have hcz61_3 : wc.cell? ⟨gb231, 3, none⟩ = some (.int .i64 x232003_3) := (blk_cell BK231.out 3).trans rfl; have hcz61_4 : wc.cell? ⟨gb231, 4, none⟩ = some (.int .i64 x232004_3) := (blk_cell BK231.out 4).trans rfl; have hfz61_0 := blk_frozen BK231.out 0; have hfz61_1 := blk_frozen BK231.out 1; have hfz61_2 := blk_frozen BK231.out 2; have hfz61_3 := blk_frozen BK231.out 3; have hfz61_4 := blk_frozen BK231.out 4) | ((with_reducible refine gate_dst (N := 118) rfl ?_); (try (refine gate_guard (by rfl) ?_; dsimp only)); refine wpList_load_row rfl 25 _ rfl (gb232) rfl 25 #[.int .i64 x233000_19, .int .i64 t233, .int .i64 x233002_3, .int .i64 x233003_3, .int .i64 t237] (0, 0) _ (by (with_reducible repeat (first | refine blk_drewN ?_ _ | refine blk_drew ?_ | refine blk_alloc ?_ _)); refine blk_put (cs := #[.int .i64 x233000_19, .int .i64 t233, .int .i64 x233002_3, .int .i64 x233003_3, .int .i64 7200]) ?_ 4 _ rfl; (with_reducible repeat (first | refine blk_drewN ?_ _ | refine blk_drew ?_ | refine blk_alloc ?_ _)); exact BK232.out) Tryd.underlying25 rfl (by kernel_rfl) ?_))
                                  refine bodyPost_ret (results_ct rfl _ _ gb231 25 #[.int .i64 x233000_19, .int .i64 t233, .int .i64 x233002_3, .int .i64 x233003_3, .int .i64 t237] (0, 0) _ rfl (by (with_reducible repeat (first | refine blk_drewN ?_ _ | refine blk_drew ?_ | refine blk_alloc ?_ _)); refine blk_put (cs := #[.int .i64 x233000_19, .int .i64 t233, .int .i64 x233002_3, .int .i64 x233003_3, .int .i64 x232004_3]) ?_ 4 _ rfl; (with_reducible repeat (first | refine blk_drewN ?_ _ | refine blk_drew ?_ | refine blk_alloc ?_ _)); refine blk_put (cs := #[.int .i64 x233000_19, .int .i64 t233, .int .i64 x233002_3, .int .i64 x232003_3, .int .i64 x232004_3]) ?_ 3 _ rfl; (with_reducible repeat (first | refine blk_drewN ?_ _ | refine blk_drew ?_ | refine blk_alloc ?_ _)); refine blk_put (cs := #[.int .i64 x233000_19, .int .i64 t233, .int .i64 x232002_3, .int .i64 x232003_3, .int .i64 x232004_3]) ?_ 2 _ rfl; (with_reducible repeat (first | refine blk_drewN ?_ _ | refine blk_drew ?_ | refine blk_alloc ?_ _)); refine blk_put (cs := #[.int .i64 x233000_19, .int .i64 x232001_3, .int .i64 x232002_3, .int .i64 x232003_3, .int .i64 x232004_3]) ?_ 1 _ rfl; (with_reducible repeat (first | refine blk_drewN ?_ _ | refine blk_drew ?_ | refine blk_alloc ?_ _)); refine blk_put (cs := #[.int .i64 x232000_3, .int .i64 x232001_3, .int .i64 x232002_3, .int .i64 x232003_3, .int .i64 x232004_3]) ?_ 0 _ rfl; (with_reducible repeat (first | refine blk_drewN ?_ _ | refine blk_drew ?_ | refine blk_alloc ?_ _)); refine blk_far ?_ NB231_232.out _; (with_reducible repeat (first | refine blk_drewN ?_ _ | refine blk_drew ?_ | refine blk_alloc ?_ _)); exact BK231.out) Tryd.underlying25 rfl (by kernel_rfl)) rfl ?_
                                  exact ⟨by first | rfl | (simp [errW_none, errW_some] <;> rfl) | (simp only [← hji16]; first | rfl | (simp [errW_none, errW_some] <;> rfl)) | (simp [*, errW_none, errW_some] <;> rfl), by repeat (first | (with_reducible first | exact HB.out | apply below_alloc | apply pw_below_drewN | apply below_drew1 | refine below_set ?_ GE231.out | refine below_set ?_ GE232.out) | exact HB.out)⟩
                                · rw [if_neg c58] at H
                                  have c58b0 : decide (t238 < 0) = false := decide_eq_false c58
                                  clear c58
                                  replace H := Option.bind_eq_some_iff.mp H
                                  obtain ⟨t239, A620, H⟩ := H
                                  replace H : (if t239 = true then (some (x233000_19, t233, x233002_3, x233003_3, t237, t238)) else (some (x233000_19, t233, x233002_3, x233003_3, t237, (-1)))) = some (r1, r2, r3, r4, r5, r6) := H
                                  have A62 := Aside0.mk A620
                                  clear A620
                                  by_cases c63 : t239 = true
                                  · subst c63
                                    have H1 : (some (x233000_19, t233, x233002_3, x233003_3, t237, t238)) = some (r1, r2, r3, r4, r5, r6) := by rw [if_pos rfl] at H; exact H
                                    clear H
                                    have H := H1
                                    clear H1
                                    simp only [Option.some.injEq, Prod.mk.injEq] at H
                                    obtain ⟨rfl, rfl, rfl, rfl, rfl, rfl⟩ := H
                                    go_wp2_with (first | ((with_reducible refine gate_callee (f := 38) rfl ?_); refine goesL_ (some 106) rfl rfl Tryd.func38 (by kernel_rfl) rfl #[.string a0, .int .i64 (wrap64 (x1_3 + 1)), .bool a2, .bool a2] rfl (by (try simp only [List.map_toArray, List.map_cons, List.map_nil]); first | done | rfl | (simp only [List.length_drop, List.length_take]; rfl)) ?_; (with_reducible refine (longcaseref08_time.calls kj50 a0 (wrap64 (x1_3 + 1)) a2 a2 t237 t238 _ A57.out).mono ?_); rintro e w' ⟨rfl, ⟨nd, rfl⟩⟩; refine ⟨_, rfl, ?_⟩; (try (rw [drewN_self wc]; generalize hq_ : World.drewN wc _ = wc; have n0_ : Aside0 (wc.heap[gb231]? = some (.cells #[.int .i64 x232000_3, .int .i64 x232001_3, .int .i64 x232002_3, .int .i64 x232003_3, .int .i64 x232004_3] 25 (0, 0))) := ⟨by rw [← hq_]; exact (by (with_reducible repeat (first | refine blk_drewN ?_ _ | refine blk_drew ?_ | refine blk_alloc ?_ _)); exact BK231.out)⟩; have n1_ : Aside0 (wc.heap[gb232]? = some (.cells #[.int .i64 x233000_19, .int .i64 t233, .int .i64 x233002_3, .int .i64 x233003_3, .int .i64 7200] 25 (0, 0))) := ⟨by rw [← hq_]; exact (by (with_reducible repeat (first | refine blk_drewN ?_ _ | refine blk_drew ?_ | refine blk_alloc ?_ _)); exact BK232.out)⟩; have n2_ : Aside0 (Below w.heap.size w wc) := ⟨by rw [← hq_]; exact (by repeat (first | (with_reducible first | exact HB.out | apply below_alloc | apply pw_below_drewN | apply below_drew1 | refine below_set ?_ GE231.out | refine below_set ?_ GE232.out) | exact HB.out))⟩; clear BK231 BK232 HB hq_; have BK231 := n0_; have BK232 := n1_; have HB := n2_; clear n0_ n1_ n2_)); have hnb64 := NB232_231.out; have hnc64 := NB231_232.out; have hcz65_0 : wc.cell? ⟨gb232, 0, none⟩ = some (.int .i64 x233000_19) := (blk_cell BK232.out 0).trans rfl; have hcz65_1 : wc.cell? ⟨gb232, 1, none⟩ = some (.int .i64 t233) := (blk_cell BK232.out 1).trans rfl; have hcz65_2 : wc.cell? ⟨gb232, 2, none⟩ = some (.int .i64 x233002_3) := (blk_cell BK232.out 2).trans rfl; have hcz65_3 : wc.cell? ⟨gb232, 3, none⟩ = some (.int .i64 x233003_3) := (blk_cell BK232.out 3).trans rfl; have hcz65_4 : wc.cell? ⟨gb232, 4, none⟩ = some (.int .i64 7200) := (blk_cell BK232.out 4).trans rfl; have hfz65_0 := blk_frozen BK232.out 0; have hfz65_1 := blk_frozen BK232.out 1; have hfz65_2 := blk_frozen BK232.out 2; have hfz65_3 := blk_frozen BK232.out 3; have hfz65_4 := blk_frozen BK232.out 4) | (go_at_call 24; (with_reducible refine (longcaseref08_Change.calls kj50 x233000_19 t233 x233002_3 x233003_3 t237 a2 true _ A62.out).mono ?_); rintro e w66 ⟨rfl, hb⟩; have n0_ := Aside0.mk (blk_below (g := gb231) (o := .cells #[.int .i64 x232000_3, .int .i64 x232001_3, .int .i64 x232002_3, .int .i64 x232003_3, .int .i64 x232004_3] 25 (0, 0)) (by (with_reducible repeat (first | refine blk_drewN ?_ _ | refine blk_drew ?_ | refine blk_alloc ?_ _)); refine blk_far ?_ NB231_232.out _; (with_reducible repeat (first | refine blk_drewN ?_ _ | refine blk_drew ?_ | refine blk_alloc ?_ _)); exact BK231.out) hb); have n1_ := Aside0.mk (blk_below (g := gb232) (o := .cells #[.int .i64 x233000_19, .int .i64 t233, .int .i64 x233002_3, .int .i64 x233003_3, .int .i64 t237] 25 (0, 0)) (by (with_reducible repeat (first | refine blk_drewN ?_ _ | refine blk_drew ?_ | refine blk_alloc ?_ _)); refine blk_put (cs := #[.int .i64 x233000_19, .int .i64 t233, .int .i64 x233002_3, .int .i64 x233003_3, .int .i64 7200]) ?_ 4 _ rfl; (with_reducible repeat (first | refine blk_drewN ?_ _ | refine blk_drew ?_ | refine blk_alloc ?_ _)); exact BK232.out) hb); have n2_ := Aside0.mk (below_step (by repeat (first | (with_reducible first | exact HB.out | apply below_alloc | apply pw_below_drewN | apply below_drew1 | refine below_set ?_ GE231.out | refine below_set ?_ GE232.out) | exact HB.out)) hb); clear BK231; clear BK232; clear HB; have BK231 := n0_; have BK232 := n1_; have HB := n2_; clear n0_ n1_ n2_; (try clear hb); (try clear hb2); (try clear hk); (try clear hi); have hcz67_0 : w66.cell? ⟨gb231, 0, none⟩ = some (.int .i64 x232000_3) := (blk_cell BK231.out 0).trans rfl; have hcz67_1 : w66.cell? ⟨gb231, 1, none⟩ = some (.int .i64 x232001_3) := (blk_cell BK231.out 1).trans rfl; have hcz67_2 : w66.cell? ⟨gb231, 2, none⟩ = some (.int .i64 x232002_3) := (blk_cell BK231.out 2).trans rfl; have hcz67_3 : w66.cell? ⟨gb231, 3, none⟩ = some (.int .i64 x232003_3) := (blk_cell BK231.out 3).trans rfl; have hcz67_4 : w66.cell? ⟨gb231, 4, none⟩ = some (.int .i64 x232004_3) := (blk_cell BK231.out 4).trans rfl; have hfz67_0 := blk_frozen BK231.out 0; have hfz67_1 := blk_frozen BK231.out 1; have hfz67_2 := blk_frozen BK231.out 2; have hfz67_3 := blk_frozen BK231.out 3; have hfz67_4 := blk_frozen BK231.out 4) | ((with_reducible refine gate_dst (N := 119) rfl ?_); (try (refine gate_guard (by rfl) ?_; dsimp only)); refine wpList_load_row rfl 25 _ rfl (gb232) rfl 25 #[.int .i64 x233000_19, .int .i64 t233, .int .i64 x233002_3, .int .i64 x233003_3, .int .i64 t237] (0, 0) _ (by (with_reducible repeat (first | refine blk_drewN ?_ _ | refine blk_drew ?_ | refine blk_alloc ?_ _)); exact BK232.out) Tryd.underlying25 rfl (by kernel_rfl) ?_))
                                    refine bodyPost_ret (results_ct rfl _ _ gb231 25 #[.int .i64 x233000_19, .int .i64 t233, .int .i64 x233002_3, .int .i64 x233003_3, .int .i64 t237] (0, 0) _ rfl (by (with_reducible repeat (first | refine blk_drewN ?_ _ | refine blk_drew ?_ | refine blk_alloc ?_ _)); refine blk_put (cs := #[.int .i64 x233000_19, .int .i64 t233, .int .i64 x233002_3, .int .i64 x233003_3, .int .i64 x232004_3]) ?_ 4 _ rfl; (with_reducible repeat (first | refine blk_drewN ?_ _ | refine blk_drew ?_ | refine blk_alloc ?_ _)); refine blk_put (cs := #[.int .i64 x233000_19, .int .i64 t233, .int .i64 x233002_3, .int .i64 x232003_3, .int .i64 x232004_3]) ?_ 3 _ rfl; (with_reducible repeat (first | refine blk_drewN ?_ _ | refine blk_drew ?_ | refine blk_alloc ?_ _)); refine blk_put (cs := #[.int .i64 x233000_19, .int .i64 t233, .int .i64 x232002_3, .int .i64 x232003_3, .int .i64 x232004_3]) ?_ 2 _ rfl; (with_reducible repeat (first | refine blk_drewN ?_ _ | refine blk_drew ?_ | refine blk_alloc ?_ _)); refine blk_put (cs := #[.int .i64 x233000_19, .int .i64 x232001_3, .int .i64 x232002_3, .int .i64 x232003_3, .int .i64 x232004_3]) ?_ 1 _ rfl; (with_reducible repeat (first | refine blk_drewN ?_ _ | refine blk_drew ?_ | refine blk_alloc ?_ _)); refine blk_put (cs := #[.int .i64 x232000_3, .int .i64 x232001_3, .int .i64 x232002_3, .int .i64 x232003_3, .int .i64 x232004_3]) ?_ 0 _ rfl; (with_reducible repeat (first | refine blk_drewN ?_ _ | refine blk_drew ?_ | refine blk_alloc ?_ _)); exact BK231.out) Tryd.underlying25 rfl (by kernel_rfl)) rfl ?_
                                    exact ⟨by first | rfl | (simp [errW_none, errW_some] <;> rfl) | (simp only [← hji16]; first | rfl | (simp [errW_none, errW_some] <;> rfl)) | (simp [*, errW_none, errW_some] <;> rfl), by repeat (first | (with_reducible first | exact HB.out | apply below_alloc | apply pw_below_drewN | apply below_drew1 | refine below_set ?_ GE231.out | refine below_set ?_ GE232.out) | exact HB.out)⟩
                                  · replace c63 := Bool.eq_false_iff.mpr c63
                                    subst c63
                                    have H1 : (some (x233000_19, t233, x233002_3, x233003_3, t237, (-1))) = some (r1, r2, r3, r4, r5, r6) := by rw [if_neg (show ¬ (false = true) by decide)] at H; exact H
                                    clear H
                                    have H := H1
                                    clear H1
                                    simp only [Option.some.injEq, Prod.mk.injEq] at H
                                    obtain ⟨rfl, rfl, rfl, rfl, rfl, rfl⟩ := H
                                    go_wp2_with (first | ((with_reducible refine gate_callee (f := 38) rfl ?_); refine goesL_ (some 106) rfl rfl Tryd.func38 (by kernel_rfl) rfl #[.string a0, .int .i64 (wrap64 (x1_3 + 1)), .bool a2, .bool a2] rfl (by (try simp only [List.map_toArray, List.map_cons, List.map_nil]); first | done | rfl | (simp only [List.length_drop, List.length_take]; rfl)) ?_; (with_reducible refine (longcaseref08_time.calls kj50 a0 (wrap64 (x1_3 + 1)) a2 a2 t237 t238 _ A57.out).mono ?_); rintro e w' ⟨rfl, ⟨nd, rfl⟩⟩; refine ⟨_, rfl, ?_⟩; (try (rw [drewN_self wc]; generalize hq_ : World.drewN wc _ = wc; have n0_ : Aside0 (wc.heap[gb231]? = some (.cells #[.int .i64 x232000_3, .int .i64 x232001_3, .int .i64 x232002_3, .int .i64 x232003_3, .int .i64 x232004_3] 25 (0, 0))) := ⟨by rw [← hq_]; exact (by (with_reducible repeat (first | refine blk_drewN ?_ _ | refine blk_drew ?_ | refine blk_alloc ?_ _)); exact BK231.out)⟩; have n1_ : Aside0 (wc.heap[gb232]? = some (.cells #[.int .i64 x233000_19, .int .i64 t233, .int .i64 x233002_3, .int .i64 x233003_3, .int .i64 7200] 25 (0, 0))) := ⟨by rw [← hq_]; exact (by (with_reducible repeat (first | refine blk_drewN ?_ _ | refine blk_drew ?_ | refine blk_alloc ?_ _)); exact BK232.out)⟩; have n2_ : Aside0 (Below w.heap.size w wc) := ⟨by rw [← hq_]; exact (by repeat (first | (with_reducible first | exact HB.out | apply below_alloc | apply pw_below_drewN | apply below_drew1 | refine below_set ?_ GE231.out | refine below_set ?_ GE232.out) | exact HB.out))⟩; clear BK231 BK232 HB hq_; have BK231 := n0_; have BK232 := n1_; have HB := n2_; clear n0_ n1_ n2_)); have hnb68 := NB232_231.out; have hnc68 := NB231_232.out; have hcz69_0 : wc.cell? ⟨gb232, 0, none⟩ = some (.int .i64 x233000_19) := (blk_cell BK232.out 0).trans rfl; have hcz69_1 : wc.cell? ⟨gb232, 1, none⟩ = some (.int .i64 t233) := (blk_cell BK232.out 1).trans rfl; have hcz69_2 : wc.cell? ⟨gb232, 2, none⟩ = some (.int .i64 x233002_3) := (blk_cell BK232.out 2).trans rfl; have hcz69_3 : wc.cell? ⟨gb232, 3, none⟩ = some (.int .i64 x233003_3) := (blk_cell BK232.out 3).trans rfl; have hcz69_4 : wc.cell? ⟨gb232, 4, none⟩ = some (.int .i64 7200) := (blk_cell BK232.out 4).trans rfl; have hfz69_0 := blk_frozen BK232.out 0; have hfz69_1 := blk_frozen BK232.out 1; have hfz69_2 := blk_frozen BK232.out 2; have hfz69_3 := blk_frozen BK232.out 3; have hfz69_4 := blk_frozen BK232.out 4) | (go_at_call 24; (with_reducible refine (longcaseref08_Change.calls kj50 x233000_19 t233 x233002_3 x233003_3 t237 a2 false _ A62.out).mono ?_); rintro e w70 ⟨rfl, hb⟩; have n0_ := Aside0.mk (blk_below (g := gb231) (o := .cells #[.int .i64 x232000_3, .int .i64 x232001_3, .int .i64 x232002_3, .int .i64 x232003_3, .int .i64 x232004_3] 25 (0, 0)) (by (with_reducible repeat (first | refine blk_drewN ?_ _ | refine blk_drew ?_ | refine blk_alloc ?_ _)); refine blk_far ?_ NB231_232.out _; (with_reducible repeat (first | refine blk_drewN ?_ _ | refine blk_drew ?_ | refine blk_alloc ?_ _)); exact BK231.out) hb); have n1_ := Aside0.mk (blk_below (g := gb232) (o := .cells #[.int .i64 x233000_19, .int .i64 t233, .int .i64 x233002_3, .int .i64 x233003_3, .int .i64 t237] 25 (0, 0)) (by (with_reducible repeat (first | refine blk_drewN ?_ _ | refine blk_drew ?_ | refine blk_alloc ?_ _)); refine blk_put (cs := #[.int .i64 x233000_19, .int .i64 t233, .int .i64 x233002_3, .int .i64 x233003_3, .int .i64 7200]) ?_ 4 _ rfl; (with_reducible repeat (first | refine blk_drewN ?_ _ | refine blk_drew ?_ | refine blk_alloc ?_ _)); exact BK232.out) hb); have n2_ := Aside0.mk (below_step (by repeat (first | (with_reducible first | exact HB.out | apply below_alloc | apply pw_below_drewN | apply below_drew1 | refine below_set ?_ GE231.out | refine below_set ?_ GE232.out) | exact HB.out)) hb); clear BK231; clear BK232; clear HB; have BK231 := n0_; have BK232 := n1_; have HB := n2_; clear n0_ n1_ n2_; (try clear hb); (try clear hb2); (try clear hk); (try clear hi); have hcz71_0 : w70.cell? ⟨gb231, 0, none⟩ = some (.int .i64 x232000_3) := (blk_cell BK231.out 0).trans rfl; have hcz71_1 : w70.cell? ⟨gb231, 1, none⟩ = some (.int .i64 x232001_3) := (blk_cell BK231.out 1).trans rfl; have hcz71_2 : w70.cell? ⟨gb231, 2, none⟩ = some (.int .i64 x232002_3) := (blk_cell BK231.out 2).trans rfl; have hcz71_3 : w70.cell? ⟨gb231, 3, none⟩ = some (.int .i64 x232003_3) := (blk_cell BK231.out 3).trans rfl; have hcz71_4 : w70.cell? ⟨gb231, 4, none⟩ = some (.int .i64 x232004_3) := (blk_cell BK231.out 4).trans rfl; have hfz71_0 := blk_frozen BK231.out 0; have hfz71_1 := blk_frozen BK231.out 1; have hfz71_2 := blk_frozen BK231.out 2; have hfz71_3 := blk_frozen BK231.out 3; have hfz71_4 := blk_frozen BK231.out 4) | ((with_reducible refine gate_dst (N := 118) rfl ?_); (try (refine gate_guard (by rfl) ?_; dsimp only)); refine wpList_load_row rfl 25 _ rfl (gb232) rfl 25 #[.int .i64 x233000_19, .int .i64 t233, .int .i64 x233002_3, .int .i64 x233003_3, .int .i64 t237] (0, 0) _ (by (with_reducible repeat (first | refine blk_drewN ?_ _ | refine blk_drew ?_ | refine blk_alloc ?_ _)); exact BK232.out) Tryd.underlying25 rfl (by kernel_rfl) ?_))
                                    refine bodyPost_ret (results_ct rfl _ _ gb231 25 #[.int .i64 x233000_19, .int .i64 t233, .int .i64 x233002_3, .int .i64 x233003_3, .int .i64 t237] (0, 0) _ rfl (by (with_reducible repeat (first | refine blk_drewN ?_ _ | refine blk_drew ?_ | refine blk_alloc ?_ _)); refine blk_put (cs := #[.int .i64 x233000_19, .int .i64 t233, .int .i64 x233002_3, .int .i64 x233003_3, .int .i64 x232004_3]) ?_ 4 _ rfl; (with_reducible repeat (first | refine blk_drewN ?_ _ | refine blk_drew ?_ | refine blk_alloc ?_ _)); refine blk_put (cs := #[.int .i64 x233000_19, .int .i64 t233, .int .i64 x233002_3, .int .i64 x232003_3, .int .i64 x232004_3]) ?_ 3 _ rfl; (with_reducible repeat (first | refine blk_drewN ?_ _ | refine blk_drew ?_ | refine blk_alloc ?_ _)); refine blk_put (cs := #[.int .i64 x233000_19, .int .i64 t233, .int .i64 x232002_3, .int .i64 x232003_3, .int .i64 x232004_3]) ?_ 2 _ rfl; (with_reducible repeat (first | refine blk_drewN ?_ _ | refine blk_drew ?_ | refine blk_alloc ?_ _)); refine blk_put (cs := #[.int .i64 x233000_19, .int .i64 x232001_3, .int .i64 x232002_3, .int .i64 x232003_3, .int .i64 x232004_3]) ?_ 1 _ rfl; (with_reducible repeat (first | refine blk_drewN ?_ _ | refine blk_drew ?_ | refine blk_alloc ?_ _)); refine blk_put (cs := #[.int .i64 x232000_3, .int .i64 x232001_3, .int .i64 x232002_3, .int .i64 x232003_3, .int .i64 x232004_3]) ?_ 0 _ rfl; (with_reducible repeat (first | refine blk_drewN ?_ _ | refine blk_drew ?_ | refine blk_alloc ?_ _)); exact BK231.out) Tryd.underlying25 rfl (by kernel_rfl)) rfl ?_
                                    exact ⟨by first | rfl | (simp [errW_none, errW_some] <;> rfl) | (simp only [← hji16]; first | rfl | (simp [errW_none, errW_some] <;> rfl)) | (simp [*, errW_none, errW_some] <;> rfl), by repeat (first | (with_reducible first | exact HB.out | apply below_alloc | apply pw_below_drewN | apply below_drew1 | refine below_set ?_ GE231.out | refine below_set ?_ GE232.out) | exact HB.out)⟩
                              · replace c56 := Bool.eq_false_iff.mpr c56
                                subst c56
                                have H1 : (if x1_3 < 0 then (some (x233000_19, t233, x233002_3, x233003_3, 7200, (-1))) else ((longcaseref08_Change.f kj50 x233000_19 t233 x233002_3 x233003_3 7200 a2).bind fun t240 => (if t240 = true then (some (x233000_19, t233, x233002_3, x233003_3, 7200, x1_3)) else (some (x233000_19, t233, x233002_3, x233003_3, 7200, (-1)))))) = some (r1, r2, r3, r4, r5, r6) := by rw [if_neg (show ¬ (false = true) by decide)] at H; exact H
                                clear H
                                have H := H1
                                clear H1
                                by_cases c72 : x1_3 < 0
                                · rw [if_pos c72] at H
                                  have c72b0 : decide (x1_3 < 0) = true := decide_eq_true c72
                                  clear c72
                                  simp only [Option.some.injEq, Prod.mk.injEq] at H
                                  obtain ⟨rfl, rfl, rfl, rfl, rfl, rfl⟩ := H
                                  have hnb73 := NB231_232.out
                                  have hnc73 := NB232_231.out
                                  have hcz74_0 : wc.cell? ⟨gb231, 0, none⟩ = some (.int .i64 x232000_3) := (blk_cell BK231.out 0).trans rfl
                                  have hcz74_1 : wc.cell? ⟨gb231, 1, none⟩ = some (.int .i64 x232001_3) := (blk_cell BK231.out 1).trans rfl
                                  have hcz74_2 : wc.cell? ⟨gb231, 2, none⟩ = some (.int .i64 x232002_3) := (blk_cell BK231.out 2).trans rfl
                                  have hcz74_3 : wc.cell? ⟨gb231, 3, none⟩ = some (.int .i64 x232003_3) := (blk_cell BK231.out 3).trans rfl
                                  have hcz74_4 : wc.cell? ⟨gb231, 4, none⟩ = some (.int .i64 x232004_3) := (blk_cell BK231.out 4).trans rfl
                                  have hfz74_0 := blk_frozen BK231.out 0
                                  have hfz74_1 := blk_frozen BK231.out 1
                                  have hfz74_2 := blk_frozen BK231.out 2
                                  have hfz74_3 := blk_frozen BK231.out 3
                                  have hfz74_4 := blk_frozen BK231.out 4
                                  go_wp2_with (first | ((with_reducible refine gate_dst (N := 118) rfl ?_); (try (refine gate_guard (by rfl) ?_; dsimp only)); refine wpList_load_row rfl 25 _ rfl (gb232) rfl 25 #[.int .i64 x233000_19, .int .i64 t233, .int .i64 x233002_3, .int .i64 x233003_3, .int .i64 7200] (0, 0) _ (by (with_reducible repeat (first | refine blk_drewN ?_ _ | refine blk_drew ?_ | refine blk_alloc ?_ _)); exact BK232.out) Tryd.underlying25 rfl (by kernel_rfl) ?_))
                                  refine bodyPost_ret (results_ct rfl _ _ gb231 25 #[.int .i64 x233000_19, .int .i64 t233, .int .i64 x233002_3, .int .i64 x233003_3, .int .i64 7200] (0, 0) _ rfl (by (with_reducible repeat (first | refine blk_drewN ?_ _ | refine blk_drew ?_ | refine blk_alloc ?_ _)); refine blk_put (cs := #[.int .i64 x233000_19, .int .i64 t233, .int .i64 x233002_3, .int .i64 x233003_3, .int .i64 x232004_3]) ?_ 4 _ rfl; (with_reducible repeat (first | refine blk_drewN ?_ _ | refine blk_drew ?_ | refine blk_alloc ?_ _)); refine blk_put (cs := #[.int .i64 x233000_19, .int .i64 t233, .int .i64 x233002_3, .int .i64 x232003_3, .int .i64 x232004_3]) ?_ 3 _ rfl; (with_reducible repeat (first | refine blk_drewN ?_ _ | refine blk_drew ?_ | refine blk_alloc ?_ _)); refine blk_put (cs := #[.int .i64 x233000_19, .int .i64 t233, .int .i64 x232002_3, .int .i64 x232003_3, .int .i64 x232004_3]) ?_ 2 _ rfl; (with_reducible repeat (first | refine blk_drewN ?_ _ | refine blk_drew ?_ | refine blk_alloc ?_ _)); refine blk_put (cs := #[.int .i64 x233000_19, .int .i64 x232001_3, .int .i64 x232002_3, .int .i64 x232003_3, .int .i64 x232004_3]) ?_ 1 _ rfl; (with_reducible repeat (first | refine blk_drewN ?_ _ | refine blk_drew ?_ | refine blk_alloc ?_ _)); refine blk_put (cs := #[.int .i64 x232000_3, .int .i64 x232001_3, .int .i64 x232002_3, .int .i64 x232003_3, .int .i64 x232004_3]) ?_ 0 _ rfl; (with_reducible repeat (first | refine blk_drewN ?_ _ | refine blk_drew ?_ | refine blk_alloc ?_ _)); exact BK231.out) Tryd.underlying25 rfl (by kernel_rfl)) rfl ?_
                                  exact ⟨by first | rfl | (simp [errW_none, errW_some] <;> rfl) | (simp only [← hji16]; first | rfl | (simp [errW_none, errW_some] <;> rfl)) | (simp [*, errW_none, errW_some] <;> rfl), by repeat (first | (with_reducible first | exact HB.out | apply below_alloc | apply pw_below_drewN | apply below_drew1 | refine below_set ?_ GE231.out | refine below_set ?_ GE232.out) | exact HB.out)⟩
                                · rw [if_neg c72] at H
                                  have c72b0 : decide (x1_3 < 0) = false := decide_eq_false c72
                                  clear c72
                                  replace H := Option.bind_eq_some_iff.mp H
                                  obtain ⟨t240, A750, H⟩ := H
                                  replace H : (if t240 = true then (some (x233000_19, t233, x233002_3, x233003_3, 7200, x1_3)) else (some (x233000_19, t233, x233002_3, x233003_3, 7200, (-1)))) = some (r1, r2, r3, r4, r5, r6) := H
                                  have A75 := Aside0.mk A750
                                  clear A750
                                  by_cases c76 : t240 = true
                                  · subst c76
                                    have H1 : (some (x233000_19, t233, x233002_3, x233003_3, 7200, x1_3)) = some (r1, r2, r3, r4, r5, r6) := by rw [if_pos rfl] at H; exact H
                                    clear H
                                    have H := H1
                                    clear H1
                                    simp only [Option.some.injEq, Prod.mk.injEq] at H
                                    obtain ⟨rfl, rfl, rfl, rfl, rfl, rfl⟩ := H
                                    have hnb77 := NB232_231.out
                                    have hnc77 := NB231_232.out
                                    have hcz78_0 : wc.cell? ⟨gb232, 0, none⟩ = some (.int .i64 x233000_19) := (blk_cell BK232.out 0).trans rfl
                                    have hcz78_1 : wc.cell? ⟨gb232, 1, none⟩ = some (.int .i64 t233) := (blk_cell BK232.out 1).trans rfl
                                    have hcz78_2 : wc.cell? ⟨gb232, 2, none⟩ = some (.int .i64 x233002_3) := (blk_cell BK232.out 2).trans rfl
                                    have hcz78_3 : wc.cell? ⟨gb232, 3, none⟩ = some (.int .i64 x233003_3) := (blk_cell BK232.out 3).trans rfl
                                    have hcz78_4 : wc.cell? ⟨gb232, 4, none⟩ = some (.int .i64 7200) := (blk_cell BK232.out 4).trans rfl
                                    have hfz78_0 := blk_frozen BK232.out 0
                                    have hfz78_1 := blk_frozen BK232.out 1
                                    have hfz78_2 := blk_frozen BK232.out 2
                                    have hfz78_3 := blk_frozen BK232.out 3
                                    have hfz78_4 := blk_frozen BK232.out 4
                                    go_wp2_with (first | (go_at_call 24; (with_reducible refine (longcaseref08_Change.calls kj50 x233000_19 t233 x233002_3 x233003_3 7200 a2 true _ A75.out).mono ?_); rintro e w79 ⟨rfl, hb⟩; have n0_ := Aside0.mk (blk_below (g := gb231) (o := .cells #[.int .i64 x232000_3, .int .i64 x232001_3, .int .i64 x232002_3, .int .i64 x232003_3, .int .i64 x232004_3] 25 (0, 0)) (by (with_reducible repeat (first | refine blk_drewN ?_ _ | refine blk_drew ?_ | refine blk_alloc ?_ _)); exact BK231.out) hb); have n1_ := Aside0.mk (blk_below (g := gb232) (o := .cells #[.int .i64 x233000_19, .int .i64 t233, .int .i64 x233002_3, .int .i64 x233003_3, .int .i64 7200] 25 (0, 0)) (by (with_reducible repeat (first | refine blk_drewN ?_ _ | refine blk_drew ?_ | refine blk_alloc ?_ _)); exact BK232.out) hb); have n2_ := Aside0.mk (below_step (by repeat (first | (with_reducible first | exact HB.out | apply below_alloc | apply pw_below_drewN | apply below_drew1 | refine below_set ?_ GE231.out | refine below_set ?_ GE232.out) | exact HB.out)) hb); clear BK231; clear BK232; clear HB; have BK231 := n0_; have BK232 := n1_; have HB := n2_; clear n0_ n1_ n2_; (try clear hb); (try clear hb2); (try clear hk); (try clear hi); have hcz80_0 : w79.cell? ⟨gb231, 0, none⟩ = some (.int .i64 x232000_3) := (blk_cell BK231.out 0).trans rfl; have hcz80_1 : w79.cell? ⟨gb231, 1, none⟩ = some (.int .i64 x232001_3) := (blk_cell BK231.out 1).trans rfl; have hcz80_2 : w79.cell? ⟨gb231, 2, none⟩ = some (.int .i64 x232002_3) := (blk_cell BK231.out 2).trans rfl; have hcz80_3 : w79.cell? ⟨gb231, 3, none⟩ = some (.int .i64 x232003_3) := (blk_cell BK231.out 3).trans rfl; have hcz80_4 : w79.cell? ⟨gb231, 4, none⟩ = some (.int .i64 x232004_3) := (blk_cell BK231.out 4).trans rfl; have hfz80_0 := blk_frozen BK231.out 0; have hfz80_1 := blk_frozen BK231.out 1; have hfz80_2 := blk_frozen BK231.out 2; have hfz80_3 := blk_frozen BK231.out 3; have hfz80_4 := blk_frozen BK231.out 4) | ((with_reducible refine gate_dst (N := 119) rfl ?_); (try (refine gate_guard (by rfl) ?_; dsimp only)); refine wpList_load_row rfl 25 _ rfl (gb232) rfl 25 #[.int .i64 x233000_19, .int .i64 t233, .int .i64 x233002_3, .int .i64 x233003_3, .int .i64 7200] (0, 0) _ (by (with_reducible repeat (first | refine blk_drewN ?_ _ | refine blk_drew ?_ | refine blk_alloc ?_ _)); exact BK232.out) Tryd.underlying25 rfl (by kernel_rfl) ?_))
                                    refine bodyPost_ret (results_ct rfl _ _ gb231 25 #[.int .i64 x233000_19, .int .i64 t233, .int .i64 x233002_3, .int .i64 x233003_3, .int .i64 7200] (0, 0) _ rfl (by (with_reducible repeat (first | refine blk_drewN ?_ _ | refine blk_drew ?_ | refine blk_alloc ?_ _)); refine blk_put (cs := #[.int .i64 x233000_19, .int .i64 t233, .int .i64 x233002_3, .int .i64 x233003_3, .int .i64 x232004_3]) ?_ 4 _ rfl; (with_reducible repeat (first | refine blk_drewN ?_ _ | refine blk_drew ?_ | refine blk_alloc ?_ _)); refine blk_put (cs := #[.int .i64 x233000_19, .int .i64 t233, .int .i64 x233002_3, .int .i64 x232003_3, .int .i64 x232004_3]) ?_ 3 _ rfl; (with_reducible repeat (first | refine blk_drewN ?_ _ | refine blk_drew ?_ | refine blk_alloc ?_ _)); refine blk_put (cs := #[.int .i64 x233000_19, .int .i64 t233, .int .i64 x232002_3, .int .i64 x232003_3, .int .i64 x232004_3]) ?_ 2 _ rfl; (with_reducible repeat (first | refine blk_drewN ?_ _ | refine blk_drew ?_ | refine blk_alloc ?_ _)); refine blk_put (cs := #[.int .i64 x233000_19, .int .i64 x232001_3, .int .i64 x232002_3, .int .i64 x232003_3, .int .i64 x232004_3]) ?_ 1 _ rfl; (with_reducible repeat (first | refine blk_drewN ?_ _ | refine blk_drew ?_ | refine blk_alloc ?_ _)); refine blk_put (cs := #[.int .i64 x232000_3, .int .i64 x232001_3, .int .i64 x232002_3, .int .i64 x232003_3, .int .i64 x232004_3]) ?_ 0 _ rfl; (with_reducible repeat (first | refine blk_drewN ?_ _ | refine blk_drew ?_ | refine blk_alloc ?_ _)); exact BK231.out) Tryd.underlying25 rfl (by kernel_rfl)) rfl ?_
                                    exact ⟨by first | rfl | (simp [errW_none, errW_some] <;> rfl) | (simp only [← hji16]; first | rfl | (simp [errW_none, errW_some] <;> rfl)) | (simp [*, errW_none, errW_some] <;> rfl), by repeat (first | (with_reducible first | exact HB.out | apply below_alloc | apply pw_below_drewN | apply below_drew1 | refine below_set ?_ GE231.out | refine below_set ?_ GE232.out) | exact HB.out)⟩
                                  · replace c76 := Bool.eq_false_iff.mpr c76
                                    subst c76
                                    have H1 : (some (x233000_19, t233, x233002_3, x233003_3, 7200, (-1))) = some (r1, r2, r3, r4, r5, r6) := by rw [if_neg (show ¬ (false = true) by decide)] at H; exact H
                                    clear H
                                    have H := H1
                                    clear H1
                                    simp only [Option.some.injEq, Prod.mk.injEq] at H
                                    obtain ⟨rfl, rfl, rfl, rfl, rfl, rfl⟩ := H
                                    have hnb81 := NB232_231.out
                                    have hnc81 := NB231_232.out
                                    have hcz82_0 : wc.cell? ⟨gb232, 0, none⟩ = some (.int .i64 x233000_19) := (blk_cell BK232.out 0).trans rfl
                                    have hcz82_1 : wc.cell? ⟨gb232, 1, none⟩ = some (.int .i64 t233) := (blk_cell BK232.out 1).trans rfl
                                    have hcz82_2 : wc.cell? ⟨gb232, 2, none⟩ = some (.int .i64 x233002_3) := (blk_cell BK232.out 2).trans rfl
                                    have hcz82_3 : wc.cell? ⟨gb232, 3, none⟩ = some (.int .i64 x233003_3) := (blk_cell BK232.out 3).trans rfl
                                    have hcz82_4 : wc.cell? ⟨gb232, 4, none⟩ = some (.int .i64 7200) := (blk_cell BK232.out 4).trans rfl
                                    have hfz82_0 := blk_frozen BK232.out 0
                                    have hfz82_1 := blk_frozen BK232.out 1
                                    have hfz82_2 := blk_frozen BK232.out 2
                                    have hfz82_3 := blk_frozen BK232.out 3
                                    have hfz82_4 := blk_frozen BK232.out 4
                                    go_wp2_with (first | (go_at_call 24; (with_reducible refine (longcaseref08_Change.calls kj50 x233000_19 t233 x233002_3 x233003_3 7200 a2 false _ A75.out).mono ?_); rintro e w83 ⟨rfl, hb⟩; have n0_ := Aside0.mk (blk_below (g := gb231) (o := .cells #[.int .i64 x232000_3, .int .i64 x232001_3, .int .i64 x232002_3, .int .i64 x232003_3, .int .i64 x232004_3] 25 (0, 0)) (by (with_reducible repeat (first | refine blk_drewN ?_ _ | refine blk_drew ?_ | refine blk_alloc ?_ _)); exact BK231.out) hb); have n1_ := Aside0.mk (blk_below (g := gb232) (o := .cells #[.int .i64 x233000_19, .int .i64 t233, .int .i64 x233002_3, .int .i64 x233003_3, .int .i64 7200] 25 (0, 0)) (by (with_reducible repeat (first | refine blk_drewN ?_ _ | refine blk_drew ?_ | refine blk_alloc ?_ _)); exact BK232.out) hb); have n2_ := Aside0.mk (below_step (by repeat (first | (with_reducible first | exact HB.out | apply below_alloc | apply pw_below_drewN | apply below_drew1 | refine below_set ?_ GE231.out | refine below_set ?_ GE232.out) | exact HB.out)) hb); clear BK231; clear BK232; clear HB; have BK231 := n0_; have BK232 := n1_; have HB := n2_; clear n0_ n1_ n2_; (try clear hb); (try clear hb2); (try clear hk); (try clear hi); have hcz84_0 : w83.cell? ⟨gb231, 0, none⟩ = some (.int .i64 x232000_3) := (blk_cell BK231.out 0).trans rfl; have hcz84_1 : w83.cell? ⟨gb231, 1, none⟩ = some (.int .i64 x232001_3) := (blk_cell BK231.out 1).trans rfl; have hcz84_2 : w83.cell? ⟨gb231, 2, none⟩ = some (.int .i64 x232002_3) := (blk_cell BK231.out 2).trans rfl; have hcz84_3 : w83.cell? ⟨gb231, 3, none⟩ = some (.int .i64 x232003_3) := (blk_cell BK231.out 3).trans rfl; have hcz84_4 : w83.cell? ⟨gb231, 4, none⟩ = some (.int .i64 x232004_3) := (blk_cell BK231.out 4).trans rfl; have hfz84_0 := blk_frozen BK231.out 0; have hfz84_1 := blk_frozen BK231.out 1; have hfz84_2 := blk_frozen BK231.out 2; have hfz84_3 := blk_frozen BK231.out 3; have hfz84_4 := blk_frozen BK231.out 4) | ((with_reducible refine gate_dst (N := 118) rfl ?_); (try (refine gate_guard (by rfl) ?_; dsimp only)); refine wpList_load_row rfl 25 _ rfl (gb232) rfl 25 #[.int .i64 x233000_19, .int .i64 t233, .int .i64 x233002_3, .int .i64 x233003_3, .int .i64 7200] (0, 0) _ (by (with_reducible repeat (first | refine blk_drewN ?_ _ | refine blk_drew ?_ | refine blk_alloc ?_ _)); exact BK232.out) Tryd.underlying25 rfl (by kernel_rfl) ?_))
                                    refine bodyPost_ret (results_ct rfl _ _ gb231 25 #[.int .i64 x233000_19, .int .i64 t233, .int .i64 x233002_3, .int .i64 x233003_3, .int .i64 7200] (0, 0) _ rfl (by (with_reducible repeat (first | refine blk_drewN ?_ _ | refine blk_drew ?_ | refine blk_alloc ?_ _)); refine blk_put (cs := #[.int .i64 x233000_19, .int .i64 t233, .int .i64 x233002_3, .int .i64 x233003_3, .int .i64 x232004_3]) ?_ 4 _ rfl; (with_reducible repeat (first | refine blk_drewN ?_ _ | refine blk_drew ?_ | refine blk_alloc ?_ _)); refine blk_put (cs := #[.int .i64 x233000_19, .int .i64 t233, .int .i64 x233002_3, .int .i64 x232003_3, .int .i64 x232004_3]) ?_ 3 _ rfl; (with_reducible repeat (first | refine blk_drewN ?_ _ | refine blk_drew ?_ | refine blk_alloc ?_ _)); refine blk_put (cs := #[.int .i64 x233000_19, .int .i64 t233, .int .i64 x232002_3, .int .i64 x232003_3, .int .i64 x232004_3]) ?_ 2 _ rfl; (with_reducible repeat (first | refine blk_drewN ?_ _ | refine blk_drew ?_ | refine blk_alloc ?_ _)); refine blk_put (cs := #[.int .i64 x233000_19, .int .i64 x232001_3, .int .i64 x232002_3, .int .i64 x232003_3, .int .i64 x232004_3]) ?_ 1 _ rfl; (with_reducible repeat (first | refine blk_drewN ?_ _ | refine blk_drew ?_ | refine blk_alloc ?_ _)); refine blk_put (cs := #[.int .i64 x232000_3, .int .i64 x232001_3, .int .i64 x232002_3, .int .i64 x232003_3, .int .i64 x232004_3]) ?_ 0 _ rfl; (with_reducible repeat (first | refine blk_drewN ?_ _ | refine blk_drew ?_ | refine blk_alloc ?_ _)); exact BK231.out) Tryd.underlying25 rfl (by kernel_rfl)) rfl ?_
                                    exact ⟨by first | rfl | (simp [errW_none, errW_some] <;> rfl) | (simp only [← hji16]; first | rfl | (simp [errW_none, errW_some] <;> rfl)) | (simp [*, errW_none, errW_some] <;> rfl), by repeat (first | (with_reducible first | exact HB.out | apply below_alloc | apply pw_below_drewN | apply below_drew1 | refine below_set ?_ GE231.out | refine below_set ?_ GE232.out) | exact HB.out)⟩
          · rw [if_neg c18] at H
            exact absurd H (by simp)
        · rw [if_neg c17] at H
          exact absurd H (by simp)
end Go.Proofs.YtnbjneknicppcaaDoor.Fn
